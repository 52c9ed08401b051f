/- The contract of the statements' own line: which line an act is, by the document. -/
import Derived.Test.YtipbakdodbmfjaaGreatDoorAns23
import Derived.Test.YtipbakdodbmfjaaGreatDoorLhex
import Derived.Deep.CutBlock
import Derived.Deep.DeepCutAuto
import Derived.Says
import Derived.Deep.RegionHeld3
namespace Go.Proofs.YtipbakdodbmfjaaGreatDoor
open Go.ChangeShapes Go.WideShapes Go.ChangeAt Go.RowKit

theorem lineL_chk {x : ActP} {f : Form} (hf : f ∈ formsP) (hk : f.2.1 = x.kind) (hok : f.2.2.all (fun g => okP g x) = true) (z : ActP) (hz : onlyP f x = z) {nl znl dl zdl : Nat} (hn : x.name.length = nl) (hd : x.data.length = dl)
    (hzn : (z.name = x.name ∧ znl = nl) ∨ (z.name = [] ∧ znl = 0)) (hzd : (z.data = x.data ∧ zdl = dl) ∨ (z.data = [] ∧ zdl = 0)) (T : List UInt8) (hT : T = textOf f x) :
    lineL x = if z.a = x.a ∧ z.b = x.b ∧ z.n = x.n ∧ znl = nl ∧ z.mask = x.mask ∧ z.torn = x.torn ∧ zdl = dl then some T else none := by
  have hform : formOf x = some f := by unfold formOf; rw [← hk]; exact (forms_kinds f hf).1
  have hzk : z.kind = x.kind := by rw [← hz, onlyP, fold_kind]; exact hk
  unfold lineL
  rw [hform]
  simp only [hok, hz, Bool.true_and, ← hT]
  by_cases hc : z.a = x.a ∧ z.b = x.b ∧ z.n = x.n ∧ znl = nl ∧ z.mask = x.mask ∧ z.torn = x.torn ∧ zdl = dl
  · rw [if_pos hc]
    have : sameP x z = true := by
      rw [sameP_eq]
      obtain ⟨h1, h2, h3, h4, h5, h6, h7⟩ := hc
      have h8 : z.name = x.name := by
        rcases hzn with h | h
        · exact h.1
        · rw [h.1]; exact (List.eq_nil_of_length_eq_zero (by rw [hn, ← h4, h.2])).symm
      have h9 : z.data = x.data := by
        rcases hzd with h | h
        · exact h.1
        · rw [h.1]; exact (List.eq_nil_of_length_eq_zero (by rw [hd, ← h7, h.2])).symm
      cases x; cases z
      simp only at *
      simp only [ActP.mk.injEq]
      exact ⟨hzk.symm, h1.symm, h2.symm, h3.symm, h8.symm, h5.symm, h6.symm, h9.symm⟩
    rw [if_pos this]
  · rw [if_neg hc]
    have : sameP x z = false := by
      apply sameP_ne
      intro e
      apply hc
      rw [← e] at hzn hzd ⊢
      refine ⟨rfl, rfl, rfl, ?_, rfl, rfl, ?_⟩
      · rcases hzn with h | h
        · exact h.2
        · rw [h.2, ← hn, h.1]; rfl
      · rcases hzd with h | h
        · exact h.2
        · rw [h.2, ← hd, h.1]; rfl
    rw [this]; rfl
theorem lineL_bad {x : ActP} {f : Form} (hf : f ∈ formsP) (hk : f.2.1 = x.kind) (hok : f.2.2.all (fun g => okP g x) = false) : lineL x = none := by
  have hform : formOf x = some f := by unfold formOf; rw [← hk]; exact (forms_kinds f hf).1
  unfold lineL
  rw [hform]
  simp only [hok, Bool.false_and]
  rfl
theorem lineL_none {x : ActP} (h : ∀ f ∈ formsP, f.2.1 ≠ x.kind) : lineL x = none := by
  unfold lineL
  cases hf : formOf x with
  | none => rfl
  | some f => exact absurd (formOf_mem hf).2 (h f (formOf_mem hf).1)
abbrev LineCut (w : World) (x : ActP) (nao : Option Addr) (nl nc : Nat) (dao : Option Addr) (dl dc : Nat) (wx : World) (z : ActP) (zn : Option Addr) (znl znc : Nat) (zd : Option Addr) (zdl zdc : Nat) (T : ByteArray) : Prop :=
  Below w.heap.size w wx ∧ Blk wx w.heap.size (actCells x nao nl nc dao dl dc) 60 ∧ Blk wx (w.heap.size + 1) (actCells z zn znl znc zd zdl zdc) 60 ∧
    lineL x = if z.a = x.a ∧ z.b = x.b ∧ z.n = x.n ∧ znl = nl ∧ z.mask = x.mask ∧ z.torn = x.torn ∧ zdl = dl then some T.data.toList else none
theorem linecut_on {w : World} {x : ActP} {nao : Option Addr} {nl nc : Nat} {dao : Option Addr} {dl dc : Nat} {wx wy : World} {z : ActP} {zn : Option Addr} {znl znc : Nat} {zd : Option Addr} {zdl zdc : Nat} {T : ByteArray}
    (h1 : Below w.heap.size w wx) (h2 : Blk wx w.heap.size (actCells x nao nl nc dao dl dc) 60) (h3 : Blk wx (w.heap.size + 1) (actCells z zn znl znc zd zdl zdc) 60) (hb : Below wx.heap.size wx wy)
    (h : lineL x = if z.a = x.a ∧ z.b = x.b ∧ z.n = x.n ∧ znl = nl ∧ z.mask = x.mask ∧ z.torn = x.torn ∧ zdl = dl then some T.data.toList else none) : LineCut w x nao nl nc dao dl dc wy z zn znl znc zd zdl zdc T :=
  ⟨below_on h1 hb (Nat.le_refl _), h2.on hb, h3.on hb, h⟩
set_option maxHeartbeats 16000000 in
set_option maxRecDepth 100000 in
theorem lline_any (w : World) (x : ActP) (nao : Option Addr) (nl nc : Nat) (dao : Option Addr) (dl dc : Nat) (hnx : Strs w nao nl nc x.name) (hdx : Byts w dao dl dc x.data) (hfx : x.fits) (hsz : 4 * sizeN x.name ≤ 1000000000) (hdl : dl ≤ 1000000000) :
    Calls Tryz.prog 35 #[.agg (actCells x nao nl nc dao dl dc)] w (LineRes w (lineL x)) := by
  obtain ⟨⟨ha1, ha2⟩, ⟨hb1', hb2'⟩, ⟨hn1, hn2⟩, hm, ht⟩ := hfx
  obtain ⟨DA, hDA⟩ : ∃ z : ByteArray, z = ⟨(Lib.itoa x.a).toArray⟩ := ⟨_, rfl⟩
  obtain ⟨DB, hDB⟩ : ∃ z : ByteArray, z = ⟨(Lib.itoa x.b).toArray⟩ := ⟨_, rfl⟩
  obtain ⟨DN, hDN⟩ : ∃ z : ByteArray, z = ⟨(Lib.itoa x.n).toArray⟩ := ⟨_, rfl⟩
  obtain ⟨DM, hDM⟩ : ∃ z : ByteArray, z = ⟨(Lib.decDigits x.mask).toArray⟩ := ⟨_, rfl⟩
  obtain ⟨DU, hDU⟩ : ∃ z : ByteArray, z = ⟨(Lib.decDigits x.torn).toArray⟩ := ⟨_, rfl⟩
  obtain ⟨DT, hDT⟩ : ∃ z : ByteArray, z = ⟨(textT x.name).toArray⟩ := ⟨_, rfl⟩
  obtain ⟨DX, hDX⟩ : ∃ z : ByteArray, z = ⟨(hexP x.data).toArray⟩ := ⟨_, rfl⟩
  have hdl0 : x.data.length = dl := by simpa using hdx.hlen
  have sA : DA.size ≤ 21 := by rw [hDA]; simp [ByteArray.size]; exact Lib.itoa_length_le x.a ha1 ha2
  have sB : DB.size ≤ 21 := by rw [hDB]; simp [ByteArray.size]; exact Lib.itoa_length_le x.b hb1' hb2'
  have sN : DN.size ≤ 21 := by rw [hDN]; simp [ByteArray.size]; exact Lib.itoa_length_le x.n hn1 hn2
  have sM : DM.size ≤ 20 := by rw [hDM]; simp [ByteArray.size]; exact dec_le20 x.mask hm
  have sU : DU.size ≤ 20 := by rw [hDU]; simp [ByteArray.size]; exact dec_le20 x.torn ht
  have sT : DT.size ≤ 1000000001 := by rw [hDT]; simp [ByteArray.size]; have := textT_len x.name; omega
  have sX : DX.size ≤ 2000000001 := by rw [hDX]; simp [ByteArray.size]; have := hexB_len x.data; rw [hexP, List.length_cons]; omega
  have hca : ∀ w' : World, Calls Tryz.prog 17 #[.int .i64 x.a] w' fun e w'' => e = .returned (.string DA) ∧ Below w'.heap.size w' w'' := fun w' => by rw [hDA]; exact dec_any w' x.a ha1 ha2
  have hcb : ∀ w' : World, Calls Tryz.prog 17 #[.int .i64 x.b] w' fun e w'' => e = .returned (.string DB) ∧ Below w'.heap.size w' w'' := fun w' => by rw [hDB]; exact dec_any w' x.b hb1' hb2'
  have hcn : ∀ w' : World, Calls Tryz.prog 17 #[.int .i64 x.n] w' fun e w'' => e = .returned (.string DN) ∧ Below w'.heap.size w' w'' := fun w' => by rw [hDN]; exact dec_any w' x.n hn1 hn2
  have hcm : ∀ w' : World, Calls Tryz.prog 75 #[.int .u64 (x.mask : Int)] w' fun e w'' => e = .returned (.string DM) ∧ Below w'.heap.size w' w'' := fun w' => by rw [hDM]; exact udec2_any w' x.mask hm
  have hcu : ∀ w' : World, Calls Tryz.prog 75 #[.int .u64 (x.torn : Int)] w' fun e w'' => e = .returned (.string DU) ∧ Below w'.heap.size w' w'' := fun w' => by rw [hDU]; exact udec2_any w' x.torn ht
  have hct : ∀ w' : World, Below w.heap.size w w' → Calls Tryz.prog 74 #[.slice nao nl nc] w' fun e w'' => e = .returned (.string DT) ∧ Below w'.heap.size w' w'' := fun w' h => by rw [hDT]; exact rtext_any w' nao nl nc x.name (hnx.below h (Nat.le_refl _)) (by omega)
  have hcs : ∀ w' : World, Below w.heap.size w w' → Calls Tryz.prog 23 #[.slice nao nl nc] w' fun e w'' => e = .returned (.bool (soundB x.name)) ∧ w' = w'' := fun w' h => rsound_any w' nao nl nc x.name (hnx.below h (Nat.le_refl _))
  have hcx : ∀ w' : World, Below w.heap.size w w' → Calls Tryz.prog 73 #[.slice dao dl dc] w' fun e w'' => e = .returned (.string DX) ∧ Below w'.heap.size w' w'' := fun w' h => by rw [hDX]; exact lhex_any w' dao dl dc x.data (hdx.below h (Nat.le_refl _)) (by omega)
  have HCA := Lib.hid hca
  have HCB := Lib.hid hcb
  have HCN := Lib.hid hcn
  have HCM := Lib.hid hcm
  have HCU := Lib.hid hcu
  have HCT := Lib.hid hct
  have HCS := Lib.hid hcs
  have HCX := Lib.hid hcx
  have HDA := Lib.hid hDA
  have HDB := Lib.hid hDB
  have HDN := Lib.hid hDN
  have HDM := Lib.hid hDM
  have HDU := Lib.hid hDU
  have HDT := Lib.hid hDT
  have HDX := Lib.hid hDX
  obtain ⟨W1, hW1⟩ : ∃ z, z = w.alloc (.cells (actCells x nao nl nc dao dl dc) 60) := ⟨_, rfl⟩
  obtain ⟨W2, hW2⟩ : ∃ z, z = W1.alloc (.cells (actCells (ActP.zero x.kind) none 0 0 none 0 0) 60) := ⟨_, rfl⟩
  have hs1 : W1.heap.size = w.heap.size + 1 := by rw [hW1, World.size_alloc]
  have hb1 : Below w.heap.size w W1 := by rw [hW1]; exact (Below.refl _ _).alloc (Nat.le_refl _) _
  have hb12 : Below W1.heap.size W1 W2 := by rw [hW2]; exact (Below.refl _ _).alloc (Nat.le_refl _) _
  have HB2 := Lib.hid (below_on hb1 hb12 (Nat.le_refl _))
  have hA : Blk W2 w.heap.size (actCells x nao nl nc dao dl dc) 60 := by
    refine Blk.on ?_ hb12
    rw [hW1]; exact heap_alloc_new w _
  have hZ : Blk W2 (w.heap.size + 1) (actCells (ActP.zero x.kind) none 0 0 none 0 0) 60 := by
    rw [hW2, ← hs1]; exact heap_alloc_new W1 _
  have HA := Lib.hid hA
  have HZ := Lib.hid hZ
  have HXL := Lib.hid (show x.name.length = nl from hnx.len)
  have HDL := Lib.hid hdl0
  have hnle := hnx.row.hle
  have hncap := hnx.row.hcap
  have hnmax := hnx.row.hmax
  have hdle := hdx.hle
  have hdcap := hdx.hcap
  clear hb1 hb12 hs1 hA hZ hnx hdx hsz ha1 ha2 hb1' hb2' hn1 hn2 hm ht hDA hDB hDN hDM hDU hDT hDX hca hcb hcn hcm hcu hct hcs hcx hdl0
  rw [hW1] at hW2
  replace hW2 : W2 = (w.alloc (.cells #[.int .i64 x.kind, .int .i64 x.a, .int .i64 x.b, .int .i64 x.n, .slice nao nl nc, .int .u64 (x.mask : Int), .int .u64 (x.torn : Int), .slice dao dl dc] 60)).alloc (.cells #[.int .i64 x.kind, .int .i64 0, .int .i64 0, .int .i64 0, .slice none 0 0, .int .u64 0, .int .u64 0, .slice none 0 0] 60) := hW2
  clear hW1 W1
  go_enter Tryz.func35, Tryz.ntmps35
  simp only [actCells]
  go_upto_block 0 with fail
  rw [← hW2]
  go_cut [5] (fun sv wx => ∃ (T : ByteArray) (z : ActP) (zn : Option Addr) (znl znc : Nat) (zd : Option Addr) (zdl zdc : Nat), sv = .string T ∧ Hid (LineCut w x nao nl nc dao dl dc wx z zn znl znc zd zdl zdc T))
  case first =>
    clear hW2
    have a0 := HA.out.cell 0
    have z0 := HZ.out.cell 0
    have a1 := HA.out.cell 1
    have z1 := HZ.out.cell 1
    have a2 := HA.out.cell 2
    have z2 := HZ.out.cell 2
    have a3 := HA.out.cell 3
    have z3 := HZ.out.cell 3
    have a4 := HA.out.cell 4
    have z4 := HZ.out.cell 4
    have a5 := HA.out.cell 5
    have z5 := HZ.out.cell 5
    have a6 := HA.out.cell 6
    have z6 := HZ.out.cell 6
    have a7 := HA.out.cell 7
    have z7 := HZ.out.cell 7
    simp [actCells, ActP.zero] at a0 z0 a1 z1 a2 z2 a3 z3 a4 z4 a5 z5 a6 z6 a7 z7
    have f0 := HZ.out.free 0
    have f1 := HZ.out.free 1
    have f2 := HZ.out.free 2
    have f3 := HZ.out.free 3
    have f4 := HZ.out.free 4
    have f5 := HZ.out.free 5
    have f6 := HZ.out.free 6
    have f7 := HZ.out.free 7
    by_cases hk1 : x.kind = 1
    · as_aux_lemma =>
        have q1 : (x.kind == 1) = true := by rw [hk1]; rfl
        have HK := Lib.hid hk1
        clear hk1
        go_upto_region 6 with fail
        go_cut [] (fun wx => Hid (Below w.heap.size w wx ∧ Blk wx w.heap.size (actCells x nao nl nc dao dl dc) 60 ∧ Blk wx (w.heap.size + 1) (actCells ⟨x.kind, x.a, x.b, 0, [], 0, 0, x.data⟩ none 0 0 dao dl dc) 60))
        case first =>
          go_region
          all_goals (go_wp2_with fail; go_meet)
          all_goals first
            | (have hbt : W2.grownBy (((W2.setCell ⟨w.heap.size + 1, 1, none⟩ (.int .i64 x.a)).setCell ⟨w.heap.size + 1, 2, none⟩ (.int .i64 x.b)).setCell ⟨w.heap.size + 1, 7, none⟩ (.slice dao dl dc)) (some (w.heap.size + 1)) := (but_trans (but_trans (but_set _ _ _ _) (but_set _ _ _ _)) (but_set _ _ _ _)); have h2 : Blk (((W2.setCell ⟨w.heap.size + 1, 1, none⟩ (.int .i64 x.a)).setCell ⟨w.heap.size + 1, 2, none⟩ (.int .i64 x.b)).setCell ⟨w.heap.size + 1, 7, none⟩ (.slice dao dl dc)) (w.heap.size + 1) (actCells ⟨x.kind, x.a, x.b, 0, [], 0, 0, x.data⟩ none 0 0 dao dl dc) 60 := (by have h := (((HZ.out.set 1 (.int .i64 x.a)).set 2 (.int .i64 x.b)).set 7 (.slice dao dl dc)); simpa [actCells, ActP.zero] using h); have hA2 := HA.out.but hbt (by omega : w.heap.size ≠ w.heap.size + 1); have hb9 := HB2.out.trans (below_of_but hbt (by omega) HB2.out.size); exact ⟨⟨hb9.os, hb9.tape, hb9.output, hb9.size, hb9.block⟩, hA2, h2⟩)
            | (have hbt : W2.grownBy (((W2.setCell ⟨w.heap.size + 1, 1, none⟩ (.int .i64 x.a)).setCell ⟨w.heap.size + 1, 7, none⟩ (.slice dao dl dc)).setCell ⟨w.heap.size + 1, 2, none⟩ (.int .i64 x.b)) (some (w.heap.size + 1)) := (but_trans (but_trans (but_set _ _ _ _) (but_set _ _ _ _)) (but_set _ _ _ _)); have h2 : Blk (((W2.setCell ⟨w.heap.size + 1, 1, none⟩ (.int .i64 x.a)).setCell ⟨w.heap.size + 1, 7, none⟩ (.slice dao dl dc)).setCell ⟨w.heap.size + 1, 2, none⟩ (.int .i64 x.b)) (w.heap.size + 1) (actCells ⟨x.kind, x.a, x.b, 0, [], 0, 0, x.data⟩ none 0 0 dao dl dc) 60 := (by have h := (((HZ.out.set 1 (.int .i64 x.a)).set 7 (.slice dao dl dc)).set 2 (.int .i64 x.b)); simpa [actCells, ActP.zero] using h); have hA2 := HA.out.but hbt (by omega : w.heap.size ≠ w.heap.size + 1); have hb9 := HB2.out.trans (below_of_but hbt (by omega) HB2.out.size); exact ⟨⟨hb9.os, hb9.tape, hb9.output, hb9.size, hb9.block⟩, hA2, h2⟩)
            | (have hbt : W2.grownBy (((W2.setCell ⟨w.heap.size + 1, 2, none⟩ (.int .i64 x.b)).setCell ⟨w.heap.size + 1, 1, none⟩ (.int .i64 x.a)).setCell ⟨w.heap.size + 1, 7, none⟩ (.slice dao dl dc)) (some (w.heap.size + 1)) := (but_trans (but_trans (but_set _ _ _ _) (but_set _ _ _ _)) (but_set _ _ _ _)); have h2 : Blk (((W2.setCell ⟨w.heap.size + 1, 2, none⟩ (.int .i64 x.b)).setCell ⟨w.heap.size + 1, 1, none⟩ (.int .i64 x.a)).setCell ⟨w.heap.size + 1, 7, none⟩ (.slice dao dl dc)) (w.heap.size + 1) (actCells ⟨x.kind, x.a, x.b, 0, [], 0, 0, x.data⟩ none 0 0 dao dl dc) 60 := (by have h := (((HZ.out.set 2 (.int .i64 x.b)).set 1 (.int .i64 x.a)).set 7 (.slice dao dl dc)); simpa [actCells, ActP.zero] using h); have hA2 := HA.out.but hbt (by omega : w.heap.size ≠ w.heap.size + 1); have hb9 := HB2.out.trans (below_of_but hbt (by omega) HB2.out.size); exact ⟨⟨hb9.os, hb9.tape, hb9.output, hb9.size, hb9.block⟩, hA2, h2⟩)
            | (have hbt : W2.grownBy (((W2.setCell ⟨w.heap.size + 1, 2, none⟩ (.int .i64 x.b)).setCell ⟨w.heap.size + 1, 7, none⟩ (.slice dao dl dc)).setCell ⟨w.heap.size + 1, 1, none⟩ (.int .i64 x.a)) (some (w.heap.size + 1)) := (but_trans (but_trans (but_set _ _ _ _) (but_set _ _ _ _)) (but_set _ _ _ _)); have h2 : Blk (((W2.setCell ⟨w.heap.size + 1, 2, none⟩ (.int .i64 x.b)).setCell ⟨w.heap.size + 1, 7, none⟩ (.slice dao dl dc)).setCell ⟨w.heap.size + 1, 1, none⟩ (.int .i64 x.a)) (w.heap.size + 1) (actCells ⟨x.kind, x.a, x.b, 0, [], 0, 0, x.data⟩ none 0 0 dao dl dc) 60 := (by have h := (((HZ.out.set 2 (.int .i64 x.b)).set 7 (.slice dao dl dc)).set 1 (.int .i64 x.a)); simpa [actCells, ActP.zero] using h); have hA2 := HA.out.but hbt (by omega : w.heap.size ≠ w.heap.size + 1); have hb9 := HB2.out.trans (below_of_but hbt (by omega) HB2.out.size); exact ⟨⟨hb9.os, hb9.tape, hb9.output, hb9.size, hb9.block⟩, hA2, h2⟩)
            | (have hbt : W2.grownBy (((W2.setCell ⟨w.heap.size + 1, 7, none⟩ (.slice dao dl dc)).setCell ⟨w.heap.size + 1, 1, none⟩ (.int .i64 x.a)).setCell ⟨w.heap.size + 1, 2, none⟩ (.int .i64 x.b)) (some (w.heap.size + 1)) := (but_trans (but_trans (but_set _ _ _ _) (but_set _ _ _ _)) (but_set _ _ _ _)); have h2 : Blk (((W2.setCell ⟨w.heap.size + 1, 7, none⟩ (.slice dao dl dc)).setCell ⟨w.heap.size + 1, 1, none⟩ (.int .i64 x.a)).setCell ⟨w.heap.size + 1, 2, none⟩ (.int .i64 x.b)) (w.heap.size + 1) (actCells ⟨x.kind, x.a, x.b, 0, [], 0, 0, x.data⟩ none 0 0 dao dl dc) 60 := (by have h := (((HZ.out.set 7 (.slice dao dl dc)).set 1 (.int .i64 x.a)).set 2 (.int .i64 x.b)); simpa [actCells, ActP.zero] using h); have hA2 := HA.out.but hbt (by omega : w.heap.size ≠ w.heap.size + 1); have hb9 := HB2.out.trans (below_of_but hbt (by omega) HB2.out.size); exact ⟨⟨hb9.os, hb9.tape, hb9.output, hb9.size, hb9.block⟩, hA2, h2⟩)
            | (have hbt : W2.grownBy (((W2.setCell ⟨w.heap.size + 1, 7, none⟩ (.slice dao dl dc)).setCell ⟨w.heap.size + 1, 2, none⟩ (.int .i64 x.b)).setCell ⟨w.heap.size + 1, 1, none⟩ (.int .i64 x.a)) (some (w.heap.size + 1)) := (but_trans (but_trans (but_set _ _ _ _) (but_set _ _ _ _)) (but_set _ _ _ _)); have h2 : Blk (((W2.setCell ⟨w.heap.size + 1, 7, none⟩ (.slice dao dl dc)).setCell ⟨w.heap.size + 1, 2, none⟩ (.int .i64 x.b)).setCell ⟨w.heap.size + 1, 1, none⟩ (.int .i64 x.a)) (w.heap.size + 1) (actCells ⟨x.kind, x.a, x.b, 0, [], 0, 0, x.data⟩ none 0 0 dao dl dc) 60 := (by have h := (((HZ.out.set 7 (.slice dao dl dc)).set 2 (.int .i64 x.b)).set 1 (.int .i64 x.a)); simpa [actCells, ActP.zero] using h); have hA2 := HA.out.but hbt (by omega : w.heap.size ≠ w.heap.size + 1); have hb9 := HB2.out.trans (below_of_but hbt (by omega) HB2.out.size); exact ⟨⟨hb9.os, hb9.tape, hb9.output, hb9.size, hb9.block⟩, hA2, h2⟩)
        case rest =>
          clear a0 z0 f0 a1 z1 f1 a2 z2 f2 a3 z3 f3 a4 z4 f4 a5 z5 f5 a6 z6 f6 a7 z7 f7
          have c1 := hcut.out.2.1.cell 1
          have c2 := hcut.out.2.1.cell 2
          have c7 := hcut.out.2.1.cell 7
          simp [actCells] at c1 c2 c7
          have hb0 : Below wc.heap.size wc wc.drew := Below.drew (Below.refl _ _)
          have hb00 := hcut.out.1
          have hbw : Below w.heap.size w wc.drew := hb00.drew
          clear hb00
          go_upto_region 7 with fail
          refine wp_region_held_drew (S := fun w' => Below wc.heap.size wc w' ∧ Below w.heap.size w w' ∧ w'.cell? ⟨w.heap.size, 1, none⟩ = some (.int .i64 x.a) ∧ w'.cell? ⟨w.heap.size, 2, none⟩ = some (.int .i64 x.b) ∧ w'.cell? ⟨w.heap.size, 7, none⟩ = some (.slice dao dl dc)) (by kernel_rfl) ?_ (fun hHeld0 => ?_)
          · exact ⟨hb0, hbw, c1, c2, c7⟩
          refine wpAnyH_take (i := 0) (v := ?_) rfl (by kernel_rfl) (by kernel_rfl) (by kernel_rfl) (fun _ _ _ h => h) (Or.inl ⟨by rfl, ?_⟩) (by assumption) ?_
          rotate_left
          · intro w' hSw
            (try dsimp only at hSw)
            go_simp
            first | done | with_reducible rfl | (rw [if_neg (by omega)])
          try simp only [Act.put, List.getElem_toArray, List.getElem_cons_zero, List.setIfInBounds_toArray, List.set_cons_zero, List.set_cons_succ]
          refine wpAnyH_take (i := 1) (v := ?_) rfl (by kernel_rfl) (by kernel_rfl) (by kernel_rfl) (fun _ _ _ h => h) (Or.inl ⟨by rfl, ?_⟩) (by assumption) ?_
          rotate_left
          · intro w' hSw
            (try dsimp only at hSw)
            go_simp
            first | done | with_reducible rfl | (rw [if_neg (by omega)])
          try simp only [Act.put, List.getElem_toArray, List.getElem_cons_succ, List.getElem_cons_zero, List.setIfInBounds_toArray, List.set_cons_zero, List.set_cons_succ]
          refine wpAnyH_take (i := 5) (v := ?_) rfl (by kernel_rfl) (by kernel_rfl) (by kernel_rfl) (fun _ _ _ h => h) (Or.inl ⟨by rfl, ?_⟩) (by assumption) ?_
          rotate_left
          · intro w' hSw
            (try dsimp only at hSw)
            go_simp
            first | done | with_reducible rfl | (rw [if_neg (by omega)])
          try simp only [Act.put, List.getElem_toArray, List.getElem_cons_succ, List.getElem_cons_zero, List.setIfInBounds_toArray, List.set_cons_zero, List.set_cons_succ]
          refine wpAnyH_take (i := 6) (v := ?_) rfl (by kernel_rfl) (by kernel_rfl) (by kernel_rfl) (fun _ _ _ h => h) (Or.inl ⟨by rfl, ?_⟩) (by assumption) ?_
          rotate_left
          · intro w' hSw
            (try dsimp only at hSw)
            go_simp
            first | done | with_reducible rfl | (rw [if_neg (by omega)])
          try simp only [Act.put, List.getElem_toArray, List.getElem_cons_succ, List.getElem_cons_zero, List.setIfInBounds_toArray, List.set_cons_zero, List.set_cons_succ]
          refine wpAnyH_take (i := 10) (v := ?_) rfl (by kernel_rfl) (by kernel_rfl) (by kernel_rfl) (fun _ _ _ h => h) (Or.inl ⟨by rfl, ?_⟩) (by assumption) ?_
          rotate_left
          · intro w' hSw
            (try dsimp only at hSw)
            go_simp
            first | done | with_reducible rfl | (rw [if_neg (by omega)])
          try simp only [Act.put, List.getElem_toArray, List.getElem_cons_succ, List.getElem_cons_zero, List.setIfInBounds_toArray, List.set_cons_zero, List.set_cons_succ]
          refine wpAnyH_take (i := 11) (v := ?_) rfl (by kernel_rfl) (by kernel_rfl) (by kernel_rfl) (fun _ _ _ h => h) (Or.inl ⟨by rfl, ?_⟩) (by assumption) ?_
          rotate_left
          · intro w' hSw
            (try dsimp only at hSw)
            go_simp
            first | done | with_reducible rfl | (rw [if_neg (by omega)])
          try simp only [Act.put, List.getElem_toArray, List.getElem_cons_succ, List.getElem_cons_zero, List.setIfInBounds_toArray, List.set_cons_zero, List.set_cons_succ]
          refine wpAnyH_ready (rs := [2]) (by kernel_rfl) (by simp) ?_
          refine AllReadyH.cons rfl (fun K hK => ?_) AllReadyH.nil
          go_simp
          refine (HCA.out _).mono ?_
          rintro e w2 ⟨rfl, hb2⟩
          go_wp2_with fail
          refine hK.out _ _ ?_ (fun hHeld1 => ?_)
          · exact ⟨below_on hHeld0.1 hb2 (Nat.le_refl _), below_on hHeld0.2.1 hb2 (Nat.le_refl _), cell_keep hb2 hHeld0.2.2.1, cell_keep hb2 hHeld0.2.2.2.1, cell_keep hb2 hHeld0.2.2.2.2⟩
          clear hK K
          try simp only [Act.put, List.getElem_toArray, List.getElem_cons_succ, List.getElem_cons_zero, List.setIfInBounds_toArray, List.set_cons_zero, List.set_cons_succ]
          refine wpAnyH_take (i := 3) (v := ?_) rfl (by kernel_rfl) (by kernel_rfl) (by kernel_rfl) (fun _ _ _ h => h) (Or.inl ⟨by rfl, ?_⟩) (by assumption) ?_
          rotate_left
          · intro w' hSw
            (try dsimp only at hSw)
            go_simp
            first | done | with_reducible rfl | (rw [if_neg (by omega)])
          try simp only [Act.put, List.getElem_toArray, List.getElem_cons_succ, List.getElem_cons_zero, List.setIfInBounds_toArray, List.set_cons_zero, List.set_cons_succ]
          refine wpAnyH_take (i := 4) (v := ?_) rfl (by kernel_rfl) (by kernel_rfl) (by kernel_rfl) (fun _ _ _ h => h) (Or.inl ⟨by rfl, ?_⟩) (by assumption) ?_
          rotate_left
          · intro w' hSw
            (try dsimp only at hSw)
            go_simp
            first | done | with_reducible rfl | (rw [if_neg (by omega)])
          try simp only [Act.put, List.getElem_toArray, List.getElem_cons_succ, List.getElem_cons_zero, List.setIfInBounds_toArray, List.set_cons_zero, List.set_cons_succ]
          refine wpAnyH_ready (rs := [7]) (by kernel_rfl) (by simp) ?_
          refine AllReadyH.cons rfl (fun K hK => ?_) AllReadyH.nil
          go_simp
          refine (HCB.out _).mono ?_
          rintro e w2 ⟨rfl, hb2⟩
          go_wp2_with fail
          refine hK.out _ _ ?_ (fun hHeld2 => ?_)
          · exact ⟨below_on hHeld1.1 hb2 (Nat.le_refl _), below_on hHeld1.2.1 hb2 (Nat.le_refl _), cell_keep hb2 hHeld1.2.2.1, cell_keep hb2 hHeld1.2.2.2.1, cell_keep hb2 hHeld1.2.2.2.2⟩
          clear hK K
          try simp only [Act.put, List.getElem_toArray, List.getElem_cons_succ, List.getElem_cons_zero, List.setIfInBounds_toArray, List.set_cons_zero, List.set_cons_succ]
          refine wpAnyH_take (i := 8) (v := ?_) rfl (by kernel_rfl) (by kernel_rfl) (by kernel_rfl) (fun _ _ _ h => h) (Or.inl ⟨by rfl, ?_⟩) (by assumption) ?_
          rotate_left
          · intro w' hSw
            (try dsimp only at hSw)
            go_simp
            first | done | with_reducible rfl | (rw [if_neg (by omega)])
          try simp only [Act.put, List.getElem_toArray, List.getElem_cons_succ, List.getElem_cons_zero, List.setIfInBounds_toArray, List.set_cons_zero, List.set_cons_succ]
          refine wpAnyH_take (i := 9) (v := ?_) rfl (by kernel_rfl) (by kernel_rfl) (by kernel_rfl) (fun _ _ _ h => h) (Or.inl ⟨by rfl, ?_⟩) (by assumption) ?_
          rotate_left
          · intro w' hSw
            (try dsimp only at hSw)
            go_simp
            first | done | with_reducible rfl | (rw [if_neg (by omega)])
          try simp only [Act.put, List.getElem_toArray, List.getElem_cons_succ, List.getElem_cons_zero, List.setIfInBounds_toArray, List.set_cons_zero, List.set_cons_succ]
          refine wpAnyH_ready (rs := [12]) (by kernel_rfl) (by simp) ?_
          refine AllReadyH.cons rfl (fun K hK => ?_) AllReadyH.nil
          go_simp
          refine (HCX.out _ hHeld2.2.1).mono ?_
          rintro e w2 ⟨rfl, hb2⟩
          go_wp2_with fail
          refine hK.out _ _ ?_ (fun hHeld3 => ?_)
          · exact ⟨below_on hHeld2.1 hb2 (Nat.le_refl _), below_on hHeld2.2.1 hb2 (Nat.le_refl _), cell_keep hb2 hHeld2.2.2.1, cell_keep hb2 hHeld2.2.2.2.1, cell_keep hb2 hHeld2.2.2.2.2⟩
          clear hK K
          try simp only [Act.put, List.getElem_toArray, List.getElem_cons_succ, List.getElem_cons_zero, List.setIfInBounds_toArray, List.set_cons_zero, List.set_cons_succ]
          refine wpAnyH_take (i := 13) (v := ?_) rfl (by kernel_rfl) (by kernel_rfl) (by kernel_rfl) (fun _ _ _ h => h) (Or.inl ⟨by rfl, ?_⟩) (by assumption) ?_
          rotate_left
          · intro w' hSw
            (try dsimp only at hSw)
            go_simp
            first | done | with_reducible rfl | (rw [if_neg (by omega)])
          try simp only [Act.put, List.getElem_toArray, List.getElem_cons_succ, List.getElem_cons_zero, List.setIfInBounds_toArray, List.set_cons_zero, List.set_cons_succ]
          refine wpAnyH_take (i := 14) (v := ?_) rfl (by kernel_rfl) (by kernel_rfl) (by kernel_rfl) (fun _ _ _ h => h) (Or.inl ⟨by rfl, ?_⟩) (by assumption) ?_
          rotate_left
          · intro w' hSw
            (try dsimp only at hSw)
            go_simp
            first | done | with_reducible rfl | (rw [if_neg (by omega)])
          try simp only [Act.put, List.getElem_toArray, List.getElem_cons_succ, List.getElem_cons_zero, List.setIfInBounds_toArray, List.set_cons_zero, List.set_cons_succ]
          refine wpAnyH_done (by kernel_rfl) ?_ _
          go_wp2_with fail
          go_meet
          refine ⟨_, ⟨x.kind, x.a, x.b, 0, [], 0, 0, x.data⟩, none, 0, 0, dao, dl, dc, rfl, linecut_on hcut.out.1 hcut.out.2.1 hcut.out.2.2 hHeld3.1 (lineL_chk (f := ([99, 108, 105, 101, 110, 116], 1, [0, 1, 6])) (by decide) HK.out.symm (by rfl) ⟨x.kind, x.a, x.b, 0, [], 0, 0, x.data⟩ (by simp [onlyP, putP, ActP.zero, HK.out]) HXL.out HDL.out (Or.inr ⟨rfl, rfl⟩) (Or.inl ⟨rfl, rfl⟩) _ ?_)⟩
          simp [ByteArray.data_append, textOf, wordsOf, joinP, writeP, HDA.out, HDB.out, HDX.out]
    have q1 : (x.kind == 1) = false := by rw [beq_eq_false_iff_ne]; exact hk1
    by_cases hk2 : x.kind = 2
    · as_aux_lemma =>
        have q2 : (x.kind == 2) = true := by rw [hk2]; rfl
        have HK := Lib.hid hk2
        clear hk2
        have hbt : W2.grownBy (W2.setCell ⟨w.heap.size + 1, 1, none⟩ (.int .i64 x.a)) (some (w.heap.size + 1)) := but_set _ _ _ _
        have HH : Hid (Below w.heap.size w (W2.setCell ⟨w.heap.size + 1, 1, none⟩ (.int .i64 x.a)) ∧ Blk (W2.setCell ⟨w.heap.size + 1, 1, none⟩ (.int .i64 x.a)) w.heap.size (actCells x nao nl nc dao dl dc) 60 ∧ Blk (W2.setCell ⟨w.heap.size + 1, 1, none⟩ (.int .i64 x.a)) (w.heap.size + 1) (actCells ⟨x.kind, x.a, 0, 0, [], 0, 0, []⟩ none 0 0 none 0 0) 60) := ⟨HB2.out.trans (below_of_but hbt (by omega) HB2.out.size), HA.out.but hbt (by omega), by have h := HZ.out.set 1 (.int .i64 x.a); simpa [actCells, ActP.zero] using h⟩
        have c1 := HH.out.2.1.cell 1
        simp only [actCells] at c1
        replace c1 : (W2.setCell ⟨w.heap.size + 1, 1, none⟩ (.int .i64 x.a)).cell? ⟨w.heap.size, 1, none⟩ = some (.int .i64 x.a) := c1
        clear hbt
        go_wp2_with fail
        refine (HCA.out _).mono ?_
        rintro e w3 ⟨rfl, hb3⟩
        have HB3 := Lib.hid hb3
        clear hb3
        go_wp2_with fail
        go_meet
        refine ⟨_, ⟨x.kind, x.a, 0, 0, [], 0, 0, []⟩, none, 0, 0, none, 0, 0, rfl, linecut_on HH.out.1 HH.out.2.1 HH.out.2.2 HB3.out (lineL_chk (f := ([115, 101, 114, 118, 101, 114], 2, [0])) (by decide) HK.out.symm (by rfl) ⟨x.kind, x.a, 0, 0, [], 0, 0, []⟩ (by simp [onlyP, putP, ActP.zero, HK.out]) HXL.out HDL.out (Or.inr ⟨rfl, rfl⟩) (Or.inr ⟨rfl, rfl⟩) _ ?_)⟩
        simp [ByteArray.data_append, textOf, wordsOf, joinP, writeP, HDA.out]
    have q2 : (x.kind == 2) = false := by rw [beq_eq_false_iff_ne]; exact hk2
    by_cases hk3 : x.kind = 3
    · as_aux_lemma =>
        have q3 : (x.kind == 3) = true := by rw [hk3]; rfl
        have HK := Lib.hid hk3
        clear hk3
        have hbt : W2.grownBy (W2.setCell ⟨w.heap.size + 1, 1, none⟩ (.int .i64 x.a)) (some (w.heap.size + 1)) := but_set _ _ _ _
        have HH : Hid (Below w.heap.size w (W2.setCell ⟨w.heap.size + 1, 1, none⟩ (.int .i64 x.a)) ∧ Blk (W2.setCell ⟨w.heap.size + 1, 1, none⟩ (.int .i64 x.a)) w.heap.size (actCells x nao nl nc dao dl dc) 60 ∧ Blk (W2.setCell ⟨w.heap.size + 1, 1, none⟩ (.int .i64 x.a)) (w.heap.size + 1) (actCells ⟨x.kind, x.a, 0, 0, [], 0, 0, []⟩ none 0 0 none 0 0) 60) := ⟨HB2.out.trans (below_of_but hbt (by omega) HB2.out.size), HA.out.but hbt (by omega), by have h := HZ.out.set 1 (.int .i64 x.a); simpa [actCells, ActP.zero] using h⟩
        have c1 := HH.out.2.1.cell 1
        simp only [actCells] at c1
        replace c1 : (W2.setCell ⟨w.heap.size + 1, 1, none⟩ (.int .i64 x.a)).cell? ⟨w.heap.size, 1, none⟩ = some (.int .i64 x.a) := c1
        clear hbt
        go_wp2_with fail
        refine (HCA.out _).mono ?_
        rintro e w3 ⟨rfl, hb3⟩
        have HB3 := Lib.hid hb3
        clear hb3
        go_wp2_with fail
        go_meet
        refine ⟨_, ⟨x.kind, x.a, 0, 0, [], 0, 0, []⟩, none, 0, 0, none, 0, 0, rfl, linecut_on HH.out.1 HH.out.2.1 HH.out.2.2 HB3.out (lineL_chk (f := ([100, 114, 111, 112], 3, [0])) (by decide) HK.out.symm (by rfl) ⟨x.kind, x.a, 0, 0, [], 0, 0, []⟩ (by simp [onlyP, putP, ActP.zero, HK.out]) HXL.out HDL.out (Or.inr ⟨rfl, rfl⟩) (Or.inr ⟨rfl, rfl⟩) _ ?_)⟩
        simp [ByteArray.data_append, textOf, wordsOf, joinP, writeP, HDA.out]
    have q3 : (x.kind == 3) = false := by rw [beq_eq_false_iff_ne]; exact hk3
    by_cases hk4 : x.kind = 4
    · as_aux_lemma =>
        have q4 : (x.kind == 4) = true := by rw [hk4]; rfl
        have HK := Lib.hid hk4
        clear hk4
        have hbt : W2.grownBy (W2.setCell ⟨w.heap.size + 1, 1, none⟩ (.int .i64 x.a)) (some (w.heap.size + 1)) := but_set _ _ _ _
        have HH : Hid (Below w.heap.size w (W2.setCell ⟨w.heap.size + 1, 1, none⟩ (.int .i64 x.a)) ∧ Blk (W2.setCell ⟨w.heap.size + 1, 1, none⟩ (.int .i64 x.a)) w.heap.size (actCells x nao nl nc dao dl dc) 60 ∧ Blk (W2.setCell ⟨w.heap.size + 1, 1, none⟩ (.int .i64 x.a)) (w.heap.size + 1) (actCells ⟨x.kind, x.a, 0, 0, [], 0, 0, []⟩ none 0 0 none 0 0) 60) := ⟨HB2.out.trans (below_of_but hbt (by omega) HB2.out.size), HA.out.but hbt (by omega), by have h := HZ.out.set 1 (.int .i64 x.a); simpa [actCells, ActP.zero] using h⟩
        have c1 := HH.out.2.1.cell 1
        simp only [actCells] at c1
        replace c1 : (W2.setCell ⟨w.heap.size + 1, 1, none⟩ (.int .i64 x.a)).cell? ⟨w.heap.size, 1, none⟩ = some (.int .i64 x.a) := c1
        clear hbt
        go_wp2_with fail
        refine (HCA.out _).mono ?_
        rintro e w3 ⟨rfl, hb3⟩
        have HB3 := Lib.hid hb3
        clear hb3
        go_wp2_with fail
        go_meet
        refine ⟨_, ⟨x.kind, x.a, 0, 0, [], 0, 0, []⟩, none, 0, 0, none, 0, 0, rfl, linecut_on HH.out.1 HH.out.2.1 HH.out.2.2 HB3.out (lineL_chk (f := ([116, 119, 105, 110], 4, [0])) (by decide) HK.out.symm (by rfl) ⟨x.kind, x.a, 0, 0, [], 0, 0, []⟩ (by simp [onlyP, putP, ActP.zero, HK.out]) HXL.out HDL.out (Or.inr ⟨rfl, rfl⟩) (Or.inr ⟨rfl, rfl⟩) _ ?_)⟩
        simp [ByteArray.data_append, textOf, wordsOf, joinP, writeP, HDA.out]
    have q4 : (x.kind == 4) = false := by rw [beq_eq_false_iff_ne]; exact hk4
    by_cases hk5 : x.kind = 5
    · as_aux_lemma =>
        have q5 : (x.kind == 5) = true := by rw [hk5]; rfl
        have HK := Lib.hid hk5
        clear hk5
        go_upto_region 18 with fail
        go_cut [] (fun wx => Hid (Below w.heap.size w wx ∧ Blk wx w.heap.size (actCells x nao nl nc dao dl dc) 60 ∧ Blk wx (w.heap.size + 1) (actCells ⟨x.kind, x.a, 0, 0, [], 0, 0, x.data⟩ none 0 0 dao dl dc) 60))
        case first =>
          go_region
          all_goals (go_wp2_with fail; go_meet)
          all_goals first
            | (have hbt : W2.grownBy ((W2.setCell ⟨w.heap.size + 1, 1, none⟩ (.int .i64 x.a)).setCell ⟨w.heap.size + 1, 7, none⟩ (.slice dao dl dc)) (some (w.heap.size + 1)) := (but_trans (but_set _ _ _ _) (but_set _ _ _ _)); have h2 : Blk ((W2.setCell ⟨w.heap.size + 1, 1, none⟩ (.int .i64 x.a)).setCell ⟨w.heap.size + 1, 7, none⟩ (.slice dao dl dc)) (w.heap.size + 1) (actCells ⟨x.kind, x.a, 0, 0, [], 0, 0, x.data⟩ none 0 0 dao dl dc) 60 := (by have h := ((HZ.out.set 1 (.int .i64 x.a)).set 7 (.slice dao dl dc)); simpa [actCells, ActP.zero] using h); have hA2 := HA.out.but hbt (by omega : w.heap.size ≠ w.heap.size + 1); have hb9 := HB2.out.trans (below_of_but hbt (by omega) HB2.out.size); exact ⟨⟨hb9.os, hb9.tape, hb9.output, hb9.size, hb9.block⟩, hA2, h2⟩)
            | (have hbt : W2.grownBy ((W2.setCell ⟨w.heap.size + 1, 7, none⟩ (.slice dao dl dc)).setCell ⟨w.heap.size + 1, 1, none⟩ (.int .i64 x.a)) (some (w.heap.size + 1)) := (but_trans (but_set _ _ _ _) (but_set _ _ _ _)); have h2 : Blk ((W2.setCell ⟨w.heap.size + 1, 7, none⟩ (.slice dao dl dc)).setCell ⟨w.heap.size + 1, 1, none⟩ (.int .i64 x.a)) (w.heap.size + 1) (actCells ⟨x.kind, x.a, 0, 0, [], 0, 0, x.data⟩ none 0 0 dao dl dc) 60 := (by have h := ((HZ.out.set 7 (.slice dao dl dc)).set 1 (.int .i64 x.a)); simpa [actCells, ActP.zero] using h); have hA2 := HA.out.but hbt (by omega : w.heap.size ≠ w.heap.size + 1); have hb9 := HB2.out.trans (below_of_but hbt (by omega) HB2.out.size); exact ⟨⟨hb9.os, hb9.tape, hb9.output, hb9.size, hb9.block⟩, hA2, h2⟩)
        case rest =>
          clear a0 z0 f0 a1 z1 f1 a2 z2 f2 a3 z3 f3 a4 z4 f4 a5 z5 f5 a6 z6 f6 a7 z7 f7
          have c1 := hcut.out.2.1.cell 1
          have c7 := hcut.out.2.1.cell 7
          simp [actCells] at c1 c7
          have hb0 : Below wc.heap.size wc wc.drew := Below.drew (Below.refl _ _)
          have hb00 := hcut.out.1
          have hbw : Below w.heap.size w wc.drew := hb00.drew
          clear hb00
          go_upto_region 19 with fail
          refine wp_region_held_drew (S := fun w' => Below wc.heap.size wc w' ∧ Below w.heap.size w w' ∧ w'.cell? ⟨w.heap.size, 1, none⟩ = some (.int .i64 x.a) ∧ w'.cell? ⟨w.heap.size, 7, none⟩ = some (.slice dao dl dc)) (by kernel_rfl) ?_ (fun hHeld0 => ?_)
          · exact ⟨hb0, hbw, c1, c7⟩
          refine wpAnyH_take (i := 0) (v := ?_) rfl (by kernel_rfl) (by kernel_rfl) (by kernel_rfl) (fun _ _ _ h => h) (Or.inl ⟨by rfl, ?_⟩) (by assumption) ?_
          rotate_left
          · intro w' hSw
            (try dsimp only at hSw)
            go_simp
            first | done | with_reducible rfl | (rw [if_neg (by omega)])
          try simp only [Act.put, List.getElem_toArray, List.getElem_cons_zero, List.setIfInBounds_toArray, List.set_cons_zero, List.set_cons_succ]
          refine wpAnyH_take (i := 1) (v := ?_) rfl (by kernel_rfl) (by kernel_rfl) (by kernel_rfl) (fun _ _ _ h => h) (Or.inl ⟨by rfl, ?_⟩) (by assumption) ?_
          rotate_left
          · intro w' hSw
            (try dsimp only at hSw)
            go_simp
            first | done | with_reducible rfl | (rw [if_neg (by omega)])
          try simp only [Act.put, List.getElem_toArray, List.getElem_cons_succ, List.getElem_cons_zero, List.setIfInBounds_toArray, List.set_cons_zero, List.set_cons_succ]
          refine wpAnyH_take (i := 5) (v := ?_) rfl (by kernel_rfl) (by kernel_rfl) (by kernel_rfl) (fun _ _ _ h => h) (Or.inl ⟨by rfl, ?_⟩) (by assumption) ?_
          rotate_left
          · intro w' hSw
            (try dsimp only at hSw)
            go_simp
            first | done | with_reducible rfl | (rw [if_neg (by omega)])
          try simp only [Act.put, List.getElem_toArray, List.getElem_cons_succ, List.getElem_cons_zero, List.setIfInBounds_toArray, List.set_cons_zero, List.set_cons_succ]
          refine wpAnyH_take (i := 6) (v := ?_) rfl (by kernel_rfl) (by kernel_rfl) (by kernel_rfl) (fun _ _ _ h => h) (Or.inl ⟨by rfl, ?_⟩) (by assumption) ?_
          rotate_left
          · intro w' hSw
            (try dsimp only at hSw)
            go_simp
            first | done | with_reducible rfl | (rw [if_neg (by omega)])
          try simp only [Act.put, List.getElem_toArray, List.getElem_cons_succ, List.getElem_cons_zero, List.setIfInBounds_toArray, List.set_cons_zero, List.set_cons_succ]
          refine wpAnyH_ready (rs := [2]) (by kernel_rfl) (by simp) ?_
          refine AllReadyH.cons rfl (fun K hK => ?_) AllReadyH.nil
          go_simp
          refine (HCA.out _).mono ?_
          rintro e w2 ⟨rfl, hb2⟩
          go_wp2_with fail
          refine hK.out _ _ ?_ (fun hHeld1 => ?_)
          · exact ⟨below_on hHeld0.1 hb2 (Nat.le_refl _), below_on hHeld0.2.1 hb2 (Nat.le_refl _), cell_keep hb2 hHeld0.2.2.1, cell_keep hb2 hHeld0.2.2.2⟩
          clear hK K
          try simp only [Act.put, List.getElem_toArray, List.getElem_cons_succ, List.getElem_cons_zero, List.setIfInBounds_toArray, List.set_cons_zero, List.set_cons_succ]
          refine wpAnyH_take (i := 3) (v := ?_) rfl (by kernel_rfl) (by kernel_rfl) (by kernel_rfl) (fun _ _ _ h => h) (Or.inl ⟨by rfl, ?_⟩) (by assumption) ?_
          rotate_left
          · intro w' hSw
            (try dsimp only at hSw)
            go_simp
            first | done | with_reducible rfl | (rw [if_neg (by omega)])
          try simp only [Act.put, List.getElem_toArray, List.getElem_cons_succ, List.getElem_cons_zero, List.setIfInBounds_toArray, List.set_cons_zero, List.set_cons_succ]
          refine wpAnyH_take (i := 4) (v := ?_) rfl (by kernel_rfl) (by kernel_rfl) (by kernel_rfl) (fun _ _ _ h => h) (Or.inl ⟨by rfl, ?_⟩) (by assumption) ?_
          rotate_left
          · intro w' hSw
            (try dsimp only at hSw)
            go_simp
            first | done | with_reducible rfl | (rw [if_neg (by omega)])
          try simp only [Act.put, List.getElem_toArray, List.getElem_cons_succ, List.getElem_cons_zero, List.setIfInBounds_toArray, List.set_cons_zero, List.set_cons_succ]
          refine wpAnyH_ready (rs := [7]) (by kernel_rfl) (by simp) ?_
          refine AllReadyH.cons rfl (fun K hK => ?_) AllReadyH.nil
          go_simp
          refine (HCX.out _ hHeld1.2.1).mono ?_
          rintro e w2 ⟨rfl, hb2⟩
          go_wp2_with fail
          refine hK.out _ _ ?_ (fun hHeld2 => ?_)
          · exact ⟨below_on hHeld1.1 hb2 (Nat.le_refl _), below_on hHeld1.2.1 hb2 (Nat.le_refl _), cell_keep hb2 hHeld1.2.2.1, cell_keep hb2 hHeld1.2.2.2⟩
          clear hK K
          try simp only [Act.put, List.getElem_toArray, List.getElem_cons_succ, List.getElem_cons_zero, List.setIfInBounds_toArray, List.set_cons_zero, List.set_cons_succ]
          refine wpAnyH_take (i := 8) (v := ?_) rfl (by kernel_rfl) (by kernel_rfl) (by kernel_rfl) (fun _ _ _ h => h) (Or.inl ⟨by rfl, ?_⟩) (by assumption) ?_
          rotate_left
          · intro w' hSw
            (try dsimp only at hSw)
            go_simp
            first | done | with_reducible rfl | (rw [if_neg (by omega)])
          try simp only [Act.put, List.getElem_toArray, List.getElem_cons_succ, List.getElem_cons_zero, List.setIfInBounds_toArray, List.set_cons_zero, List.set_cons_succ]
          refine wpAnyH_take (i := 9) (v := ?_) rfl (by kernel_rfl) (by kernel_rfl) (by kernel_rfl) (fun _ _ _ h => h) (Or.inl ⟨by rfl, ?_⟩) (by assumption) ?_
          rotate_left
          · intro w' hSw
            (try dsimp only at hSw)
            go_simp
            first | done | with_reducible rfl | (rw [if_neg (by omega)])
          try simp only [Act.put, List.getElem_toArray, List.getElem_cons_succ, List.getElem_cons_zero, List.setIfInBounds_toArray, List.set_cons_zero, List.set_cons_succ]
          refine wpAnyH_done (by kernel_rfl) ?_ _
          go_wp2_with fail
          go_meet
          refine ⟨_, ⟨x.kind, x.a, 0, 0, [], 0, 0, x.data⟩, none, 0, 0, dao, dl, dc, rfl, linecut_on hcut.out.1 hcut.out.2.1 hcut.out.2.2 hHeld2.1 (lineL_chk (f := ([102, 111, 114, 103, 101], 5, [0, 6])) (by decide) HK.out.symm (by rfl) ⟨x.kind, x.a, 0, 0, [], 0, 0, x.data⟩ (by simp [onlyP, putP, ActP.zero, HK.out]) HXL.out HDL.out (Or.inr ⟨rfl, rfl⟩) (Or.inl ⟨rfl, rfl⟩) _ ?_)⟩
          simp [ByteArray.data_append, textOf, wordsOf, joinP, writeP, HDA.out, HDX.out]
    have q5 : (x.kind == 5) = false := by rw [beq_eq_false_iff_ne]; exact hk5
    by_cases hk6 : x.kind = 6
    · as_aux_lemma =>
        have q6 : (x.kind == 6) = true := by rw [hk6]; rfl
        have HK := Lib.hid hk6
        clear hk6
        have hbt : W2.grownBy (W2.setCell ⟨w.heap.size + 1, 3, none⟩ (.int .i64 x.n)) (some (w.heap.size + 1)) := but_set _ _ _ _
        have HH : Hid (Below w.heap.size w (W2.setCell ⟨w.heap.size + 1, 3, none⟩ (.int .i64 x.n)) ∧ Blk (W2.setCell ⟨w.heap.size + 1, 3, none⟩ (.int .i64 x.n)) w.heap.size (actCells x nao nl nc dao dl dc) 60 ∧ Blk (W2.setCell ⟨w.heap.size + 1, 3, none⟩ (.int .i64 x.n)) (w.heap.size + 1) (actCells ⟨x.kind, 0, 0, x.n, [], 0, 0, []⟩ none 0 0 none 0 0) 60) := ⟨HB2.out.trans (below_of_but hbt (by omega) HB2.out.size), HA.out.but hbt (by omega), by have h := HZ.out.set 3 (.int .i64 x.n); simpa [actCells, ActP.zero] using h⟩
        have c3 := HH.out.2.1.cell 3
        simp only [actCells] at c3
        replace c3 : (W2.setCell ⟨w.heap.size + 1, 3, none⟩ (.int .i64 x.n)).cell? ⟨w.heap.size, 3, none⟩ = some (.int .i64 x.n) := c3
        clear hbt
        go_wp2_with fail
        refine (HCN.out _).mono ?_
        rintro e w3 ⟨rfl, hb3⟩
        have HB3 := Lib.hid hb3
        clear hb3
        go_wp2_with fail
        go_meet
        refine ⟨_, ⟨x.kind, 0, 0, x.n, [], 0, 0, []⟩, none, 0, 0, none, 0, 0, rfl, linecut_on HH.out.1 HH.out.2.1 HH.out.2.2 HB3.out (lineL_chk (f := ([116, 105, 99, 107], 6, [2])) (by decide) HK.out.symm (by rfl) ⟨x.kind, 0, 0, x.n, [], 0, 0, []⟩ (by simp [onlyP, putP, ActP.zero, HK.out]) HXL.out HDL.out (Or.inr ⟨rfl, rfl⟩) (Or.inr ⟨rfl, rfl⟩) _ ?_)⟩
        simp [ByteArray.data_append, textOf, wordsOf, joinP, writeP, HDN.out]
    have q6 : (x.kind == 6) = false := by rw [beq_eq_false_iff_ne]; exact hk6
    by_cases hk7 : x.kind = 7
    · as_aux_lemma =>
        have q7 : (x.kind == 7) = true := by rw [hk7]; rfl
        have HK := Lib.hid hk7
        clear hk7
        have hbt : W2.grownBy (W2.setCell ⟨w.heap.size + 1, 4, none⟩ (.slice nao nl nc)) (some (w.heap.size + 1)) := but_set _ _ _ _
        have HH : Hid (Below w.heap.size w (W2.setCell ⟨w.heap.size + 1, 4, none⟩ (.slice nao nl nc)) ∧ Blk (W2.setCell ⟨w.heap.size + 1, 4, none⟩ (.slice nao nl nc)) w.heap.size (actCells x nao nl nc dao dl dc) 60 ∧ Blk (W2.setCell ⟨w.heap.size + 1, 4, none⟩ (.slice nao nl nc)) (w.heap.size + 1) (actCells ⟨x.kind, 0, 0, 0, x.name, 0, 0, []⟩ nao nl nc none 0 0) 60) := ⟨HB2.out.trans (below_of_but hbt (by omega) HB2.out.size), HA.out.but hbt (by omega), by have h := HZ.out.set 4 (.slice nao nl nc); simpa [actCells, ActP.zero] using h⟩
        have c4 := HH.out.2.1.cell 4
        simp only [actCells] at c4
        replace c4 : (W2.setCell ⟨w.heap.size + 1, 4, none⟩ (.slice nao nl nc)).cell? ⟨w.heap.size, 4, none⟩ = some (.slice nao nl nc) := c4
        clear hbt
        go_wp2_with fail
        refine (HCT.out _ HH.out.1).mono ?_
        rintro e w3 ⟨rfl, hb3⟩
        have c4' := cell_keep hb3 c4
        have HB3 := Lib.hid hb3
        clear hb3
        go_wp2_with fail
        refine (HCS.out _ (below_on HH.out.1 HB3.out (Nat.le_refl _))).mono ?_
        rintro e w4 ⟨rfl, rfl⟩
        cases hs : soundB x.name
        · have HN : Hid (lineL x = none) := lineL_bad (f := ([102, 108, 117, 115, 104], 7, [3])) (by decide) HK.out.symm (by simp [okP, hs])
          clear hs
          go_wp2_with fail
          go_ret2
          refine ⟨below_on HH.out.1 HB3.out (Nat.le_refl _), ?_⟩
          rw [HN.out]
          rfl
        · have HSO := Lib.hid hs
          clear hs
          go_wp2_with fail
          go_meet
          refine ⟨_, ⟨x.kind, 0, 0, 0, x.name, 0, 0, []⟩, nao, nl, nc, none, 0, 0, rfl, linecut_on HH.out.1 HH.out.2.1 HH.out.2.2 HB3.out (lineL_chk (f := ([102, 108, 117, 115, 104], 7, [3])) (by decide) HK.out.symm (by simp [okP, HSO.out]) ⟨x.kind, 0, 0, 0, x.name, 0, 0, []⟩ (by simp [onlyP, putP, ActP.zero, HK.out]) HXL.out HDL.out (Or.inl ⟨rfl, rfl⟩) (Or.inr ⟨rfl, rfl⟩) _ ?_)⟩
          simp [ByteArray.data_append, textOf, wordsOf, joinP, writeP, HDT.out]
    have q7 : (x.kind == 7) = false := by rw [beq_eq_false_iff_ne]; exact hk7
    by_cases hk8 : x.kind = 8
    · as_aux_lemma =>
        have q8 : (x.kind == 8) = true := by rw [hk8]; rfl
        have HK := Lib.hid hk8
        clear hk8
        go_upto_region 29 with fail
        go_cut [] (fun wx => Hid (Below w.heap.size w wx ∧ Blk wx w.heap.size (actCells x nao nl nc dao dl dc) 60 ∧ Blk wx (w.heap.size + 1) (actCells ⟨x.kind, 0, 0, x.n, [], x.mask, x.torn, []⟩ none 0 0 none 0 0) 60))
        case first =>
          go_region
          all_goals (go_wp2_with fail; go_meet)
          all_goals first
            | (have hbt : W2.grownBy (((W2.setCell ⟨w.heap.size + 1, 3, none⟩ (.int .i64 x.n)).setCell ⟨w.heap.size + 1, 5, none⟩ (.int .u64 (x.mask : Int))).setCell ⟨w.heap.size + 1, 6, none⟩ (.int .u64 (x.torn : Int))) (some (w.heap.size + 1)) := (but_trans (but_trans (but_set _ _ _ _) (but_set _ _ _ _)) (but_set _ _ _ _)); have h2 : Blk (((W2.setCell ⟨w.heap.size + 1, 3, none⟩ (.int .i64 x.n)).setCell ⟨w.heap.size + 1, 5, none⟩ (.int .u64 (x.mask : Int))).setCell ⟨w.heap.size + 1, 6, none⟩ (.int .u64 (x.torn : Int))) (w.heap.size + 1) (actCells ⟨x.kind, 0, 0, x.n, [], x.mask, x.torn, []⟩ none 0 0 none 0 0) 60 := (by have h := (((HZ.out.set 3 (.int .i64 x.n)).set 5 (.int .u64 (x.mask : Int))).set 6 (.int .u64 (x.torn : Int))); simpa [actCells, ActP.zero] using h); have hA2 := HA.out.but hbt (by omega : w.heap.size ≠ w.heap.size + 1); have hb9 := HB2.out.trans (below_of_but hbt (by omega) HB2.out.size); exact ⟨⟨hb9.os, hb9.tape, hb9.output, hb9.size, hb9.block⟩, hA2, h2⟩)
            | (have hbt : W2.grownBy (((W2.setCell ⟨w.heap.size + 1, 3, none⟩ (.int .i64 x.n)).setCell ⟨w.heap.size + 1, 6, none⟩ (.int .u64 (x.torn : Int))).setCell ⟨w.heap.size + 1, 5, none⟩ (.int .u64 (x.mask : Int))) (some (w.heap.size + 1)) := (but_trans (but_trans (but_set _ _ _ _) (but_set _ _ _ _)) (but_set _ _ _ _)); have h2 : Blk (((W2.setCell ⟨w.heap.size + 1, 3, none⟩ (.int .i64 x.n)).setCell ⟨w.heap.size + 1, 6, none⟩ (.int .u64 (x.torn : Int))).setCell ⟨w.heap.size + 1, 5, none⟩ (.int .u64 (x.mask : Int))) (w.heap.size + 1) (actCells ⟨x.kind, 0, 0, x.n, [], x.mask, x.torn, []⟩ none 0 0 none 0 0) 60 := (by have h := (((HZ.out.set 3 (.int .i64 x.n)).set 6 (.int .u64 (x.torn : Int))).set 5 (.int .u64 (x.mask : Int))); simpa [actCells, ActP.zero] using h); have hA2 := HA.out.but hbt (by omega : w.heap.size ≠ w.heap.size + 1); have hb9 := HB2.out.trans (below_of_but hbt (by omega) HB2.out.size); exact ⟨⟨hb9.os, hb9.tape, hb9.output, hb9.size, hb9.block⟩, hA2, h2⟩)
            | (have hbt : W2.grownBy (((W2.setCell ⟨w.heap.size + 1, 5, none⟩ (.int .u64 (x.mask : Int))).setCell ⟨w.heap.size + 1, 3, none⟩ (.int .i64 x.n)).setCell ⟨w.heap.size + 1, 6, none⟩ (.int .u64 (x.torn : Int))) (some (w.heap.size + 1)) := (but_trans (but_trans (but_set _ _ _ _) (but_set _ _ _ _)) (but_set _ _ _ _)); have h2 : Blk (((W2.setCell ⟨w.heap.size + 1, 5, none⟩ (.int .u64 (x.mask : Int))).setCell ⟨w.heap.size + 1, 3, none⟩ (.int .i64 x.n)).setCell ⟨w.heap.size + 1, 6, none⟩ (.int .u64 (x.torn : Int))) (w.heap.size + 1) (actCells ⟨x.kind, 0, 0, x.n, [], x.mask, x.torn, []⟩ none 0 0 none 0 0) 60 := (by have h := (((HZ.out.set 5 (.int .u64 (x.mask : Int))).set 3 (.int .i64 x.n)).set 6 (.int .u64 (x.torn : Int))); simpa [actCells, ActP.zero] using h); have hA2 := HA.out.but hbt (by omega : w.heap.size ≠ w.heap.size + 1); have hb9 := HB2.out.trans (below_of_but hbt (by omega) HB2.out.size); exact ⟨⟨hb9.os, hb9.tape, hb9.output, hb9.size, hb9.block⟩, hA2, h2⟩)
            | (have hbt : W2.grownBy (((W2.setCell ⟨w.heap.size + 1, 5, none⟩ (.int .u64 (x.mask : Int))).setCell ⟨w.heap.size + 1, 6, none⟩ (.int .u64 (x.torn : Int))).setCell ⟨w.heap.size + 1, 3, none⟩ (.int .i64 x.n)) (some (w.heap.size + 1)) := (but_trans (but_trans (but_set _ _ _ _) (but_set _ _ _ _)) (but_set _ _ _ _)); have h2 : Blk (((W2.setCell ⟨w.heap.size + 1, 5, none⟩ (.int .u64 (x.mask : Int))).setCell ⟨w.heap.size + 1, 6, none⟩ (.int .u64 (x.torn : Int))).setCell ⟨w.heap.size + 1, 3, none⟩ (.int .i64 x.n)) (w.heap.size + 1) (actCells ⟨x.kind, 0, 0, x.n, [], x.mask, x.torn, []⟩ none 0 0 none 0 0) 60 := (by have h := (((HZ.out.set 5 (.int .u64 (x.mask : Int))).set 6 (.int .u64 (x.torn : Int))).set 3 (.int .i64 x.n)); simpa [actCells, ActP.zero] using h); have hA2 := HA.out.but hbt (by omega : w.heap.size ≠ w.heap.size + 1); have hb9 := HB2.out.trans (below_of_but hbt (by omega) HB2.out.size); exact ⟨⟨hb9.os, hb9.tape, hb9.output, hb9.size, hb9.block⟩, hA2, h2⟩)
            | (have hbt : W2.grownBy (((W2.setCell ⟨w.heap.size + 1, 6, none⟩ (.int .u64 (x.torn : Int))).setCell ⟨w.heap.size + 1, 3, none⟩ (.int .i64 x.n)).setCell ⟨w.heap.size + 1, 5, none⟩ (.int .u64 (x.mask : Int))) (some (w.heap.size + 1)) := (but_trans (but_trans (but_set _ _ _ _) (but_set _ _ _ _)) (but_set _ _ _ _)); have h2 : Blk (((W2.setCell ⟨w.heap.size + 1, 6, none⟩ (.int .u64 (x.torn : Int))).setCell ⟨w.heap.size + 1, 3, none⟩ (.int .i64 x.n)).setCell ⟨w.heap.size + 1, 5, none⟩ (.int .u64 (x.mask : Int))) (w.heap.size + 1) (actCells ⟨x.kind, 0, 0, x.n, [], x.mask, x.torn, []⟩ none 0 0 none 0 0) 60 := (by have h := (((HZ.out.set 6 (.int .u64 (x.torn : Int))).set 3 (.int .i64 x.n)).set 5 (.int .u64 (x.mask : Int))); simpa [actCells, ActP.zero] using h); have hA2 := HA.out.but hbt (by omega : w.heap.size ≠ w.heap.size + 1); have hb9 := HB2.out.trans (below_of_but hbt (by omega) HB2.out.size); exact ⟨⟨hb9.os, hb9.tape, hb9.output, hb9.size, hb9.block⟩, hA2, h2⟩)
            | (have hbt : W2.grownBy (((W2.setCell ⟨w.heap.size + 1, 6, none⟩ (.int .u64 (x.torn : Int))).setCell ⟨w.heap.size + 1, 5, none⟩ (.int .u64 (x.mask : Int))).setCell ⟨w.heap.size + 1, 3, none⟩ (.int .i64 x.n)) (some (w.heap.size + 1)) := (but_trans (but_trans (but_set _ _ _ _) (but_set _ _ _ _)) (but_set _ _ _ _)); have h2 : Blk (((W2.setCell ⟨w.heap.size + 1, 6, none⟩ (.int .u64 (x.torn : Int))).setCell ⟨w.heap.size + 1, 5, none⟩ (.int .u64 (x.mask : Int))).setCell ⟨w.heap.size + 1, 3, none⟩ (.int .i64 x.n)) (w.heap.size + 1) (actCells ⟨x.kind, 0, 0, x.n, [], x.mask, x.torn, []⟩ none 0 0 none 0 0) 60 := (by have h := (((HZ.out.set 6 (.int .u64 (x.torn : Int))).set 5 (.int .u64 (x.mask : Int))).set 3 (.int .i64 x.n)); simpa [actCells, ActP.zero] using h); have hA2 := HA.out.but hbt (by omega : w.heap.size ≠ w.heap.size + 1); have hb9 := HB2.out.trans (below_of_but hbt (by omega) HB2.out.size); exact ⟨⟨hb9.os, hb9.tape, hb9.output, hb9.size, hb9.block⟩, hA2, h2⟩)
        case rest =>
          clear a0 z0 f0 a1 z1 f1 a2 z2 f2 a3 z3 f3 a4 z4 f4 a5 z5 f5 a6 z6 f6 a7 z7 f7
          have c3 := hcut.out.2.1.cell 3
          have c5 := hcut.out.2.1.cell 5
          have c6 := hcut.out.2.1.cell 6
          simp [actCells] at c3 c5 c6
          have hb0 : Below wc.heap.size wc wc.drew := Below.drew (Below.refl _ _)
          have hb00 := hcut.out.1
          have hbw : Below w.heap.size w wc.drew := hb00.drew
          clear hb00
          go_upto_region 30 with fail
          refine wp_region_held_drew (S := fun w' => Below wc.heap.size wc w' ∧ Below w.heap.size w w' ∧ w'.cell? ⟨w.heap.size, 3, none⟩ = some (.int .i64 x.n) ∧ w'.cell? ⟨w.heap.size, 5, none⟩ = some (.int .u64 (x.mask : Int)) ∧ w'.cell? ⟨w.heap.size, 6, none⟩ = some (.int .u64 (x.torn : Int))) (by kernel_rfl) ?_ (fun hHeld0 => ?_)
          · exact ⟨hb0, hbw, c3, c5, c6⟩
          refine wpAnyH_take (i := 0) (v := ?_) rfl (by kernel_rfl) (by kernel_rfl) (by kernel_rfl) (fun _ _ _ h => h) (Or.inl ⟨by rfl, ?_⟩) (by assumption) ?_
          rotate_left
          · intro w' hSw
            (try dsimp only at hSw)
            go_simp
            first | done | with_reducible rfl | (rw [if_neg (by omega)])
          try simp only [Act.put, List.getElem_toArray, List.getElem_cons_zero, List.setIfInBounds_toArray, List.set_cons_zero, List.set_cons_succ]
          refine wpAnyH_take (i := 1) (v := ?_) rfl (by kernel_rfl) (by kernel_rfl) (by kernel_rfl) (fun _ _ _ h => h) (Or.inl ⟨by rfl, ?_⟩) (by assumption) ?_
          rotate_left
          · intro w' hSw
            (try dsimp only at hSw)
            go_simp
            first | done | with_reducible rfl | (rw [if_neg (by omega)])
          try simp only [Act.put, List.getElem_toArray, List.getElem_cons_succ, List.getElem_cons_zero, List.setIfInBounds_toArray, List.set_cons_zero, List.set_cons_succ]
          refine wpAnyH_take (i := 5) (v := ?_) rfl (by kernel_rfl) (by kernel_rfl) (by kernel_rfl) (fun _ _ _ h => h) (Or.inl ⟨by rfl, ?_⟩) (by assumption) ?_
          rotate_left
          · intro w' hSw
            (try dsimp only at hSw)
            go_simp
            first | done | with_reducible rfl | (rw [if_neg (by omega)])
          try simp only [Act.put, List.getElem_toArray, List.getElem_cons_succ, List.getElem_cons_zero, List.setIfInBounds_toArray, List.set_cons_zero, List.set_cons_succ]
          refine wpAnyH_take (i := 6) (v := ?_) rfl (by kernel_rfl) (by kernel_rfl) (by kernel_rfl) (fun _ _ _ h => h) (Or.inl ⟨by rfl, ?_⟩) (by assumption) ?_
          rotate_left
          · intro w' hSw
            (try dsimp only at hSw)
            go_simp
            first | done | with_reducible rfl | (rw [if_neg (by omega)])
          try simp only [Act.put, List.getElem_toArray, List.getElem_cons_succ, List.getElem_cons_zero, List.setIfInBounds_toArray, List.set_cons_zero, List.set_cons_succ]
          refine wpAnyH_take (i := 10) (v := ?_) rfl (by kernel_rfl) (by kernel_rfl) (by kernel_rfl) (fun _ _ _ h => h) (Or.inl ⟨by rfl, ?_⟩) (by assumption) ?_
          rotate_left
          · intro w' hSw
            (try dsimp only at hSw)
            go_simp
            first | done | with_reducible rfl | (rw [if_neg (by omega)])
          try simp only [Act.put, List.getElem_toArray, List.getElem_cons_succ, List.getElem_cons_zero, List.setIfInBounds_toArray, List.set_cons_zero, List.set_cons_succ]
          refine wpAnyH_take (i := 11) (v := ?_) rfl (by kernel_rfl) (by kernel_rfl) (by kernel_rfl) (fun _ _ _ h => h) (Or.inl ⟨by rfl, ?_⟩) (by assumption) ?_
          rotate_left
          · intro w' hSw
            (try dsimp only at hSw)
            go_simp
            first | done | with_reducible rfl | (rw [if_neg (by omega)])
          try simp only [Act.put, List.getElem_toArray, List.getElem_cons_succ, List.getElem_cons_zero, List.setIfInBounds_toArray, List.set_cons_zero, List.set_cons_succ]
          refine wpAnyH_ready (rs := [2]) (by kernel_rfl) (by simp) ?_
          refine AllReadyH.cons rfl (fun K hK => ?_) AllReadyH.nil
          go_simp
          refine (HCN.out _).mono ?_
          rintro e w2 ⟨rfl, hb2⟩
          go_wp2_with fail
          refine hK.out _ _ ?_ (fun hHeld1 => ?_)
          · exact ⟨below_on hHeld0.1 hb2 (Nat.le_refl _), below_on hHeld0.2.1 hb2 (Nat.le_refl _), cell_keep hb2 hHeld0.2.2.1, cell_keep hb2 hHeld0.2.2.2.1, cell_keep hb2 hHeld0.2.2.2.2⟩
          clear hK K
          try simp only [Act.put, List.getElem_toArray, List.getElem_cons_succ, List.getElem_cons_zero, List.setIfInBounds_toArray, List.set_cons_zero, List.set_cons_succ]
          refine wpAnyH_take (i := 3) (v := ?_) rfl (by kernel_rfl) (by kernel_rfl) (by kernel_rfl) (fun _ _ _ h => h) (Or.inl ⟨by rfl, ?_⟩) (by assumption) ?_
          rotate_left
          · intro w' hSw
            (try dsimp only at hSw)
            go_simp
            first | done | with_reducible rfl | (rw [if_neg (by omega)])
          try simp only [Act.put, List.getElem_toArray, List.getElem_cons_succ, List.getElem_cons_zero, List.setIfInBounds_toArray, List.set_cons_zero, List.set_cons_succ]
          refine wpAnyH_take (i := 4) (v := ?_) rfl (by kernel_rfl) (by kernel_rfl) (by kernel_rfl) (fun _ _ _ h => h) (Or.inl ⟨by rfl, ?_⟩) (by assumption) ?_
          rotate_left
          · intro w' hSw
            (try dsimp only at hSw)
            go_simp
            first | done | with_reducible rfl | (rw [if_neg (by omega)])
          try simp only [Act.put, List.getElem_toArray, List.getElem_cons_succ, List.getElem_cons_zero, List.setIfInBounds_toArray, List.set_cons_zero, List.set_cons_succ]
          refine wpAnyH_ready (rs := [7]) (by kernel_rfl) (by simp) ?_
          refine AllReadyH.cons rfl (fun K hK => ?_) AllReadyH.nil
          go_simp
          refine (HCM.out _).mono ?_
          rintro e w2 ⟨rfl, hb2⟩
          go_wp2_with fail
          refine hK.out _ _ ?_ (fun hHeld2 => ?_)
          · exact ⟨below_on hHeld1.1 hb2 (Nat.le_refl _), below_on hHeld1.2.1 hb2 (Nat.le_refl _), cell_keep hb2 hHeld1.2.2.1, cell_keep hb2 hHeld1.2.2.2.1, cell_keep hb2 hHeld1.2.2.2.2⟩
          clear hK K
          try simp only [Act.put, List.getElem_toArray, List.getElem_cons_succ, List.getElem_cons_zero, List.setIfInBounds_toArray, List.set_cons_zero, List.set_cons_succ]
          refine wpAnyH_take (i := 8) (v := ?_) rfl (by kernel_rfl) (by kernel_rfl) (by kernel_rfl) (fun _ _ _ h => h) (Or.inl ⟨by rfl, ?_⟩) (by assumption) ?_
          rotate_left
          · intro w' hSw
            (try dsimp only at hSw)
            go_simp
            first | done | with_reducible rfl | (rw [if_neg (by omega)])
          try simp only [Act.put, List.getElem_toArray, List.getElem_cons_succ, List.getElem_cons_zero, List.setIfInBounds_toArray, List.set_cons_zero, List.set_cons_succ]
          refine wpAnyH_take (i := 9) (v := ?_) rfl (by kernel_rfl) (by kernel_rfl) (by kernel_rfl) (fun _ _ _ h => h) (Or.inl ⟨by rfl, ?_⟩) (by assumption) ?_
          rotate_left
          · intro w' hSw
            (try dsimp only at hSw)
            go_simp
            first | done | with_reducible rfl | (rw [if_neg (by omega)])
          try simp only [Act.put, List.getElem_toArray, List.getElem_cons_succ, List.getElem_cons_zero, List.setIfInBounds_toArray, List.set_cons_zero, List.set_cons_succ]
          refine wpAnyH_ready (rs := [12]) (by kernel_rfl) (by simp) ?_
          refine AllReadyH.cons rfl (fun K hK => ?_) AllReadyH.nil
          go_simp
          refine (HCU.out _).mono ?_
          rintro e w2 ⟨rfl, hb2⟩
          go_wp2_with fail
          refine hK.out _ _ ?_ (fun hHeld3 => ?_)
          · exact ⟨below_on hHeld2.1 hb2 (Nat.le_refl _), below_on hHeld2.2.1 hb2 (Nat.le_refl _), cell_keep hb2 hHeld2.2.2.1, cell_keep hb2 hHeld2.2.2.2.1, cell_keep hb2 hHeld2.2.2.2.2⟩
          clear hK K
          try simp only [Act.put, List.getElem_toArray, List.getElem_cons_succ, List.getElem_cons_zero, List.setIfInBounds_toArray, List.set_cons_zero, List.set_cons_succ]
          refine wpAnyH_take (i := 13) (v := ?_) rfl (by kernel_rfl) (by kernel_rfl) (by kernel_rfl) (fun _ _ _ h => h) (Or.inl ⟨by rfl, ?_⟩) (by assumption) ?_
          rotate_left
          · intro w' hSw
            (try dsimp only at hSw)
            go_simp
            first | done | with_reducible rfl | (rw [if_neg (by omega)])
          try simp only [Act.put, List.getElem_toArray, List.getElem_cons_succ, List.getElem_cons_zero, List.setIfInBounds_toArray, List.set_cons_zero, List.set_cons_succ]
          refine wpAnyH_take (i := 14) (v := ?_) rfl (by kernel_rfl) (by kernel_rfl) (by kernel_rfl) (fun _ _ _ h => h) (Or.inl ⟨by rfl, ?_⟩) (by assumption) ?_
          rotate_left
          · intro w' hSw
            (try dsimp only at hSw)
            go_simp
            first | done | with_reducible rfl | (rw [if_neg (by omega)])
          try simp only [Act.put, List.getElem_toArray, List.getElem_cons_succ, List.getElem_cons_zero, List.setIfInBounds_toArray, List.set_cons_zero, List.set_cons_succ]
          refine wpAnyH_done (by kernel_rfl) ?_ _
          go_wp2_with fail
          go_meet
          refine ⟨_, ⟨x.kind, 0, 0, x.n, [], x.mask, x.torn, []⟩, none, 0, 0, none, 0, 0, rfl, linecut_on hcut.out.1 hcut.out.2.1 hcut.out.2.2 hHeld3.1 (lineL_chk (f := ([99, 114, 97, 115, 104], 8, [2, 4, 5])) (by decide) HK.out.symm (by rfl) ⟨x.kind, 0, 0, x.n, [], x.mask, x.torn, []⟩ (by simp [onlyP, putP, ActP.zero, HK.out]) HXL.out HDL.out (Or.inr ⟨rfl, rfl⟩) (Or.inr ⟨rfl, rfl⟩) _ ?_)⟩
          simp [ByteArray.data_append, textOf, wordsOf, joinP, writeP, HDN.out, HDM.out, HDU.out]
    have q8 : (x.kind == 8) = false := by rw [beq_eq_false_iff_ne]; exact hk8
    by_cases hk9 : x.kind = 9
    · as_aux_lemma =>
        have q9 : (x.kind == 9) = true := by rw [hk9]; rfl
        have HK := Lib.hid hk9
        clear hk9
        go_wp2_with fail
        go_meet
        have HH : Hid (Below w.heap.size w W2 ∧ Blk W2 w.heap.size (actCells x nao nl nc dao dl dc) 60 ∧ Blk W2 (w.heap.size + 1) (actCells ⟨x.kind, 0, 0, 0, [], 0, 0, []⟩ none 0 0 none 0 0) 60) := ⟨HB2.out, HA.out, HZ.out⟩
        refine ⟨_, ⟨x.kind, 0, 0, 0, [], 0, 0, []⟩, none, 0, 0, none, 0, 0, rfl, linecut_on HH.out.1 HH.out.2.1 HH.out.2.2 (Below.refl _ _) (lineL_chk (f := ([99, 111, 109, 112, 97, 99, 116], 9, [])) (by decide) HK.out.symm (by rfl) ⟨x.kind, 0, 0, 0, [], 0, 0, []⟩ (by simp [onlyP, putP, ActP.zero, HK.out]) HXL.out HDL.out (Or.inr ⟨rfl, rfl⟩) (Or.inr ⟨rfl, rfl⟩) _ ?_)⟩
        rfl
    have q9 : (x.kind == 9) = false := by rw [beq_eq_false_iff_ne]; exact hk9
    by_cases hk10 : x.kind = 10
    · as_aux_lemma =>
        have q10 : (x.kind == 10) = true := by rw [hk10]; rfl
        have HK := Lib.hid hk10
        clear hk10
        go_upto_region 34 with fail
        go_cut [] (fun wx => Hid (Below w.heap.size w wx ∧ Blk wx w.heap.size (actCells x nao nl nc dao dl dc) 60 ∧ Blk wx (w.heap.size + 1) (actCells ⟨x.kind, x.a, x.b, 0, [], 0, 0, []⟩ none 0 0 none 0 0) 60))
        case first =>
          go_region
          all_goals (go_wp2_with fail; go_meet)
          all_goals first
            | (have hbt : W2.grownBy ((W2.setCell ⟨w.heap.size + 1, 1, none⟩ (.int .i64 x.a)).setCell ⟨w.heap.size + 1, 2, none⟩ (.int .i64 x.b)) (some (w.heap.size + 1)) := (but_trans (but_set _ _ _ _) (but_set _ _ _ _)); have h2 : Blk ((W2.setCell ⟨w.heap.size + 1, 1, none⟩ (.int .i64 x.a)).setCell ⟨w.heap.size + 1, 2, none⟩ (.int .i64 x.b)) (w.heap.size + 1) (actCells ⟨x.kind, x.a, x.b, 0, [], 0, 0, []⟩ none 0 0 none 0 0) 60 := (by have h := ((HZ.out.set 1 (.int .i64 x.a)).set 2 (.int .i64 x.b)); simpa [actCells, ActP.zero] using h); have hA2 := HA.out.but hbt (by omega : w.heap.size ≠ w.heap.size + 1); have hb9 := HB2.out.trans (below_of_but hbt (by omega) HB2.out.size); exact ⟨⟨hb9.os, hb9.tape, hb9.output, hb9.size, hb9.block⟩, hA2, h2⟩)
            | (have hbt : W2.grownBy ((W2.setCell ⟨w.heap.size + 1, 2, none⟩ (.int .i64 x.b)).setCell ⟨w.heap.size + 1, 1, none⟩ (.int .i64 x.a)) (some (w.heap.size + 1)) := (but_trans (but_set _ _ _ _) (but_set _ _ _ _)); have h2 : Blk ((W2.setCell ⟨w.heap.size + 1, 2, none⟩ (.int .i64 x.b)).setCell ⟨w.heap.size + 1, 1, none⟩ (.int .i64 x.a)) (w.heap.size + 1) (actCells ⟨x.kind, x.a, x.b, 0, [], 0, 0, []⟩ none 0 0 none 0 0) 60 := (by have h := ((HZ.out.set 2 (.int .i64 x.b)).set 1 (.int .i64 x.a)); simpa [actCells, ActP.zero] using h); have hA2 := HA.out.but hbt (by omega : w.heap.size ≠ w.heap.size + 1); have hb9 := HB2.out.trans (below_of_but hbt (by omega) HB2.out.size); exact ⟨⟨hb9.os, hb9.tape, hb9.output, hb9.size, hb9.block⟩, hA2, h2⟩)
        case rest =>
          clear a0 z0 f0 a1 z1 f1 a2 z2 f2 a3 z3 f3 a4 z4 f4 a5 z5 f5 a6 z6 f6 a7 z7 f7
          have c1 := hcut.out.2.1.cell 1
          have c2 := hcut.out.2.1.cell 2
          simp [actCells] at c1 c2
          have hb0 : Below wc.heap.size wc wc.drew := Below.drew (Below.refl _ _)
          have hb00 := hcut.out.1
          have hbw : Below w.heap.size w wc.drew := hb00.drew
          clear hb00
          go_upto_region 35 with fail
          refine wp_region_held_drew (S := fun w' => Below wc.heap.size wc w' ∧ Below w.heap.size w w' ∧ w'.cell? ⟨w.heap.size, 1, none⟩ = some (.int .i64 x.a) ∧ w'.cell? ⟨w.heap.size, 2, none⟩ = some (.int .i64 x.b)) (by kernel_rfl) ?_ (fun hHeld0 => ?_)
          · exact ⟨hb0, hbw, c1, c2⟩
          refine wpAnyH_take (i := 0) (v := ?_) rfl (by kernel_rfl) (by kernel_rfl) (by kernel_rfl) (fun _ _ _ h => h) (Or.inl ⟨by rfl, ?_⟩) (by assumption) ?_
          rotate_left
          · intro w' hSw
            (try dsimp only at hSw)
            go_simp
            first | done | with_reducible rfl | (rw [if_neg (by omega)])
          try simp only [Act.put, List.getElem_toArray, List.getElem_cons_zero, List.setIfInBounds_toArray, List.set_cons_zero, List.set_cons_succ]
          refine wpAnyH_take (i := 1) (v := ?_) rfl (by kernel_rfl) (by kernel_rfl) (by kernel_rfl) (fun _ _ _ h => h) (Or.inl ⟨by rfl, ?_⟩) (by assumption) ?_
          rotate_left
          · intro w' hSw
            (try dsimp only at hSw)
            go_simp
            first | done | with_reducible rfl | (rw [if_neg (by omega)])
          try simp only [Act.put, List.getElem_toArray, List.getElem_cons_succ, List.getElem_cons_zero, List.setIfInBounds_toArray, List.set_cons_zero, List.set_cons_succ]
          refine wpAnyH_take (i := 5) (v := ?_) rfl (by kernel_rfl) (by kernel_rfl) (by kernel_rfl) (fun _ _ _ h => h) (Or.inl ⟨by rfl, ?_⟩) (by assumption) ?_
          rotate_left
          · intro w' hSw
            (try dsimp only at hSw)
            go_simp
            first | done | with_reducible rfl | (rw [if_neg (by omega)])
          try simp only [Act.put, List.getElem_toArray, List.getElem_cons_succ, List.getElem_cons_zero, List.setIfInBounds_toArray, List.set_cons_zero, List.set_cons_succ]
          refine wpAnyH_take (i := 6) (v := ?_) rfl (by kernel_rfl) (by kernel_rfl) (by kernel_rfl) (fun _ _ _ h => h) (Or.inl ⟨by rfl, ?_⟩) (by assumption) ?_
          rotate_left
          · intro w' hSw
            (try dsimp only at hSw)
            go_simp
            first | done | with_reducible rfl | (rw [if_neg (by omega)])
          try simp only [Act.put, List.getElem_toArray, List.getElem_cons_succ, List.getElem_cons_zero, List.setIfInBounds_toArray, List.set_cons_zero, List.set_cons_succ]
          refine wpAnyH_ready (rs := [2]) (by kernel_rfl) (by simp) ?_
          refine AllReadyH.cons rfl (fun K hK => ?_) AllReadyH.nil
          go_simp
          refine (HCA.out _).mono ?_
          rintro e w2 ⟨rfl, hb2⟩
          go_wp2_with fail
          refine hK.out _ _ ?_ (fun hHeld1 => ?_)
          · exact ⟨below_on hHeld0.1 hb2 (Nat.le_refl _), below_on hHeld0.2.1 hb2 (Nat.le_refl _), cell_keep hb2 hHeld0.2.2.1, cell_keep hb2 hHeld0.2.2.2⟩
          clear hK K
          try simp only [Act.put, List.getElem_toArray, List.getElem_cons_succ, List.getElem_cons_zero, List.setIfInBounds_toArray, List.set_cons_zero, List.set_cons_succ]
          refine wpAnyH_take (i := 3) (v := ?_) rfl (by kernel_rfl) (by kernel_rfl) (by kernel_rfl) (fun _ _ _ h => h) (Or.inl ⟨by rfl, ?_⟩) (by assumption) ?_
          rotate_left
          · intro w' hSw
            (try dsimp only at hSw)
            go_simp
            first | done | with_reducible rfl | (rw [if_neg (by omega)])
          try simp only [Act.put, List.getElem_toArray, List.getElem_cons_succ, List.getElem_cons_zero, List.setIfInBounds_toArray, List.set_cons_zero, List.set_cons_succ]
          refine wpAnyH_take (i := 4) (v := ?_) rfl (by kernel_rfl) (by kernel_rfl) (by kernel_rfl) (fun _ _ _ h => h) (Or.inl ⟨by rfl, ?_⟩) (by assumption) ?_
          rotate_left
          · intro w' hSw
            (try dsimp only at hSw)
            go_simp
            first | done | with_reducible rfl | (rw [if_neg (by omega)])
          try simp only [Act.put, List.getElem_toArray, List.getElem_cons_succ, List.getElem_cons_zero, List.setIfInBounds_toArray, List.set_cons_zero, List.set_cons_succ]
          refine wpAnyH_ready (rs := [7]) (by kernel_rfl) (by simp) ?_
          refine AllReadyH.cons rfl (fun K hK => ?_) AllReadyH.nil
          go_simp
          refine (HCB.out _).mono ?_
          rintro e w2 ⟨rfl, hb2⟩
          go_wp2_with fail
          refine hK.out _ _ ?_ (fun hHeld2 => ?_)
          · exact ⟨below_on hHeld1.1 hb2 (Nat.le_refl _), below_on hHeld1.2.1 hb2 (Nat.le_refl _), cell_keep hb2 hHeld1.2.2.1, cell_keep hb2 hHeld1.2.2.2⟩
          clear hK K
          try simp only [Act.put, List.getElem_toArray, List.getElem_cons_succ, List.getElem_cons_zero, List.setIfInBounds_toArray, List.set_cons_zero, List.set_cons_succ]
          refine wpAnyH_take (i := 8) (v := ?_) rfl (by kernel_rfl) (by kernel_rfl) (by kernel_rfl) (fun _ _ _ h => h) (Or.inl ⟨by rfl, ?_⟩) (by assumption) ?_
          rotate_left
          · intro w' hSw
            (try dsimp only at hSw)
            go_simp
            first | done | with_reducible rfl | (rw [if_neg (by omega)])
          try simp only [Act.put, List.getElem_toArray, List.getElem_cons_succ, List.getElem_cons_zero, List.setIfInBounds_toArray, List.set_cons_zero, List.set_cons_succ]
          refine wpAnyH_take (i := 9) (v := ?_) rfl (by kernel_rfl) (by kernel_rfl) (by kernel_rfl) (fun _ _ _ h => h) (Or.inl ⟨by rfl, ?_⟩) (by assumption) ?_
          rotate_left
          · intro w' hSw
            (try dsimp only at hSw)
            go_simp
            first | done | with_reducible rfl | (rw [if_neg (by omega)])
          try simp only [Act.put, List.getElem_toArray, List.getElem_cons_succ, List.getElem_cons_zero, List.setIfInBounds_toArray, List.set_cons_zero, List.set_cons_succ]
          refine wpAnyH_done (by kernel_rfl) ?_ _
          go_wp2_with fail
          go_meet
          refine ⟨_, ⟨x.kind, x.a, x.b, 0, [], 0, 0, []⟩, none, 0, 0, none, 0, 0, rfl, linecut_on hcut.out.1 hcut.out.2.1 hcut.out.2.2 hHeld2.1 (lineL_chk (f := ([100, 101, 97, 100], 10, [0, 1])) (by decide) HK.out.symm (by rfl) ⟨x.kind, x.a, x.b, 0, [], 0, 0, []⟩ (by simp [onlyP, putP, ActP.zero, HK.out]) HXL.out HDL.out (Or.inr ⟨rfl, rfl⟩) (Or.inr ⟨rfl, rfl⟩) _ ?_)⟩
          simp [ByteArray.data_append, textOf, wordsOf, joinP, writeP, HDA.out, HDB.out]
    have q10 : (x.kind == 10) = false := by rw [beq_eq_false_iff_ne]; exact hk10
    have HN : Hid (lineL x = none) := lineL_none (by
      intro f hf
      have : ∀ f ∈ formsP, f.2.1 = 1 ∨ f.2.1 = 2 ∨ f.2.1 = 3 ∨ f.2.1 = 4 ∨ f.2.1 = 5 ∨ f.2.1 = 6 ∨ f.2.1 = 7 ∨ f.2.1 = 8 ∨ f.2.1 = 9 ∨ f.2.1 = 10 := by decide
      have := this f hf
      omega)
    clear hk1 hk2 hk3 hk4 hk5 hk6 hk7 hk8 hk9 hk10
    go_wp2_with fail
    go_ret2
    refine ⟨HB2.out, ?_⟩
    rw [HN.out]
    rfl
  case rest => as_aux_lemma =>
    clear hW2
    obtain ⟨T, z, zn, znl, znc, zd, zdl, zdc, rfl, hcut⟩ := hcut
    have a1 := hcut.out.2.1.cell 1
    have z1 := hcut.out.2.2.1.cell 1
    have a2 := hcut.out.2.1.cell 2
    have z2 := hcut.out.2.2.1.cell 2
    have a3 := hcut.out.2.1.cell 3
    have z3 := hcut.out.2.2.1.cell 3
    have a4 := hcut.out.2.1.cell 4
    have z4 := hcut.out.2.2.1.cell 4
    have a5 := hcut.out.2.1.cell 5
    have z5 := hcut.out.2.2.1.cell 5
    have a6 := hcut.out.2.1.cell 6
    have z6 := hcut.out.2.2.1.cell 6
    have a7 := hcut.out.2.1.cell 7
    have z7 := hcut.out.2.2.1.cell 7
    simp [actCells] at a1 z1 a2 z2 a3 z3 a4 z4 a5 z5 a6 z6 a7 z7
    by_cases h1 : z.a = x.a
    rotate_left
    · have g1 : (z.a != x.a) = true := by rw [bne_iff_ne]; intro h; apply h1; exact h
      have HN : Hid (lineL x = none) := by show _ = _; rw [hcut.out.2.2.2, if_neg (fun h => h1 h.1)]
      clear h1
      go_wp2_with fail
      go_ret2
      refine ⟨hcut.out.1, ?_⟩
      rw [HN.out]
      rfl
    have g1 : (z.a != x.a) = false := by rw [h1]; simp
    have H1 := Lib.hid h1
    clear h1
    by_cases h2 : z.b = x.b
    rotate_left
    · have g2 : (z.b != x.b) = true := by rw [bne_iff_ne]; intro h; apply h2; exact h
      have HN : Hid (lineL x = none) := by show _ = _; rw [hcut.out.2.2.2, if_neg (fun h => h2 h.2.1)]
      clear h2
      go_wp2_with fail
      go_ret2
      refine ⟨hcut.out.1, ?_⟩
      rw [HN.out]
      rfl
    have g2 : (z.b != x.b) = false := by rw [h2]; simp
    have H2 := Lib.hid h2
    clear h2
    by_cases h3 : z.n = x.n
    rotate_left
    · have g3 : (z.n != x.n) = true := by rw [bne_iff_ne]; intro h; apply h3; exact h
      have HN : Hid (lineL x = none) := by show _ = _; rw [hcut.out.2.2.2, if_neg (fun h => h3 h.2.2.1)]
      clear h3
      go_wp2_with fail
      go_ret2
      refine ⟨hcut.out.1, ?_⟩
      rw [HN.out]
      rfl
    have g3 : (z.n != x.n) = false := by rw [h3]; simp
    have H3 := Lib.hid h3
    clear h3
    by_cases h4 : znl = nl
    rotate_left
    · have g4 : ((znl : Int) != (nl : Int)) = true := by rw [bne_iff_ne]; intro h; apply h4; exact_mod_cast h
      have HN : Hid (lineL x = none) := by show _ = _; rw [hcut.out.2.2.2, if_neg (fun h => h4 h.2.2.2.1)]
      clear h4
      go_wp2_with fail
      go_ret2
      refine ⟨hcut.out.1, ?_⟩
      rw [HN.out]
      rfl
    have g4 : ((znl : Int) != (nl : Int)) = false := by rw [h4]; simp
    have H4 := Lib.hid h4
    clear h4
    by_cases h5 : z.mask = x.mask
    rotate_left
    · have g5 : ((z.mask : Int) != (x.mask : Int)) = true := by rw [bne_iff_ne]; intro h; apply h5; exact_mod_cast h
      have HN : Hid (lineL x = none) := by show _ = _; rw [hcut.out.2.2.2, if_neg (fun h => h5 h.2.2.2.2.1)]
      clear h5
      go_wp2_with fail
      go_ret2
      refine ⟨hcut.out.1, ?_⟩
      rw [HN.out]
      rfl
    have g5 : ((z.mask : Int) != (x.mask : Int)) = false := by rw [h5]; simp
    have H5 := Lib.hid h5
    clear h5
    by_cases h6 : z.torn = x.torn
    rotate_left
    · have g6 : ((z.torn : Int) != (x.torn : Int)) = true := by rw [bne_iff_ne]; intro h; apply h6; exact_mod_cast h
      have HN : Hid (lineL x = none) := by show _ = _; rw [hcut.out.2.2.2, if_neg (fun h => h6 h.2.2.2.2.2.1)]
      clear h6
      go_wp2_with fail
      go_ret2
      refine ⟨hcut.out.1, ?_⟩
      rw [HN.out]
      rfl
    have g6 : ((z.torn : Int) != (x.torn : Int)) = false := by rw [h6]; simp
    have H6 := Lib.hid h6
    clear h6
    by_cases h7 : zdl = dl
    rotate_left
    · have g7 : ((zdl : Int) != (dl : Int)) = true := by rw [bne_iff_ne]; intro h; apply h7; exact_mod_cast h
      have HN : Hid (lineL x = none) := by show _ = _; rw [hcut.out.2.2.2, if_neg (fun h => h7 h.2.2.2.2.2.2)]
      clear h7
      go_wp2_with fail
      go_ret2
      refine ⟨hcut.out.1, ?_⟩
      rw [HN.out]
      rfl
    have g7 : ((zdl : Int) != (dl : Int)) = false := by rw [h7]; simp
    have H7 := Lib.hid h7
    clear h7
    have HN : Hid (lineL x = some T.data.toList) := by show _ = _; rw [hcut.out.2.2.2, if_pos ⟨H1.out, H2.out, H3.out, H4.out, H5.out, H6.out, H7.out⟩]
    go_wp2_with fail
    go_ret2
    refine ⟨hcut.out.1, ?_⟩
    rw [HN.out]
    rfl
end Go.Proofs.YtipbakdodbmfjaaGreatDoor

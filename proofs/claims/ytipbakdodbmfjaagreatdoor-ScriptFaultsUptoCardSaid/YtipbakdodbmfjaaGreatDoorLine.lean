/- The contract of script.Line: which line an act is. -/
import Derived.Test.YtipbakdodbmfjaaGreatDoorSame
import Derived.Test.YtipbakdodbmfjaaGreatDoorLineLen
namespace Go.Proofs.YtipbakdodbmfjaaGreatDoor
open Go.ChangeShapes Go.WideShapes Go.ChangeAt Go.RowKit

theorem lineS_none {x : ActP} (h : ∀ j (hj : j < formsP.length), formsP[j].2.1 = x.kind → lineS x = none) : lineS x = none := by
  cases hf : formOf x with
  | none => unfold lineS; rw [hf]
  | some f =>
    obtain ⟨hm, hk⟩ := formOf_mem hf
    obtain ⟨j, hj, rfl⟩ := List.getElem_of_mem hm
    exact h j hj hk
theorem lineS_form {x : ActP} {f : Form} (hf : f ∈ formsP) (hk : f.2.1 = x.kind) : lineS x = match actP (textOf f x) with | some y => if sameP x y then some (textOf f x) else none | none => none := by
  have h : formOf x = some f := by unfold formOf; rw [← hk]; exact (forms_kinds f hf).1
  unfold lineS
  rw [h]
  rfl
/-- the words that are written when j fields are -/
def wordsN (f : Form) (x : ActP) (j : Nat) : List ByteArray := ⟨f.1.toArray⟩ :: (f.2.2.take j).map fun g => ⟨(writeP g x).toArray⟩
theorem wordsN_len (f : Form) (x : ActP) (j : Nat) (h : j ≤ f.2.2.length) : (wordsN f x j).length = j + 1 := by simp [wordsN]; omega
theorem wordsN_succ (f : Form) (x : ActP) (j : Nat) (h : j < f.2.2.length) : wordsN f x (j + 1) = wordsN f x j ++ [⟨(writeP f.2.2[j] x).toArray⟩] := by
  unfold wordsN
  rw [List.take_succ_eq_append_getElem h, List.map_append]
  rfl
theorem wordsN_all (f : Form) (x : ActP) : (wordsN f x f.2.2.length).map (fun s => s.data.toList) = wordsOf f x := by
  simp [wordsN, wordsOf]
/-- a literal of one element is the call's own -/
theorem owns_one (w : World) (base : Nat) (x : Value) (e : TypeId) (h : base ≤ w.heap.size) : (w.alloc (.cells #[x] e)).ownsRow base e 1 (.slice (some ⟨w.heap.size, 0, none⟩) 1 1) 1 [x] := by
  refine ⟨rfl, Or.inr ⟨w.heap.size, 1, #[x], rfl, h, heap_alloc_new w _, Nat.le_refl _, by unfold maxLen; omega, rfl, rfl⟩⟩
/-- what a row of strings of the call's own is -/
theorem strs_own {w : World} {base : Nat} {ss : List ByteArray} {n : Nat} {v : Value} (h : w.ownsRow base 9 1 v n (ss.map .string)) (h0 : 0 < n) (hn : n ≤ 1000) (hm : ∀ s ∈ ss, s.size ≤ 9223372036854775807) :
    ∃ g cap, v = .slice (some ⟨g, 0, none⟩) n cap ∧ Strs w (some ⟨g, 0, none⟩) n cap ss := by
  obtain ⟨hl, h⟩ := h
  rcases h with ⟨_, h⟩ | ⟨g, cap, cur, e, _, hb, hn', hc, hs, ht⟩
  · omega
  · refine ⟨g, cap, e, ⟨⟨by simpa using hl, hn', by simpa [maxLen] using hc, by omega, fun e => (by cases e), fun _ => ⟨g, 0, rfl, fun i hi => ?_⟩⟩, hm⟩⟩
    have h2 : (ss.map Value.string)[i]? = (cur.toList.take (n * 1))[i]? := by rw [ht]
    rw [Nat.zero_add, Lib.cell_of_heap hb, ← List.getElem?_eq_getElem hi, h2, List.getElem?_take, if_pos (by omega)]
    simp
/-- what Line hands back -/
def LineRes (w : World) (r : Option (List UInt8)) (e : Ending) (w' : World) : Prop :=
  Below w.heap.size w w' ∧ e = .returned (.tuple #[.string ⟨(r.getD []).toArray⟩, .bool r.isSome])
set_option maxHeartbeats 4000000 in
set_option maxRecDepth 100000 in
theorem line_any (w : World) (x : ActP) (nao : Option Addr) (nl nc : Nat) (dao : Option Addr) (dl dc : Nat) (hnx : Strs w nao nl nc x.name) (hdx : Byts w dao dl dc x.data) (hl : ActLight x)
    (hsz : 4 * (4 * sizeN x.name + 2 * x.data.length + 33) ≤ 1000000000) (hE : Env w) :
    Calls Tryz.prog 34 #[.agg (actCells x nao nl nc dao dl dc)] w (LineRes w (lineS x)) := by
  have hR0 : Below w.heap.size w (w.alloc (.cells (actCells x nao nl nc dao dl dc) 60)) := (Below.refl _ _).alloc (Nat.le_refl _) _
  have hRB : Blk (w.alloc (.cells (actCells x nao nl nc dao dl dc) 60)) w.heap.size (actCells x nao nl nc dao dl dc) 60 := heap_alloc_new w _
  have HE0 := Lib.hid (hE.on hR0)
  have HN0 := Lib.hid (hnx.below hR0 (Nat.le_refl _))
  have HD0 := Lib.hid (hdx.below hR0 (Nat.le_refl _))
  have HR0 := Lib.hid hR0
  have HRB := Lib.hid hRB
  have HL := Lib.hid hl
  have HSZ := Lib.hid hsz
  clear hR0 hRB hnx hdx hl hsz hE
  go_enter Tryz.func34, Tryz.ntmps34
  simp only [actCells]
  go_wp2_with fail
  refine (forms_res _).mono ?_
  rintro e w2 ⟨G, rfl, hb2, hF⟩
  have HRB2 := Lib.hid (HRB.out.on hb2)
  have HE2 := Lib.hid (HE0.out.on hb2)
  have HN2 := Lib.hid (HN0.out.below hb2 (Nat.le_refl _))
  have HD2 := Lib.hid (HD0.out.below hb2 (Nat.le_refl _))
  have HB2 := Lib.hid (below_on HR0.out hb2 (Nat.le_refl _))
  have HF := Lib.hid hF
  clear hb2 hF HE0 HRB HR0 HN0 HD0
  go_wp2_with fail
  go_loopw [14] (fun iv wr => ∃ k : Nat, k ≤ 10 ∧ iv = .int .i64 k ∧ Below w2.heap.size w2 wr ∧ Hid (∀ j (hj : j < formsP.length), j < k → formsP[j].2.1 = x.kind → lineS x = none)) (fun iv _ => 10 - (intOf iv).toNat)
  case atStart => exact ⟨0, Nat.zero_le _, rfl, Below.refl _ _, fun j hj h => absurd h (by omega)⟩
  case round =>
    obtain ⟨k, hk, rfl, hbr, hno⟩ := hrel
    by_cases hlt : k < 10
    · have hlt' : k < formsP.length := hlt
      have hmem : formsP[k] ∈ formsP := List.getElem_mem hlt'
      obtain ⟨fo, c0, c1, c2, hrow⟩ := (HF.out.on hbr) k hlt'
      obtain ⟨f, hfe⟩ : ∃ f, f = formsP[k] := ⟨_, rfl⟩
      rw [← hfe] at c0 c1 c2 hrow hmem
      have HFE := Lib.hid hfe
      clear hfe
      obtain ⟨fw, hfw⟩ : ∃ x : ByteArray, x = ⟨f.1.toArray⟩ := ⟨_, rfl⟩
      obtain ⟨kd, hkd⟩ : ∃ x, x = f.2.1 := ⟨_, rfl⟩
      obtain ⟨fl, hfl⟩ : ∃ x, x = f.2.2.length := ⟨_, rfl⟩
      rw [← hfw] at c0
      rw [← hkd] at c1
      rw [← hfl] at c2 hrow
      have HROW := Lib.hid hrow
      have HFW := Lib.hid hfw
      have HKD := Lib.hid hkd
      have HFL := Lib.hid hfl
      clear hrow hfw hkd hfl
      have hX : Below wr.heap.size wr (wr.alloc (.cells #[.string fw, .int .i64 kd, .slice fo fl fl] 106)) := (Below.refl _ _).alloc (Nat.le_refl _) _
      have g0 := ((HRB2.out.on hbr).on hX).cell 0
      simp [actCells] at g0
      have d0 := World.cell?_alloc_new wr #[.string fw, .int .i64 kd, .slice fo fl fl] 106 0
      have d1 := World.cell?_alloc_new wr #[.string fw, .int .i64 kd, .slice fo fl fl] 106 1
      have d2 := World.cell?_alloc_new wr #[.string fw, .int .i64 kd, .slice fo fl fl] 106 2
      simp at d0 d1 d2
      by_cases hkx : kd = x.kind
      · have hkb : (kd != x.kind) = false := by rw [bne_eq_false_iff_eq]; exact hkx
        have HST := Lib.hid (lineS_form hmem (HKD.out.symm.trans hkx))
        have hX2 : Below (wr.alloc (.cells #[.string fw, .int .i64 kd, .slice fo fl fl] 106)).heap.size (wr.alloc (.cells #[.string fw, .int .i64 kd, .slice fo fl fl] 106)) ((wr.alloc (.cells #[.string fw, .int .i64 kd, .slice fo fl fl] 106)).alloc (.cells #[.string fw] 9)) := (Below.refl _ _).alloc (Nat.le_refl _) _
        have d2' := cell_keep hX2 (World.cell?_alloc_new wr #[.string fw, .int .i64 kd, .slice fo fl fl] 106 2)
        have ho := owns_one (wr.alloc (.cells #[.string fw, .int .i64 kd, .slice fo fl fl] 106)) wr.heap.size (.string fw) 9 (by simp)
        have HO := Lib.hid ho
        have HX2 := Lib.hid (below_on hX hX2 (Nat.le_refl _))
        clear hkx ho hX hX2
        go_wp2_with fail
        have hkd : decide ((k : Int) < 10) = true := by rw [decide_eq_true_eq]; omega
        simp only [hkd]
        go_loopw [6, 29] (fun wv iv w3 => ∃ j : Nat, j ≤ fl ∧ iv = .int .i64 j ∧ Hid (Below wr.heap.size wr w3 ∧ w3.ownsRow wr.heap.size 9 1 wv (j + 1) ((wordsN f x j).map .string))) (fun _ iv _ => fl - (intOf iv).toNat)
        case atStart =>
          refine ⟨0, Nat.zero_le _, rfl, HX2.out, ?_⟩
          have := HO.out
          rw [HFW.out] at this
          simpa [wordsN, HFW.out] using this
        case round =>
          rename World => w3
          obtain ⟨j, hj, rfl, hinv⟩ := hrel
          by_cases hjl : j < fl
          · have hb3 := hinv.out.1
            have hj2 : j < f.2.2.length := by have := HFL.out; omega
            have hrow3 := HROW.out.below hb3 (Nat.le_refl _)
            obtain ⟨b2, off2, rfl⟩ := hrow3.addr (k := j) hjl
            have cf := hrow3.at hjl
            rw [List.getElem_map] at cf
            have hf6 : f.2.2[j] ≤ 6 := fields_le f hmem _ (List.getElem_mem hj2)
            have hwn := wordsN_succ f x j hj2
            obtain ⟨fj, hfj⟩ : ∃ y, y = f.2.2[j] := ⟨_, rfl⟩
            rw [← hfj] at cf hf6 hwn
            unfold fieldV at cf
            have hbw := below_on hbr hb3 (Nat.le_refl _)
            have hcall := write_any w3 fj w.heap.size x nao nl nc dao dl dc hf6 (HE2.out.on hbw) (HRB2.out.on hbw) (HN2.out.below hbw (Nat.le_refl _)) (HD2.out.below hbw (Nat.le_refl _)) HL.out
            obtain ⟨wj, hwj⟩ : ∃ z : ByteArray, z = ⟨(writeP fj x).toArray⟩ := ⟨_, rfl⟩
            rw [← hwj] at hcall hwn
            have HCALL := Lib.hid hcall
            have HWN := Lib.hid hwn
            clear hcall hwn hwj hfj hf6 hbw hrow3 hb3
            go_wp2_with fail
            refine HCALL.out.mono ?_
            rintro e w4 ⟨rfl, hb4⟩
            obtain ⟨i0, hi, hz0, hz1, hz2⟩ := info_parts strInfo
            have hb5 := below_on hinv.out.1 hb4 (Nat.le_refl _)
            have hfl3 := (forms_small f hmem).2
            have hj3 : j < 3 := by have := HFL.out; omega
            obtain ⟨v', w5, hrun, hown5, _, hb6⟩ := append_one (P := Tryz.prog) w4 wr wr.heap.size 30 30 9 i0 _ 16 Tryz.underlying30 hi hz0 hz1 hz2 rfl _ _ _ (owns_keep hinv.out.2 hb4) (.string wj) rfl (by omega) (by omega) hb5 hb5.size
            have HR := Lib.hid hrun
            have HO5 : Hid (w5.ownsRow wr.heap.size 9 1 v' (j + 1 + 1) ((wordsN f x (j + 1)).map .string)) := by
              show w5.ownsRow _ _ _ _ _ _
              rw [HWN.out, List.map_append]
              exact hown5
            have HB6 := Lib.hid hb6
            clear hrun hown5 hb6 hi hz0 hz1 hz2 hb5 hfl3
            go_wp2_with (at_builtin; refine wpList_append_run rfl _ _ _ rfl _ _ rfl rfl HR.out ?_)
            go_roundw
            case rel => exact ⟨j + 1, by omega, by go_num, HB6.out, HO5.out⟩
            case measure => simp [intOf]; omega
          · have hjf : j = fl := by omega
            subst hjf
            have hb3 := hinv.out.1
            have hfl3 := (forms_small f hmem).2
            have hwl : (wordsN f x j).length = j + 1 := wordsN_len f x j (by have := HFL.out; omega)
            have htl := text_len f hmem x HL.out.fits
            obtain ⟨g, cap, hwv, hS⟩ := strs_own hinv.out.2 (by omega) (by have := HFL.out; omega) (by
              intro s hs
              unfold wordsN at hs
              rcases List.mem_cons.1 hs with rfl | hs
              · have := (forms_small f hmem).1
                simp [ByteArray.size]; omega
              · rw [List.mem_map] at hs
                obtain ⟨gg, _, rfl⟩ := hs
                have := write_len gg x HL.out.fits
                have := HSZ.out
                simp [ByteArray.size]; omega)
            have hjoin : Lib.join ((wordsN f x j).map (·.data.toList)) (⟨#[32]⟩ : ByteArray).data.toList = textOf f x := by
              rw [HFL.out, wordsN_all]
              exact join_one 32 _
            have hcall := Tryz.strings_Join g 0 cap (wordsN f x j) ⟨#[32]⟩ w3 (by
              intro i y hy
              obtain ⟨hi, e⟩ := List.getElem?_eq_some_iff.1 hy
              have h1 := hS.at (i := i) (by omega)
              rw [h1, e]) (hS.row.lt (by omega)) (by rw [hwl]; have := HFL.out; omega) (by rw [hwl]; exact hS.row.hle) (by rw [hjoin]; have := HSZ.out; omega)
            rw [hjoin, hwl] at hcall
            obtain ⟨T, hT⟩ : ∃ z : ByteArray, z = ⟨(textOf f x).toArray⟩ := ⟨_, rfl⟩
            rw [← hT] at hcall
            have hTl : T.data.toList = textOf f x := by rw [hT]
            have hTs : T.size ≤ 1000000000 := by rw [hT]; simp [ByteArray.size]; have := HSZ.out; omega
            have HCALL := Lib.hid hcall
            have HT := Lib.hid hT
            have HTL := Lib.hid hTl
            have HTS := Lib.hid hTs
            have HB3 := Lib.hid hb3
            clear hcall hT hTl hTs hb3 hfl3 hwl htl hjoin hS
            subst hwv
            go_wp2_with fail
            refine HCALL.out.mono ?_
            rintro e w4 ⟨rfl, hb4⟩
            have HB4 := Lib.hid (below_on hbr (below_on HB3.out hb4 (Nat.le_refl _)) (Nat.le_refl _))
            clear hb4
            have hact := act_any w4 T HTS.out (HE2.out.on HB4.out)
            rw [HTL.out] at hact
            have HACT := Lib.hid hact
            clear hact
            go_wp2_with fail
            refine HACT.out.mono ?_
            rintro e w5 ⟨hb5, hres⟩
            have HB5 := Lib.hid (below_on HB4.out hb5 (Nat.le_refl _))
            clear hb5
            cases hq : actP (textOf f x) with
            | none =>
              rw [hq] at hres
              simp only [actCells, ActP.zero] at hres
              subst hres
              have hst : lineS x = none := by rw [HST.out, hq]
              have HNO : Hid (∀ j (hj : j < formsP.length), j < k + 1 → formsP[j].2.1 = x.kind → lineS x = none) := fun _ _ _ _ => hst
              clear hst hq
              have HW6 : Hid (Below w2.heap.size w2 (w5.alloc (.cells #[.int .i64 0, .int .i64 0, .int .i64 0, .int .i64 0, .slice none 0 0, .int .u64 0, .int .u64 0, .slice none 0 0] 60))) := HB5.out.alloc HB5.out.size _
              go_wp2_with fail
              go_roundw
              case rel => exact ⟨k + 1, by omega, by go_num, HW6.out, HNO.out⟩
              case measure => simp [intOf]; omega
            | some y =>
              rw [hq] at hres
              obtain ⟨nao2, nl2, nc2, dao2, dl2, dc2, rfl, hn5, hd5⟩ := hres
              have hst : lineS x = if sameP x y then some (textOf f x) else none := by rw [HST.out, hq]
              have hB6 : Below w5.heap.size w5 (w5.alloc (.cells (actCells y nao2 nl2 nc2 dao2 dl2 dc2) 60)) := (Below.refl _ _).alloc (Nat.le_refl _) _
              have hA6 := (HRB2.out.on HB5.out).on hB6
              have hB7 : Blk (w5.alloc (.cells (actCells y nao2 nl2 nc2 dao2 dl2 dc2) 60)) w5.heap.size (actCells y nao2 nl2 nc2 dao2 dl2 dc2) 60 := heap_alloc_new w5 _
              have hsame := same_any (w5.alloc (.cells (actCells y nao2 nl2 nc2 dao2 dl2 dc2) 60)) x y nao nl nc dao dl dc nao2 nl2 nc2 dao2 dl2 dc2
                ((HN2.out.below HB5.out (Nat.le_refl _)).below hB6 (Nat.le_refl _)) ((HD2.out.below HB5.out (Nat.le_refl _)).below hB6 (Nat.le_refl _)) (hn5.below hB6 (Nat.le_refl _)) (hd5.below hB6 (Nat.le_refl _))
              have HBW := Lib.hid (below_on HB5.out hB6 (Nat.le_refl _))
              have a0 := hA6.cell 0
              have b0 := hB7.cell 0
              have a1 := hA6.cell 1
              have b1 := hB7.cell 1
              have a2 := hA6.cell 2
              have b2 := hB7.cell 2
              have a3 := hA6.cell 3
              have b3 := hB7.cell 3
              have a4 := hA6.cell 4
              have b4 := hB7.cell 4
              have a5 := hA6.cell 5
              have b5 := hB7.cell 5
              have a6 := hA6.cell 6
              have b6 := hB7.cell 6
              have a7 := hA6.cell 7
              have b7 := hB7.cell 7
              simp [actCells] at a0 b0 a1 b1 a2 b2 a3 b3 a4 b4 a5 b5 a6 b6 a7 b7
              simp only [actCells] at hsame
              have HSAME := Lib.hid hsame
              have HST2 := Lib.hid hst
              clear hst hq hB6 hA6 hB7 hsame hn5 hd5
              simp only [actCells]
              go_wp2_with fail
              refine HSAME.out.mono ?_
              rintro e w7 ⟨rfl, hb7⟩
              have HB7 := Lib.hid (below_on HBW.out hb7 (Nat.le_refl _))
              clear hb7 HSAME
              cases hq : sameP x y
              · have HNO : Hid (∀ j (hj : j < formsP.length), j < k + 1 → formsP[j].2.1 = x.kind → lineS x = none) := fun _ _ _ _ => by rw [HST2.out, hq]; rfl
                clear hq
                go_wp2_with fail
                go_roundw
                case rel => exact ⟨k + 1, by omega, by go_num, HB7.out, HNO.out⟩
                case measure => simp [intOf]; omega
              · have HR : Hid (lineS x = some (textOf f x)) := by show _ = _; rw [HST2.out, hq]; rfl
                clear hq
                go_wp2_with fail
                go_ret2
                refine ⟨below_on HB2.out HB7.out (Nat.le_refl _), ?_⟩
                rw [HR.out, HT.out]
                rfl
      · have hkb : (kd != x.kind) = true := by rw [bne_iff_ne]; exact hkx
        have HNO : Hid (∀ j (hj : j < formsP.length), j < k + 1 → formsP[j].2.1 = x.kind → lineS x = none) := by
          intro j hj h hkj
          rcases Nat.lt_succ_iff_lt_or_eq.1 h with h | rfl
          · exact hno.out j hj h hkj
          · rw [← HFE.out, ← HKD.out] at hkj; exact absurd hkj hkx
        clear hkx
        go_wp2_with fail
        go_roundw
        case rel => exact ⟨k + 1, by omega, by go_num, below_on hbr hX (Nat.le_refl _), HNO.out⟩
        case measure => simp [intOf]; omega
    · have hk10 : k = 10 := by omega
      have hnone : lineS x = none := lineS_none fun j hj hkj => hno.out j hj (by have h10 : j < 10 := hj; omega) hkj
      have HNONE := Lib.hid hnone
      clear hk10 hnone
      go_wp2_with fail
      go_ret2
      refine ⟨below_on HB2.out hbr (Nat.le_refl _), ?_⟩
      rw [HNONE.out]
      rfl
end Go.Proofs.YtipbakdodbmfjaaGreatDoor

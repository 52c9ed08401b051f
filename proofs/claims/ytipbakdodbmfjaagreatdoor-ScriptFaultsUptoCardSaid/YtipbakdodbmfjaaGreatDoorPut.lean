/- The contract of script.Put: a list of acts as a text. -/
import Derived.Test.YtipbakdodbmfjaaGreatDoorLine
import Derived.Test.YtipbakdodbmfjaaGreatDoorActs
import Derived.Test.YtipbakdodbmfjaaGreatDoorRtext
import Derived.Test.YtipbakdodbmfjaaGreatDoorDec
namespace Go.Proofs.YtipbakdodbmfjaaGreatDoor
open Go.ChangeShapes Go.WideShapes Go.ChangeAt Go.RowKit

/-- an act whose line fits -/
structure ActFit (x : ActP) : Prop where
  light : ActLight x
  size : 4 * (4 * sizeN x.name + 2 * x.data.length + 33) ≤ 1000000
/-- what Put hands back -/
def PutRes (w : World) (xs : List ActP) (e : Ending) (w' : World) : Prop :=
  Below w.heap.size w w' ∧
  (((∃ x ∈ xs, lineS x = none) ∧ e = .returned (.tuple #[.string ⟨#[]⟩, .int .i64 1])) ∨
   ∃ ts : List (List UInt8), xs.map lineS = ts.map some ∧ e = .returned (if 262144 < (scriptT ts).length then .tuple #[.string ⟨#[]⟩, .int .i64 4] else .tuple #[.string ⟨(scriptT ts).toArray⟩, .int .i64 0]))
theorem scriptT_snoc (ts : List (List UInt8)) (t : List UInt8) : scriptT (ts ++ [t]) = scriptT ts ++ (t ++ [10]) := by simp [scriptT]
theorem lineS_le {x : ActP} {t : List UInt8} (h : lineS x = some t) (hx : x.fits) : t.length ≤ 4 * (4 * sizeN x.name + 2 * x.data.length + 33) := by
  rw [line_same x hx] at h
  obtain ⟨f, hf, _, rfl⟩ := lineL_form h
  exact text_len f hf x hx
theorem scriptT_le (m : Nat) : ∀ ts : List (List UInt8), (∀ t ∈ ts, t.length ≤ m) → (scriptT ts).length ≤ ts.length * (m + 1)
  | [], _ => by simp [scriptT]
  | t :: ts, h => by
    have ih := scriptT_le m ts (fun u hu => h u (by simp [hu]))
    have h1 := h t (by simp)
    rw [scriptT_cons]
    simp only [List.length_append, List.length_cons]
    rw [Nat.add_mul]
    omega
theorem lines_le : ∀ {xs : List ActP} {ts : List (List UInt8)}, xs.map lineS = ts.map some → (∀ x ∈ xs, ActFit x) → ∀ t ∈ ts, t.length ≤ 1000000
  | [], [], _, _, t, h => by cases h
  | [], _ :: _, h, _, _, _ => by simp at h
  | _ :: _, [], h, _, _, _ => by simp at h
  | x :: xs, u :: ts, h, hf, t, ht => by
    simp only [List.map_cons, List.cons.injEq] at h
    rcases List.mem_cons.1 ht with rfl | ht
    · exact Nat.le_trans (lineS_le h.1 (hf x (by simp)).light.fits) (hf x (by simp)).size
    · exact lines_le h.2 (fun y hy => hf y (by simp [hy])) t ht
set_option maxHeartbeats 4000000 in
set_option maxRecDepth 100000 in
theorem put_any (w : World) (ao : Option Addr) (n c : Nat) (xs : List ActP) (hA : Acts w ao n c xs) (hf : ∀ x ∈ xs, ActFit x) (hn : n ≤ 1000) (hE : Env w) :
    Calls Tryz.prog 38 #[.slice ao n c] w (PutRes w xs) := by
  have hst := bld_start w
  have HA := Lib.hid hA
  have HF := Lib.hid hf
  have HE := Lib.hid hE
  have hc := hA.hmax
  have hle := hA.hle
  have hxl := hA.hlen
  have HXL := Lib.hid hxl
  clear hA hf hE hxl
  go_enter Tryz.func38, Tryz.ntmps38
  go_wp2_with fail
  go_loopw [11] (fun iv wr => ∃ k : Nat, k ≤ n ∧ iv = .int .i64 k ∧ Hid (∃ ts, (xs.take k).map lineS = ts.map some ∧ Bld w.heap.size w.heap.size w (scriptT ts) wr)) (fun iv _ => n - (intOf iv).toNat)
  case atStart => exact ⟨0, Nat.zero_le _, rfl, [], rfl, hst⟩
  case round =>
    obtain ⟨k, hk, rfl, hinv⟩ := hrel
    clear hst
    obtain ⟨ts, hts, hbl⟩ := hinv.out
    have HTS := Lib.hid hts
    have hfk : ∀ x ∈ xs.take k, ActFit x := fun x hx => HF.out x (List.mem_of_mem_take hx)
    have htl : ts.length = k := by
      have := congrArg List.length hts
      simp at this
      have := HXL.out
      omega
    have hsl := scriptT_le 1000000 ts (lines_le hts hfk)
    rw [htl] at hsl
    have hsl2 : k * (1000000 + 1) ≤ 1000 * 1000001 := Nat.mul_le_mul (by omega) (Nat.le_refl _)
    have HSL := Lib.hid (Nat.le_trans hsl hsl2)
    clear hts hinv hfk htl hsl hsl2
    by_cases hlt : k < n
    · have hkx : k < xs.length := by have := HXL.out; omega
      obtain ⟨b, off, rfl, hcell⟩ := (HA.out.on hbl.bel).hcells (by omega)
      obtain ⟨nao, nl, nc, dao, dl, dc, hcs, hS, hD⟩ := hcell k hkx
      have hfit := HF.out xs[k] (List.getElem_mem hkx)
      obtain ⟨x, hx⟩ : ∃ x, x = xs[k] := ⟨_, rfl⟩
      rw [← hx] at hcs hS hD hfit
      have HX := Lib.hid hx
      have e0 := hcs 0 (by omega)
      have e1 := hcs 1 (by omega)
      have e2 := hcs 2 (by omega)
      have e3 := hcs 3 (by omega)
      have e4 := hcs 4 (by omega)
      have e5 := hcs 5 (by omega)
      have e6 := hcs 6 (by omega)
      have e7 := hcs 7 (by omega)
      clear hcs
      simp [actCells] at e0 e1 e2 e3 e4 e5 e6 e7
      have hW6 : Below wr.heap.size wr (wr.alloc (.cells (actCells x nao nl nc dao dl dc) 60)) := (Below.refl _ _).alloc (Nat.le_refl _) _
      have hcall := line_any (wr.alloc (.cells (actCells x nao nl nc dao dl dc) 60)) x nao nl nc dao dl dc (hS.below hW6 (Nat.le_refl _)) (hD.below hW6 (Nat.le_refl _)) hfit.light (by have := hfit.size; omega) ((HE.out.below hbl.bel HE.out.low).on hW6)
      have hA6 : Blk (wr.alloc (.cells (actCells x nao nl nc dao dl dc) 60)) wr.heap.size (actCells x nao nl nc dao dl dc) 60 := heap_alloc_new wr _
      have a0 := hA6.cell 0
      have a1 := hA6.cell 1
      have a2 := hA6.cell 2
      have a3 := hA6.cell 3
      have a4 := hA6.cell 4
      have a5 := hA6.cell 5
      have a6 := hA6.cell 6
      have a7 := hA6.cell 7
      simp [actCells] at a0 a1 a2 a3 a4 a5 a6 a7
      simp only [actCells] at hcall
      have hbl2 := bld_quiet hbl hW6
      simp only [actCells] at hbl2
      have HBL := Lib.hid hbl2
      have HCALL := Lib.hid hcall
      have HFIT := Lib.hid hfit
      clear hcell hS hD hfit hx hW6 hcall hA6 hbl hbl2
      go_wp2_with fail
      refine HCALL.out.mono ?_
      rintro e w2 ⟨hb2, rfl⟩
      have HBL2 := Lib.hid (bld_quiet HBL.out hb2)
      clear HCALL hb2
      cases hq : lineS x with
      | none =>
        have hno : ∃ y ∈ xs, lineS y = none := ⟨x, by rw [HX.out]; exact List.getElem_mem _, hq⟩
        have HNO := Lib.hid hno
        clear hno hq
        simp only [Option.isSome, Option.getD]
        go_wp2_with fail
        go_ret2
        exact ⟨HBL2.out.bel, Or.inl ⟨HNO.out, rfl⟩⟩
      | some t =>
        have hstep : (xs.take (k + 1)).map lineS = (ts ++ [t]).map some := by
          rw [List.take_succ_eq_append_getElem (by have := HXL.out; omega), List.map_append, List.map_append, HTS.out]
          simp [← HX.out, hq]
        have htl : t.length ≤ 1000000 := Nat.le_trans (lineS_le hq HFIT.out.light.fits) HFIT.out.size
        have HSTEP := Lib.hid hstep
        have HTL := Lib.hid htl
        obtain ⟨T, hT⟩ : ∃ z : ByteArray, z = ⟨t.toArray⟩ := ⟨_, rfl⟩
        have hTS : T.size ≤ 1000000 := by rw [hT]; simp [ByteArray.size]; exact htl
        have HT := Lib.hid hT
        clear hstep htl hq
        simp only [Option.isSome, Option.getD]
        rw [← hT]
        clear hT
        have hcat : T ++ (⟨#[10]⟩ : ByteArray) = ⟨(t ++ [10]).toArray⟩ := bytes_eq _ _ (by rw [cat_list (la := t) (lb := [10]) (by rw [HT.out]) rfl])
        have HCAT := Lib.hid hcat
        clear hcat
        go_wp2_with fail
        rw [HCAT.out]
        refine (writeString_any _ _ _ _ _ HBL2.out.is (by rw [bytes_len]; have h1 := HSL.out; have h2 := HTL.out; simp [ByteArray.size]; omega) HBL2.out.le).mono ?_
        rintro e w3 ⟨rfl, hat, hb3⟩
        have hbl3 := bld_str HBL2.out _ hat hb3
        rw [← scriptT_snoc] at hbl3
        have HBL3 := Lib.hid hbl3
        clear hat hb3 hbl3
        go_wp2_with fail
        go_roundw
        case rel => exact ⟨k + 1, by omega, by go_num, _, HSTEP.out, HBL3.out⟩
        case measure => simp [intOf]; omega
    · have hkn : k = n := by omega
      have hall : xs.map lineS = ts.map some := by rw [← HTS.out, List.take_of_length_le (by have := HXL.out; omega)]
      have HALL := Lib.hid hall
      have HBL := Lib.hid hbl
      have hlen := Tryz.Builder_Len _ _ _ _ hbl.is
      rw [bytes_len] at hlen
      obtain ⟨m, hm⟩ : ∃ m, m = (scriptT ts).length := ⟨_, rfl⟩
      rw [← hm] at hlen
      have HLEN := Lib.hid hlen
      have HM := Lib.hid hm
      clear hall hbl hlen hm hkn
      by_cases hbig : 262144 < m
      · have hdb : decide ((262144 : Int) < (m : Int)) = true := by rw [decide_eq_true_eq]; omega
        go_wp2_with fail
        refine HLEN.out.mono ?_
        rintro e w3 ⟨rfl, rfl⟩
        go_wp2_with fail
        go_ret2
        refine ⟨HBL.out.bel, Or.inr ⟨ts, HALL.out, ?_⟩⟩
        rw [if_pos (by rw [← HM.out]; exact hbig)]
        rfl
      · have hdb : decide ((262144 : Int) < (m : Int)) = false := by rw [decide_eq_false_iff_not]; omega
        go_wp2_with fail
        refine HLEN.out.mono ?_
        rintro e w3 ⟨rfl, rfl⟩
        go_wp2_with fail
        refine (Tryz.Builder_String_any _ _ _ _ HBL.out.is HBL.out.le).mono ?_
        rintro e w4 ⟨rfl, hb4⟩
        go_wp2_with fail
        go_ret2
        refine ⟨HBL.out.bel.trans hb4, Or.inr ⟨ts, HALL.out, ?_⟩⟩
        rw [if_neg (by rw [← HM.out]; exact hbig)]
        rfl
end Go.Proofs.YtipbakdodbmfjaaGreatDoor

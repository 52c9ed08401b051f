/- The law ScriptFaults returns true for every input and leaves its arguments as they were; no condition, the package-level tables that it reads tied to the program's text. -/
import Derived.Test.YtipbakdodbmfjaaGreatDoorLawLine
import Derived.Test.YtipbakdodbmfjaaGreatDoorFaultLaw
import Derived.Test.YtipbakdodbmfjaaGreatDoorWrapUpto
import Derived.Test.YtipbakdodbmfjaaGreatDoorErrs
import Derived.Test.YtipbakdodbmfjaaGreatDoorActs
import Derived.Deep.CutBlock
import Derived.Deep.DeepCutAuto
import Derived.Test.YtipbakdodbmfjaaGreatDoorOpen
import Derived.Test.YtipbakdodbmfjaaGreatDoorRows
import Derived.Test.YtipbakdodbmfjaaGreatDoorCards
import Derived.Test.YtipbakdodbmfjaaGreatDoorTie
import Derived.SevenTiedAt
import Derived.LaidMore
import Derived.Stop.Joined
import Derived.Stop.LaidErr
import Derived.Lib.LaidTab
import Derived.MakeChecks
import Derived.Lay
import Derived.WalkKit
import Derived.ProofKit
import Derived.OpenShut
import Derived.Below
namespace Go.Proofs.YtipbakdodbmfjaaGreatDoor.scriptFaults
open Go.ChangeShapes Go.WideShapes Go.ChangeAt Go.RowKit
open Go.ChangeMaps (open_string shut_string)
set_option linter.unusedVariables false

/-- what the walk reads -/
theorem env_of {W : World} (hL : laidMetH Tryz.prog Rows.scriptFaultsUptoRow.laid W) (hM : ∃ m, W.cell? ⟨1, 0, none⟩ = some (.int .i64 m)) : Env W := by
  rw [MakeChecks.laidMetH_plain _ _ _ (by kernel_rfl)] at hL
  exact ⟨Lib.tabIs_of_head (g := 2) (by kernel_rfl) (by kernel_rfl) Tryz.underlying199 Tryz.underlying58 (by kernel_rfl) (by kernel_rfl) hL.tail.tail,
    ⟨err_cell hL.tail.tail.tail.tail.tail (by kernel_rfl) (by kernel_rfl), err_cell hL.tail.tail.tail.tail (by kernel_rfl) (by kernel_rfl)⟩, hM⟩
theorem wrongV_eq : (wrongW.map fun w => Value.string ⟨w.toArray⟩) = ([.string ⟨#[]⟩, .string ⟨#[102, 114, 111, 98]⟩, .string ⟨#[116, 105, 99, 107, 32, 48, 49]⟩, .string ⟨#[116, 105, 99, 107, 32, 43, 49]⟩, .string ⟨#[115, 101, 114, 118, 101, 114]⟩, .string ⟨#[115, 101, 114, 118, 101, 114, 32, 49, 32, 50]⟩, .string ⟨#[32, 115, 101, 114, 118, 101, 114, 32, 49]⟩, .string ⟨#[99, 108, 105, 101, 110, 116, 32, 49, 32, 50, 32, 120, 103, 48]⟩, .string ⟨#[102, 108, 117, 115, 104, 32, 99, 111, 109]⟩, .string ⟨#[99, 114, 97, 115, 104, 32, 48, 32, 45, 49, 32, 48]⟩, .string ⟨#[99, 114, 97, 115, 104, 32, 48, 32, 49, 56, 52, 52, 54, 55, 52, 52, 48, 55, 51, 55, 48, 57, 53, 53, 49, 54, 49, 54, 32, 48]⟩, .string ⟨#[100, 101, 97, 100, 32, 49]⟩, .string ⟨#[99, 108, 105, 101, 110, 116, 32, 49, 32, 50, 32, 88, 48, 48]⟩, .string ⟨#[116, 105, 99, 107, 32, 57, 50, 50, 51, 51, 55, 50, 48, 51, 54, 56, 53, 52, 55, 55, 53, 56, 48, 56]⟩] : List Value) := rfl
/-- the wrong lines, in memory -/
theorem wrong_cell (w : World) {q : Nat} (h : q < wrongW.length) : (w.alloc (.cells ([.string ⟨#[]⟩, .string ⟨#[102, 114, 111, 98]⟩, .string ⟨#[116, 105, 99, 107, 32, 48, 49]⟩, .string ⟨#[116, 105, 99, 107, 32, 43, 49]⟩, .string ⟨#[115, 101, 114, 118, 101, 114]⟩, .string ⟨#[115, 101, 114, 118, 101, 114, 32, 49, 32, 50]⟩, .string ⟨#[32, 115, 101, 114, 118, 101, 114, 32, 49]⟩, .string ⟨#[99, 108, 105, 101, 110, 116, 32, 49, 32, 50, 32, 120, 103, 48]⟩, .string ⟨#[102, 108, 117, 115, 104, 32, 99, 111, 109]⟩, .string ⟨#[99, 114, 97, 115, 104, 32, 48, 32, 45, 49, 32, 48]⟩, .string ⟨#[99, 114, 97, 115, 104, 32, 48, 32, 49, 56, 52, 52, 54, 55, 52, 52, 48, 55, 51, 55, 48, 57, 53, 53, 49, 54, 49, 54, 32, 48]⟩, .string ⟨#[100, 101, 97, 100, 32, 49]⟩, .string ⟨#[99, 108, 105, 101, 110, 116, 32, 49, 32, 50, 32, 88, 48, 48]⟩, .string ⟨#[116, 105, 99, 107, 32, 57, 50, 50, 51, 51, 55, 50, 48, 51, 54, 56, 53, 52, 55, 55, 53, 56, 48, 56]⟩] : List Value).toArray 9)).cell? ⟨w.heap.size, q, none⟩ = some (.string ⟨wrongW[q].toArray⟩) := by
  rw [← wrongV_eq]
  have := World.cell?_alloc_new w (wrongW.map fun w => Value.string ⟨w.toArray⟩).toArray 9 q
  rw [this, List.getElem?_toArray, List.getElem?_map, List.getElem?_eq_getElem h]
  rfl
theorem cat_nl {S T : ByteArray} {a b : List UInt8} (hS : S.data.toList = a) (hT : T.data.toList = b) : (S ++ T ++ (⟨#[10]⟩ : ByteArray)).data.toList = a ++ (b ++ [10]) := by
  rw [← hS, ← hT]
  simp [ByteArray.data_append]
theorem size_nl (S T : ByteArray) : (S ++ T ++ (⟨#[10]⟩ : ByteArray)).size = S.size + T.size + 1 := by simp [ByteArray.size_append]; rfl
theorem fault_end {k i : Nat} {wr : List UInt8} {ts : List (List UInt8)} (h : k < i) : faultT k (i + 1) wr ts = faultT k i wr ts := by
  unfold faultT
  rw [if_neg (by omega), if_neg (by omega)]
theorem lines_snoc {xs : List ActP} {ts : List (List UInt8)} {i : Nat} {t : List UInt8} (h : i < xs.length) (hts : (xs.take i).map lineL = ts.map some) (ht : lineL xs[i] = some t) : (xs.take (i + 1)).map lineL = (ts ++ [t]).map some := by
  rw [List.take_succ_eq_append_getElem h, List.map_append, List.map_append, hts]
  simp [ht]
theorem lines_len {xs : List ActP} {ts : List (List UInt8)} {i : Nat} (h : i ≤ xs.length) (hts : (xs.take i).map lineL = ts.map some) : ts.length = i := by
  have := congrArg List.length hts
  simp at this
  omega
set_option maxHeartbeats 16000000 in
set_option maxRecDepth 100000 in
theorem walk (a0 : Option Addr) (l0 c0 : Nat) (xs0 : List ActP) (a1 : Int) (a2 : Int) (a3 : Bool) (W : World) (w0 : Acts W a0 l0 c0 xs0) (f0 : ∀ x ∈ xs0, x.fits ∧ smallA x 1048576) (w1 : (Lit.int .u8 a1).wf = true) (w2 : (Lit.int .u8 a2).wf = true) (hL : laidMetH Tryz.prog Rows.scriptFaultsUptoRow.laid W) (hM : ∃ m, W.cell? ⟨1, 0, none⟩ = some (.int .i64 m)) :
    Calls Tryz.prog 10 #[.slice a0 l0 c0, .int .u8 a1, .int .u8 a2, .bool a3] W fun e w' => e = .returned (.bool true) ∧ Below W.heap.size W w' := by
  have hE := env_of hL hM
  have HE := Lib.hid hE
  have HF := Lib.hid (fun x hx => (f0 x hx).1 : ∀ x ∈ xs0, x.fits)
  have HSM := Lib.hid (fun x hx => (f0 x hx).2 : ∀ x ∈ xs0, smallA x 1048576)
  have HW := Lib.hid w0
  have HLEN := Lib.hid w0.hlen
  have hle := w0.hle
  have hmax := w0.hmax
  obtain ⟨p, rfl⟩ : ∃ p : Nat, a1 = (p : Int) := ⟨a1.toNat, by have := bounds_u8 w1; omega⟩
  obtain ⟨r, rfl⟩ : ∃ r : Nat, a2 = (r : Int) := ⟨a2.toNat, by have := bounds_u8 w2; omega⟩
  have hp := bounds_u8 w1
  have hr := bounds_u8 w2
  clear hL hM hE f0 w0 w1 w2
  by_cases h50 : 50 < l0
  · have d50 : decide ((50 : Int) < (l0 : Int)) = true := by rw [decide_eq_true_eq]; omega
    go_enter Tryz.func10, Tryz.ntmps10
    go_wp2_with fail
    refine (answers_any _ HE.out).mono ?_
    rintro e x1 ⟨rfl, hb1⟩
    have HE1 := Lib.hid (HE.out.on hb1)
    have HB1 := Lib.hid hb1
    clear hb1
    go_wp2_with fail
    refine (answers_any _ HE1.out).mono ?_
    rintro e x2 ⟨rfl, hb2⟩
    have HB2 := Lib.hid (below_on HB1.out hb2 (Nat.le_refl _))
    clear hb2
    go_wp2_with fail
    go_ret
    exact ⟨rfl, HB2.out⟩
  have d50 : decide ((50 : Int) < (l0 : Int)) = false := by rw [decide_eq_false_iff_not]; omega
  have hl50 : l0 ≤ 50 := by omega
  clear h50
  obtain ⟨k, hkd⟩ : ∃ k, k = r % (l0 + 1) := ⟨_, rfl⟩
  obtain ⟨q, hqd⟩ : ∃ q, q = p % 14 := ⟨_, rfl⟩
  have hkl : k ≤ l0 := by have := Nat.mod_lt r (show 0 < l0 + 1 by omega); omega
  have hq14 : q < 14 := by have := Nat.mod_lt p (show 0 < 14 by omega); omega
  have m4 : (r : Int) % ((l0 : Int) + 1) = (k : Int) := by rw [hkd]; simp
  have m1 : (r : Int).tmod ((l0 : Int) + 1) = (k : Int) := by rw [Int.tmod_eq_emod_of_nonneg (by omega)]; exact m4
  have m2 : (p : Int).tmod 14 = (q : Int) := by rw [Int.tmod_eq_emod_of_nonneg (by omega)]; omega
  have m3 : ((l0 : Int) + 1 == 0) = false := by rw [beq_eq_false_iff_ne]; omega
  have m5 : (p : Int) % 14 = (q : Int) := by omega
  have hq14' : q < wrongW.length := hq14
  obtain ⟨wr, hwr⟩ : ∃ z, z = wrongW[q] := ⟨_, rfl⟩
  obtain ⟨hw1, hw2, hw3⟩ := wrong_at hq14'
  rw [← hwr] at hw1 hw2 hw3
  have HW1 := Lib.hid hw1
  have HW2 := Lib.hid hw2
  have HWR := Lib.hid hwr
  obtain ⟨V, hV⟩ : ∃ z : ByteArray, z = ⟨wr.toArray⟩ := ⟨_, rfl⟩
  have hVs : V.size ≤ 100 := by rw [hV]; simp [ByteArray.size]; exact hw3
  have HVD := Lib.hid (show V.data.toList = wr by rw [hV])
  have HV := Lib.hid hV
  have HQ := Lib.hid hq14'
  clear hkd hqd hw1 hw2 hw3 hwr hV
  go_enter Tryz.func10, Tryz.ntmps10
  go_wp2_with fail
  refine (answers_any _ HE.out).mono ?_
  rintro e x1 ⟨rfl, hb1⟩
  have hcv := wrong_cell x1 HQ.out
  have hbX : Below x1.heap.size x1 (x1.alloc (.cells ([.string ⟨#[]⟩, .string ⟨#[102, 114, 111, 98]⟩, .string ⟨#[116, 105, 99, 107, 32, 48, 49]⟩, .string ⟨#[116, 105, 99, 107, 32, 43, 49]⟩, .string ⟨#[115, 101, 114, 118, 101, 114]⟩, .string ⟨#[115, 101, 114, 118, 101, 114, 32, 49, 32, 50]⟩, .string ⟨#[32, 115, 101, 114, 118, 101, 114, 32, 49]⟩, .string ⟨#[99, 108, 105, 101, 110, 116, 32, 49, 32, 50, 32, 120, 103, 48]⟩, .string ⟨#[102, 108, 117, 115, 104, 32, 99, 111, 109]⟩, .string ⟨#[99, 114, 97, 115, 104, 32, 48, 32, 45, 49, 32, 48]⟩, .string ⟨#[99, 114, 97, 115, 104, 32, 48, 32, 49, 56, 52, 52, 54, 55, 52, 52, 48, 55, 51, 55, 48, 57, 53, 53, 49, 54, 49, 54, 32, 48]⟩, .string ⟨#[100, 101, 97, 100, 32, 49]⟩, .string ⟨#[99, 108, 105, 101, 110, 116, 32, 49, 32, 50, 32, 88, 48, 48]⟩, .string ⟨#[116, 105, 99, 107, 32, 57, 50, 50, 51, 51, 55, 50, 48, 51, 54, 56, 53, 52, 55, 55, 53, 56, 48, 56]⟩] : List Value).toArray 9)) := (Below.refl _ _).alloc (Nat.le_refl _) _
  rw [← HWR.out, ← HV.out] at hcv
  have HB1 := Lib.hid (below_on hb1 hbX (Nat.le_refl _))
  have HCV := Lib.hid hcv
  have hGs : x1.heap.size < (x1.alloc (.cells ([.string ⟨#[]⟩, .string ⟨#[102, 114, 111, 98]⟩, .string ⟨#[116, 105, 99, 107, 32, 48, 49]⟩, .string ⟨#[116, 105, 99, 107, 32, 43, 49]⟩, .string ⟨#[115, 101, 114, 118, 101, 114]⟩, .string ⟨#[115, 101, 114, 118, 101, 114, 32, 49, 32, 50]⟩, .string ⟨#[32, 115, 101, 114, 118, 101, 114, 32, 49]⟩, .string ⟨#[99, 108, 105, 101, 110, 116, 32, 49, 32, 50, 32, 120, 103, 48]⟩, .string ⟨#[102, 108, 117, 115, 104, 32, 99, 111, 109]⟩, .string ⟨#[99, 114, 97, 115, 104, 32, 48, 32, 45, 49, 32, 48]⟩, .string ⟨#[99, 114, 97, 115, 104, 32, 48, 32, 49, 56, 52, 52, 54, 55, 52, 52, 48, 55, 51, 55, 48, 57, 53, 53, 49, 54, 49, 54, 32, 48]⟩, .string ⟨#[100, 101, 97, 100, 32, 49]⟩, .string ⟨#[99, 108, 105, 101, 110, 116, 32, 49, 32, 50, 32, 88, 48, 48]⟩, .string ⟨#[116, 105, 99, 107, 32, 57, 50, 50, 51, 51, 55, 50, 48, 51, 54, 56, 53, 52, 55, 55, 53, 56, 48, 56]⟩] : List Value).toArray 9)).heap.size := by simp
  clear hb1 hbX hcv
  obtain ⟨X, hX⟩ : ∃ z, z = x1.alloc (.cells ([.string ⟨#[]⟩, .string ⟨#[102, 114, 111, 98]⟩, .string ⟨#[116, 105, 99, 107, 32, 48, 49]⟩, .string ⟨#[116, 105, 99, 107, 32, 43, 49]⟩, .string ⟨#[115, 101, 114, 118, 101, 114]⟩, .string ⟨#[115, 101, 114, 118, 101, 114, 32, 49, 32, 50]⟩, .string ⟨#[32, 115, 101, 114, 118, 101, 114, 32, 49]⟩, .string ⟨#[99, 108, 105, 101, 110, 116, 32, 49, 32, 50, 32, 120, 103, 48]⟩, .string ⟨#[102, 108, 117, 115, 104, 32, 99, 111, 109]⟩, .string ⟨#[99, 114, 97, 115, 104, 32, 48, 32, 45, 49, 32, 48]⟩, .string ⟨#[99, 114, 97, 115, 104, 32, 48, 32, 49, 56, 52, 52, 54, 55, 52, 52, 48, 55, 51, 55, 48, 57, 53, 53, 49, 54, 49, 54, 32, 48]⟩, .string ⟨#[100, 101, 97, 100, 32, 49]⟩, .string ⟨#[99, 108, 105, 101, 110, 116, 32, 49, 32, 50, 32, 88, 48, 48]⟩, .string ⟨#[116, 105, 99, 107, 32, 57, 50, 50, 51, 51, 55, 50, 48, 51, 54, 56, 53, 52, 55, 55, 53, 56, 48, 56]⟩] : List Value).toArray 9) := ⟨_, rfl⟩
  rw [← hX] at HB1 HCV hGs
  obtain ⟨G, hG⟩ : ∃ z, z = x1.heap.size := ⟨_, rfl⟩
  rw [← hG] at HCV hGs
  go_upto_region 4 with fail
  rw [← hX, ← hG]
  clear hX hG
  go_wp2_with fail
  go_loopw [11, 12] (fun tv iv ww => ∃ (i : Nat) (T : ByteArray), i ≤ l0 + 1 ∧ tv = .string T ∧ iv = .int .i64 i ∧ T.size ≤ i * 2000200 ∧ Hid (Below X.heap.size X ww ∧ ∃ ts, (xs0.take i).map lineL = ts.map some ∧ T.data.toList = faultT k i wr ts ∧ ∀ x ∈ xs0.take i, lightA x = true)) (fun _ iv _ => l0 + 1 - (intOf iv).toNat)
  case atStart => exact ⟨0, ⟨#[]⟩, Nat.zero_le _, rfl, rfl, by decide, Below.refl _ _, [], rfl, by simp [faultT, scriptT], fun x h => by simp at h⟩
  case round =>
    rename World => ww
    obtain ⟨i, T, hi, rfl, rfl, hTs, hinv⟩ := hrel
    have hTm : i * 2000200 ≤ 51 * 2000200 := Nat.mul_le_mul_right _ (by omega)
    have hTz : T.size ≤ 51 * 2000200 := Nat.le_trans hTs hTm
    have HTS := Lib.hid hTs
    clear hTm hTs
    obtain ⟨hbx, ts, hts, hTd, hlg⟩ := hinv.out
    have HBX := Lib.hid (below_on HB1.out hbx (Nat.le_refl _))
    have HTSL := Lib.hid hts
    have HTD := Lib.hid hTd
    have HLG0 := Lib.hid hlg
    have HBX2 := Lib.hid hbx
    clear hinv hbx hts hTd hlg
    by_cases hil : i ≤ l0
    · by_cases hik : i = k
      · have b1 : ((i : Int) == (k : Int)) = true := by rw [beq_iff_eq]; omega
        have HTL := Lib.hid (lines_len (by have := HLEN.out; omega) HTSL.out)
        cases a3 with
        | true => as_aux_lemma =>
          have hPd : (T ++ (⟨#[99, 111, 109, 112, 97, 99, 116]⟩ : ByteArray)).data.toList = scriptT ts ++ compactW := by
            have h1 := HTD.out
            unfold faultT at h1
            rw [if_pos (by omega)] at h1
            rw [← h1]
            simp [ByteArray.data_append, compactW]
          have hPs : (T ++ (⟨#[99, 111, 109, 112, 97, 99, 116]⟩ : ByteArray)).size = T.size + 7 := by simp [ByteArray.size_append]; rfl
          have HEQ := Lib.hid (get_open (xs := xs0.take k) (ts := ts) (fun x hx => HF.out x (List.mem_of_mem_take hx)) (by rw [← hik]; exact HTSL.out))
          obtain ⟨P, hP⟩ : ∃ z : ByteArray, z = T ++ (⟨#[99, 111, 109, 112, 97, 99, 116]⟩ : ByteArray) := ⟨_, rfl⟩
          rw [← hP] at hPd hPs
          have HPD := Lib.hid hPd
          have HP := Lib.hid hP
          have HKX := Lib.hid (show (xs0.take k).length = k by have := HLEN.out; simp; omega)
          clear hPd hP hik hPs
          go_upto_region 18 with fail
          rw [← HP.out]
          clear hTz
          by_cases hbig : 262144 < (P).size
          · have d1 : decide ((262144 : Int) < ((P).size : Int)) = true := by rw [decide_eq_true_eq]; omega
            clear hbig
            go_wp2_with fail
            go_ret
            exact ⟨rfl, HBX.out⟩
          · have d1 : decide ((262144 : Int) < ((P).size : Int)) = false := by rw [decide_eq_false_iff_not]; omega
            have hget := get_any ww P (by omega) (HE.out.below HBX.out HE.out.low) ((P).size + xs0.length + 1) (by omega)
            rw [HPD.out, HEQ.out _ (by have := HKX.out; have := HLEN.out; omega), HKX.out] at hget
            have HGET := Lib.hid hget
            have e1 : (((k + 1 : Nat) : Int) == (k : Int) + 1) = true := by rw [beq_iff_eq]; omega
            clear hbig hget
            go_wp2_with fail
            refine HGET.out.mono ?_
            rintro e w6 ⟨hb6, rfl⟩
            have HB6 := Lib.hid (below_on HBX.out hb6 (Nat.le_refl _))
            clear hb6 HGET
            go_wp2_with fail
            go_ret
            exact ⟨rfl, HB6.out⟩
        | false =>
          have hcw := cell_keep HBX2.out HCV.out
          by_cases hlt : i < l0
          · as_aux_lemma =>
              have hc2 : (T ++ V ++ (⟨#[10]⟩ : ByteArray)).data.toList = faultT k k wr ts ++ (wr ++ [10]) := cat_nl (by rw [HTD.out, hik]) HVD.out
              have hs2 := size_nl T V
              have HC2 := Lib.hid hc2
              have HS2 := Lib.hid hs2
              have HIK := Lib.hid hik
              have hcw2 := hcw
              go_upto_region 13 with fail
              obtain ⟨T1, hT1⟩ : ∃ z : ByteArray, z = T ++ V ++ (⟨#[10]⟩ : ByteArray) := ⟨_, rfl⟩
              rw [← hT1]
              rw [← hT1] at hc2 hs2
              have HT1 := Lib.hid hT1
              have HT1D := Lib.hid hc2
              have hT1z : T1.size ≤ 51 * 2000200 + 101 := by omega
              have HT1S := Lib.hid hs2
              clear hc2 hs2 hT1 hcw hcw2 hik b1
              have hix : i < xs0.length := by have := HLEN.out; omega
              obtain ⟨b, off, rfl, hcell⟩ := (HW.out.on HBX.out).hcells (by omega)
              obtain ⟨nao, nl, nc, dao, dl, dc, hcs, hS, hD⟩ := hcell i hix
              have hfit := HF.out xs0[i] (List.getElem_mem hix)
              have hsm := HSM.out xs0[i] (List.getElem_mem hix)
              obtain ⟨x, hx⟩ : ∃ x, x = xs0[i] := ⟨_, rfl⟩
              rw [← hx] at hcs hS hD hfit hsm
              have HX := Lib.hid hx
              have HFX := Lib.hid hfit
              have hdl : x.data.length = dl := by simpa using hD.hlen
              have e0 := hcs 0 (by omega)
              have e1 := hcs 1 (by omega)
              have e2 := hcs 2 (by omega)
              have e3 := hcs 3 (by omega)
              have e4 := hcs 4 (by omega)
              have e5 := hcs 5 (by omega)
              have e6 := hcs 6 (by omega)
              have e7 := hcs 7 (by omega)
              clear hcs
              simp [actCells] at e0 e1 e2 e3 e4 e5 e6 e7
              have hll := lline_any ww x nao nl nc dao dl dc hS hD hfit (by have := hsm.1; omega) (by have := hsm.2; omega)
              simp only [actCells] at hll
              have HLL := Lib.hid hll
              have HS := Lib.hid hS
              have HD := Lib.hid hD
              clear hcell hS hD hfit hx hll hsm hdl
              have hkp : (0 : Int) ≤ (i : Int) := Int.natCast_nonneg _
              have hkl2 : (i : Int) < (l0 : Int) := by omega
              go_wp2_with fail
              refine HLL.out.mono ?_
              rintro e w3 ⟨hb3, rfl⟩
              have HB3 := Lib.hid (below_on HBX.out hb3 (Nat.le_refl _))
              have HB3X := Lib.hid (below_on HBX2.out hb3 (Nat.le_refl _))
              have g0 := cell_keep hb3 e0
              have g1 := cell_keep hb3 e1
              have g2 := cell_keep hb3 e2
              have g3 := cell_keep hb3 e3
              have g4 := cell_keep hb3 e4
              have g5 := cell_keep hb3 e5
              have g6 := cell_keep hb3 e6
              have g7 := cell_keep hb3 e7
              clear e0 e1 e2 e3 e4 e5 e6 e7
              have hlg := light_any w3 x nao nl nc dao dl dc (HS.out.below hb3 (Nat.le_refl _)) (HD.out.below hb3 (Nat.le_refl _))
              simp only [actCells] at hlg
              have HLG := Lib.hid hlg
              clear hb3 hlg HLL HS HD
              go_wp2_with fail
              refine HLG.out.mono ?_
              rintro e w4 ⟨rfl, hb4⟩
              have HB4 := Lib.hid (below_on HB3.out hb4 (Nat.le_refl _))
              have HB4X := Lib.hid (below_on HB3X.out hb4 (Nat.le_refl _))
              clear g0 g1 g2 g3 g4 g5 g6 g7
              clear hb4 HLG
              cases hq : lightA x
              · clear hq
                go_wp2_with fail
                go_ret
                exact ⟨rfl, HB4.out⟩
              have HLQ := Lib.hid (light_snoc hix HLG0.out (by rw [← HX.out]; exact hq))
              have HAF := Lib.hid (lightA_fit hq HFX.out)
              clear hq
              cases hl : lineL x with
              | none =>
                clear hl
                simp only [Option.isSome]
                go_wp2_with fail
                go_ret
                exact ⟨rfl, HB4.out⟩
              | some t =>
                obtain ⟨U, hU⟩ : ∃ z : ByteArray, z = ⟨((some t : Option (List UInt8)).getD []).toArray⟩ := ⟨_, rfl⟩
                have hUt : U.data.toList = t := by rw [hU]; simp
                have hUs : U.size ≤ 1000000 := by
                  have h1 := lineS_le (x := x) (t := t) (by rw [line_same x HFX.out]; exact hl) HFX.out
                  have h2 := HAF.out.size
                  have h3 : U.data.toList.length = U.size := by simp
                  rw [hUt] at h3
                  omega
                have HLS := Lib.hid (lines_snoc hix HTSL.out (by rw [← HX.out]; exact hl))
                have HUT := Lib.hid hUt
                rw [← hU]
                simp only [Option.isSome]
                clear hl hU hUt
                go_wp2_with fail
                go_roundw
                case rel =>
                  refine ⟨i + 1, _, by omega, rfl, by go_num, ?_, HB4X.out, ts ++ [t], HLS.out, ?_, HLQ.out⟩
                  · rw [size_nl, HT1S.out, Nat.add_mul]; have := HTS.out; omega
                  · rw [HIK.out, fault_both (by rw [HTL.out, HIK.out]), cat_nl HT1D.out HUT.out]
                case measure => simp [intOf]; omega
          · as_aux_lemma =>
              have hc2 : (T ++ V ++ (⟨#[10]⟩ : ByteArray)).data.toList = faultT k k wr ts ++ (wr ++ [10]) := cat_nl (by rw [HTD.out, hik]) HVD.out
              have hs2 := size_nl T V
              have HC2 := Lib.hid hc2
              have HS2 := Lib.hid hs2
              have HIK := Lib.hid hik
              have hge : ¬ (i : Int) < (l0 : Int) := by omega
              clear hc2 hs2
              go_wp2_with fail
              go_roundw
              case rel =>
                have hall : xs0.take (i + 1) = xs0.take i := by rw [List.take_of_length_le (by have := HLEN.out; omega), List.take_of_length_le (by have := HLEN.out; omega)]
                refine ⟨i + 1, _, by omega, rfl, by go_num, ?_, HBX2.out, ts, by rw [hall]; exact HTSL.out, ?_, by rw [hall]; exact HLG0.out⟩
                · rw [HS2.out, Nat.add_mul]; have := HTS.out; omega
                · rw [HC2.out, HIK.out, fault_wrong (by rw [HTL.out, HIK.out])]
              case measure => simp [intOf]; omega
      · have b1 : ((i : Int) == (k : Int)) = false := by rw [beq_eq_false_iff_ne]; omega
        by_cases hlt : i < l0
        · as_aux_lemma =>
            have HTL := Lib.hid (lines_len (by have := HLEN.out; omega) HTSL.out)
            have HIK := Lib.hid hik
            clear hik
            have hix : i < xs0.length := by have := HLEN.out; omega
            obtain ⟨b, off, rfl, hcell⟩ := (HW.out.on HBX.out).hcells (by omega)
            obtain ⟨nao, nl, nc, dao, dl, dc, hcs, hS, hD⟩ := hcell i hix
            have hfit := HF.out xs0[i] (List.getElem_mem hix)
            have hsm := HSM.out xs0[i] (List.getElem_mem hix)
            obtain ⟨x, hx⟩ : ∃ x, x = xs0[i] := ⟨_, rfl⟩
            rw [← hx] at hcs hS hD hfit hsm
            have HX := Lib.hid hx
            have HFX := Lib.hid hfit
            have hdl : x.data.length = dl := by simpa using hD.hlen
            have e0 := hcs 0 (by omega)
            have e1 := hcs 1 (by omega)
            have e2 := hcs 2 (by omega)
            have e3 := hcs 3 (by omega)
            have e4 := hcs 4 (by omega)
            have e5 := hcs 5 (by omega)
            have e6 := hcs 6 (by omega)
            have e7 := hcs 7 (by omega)
            clear hcs
            simp [actCells] at e0 e1 e2 e3 e4 e5 e6 e7
            have hll := lline_any ww x nao nl nc dao dl dc hS hD hfit (by have := hsm.1; omega) (by have := hsm.2; omega)
            simp only [actCells] at hll
            have HLL := Lib.hid hll
            have HS := Lib.hid hS
            have HD := Lib.hid hD
            clear hcell hS hD hfit hx hll hsm hdl
            have hkp : (0 : Int) ≤ (i : Int) := Int.natCast_nonneg _
            have hkl2 : (i : Int) < (l0 : Int) := by omega
            go_wp2_with fail
            refine HLL.out.mono ?_
            rintro e w3 ⟨hb3, rfl⟩
            have HB3 := Lib.hid (below_on HBX.out hb3 (Nat.le_refl _))
            have HB3X := Lib.hid (below_on HBX2.out hb3 (Nat.le_refl _))
            have g0 := cell_keep hb3 e0
            have g1 := cell_keep hb3 e1
            have g2 := cell_keep hb3 e2
            have g3 := cell_keep hb3 e3
            have g4 := cell_keep hb3 e4
            have g5 := cell_keep hb3 e5
            have g6 := cell_keep hb3 e6
            have g7 := cell_keep hb3 e7
            clear e0 e1 e2 e3 e4 e5 e6 e7
            have hlg := light_any w3 x nao nl nc dao dl dc (HS.out.below hb3 (Nat.le_refl _)) (HD.out.below hb3 (Nat.le_refl _))
            simp only [actCells] at hlg
            have HLG := Lib.hid hlg
            clear hb3 hlg HLL HS HD
            go_wp2_with fail
            refine HLG.out.mono ?_
            rintro e w4 ⟨rfl, hb4⟩
            have HB4 := Lib.hid (below_on HB3.out hb4 (Nat.le_refl _))
            have HB4X := Lib.hid (below_on HB3X.out hb4 (Nat.le_refl _))
            clear g0 g1 g2 g3 g4 g5 g6 g7
            clear hb4 HLG
            cases hq : lightA x
            · clear hq
              go_wp2_with fail
              go_ret
              exact ⟨rfl, HB4.out⟩
            have HLQ := Lib.hid (light_snoc hix HLG0.out (by rw [← HX.out]; exact hq))
            have HAF := Lib.hid (lightA_fit hq HFX.out)
            clear hq
            cases hl : lineL x with
            | none =>
              clear hl
              simp only [Option.isSome]
              go_wp2_with fail
              go_ret
              exact ⟨rfl, HB4.out⟩
            | some t =>
              obtain ⟨U, hU⟩ : ∃ z : ByteArray, z = ⟨((some t : Option (List UInt8)).getD []).toArray⟩ := ⟨_, rfl⟩
              have hUt : U.data.toList = t := by rw [hU]; simp
              have hUs : U.size ≤ 1000000 := by
                have h1 := lineS_le (x := x) (t := t) (by rw [line_same x HFX.out]; exact hl) HFX.out
                have h2 := HAF.out.size
                have h3 : U.data.toList.length = U.size := by simp
                rw [hUt] at h3
                omega
              have HLS := Lib.hid (lines_snoc hix HTSL.out (by rw [← HX.out]; exact hl))
              have HUT := Lib.hid hUt
              rw [← hU]
              simp only [Option.isSome]
              clear hl hU hUt
              go_wp2_with fail
              go_roundw
              case rel =>
                refine ⟨i + 1, _, by omega, rfl, by go_num, ?_, HB4X.out, ts ++ [t], HLS.out, ?_, HLQ.out⟩
                · rw [size_nl, Nat.add_mul]; have := HTS.out; omega
                · rw [cat_nl HTD.out HUT.out, fault_line HTL.out HIK.out]
              case measure => simp [intOf]; omega
        · as_aux_lemma =>
            have hge : ¬ (i : Int) < (l0 : Int) := by omega
            have HIK := Lib.hid (show k < i by omega)
            clear hik
            go_wp2_with fail
            go_roundw
            case rel =>
              have hall : xs0.take (i + 1) = xs0.take i := by rw [List.take_of_length_le (by have := HLEN.out; omega), List.take_of_length_le (by have := HLEN.out; omega)]
              refine ⟨i + 1, T, by omega, rfl, by go_num, ?_, HBX2.out, ts, by rw [hall]; exact HTSL.out, ?_, by rw [hall]; exact HLG0.out⟩
              · exact Nat.le_trans HTS.out (Nat.mul_le_mul_right _ (Nat.le_succ i))
              · rw [HTD.out, fault_end HIK.out]
            case measure => simp [intOf]; omega
    · as_aux_lemma =>
        have hin : i = l0 + 1 := by omega
        have HIN := Lib.hid hin
        have hall : xs0.take i = xs0 := List.take_of_length_le (by have := HLEN.out; omega)
        have HEQ := Lib.hid (get_fault (xs := xs0) (ts := ts) (k := k) (wr := wr) HF.out (by have := HTSL.out; rw [hall] at this; exact this) (by have := HLEN.out; omega) HW2.out HW1.out)
        have HTD2 := Lib.hid (show T.data.toList = faultT k (xs0.length + 1) wr ts by rw [HTD.out, hin, HLEN.out])
        have hge : ¬ (i : Int) ≤ (l0 : Int) := by omega
        clear hall hin hil
        go_upto_region 18 with fail
        by_cases hbig : 262144 < (T).size
        · have d1 : decide ((262144 : Int) < ((T).size : Int)) = true := by rw [decide_eq_true_eq]; omega
          clear hbig
          go_wp2_with fail
          go_ret
          exact ⟨rfl, HBX.out⟩
        · have d1 : decide ((262144 : Int) < ((T).size : Int)) = false := by rw [decide_eq_false_iff_not]; omega
          have hget := get_any ww T (by omega) (HE.out.below HBX.out HE.out.low) ((T).size + xs0.length + 1) (by omega)
          rw [HTD2.out, HEQ.out _ (by omega)] at hget
          have HGET := Lib.hid hget
          have e1 : (((k + 1 : Nat) : Int) == (k : Int) + 1) = true := by rw [beq_iff_eq]; omega
          clear hbig hget
          go_wp2_with fail
          refine HGET.out.mono ?_
          rintro e w6 ⟨hb6, rfl⟩
          have HB6 := Lib.hid (below_on HBX.out hb6 (Nat.le_refl _))
          clear hb6 HGET
          go_wp2_with fail
          go_ret
          exact ⟨rfl, HB6.out⟩

theorem door_met (os : Os) (args : Array Value) : laidMetH Tryz.prog Rows.scriptFaultsUptoRow.laid ((World.laidAll Tryz.prog os Rows.scriptFaultsUptoRow.laid).forCall (fun _ _ => 0) ⟨#[], args, []⟩).memory := by
  rw [MakeChecks.laidMetH_plain _ _ _ (by kernel_rfl)]
  exact laidMet_laidAll _ (by kernel_rfl) (by kernel_rfl)

theorem reads (os : Os) {H : Type} (enc : TypeId × Value → H) : ∃ places, DataW.whole enc Tryz.prog ((World.laidAll Tryz.prog os Rows.scriptFaultsUptoRow.laid).forCall (fun _ _ => 0) ⟨#[], #[.slice none 0 0, .int .u8 0, .int .u8 0, .bool false], []⟩).memory Tryz.f10.params.toList Rows.scriptFaultsSpec.vars false (#[.slice none 0 0, .int .u8 0, .int .u8 0, .bool false] : Array Value).toList 8 = some ([.nil, .lit (.int .u8 0), .lit (.int .u8 0), .lit (.bool false)], [], places) :=
  ⟨[], by kernel_rfl⟩

set_option maxHeartbeats 1000000 in
set_option maxRecDepth 100000 in
theorem lifted (os : Os) (started : os.Started) (H : Type) (enc : TypeId × Value → H) (F : Stop.Interp) :
    ReturnsInHanded {} Tryz.checked os 10 .any ((Rows.OpenSpec.upto Rows.scriptFaultsSpec).preRow enc Tryz.prog Tryz.f10 Rows.scriptFaultsUptoRow.domain false Rows.scriptFaultsUptoRow.laid) (((Rows.OpenSpec.upto Rows.scriptFaultsSpec).at F).post enc Tryz.prog Tryz.f10 false true false false) := by
  obtain ⟨places, hx⟩ := reads os enc
  refine returnsInHanded_of_row (C := Tryz.checked) (s := Rows.OpenSpec.upto Rows.scriptFaultsSpec) own started (by kernel_rfl) Tryz.func10
    (witness_upto (enc := enc) (C := Tryz.checked) false (World.laidAll Tryz.prog os Rows.scriptFaultsUptoRow.laid) #[.slice none 0 0, .int .u8 0, .int .u8 0, .bool false] (World.laidAll_os _ _ _) (World.shaped_of_ZipB (by kernel_rfl) (by kernel_rfl)) (by kernel_rfl)
      (OpenSpec.preRow_of_cond 8 hx (by kernel_rfl) (fun k hk => by cases hk; kernel_rfl) (by kernel_rfl) (door_met os _))) ?_
  intro W base args ds gs before hval0 hW hcnd hcond hsz0 hL hsh _
  have hval : ∀ (j : Nat) t v, Tryz.f10.params[j]? = some t → args[j]? = some v → Value.okWide Tryz.prog W .any base t v := hval0
  have hW' := hW
  obtain ⟨p, q, hA0, hV, rfl, hfz, hnd⟩ := hW
  have hA : DataW.TrodAll enc Tryz.prog W 0 (fun _ => true) true Tryz.f10.params.toList args.toList ds p := hA0
  have hsz : (DataW.weightsEach Tryz.prog (Tryz.f10.params.toList ++ Rows.scriptFaultsSpec.plain.varTypes Tryz.prog) (ds ++ gs)).all (· ≤ reachBytes) = true := hsz0
  rw [Tryz.params10] at hA hval hsz
  obtain ⟨v0, vs0, d0, ds0, p0, q0, hargs, rfl, rfl, h0, r0⟩ := trodAll_cons hA
  obtain ⟨v1, vs1, d1, ds1, p1, q1, rfl, rfl, rfl, h1, r1⟩ := trodAll_cons r0
  obtain ⟨v2, vs2, d2, ds2, p2, q2, rfl, rfl, rfl, h2, r2⟩ := trodAll_cons r1
  obtain ⟨v3, vs3, d3, ds3, p3, q3, rfl, rfl, rfl, h3, r3⟩ := trodAll_cons r2
  obtain ⟨rfl, rfl, rfl⟩ := trodAll_nil r3
  obtain rfl : args = #[v0, v1, v2, v3] := by cases args; simp_all
  obtain ⟨rfl, rfl⟩ := trodVars_none hV
  have k0 := h0
  have lt0 : ∀ x ∈ p0, x.block < W.heap.size := by obtain ⟨m, hm⟩ := k0; exact DataW.trod_lt m _ _ _ hm
  obtain ⟨x0, y0, z0, hsl0⟩ := okWide_slice Tryz.underlying67 (hval 0 67 v0 rfl rfl)
  obtain ⟨a0, l0, c0, xs0, hv0, w0, f0⟩ := open_acts_bulk Tryz.underlying67 h0 (weights_at hsz (j := 0) rfl rfl) ⟨_, _, _, hsl0⟩
  have e0 := small_of (d := d0) (hcond _ rfl) (by simp)
  replace f0 := fun x hx => And.intro (f0 x hx).1 (smallA_le (f0 x hx).2 e0)
  have k1 := h1
  have lt1 : ∀ x ∈ p1, x.block < W.heap.size := by obtain ⟨m, hm⟩ := k1; exact DataW.trod_lt m _ _ _ hm
  obtain ⟨a1, rfl, rfl, rfl, w1⟩ := open_int Tryz.underlying5 (hval 1 5 v1 rfl rfl) h1
  have k2 := h2
  have lt2 : ∀ x ∈ p2, x.block < W.heap.size := by obtain ⟨m, hm⟩ := k2; exact DataW.trod_lt m _ _ _ hm
  obtain ⟨a2, rfl, rfl, rfl, w2⟩ := open_int Tryz.underlying5 (hval 2 5 v2 rfl rfl) h2
  have k3 := h3
  have lt3 : ∀ x ∈ p3, x.block < W.heap.size := by obtain ⟨m, hm⟩ := k3; exact DataW.trod_lt m _ _ _ hm
  obtain ⟨a3, rfl, rfl, rfl⟩ := open_bool Tryz.underlying4 (hval 3 4 v3 rfl rfl) h3
  clear hA0 hval0
  subst hv0
  refine (walk a0 l0 c0 xs0 a1 a2 a3 W w0 f0 w1 w2 hL (max_of_shape hsh)).mono fun e W' ⟨he, bel⟩ => ?_
  subst he
  exact ⟨_, rfl, _, _, _, [], _, [], hW', trodAll_mk1 (shut_bool Tryz.underlying4 _), (trodAll_cons_mk (Below.trod laidOut (by kernel_rfl) (of_decide_eq_true (by kernel_rfl)) k0 bel lt0) (trodAll_cons_mk (Below.trod laidOut (by kernel_rfl) (of_decide_eq_true (by kernel_rfl)) k1 bel lt1) (trodAll_cons_mk (Below.trod laidOut (by kernel_rfl) (of_decide_eq_true (by kernel_rfl)) k2 bel lt2) (trodAll_cons_mk (Below.trod laidOut (by kernel_rfl) (of_decide_eq_true (by kernel_rfl)) k3 bel lt3) trodAll_mk0)))), rfl, bel.frame _, fun h => by cases h⟩

theorem over : Rows.scriptFaultsUptoRow.holds Tryz.pinned (Rows.OpenSpec.upto Rows.scriptFaultsSpec) :=
  OpenClaim.holds_of_cond 10 Tryz.f10 rfl rfl rfl rfl rfl rfl rfl ⟨rfl, rfl, rfl, rfl, rfl⟩ rfl rfl rfl rfl rfl (by kernel_rfl) Tryz.func10 (by kernel_rfl)
    (of_decide_eq_true (by kernel_rfl)) (by unfold Func.isWrapper; first | (rw [if_pos (by decide +kernel)]; kernel_rfl) | (rw [if_neg (by decide +kernel)]; exact ⟨rfl, rfl⟩))
    (fun os started H enc _ F => by rw [OpenClaim.pre_eq_preRow]; exact lifted os started H enc F)

theorem proved : Rows.ScriptFaultsUptoCardSaid :=
  Claim7.holds_tied_plain_at .later [] [.data, .data, .data, .data, .sentinel, .sentinel, .pinned] true (true, "fab5b64761970f4e0cf9cb2320c20c52afa86df77447b640b54cc28f6a1e98a6") true
    over (fun _ h => by cases h) (by kernel_rfl) (fun _ h => by cases h) scriptFaultsUpto_row_tie rfl ⟨rfl, rfl⟩ (by kernel_rfl) rfl
    (fun f fn hf hfn => by
      obtain rfl : f = 10 := Option.some.inj ((show Tryz.prog.funcNamed "gazetteer/gazetteerlaw23.ScriptFaults" = some 10 by kernel_rfl).symm.trans hf) |>.symm
      obtain rfl : fn = Tryz.f10 := (Option.some.inj (Tryz.func10.symm.trans hfn)).symm
      exact ⟨by kernel_rfl, fun j t ht => by
        rw [Tryz.params10] at ht
        have hm : t ∈ [67, 5, 5, 4] := by simpa using Array.mem_of_getElem? ht
        have hall : ([67, 5, 5, 4].all fun u => !Tryz.prog.wantsStandIn u) = true := by kernel_rfl
        exact (show Tryz.prog.wantsStandIn t = false by simpa using List.all_eq_true.1 hall t hm)⟩)
    (by kernel_rfl)
end Go.Proofs.YtipbakdodbmfjaaGreatDoor.scriptFaults

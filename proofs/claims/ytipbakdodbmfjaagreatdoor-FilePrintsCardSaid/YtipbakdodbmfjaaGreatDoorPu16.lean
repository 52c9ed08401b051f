/- The contract of strconv.ParseUint in base sixteen and eight bits, at two digits that are small. -/
import Derived.Test.YtipbakdodbmfjaaGreatDoorUnescape
import Derived.Test.YtipbakdodbmfjaaGreatDoorScriptLaw
import Derived.BigGuard
import Derived.IntWalk
namespace Go.Proofs.YtipbakdodbmfjaaGreatDoor
open Go.ChangeShapes Go.WideShapes Go.ChangeAt Go.RowKit

theorem lower_hex (w : World) (n : Nat) (h1 : 97 ≤ n) (h2 : n ≤ 102) :
    Calls Tryz.prog 191 #[.int .u8 (n : Int)] w fun e w' => e = .returned (.int .u8 (n : Int)) ∧ w = w' := by
  have : n = 97 ∨ n = 98 ∨ n = 99 ∨ n = 100 ∨ n = 101 ∨ n = 102 := by omega
  rcases this with rfl | rfl | rfl | rfl | rfl | rfl
  all_goals
    go_enter Tryz.func191, Tryz.ntmps191
    go_wp2
    go_ret
    exact ⟨rfl, rfl⟩
def hacc (c d : UInt8) (k : Nat) : Nat := if k = 0 then 0 else if k = 1 then hexV c else hexV c * 16 + hexV d

set_option maxHeartbeats 4000000 in
set_option maxRecDepth 100000 in
theorem ipu16_any (w : World) (s : ByteArray) (c d : UInt8) (hs : s.data.toList = [c, d]) (hc : isHex c = true) (hd : isHex d = true) :
    Calls Tryz.prog 159 #[.string s, .int .i64 16, .int .i64 8] w fun e w' => e = .returned (.tuple #[.int .u64 ((hexV c * 16 + hexV d : Nat) : Int), .nilIface]) ∧ Below w.heap.size w w' := by
  have hsz : s.size = 2 := by have := congrArg List.length hs; simpa using this
  have ht : s.toList.isEmpty = false := by rw [ByteArray.toList_eq, hs]; rfl
  obtain ⟨cap, w1, hrun, hc1, hc2, hb1, hz1, hr1⟩ := conv_bytes w 9 29 5 s Tryz.underlying9 Tryz.underlying29 Tryz.underlying5 (by omega)
  rw [hs] at hr1
  rw [hsz] at hrun
  have hcell0 := hr1.cell (i := 0) (by simp)
  have hcell1 := hr1.cell (i := 1) (by simp)
  simp only [List.getElem_cons_zero, List.getElem_cons_succ] at hcell0 hcell1
  have hmv : IntKind.u64.wrap (IntKind.u64.wrap 256 - 1) = 255 := by
    rw [IntKind.wrap_u64, IntKind.wrap_u64]
    decide
  have hV := (hexV_back c hc).1
  have hV2 := (hexV_back d hd).1
  have kc : ∀ x : UInt8, isHex x = true → (48 ≤ x.toNat ∧ x.toNat ≤ 57 ∧ hexV x + 48 = x.toNat) ∨ (97 ≤ x.toNat ∧ x.toNat ≤ 102 ∧ hexV x + 87 = x.toNat) := by
    intro x hx
    unfold isHex at hx
    simp only [Bool.or_eq_true, decide_eq_true_eq] at hx
    unfold hexV
    split <;> omega
  have kc1 := kc c hc
  have kd1 := kc d hd
  obtain ⟨p, hp⟩ : ∃ p, p = hexV c := ⟨_, rfl⟩
  obtain ⟨q, hq⟩ : ∃ q, q = hexV d := ⟨_, rfl⟩
  obtain ⟨m, hm⟩ : ∃ m, m = c.toNat := ⟨_, rfl⟩
  obtain ⟨n, hn⟩ : ∃ n, n = d.toNat := ⟨_, rfl⟩
  rw [← hp] at hV kc1 ⊢
  rw [← hq] at hV2 kd1 ⊢
  rw [← hm] at hcell0 kc1
  rw [← hn] at hcell1 kd1
  clear hp hq hm hn kc hc hd hs hz1 hr1 hc1 hc2
  have KC := Lib.hid kc1; clear kc1
  have KD := Lib.hid kd1; clear kd1
  have HS := Lib.hid hsz; clear hsz
  go_enter Tryz.func159, Tryz.ntmps159
  go_wp2
  go_loop [12, 13, 101] (fun vu vn vi => vu = .bool false ∧ ((vi = .int .i64 0 ∧ vn = .int .u64 0) ∨ (vi = .int .i64 1 ∧ vn = .int .u64 (p : Int)) ∨ (vi = .int .i64 2 ∧ vn = .int .u64 ((p * 16 + q : Nat) : Int)))) (fun _ _ vi => 2 - (intOf vi).toNat)
  case atStart => exact ⟨rfl, Or.inl ⟨rfl, rfl⟩⟩
  case round =>
    obtain ⟨rfl, hcase⟩ := hrel
    rcases hcase with ⟨rfl, rfl⟩ | ⟨rfl, rfl⟩ | ⟨rfl, rfl⟩
    · rcases KC.out with ⟨h1, h2, h3⟩ | ⟨h1, h2, h3⟩
      · have e1 : ((m : Int) - 48) = (p : Int) := by omega
        have d0 : ((m : Int) == 95) = false := by rw [beq_eq_false_iff_ne]; omega
        have d1 : decide ((48 : Int) ≤ (m : Int)) = true := by rw [decide_eq_true_iff]; omega
        have d2 : decide ((m : Int) ≤ 57) = true := by rw [decide_eq_true_iff]; omega
        have d3 : decide ((16 : Int) ≤ (p : Int)) = false := by rw [decide_eq_false_iff_not]; omega
        have a1 : IntKind.u8.wrap ((m : Int) - 48) = (m : Int) - 48 := IntWalk.u8_in _ (by omega)
        clear h3
        go_wp2
        go_round
        case rel => exact ⟨rfl, Or.inr (Or.inl ⟨rfl, by go_num⟩)⟩
        case measure => simp [intOf]
      · have e1 : ((m : Int) - 97 + 10) = (p : Int) := by omega
        have d0 : ((m : Int) == 95) = false := by rw [beq_eq_false_iff_ne]; omega
        have d1 : decide ((48 : Int) ≤ (m : Int)) = true := by rw [decide_eq_true_iff]; omega
        have d2 : decide ((m : Int) ≤ 57) = false := by rw [decide_eq_false_iff_not]; omega
        have d3 : decide ((16 : Int) ≤ (p : Int)) = false := by rw [decide_eq_false_iff_not]; omega
        have d4 : decide ((97 : Int) ≤ (m : Int)) = true := by rw [decide_eq_true_iff]; omega
        have d5 : decide ((m : Int) ≤ 122) = true := by rw [decide_eq_true_iff]; omega
        have a1 : IntKind.u8.wrap ((m : Int) - 97) = (m : Int) - 97 := IntWalk.u8_in _ (by omega)
        have a2 : IntKind.u8.wrap ((m : Int) - 97 + 10) = (m : Int) - 97 + 10 := IntWalk.u8_in _ (by omega)
        clear h3
        have HLo := Lib.hid (fun w' => lower_hex w' m h1 h2)
        go_wp2_with (go_at_call 191; refine (HLo.out _).mono ?_; rintro e w' ⟨rfl, rfl⟩)
        go_round
        case rel => exact ⟨rfl, Or.inr (Or.inl ⟨rfl, by go_num⟩)⟩
        case measure => simp [intOf]
    · have d6 : decide ((1152921504606846976 : Int) ≤ (p : Int)) = false := by rw [decide_eq_false_iff_not]; omega
      have a6 : IntKind.u64.wrap ((p : Int) * 16) = (p : Int) * 16 := IntWalk.u64_in _ (by omega)
      have a7 : IntKind.u64.wrap ((p : Int) * 16 + (q : Int)) = (p : Int) * 16 + (q : Int) := IntWalk.u64_in _ (by omega)
      have d7 : decide ((p : Int) * 16 + (q : Int) < (p : Int) * 16) = false := by rw [decide_eq_false_iff_not]; omega
      have d8 : decide ((255 : Int) < (p : Int) * 16 + (q : Int)) = false := by rw [decide_eq_false_iff_not]; omega
      rcases KD.out with ⟨h1, h2, h3⟩ | ⟨h1, h2, h3⟩
      · have e1 : ((n : Int) - 48) = (q : Int) := by omega
        have d0 : ((n : Int) == 95) = false := by rw [beq_eq_false_iff_ne]; omega
        have d1 : decide ((48 : Int) ≤ (n : Int)) = true := by rw [decide_eq_true_iff]; omega
        have d2 : decide ((n : Int) ≤ 57) = true := by rw [decide_eq_true_iff]; omega
        have d3 : decide ((16 : Int) ≤ (q : Int)) = false := by rw [decide_eq_false_iff_not]; omega
        have a1 : IntKind.u8.wrap ((n : Int) - 48) = (n : Int) - 48 := IntWalk.u8_in _ (by omega)
        clear h3
        go_wp2
        go_round
        case rel => exact ⟨rfl, Or.inr (Or.inr ⟨rfl, by go_num⟩)⟩
        case measure => simp [intOf]
      · have e1 : ((n : Int) - 97 + 10) = (q : Int) := by omega
        have d0 : ((n : Int) == 95) = false := by rw [beq_eq_false_iff_ne]; omega
        have d1 : decide ((48 : Int) ≤ (n : Int)) = true := by rw [decide_eq_true_iff]; omega
        have d2 : decide ((n : Int) ≤ 57) = false := by rw [decide_eq_false_iff_not]; omega
        have d3 : decide ((16 : Int) ≤ (q : Int)) = false := by rw [decide_eq_false_iff_not]; omega
        have d4 : decide ((97 : Int) ≤ (n : Int)) = true := by rw [decide_eq_true_iff]; omega
        have d5 : decide ((n : Int) ≤ 122) = true := by rw [decide_eq_true_iff]; omega
        have a1 : IntKind.u8.wrap ((n : Int) - 97) = (n : Int) - 97 := IntWalk.u8_in _ (by omega)
        have a2 : IntKind.u8.wrap ((n : Int) - 97 + 10) = (n : Int) - 97 + 10 := IntWalk.u8_in _ (by omega)
        clear h3
        have HLo := Lib.hid (fun w' => lower_hex w' n h1 h2)
        go_wp2_with (go_at_call 191; refine (HLo.out _).mono ?_; rintro e w' ⟨rfl, rfl⟩)
        go_round
        case rel => exact ⟨rfl, Or.inr (Or.inr ⟨rfl, by go_num⟩)⟩
        case measure => simp [intOf]
    · go_wp2
      go_ret2
      exact ⟨rfl, hb1⟩
theorem pu16_any (w : World) (s : ByteArray) (c d : UInt8) (hs : s.data.toList = [c, d]) (hc : isHex c = true) (hd : isHex d = true) :
    Calls Tryz.prog 132 #[.string s, .int .i64 16, .int .i64 8] w fun e w' => e = .returned (.tuple #[.int .u64 ((hexV c * 16 + hexV d : Nat) : Int), .nilIface]) ∧ Below w.heap.size w w' := by
  have H := Lib.hid (ipu16_any w s c d hs hc hd)
  clear hs hc hd
  go_enter Tryz.func132, Tryz.ntmps132
  go_wp2_with fail
  refine H.out.mono ?_
  rintro e w1 ⟨rfl, hb⟩
  go_wp2
  go_ret2
  exact ⟨rfl, hb⟩
end Go.Proofs.YtipbakdodbmfjaaGreatDoor

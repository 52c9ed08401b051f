/- Contracts of name.Size and the reference's Size: 1, and of each label one more than its bytes, for slices whose sum fits an int. -/
import Derived.Test.YtgfibbjifbghdaaGreatRows
import Derived.Test.YtgfibbjifbghdaaGreatBase
namespace Go.Proofs.YtgfibbjifbghdaaGreat
open Go.ChangeShapes Go.WideShapes Go.ChangeAt Go.RowKit

def sizeN : List ByteArray → Nat
  | [] => 0
  | s :: ss => s.size + 1 + sizeN ss
theorem sizeN_append (a b : List ByteArray) : sizeN (a ++ b) = sizeN a + sizeN b := by
  induction a with
  | nil => simp [sizeN]
  | cons x a ih => simp [sizeN, ih]; omega
theorem sizeN_take_succ (ss : List ByteArray) (k : Nat) (h : k < ss.length) : sizeN (ss.take (k + 1)) = sizeN (ss.take k) + (ss[k].size + 1) := by
  rw [List.take_succ_eq_append_getElem h, sizeN_append]; simp [sizeN]
theorem sizeN_take_le (ss : List ByteArray) (k : Nat) : sizeN (ss.take k) ≤ sizeN ss := by
  conv => rhs; rw [← List.take_append_drop k ss, sizeN_append]
  omega

theorem size_any (w : World) (ao : Option Addr) (len cap : Nat) (ss : List ByteArray) (hs : Strs w ao len cap ss) (hb : sizeN ss < 4611686018427387904) :
    Calls Tryz.prog 44 #[.slice ao len cap] w fun e w' => e = .returned (.int .i64 (1 + sizeN ss)) ∧ w = w' := by
  have hl := hs.len
  have hcap := hs.row.hcap
  have hle := hs.row.hle
  go_enter Tryz.func44, Tryz.ntmps44
  go_wp2
  go_loop [3, 8, 5] (fun t i _ => ∃ k : Nat, k ≤ len ∧ i = .int .i64 k ∧ t = .int .i64 (1 + sizeN (ss.take k))) (fun _ i _ => len - (intOf i).toNat)
  case atStart => exact ⟨0, Nat.zero_le _, rfl, by simp [sizeN]⟩
  case round =>
    obtain ⟨k, hk, rfl, rfl⟩ := hrel
    by_cases hlt : k < len
    · obtain ⟨b, off, rfl⟩ := hs.row.addr hlt
      have hc := hs.at hlt
      have h1 := sizeN_take_succ ss k (by omega)
      have h2 := sizeN_take_le ss (k + 1)
      have h3 := hs.get_small (i := k) (by omega)
      obtain ⟨s, hsk⟩ : ∃ s, s = ss[k] := ⟨_, rfl⟩
      rw [← hsk] at hc h1 h3
      have H1 := Lib.hid h1
      have h4 : sizeN (ss.take k) + (s.size + 1) < 4611686018427387904 := by omega
      clear h1 h2 hsk
      go_wp2
      go_round
      case rel => exact ⟨k + 1, by omega, by go_num, by rw [H1.out]; go_num⟩
      case measure => simp [intOf]; omega
    · go_wp2
      go_ret
      exact ⟨ret_int (by rw [List.take_of_length_le (by omega)]), rfl⟩

theorem rsize_any (w : World) (ao : Option Addr) (len cap : Nat) (ss : List ByteArray) (hs : Strs w ao len cap ss) (hb : sizeN ss < 4611686018427387904) :
    Calls Tryz.prog 12 #[.slice ao len cap] w fun e w' => e = .returned (.int .i64 (1 + sizeN ss)) ∧ w = w' := by
  have hl := hs.len
  have hcap := hs.row.hcap
  have hle := hs.row.hle
  go_enter Tryz.func12, Tryz.ntmps12
  go_wp2
  go_loop [3, 4] (fun t i => ∃ k : Nat, k ≤ len ∧ i = .int .i64 k ∧ t = .int .i64 (1 + sizeN (ss.take k))) (fun _ i => len - (intOf i).toNat)
  case atStart => exact ⟨0, Nat.zero_le _, rfl, by simp [sizeN]⟩
  case round =>
    obtain ⟨k, hk, rfl, rfl⟩ := hrel
    by_cases hlt : k < len
    · obtain ⟨b, off, rfl⟩ := hs.row.addr hlt
      have hc := hs.at hlt
      have h1 := sizeN_take_succ ss k (by omega)
      have h2 := sizeN_take_le ss (k + 1)
      have h3 := hs.get_small (i := k) (by omega)
      obtain ⟨s, hsk⟩ : ∃ s, s = ss[k] := ⟨_, rfl⟩
      rw [← hsk] at hc h1 h3
      have H1 := Lib.hid h1
      have h4 : sizeN (ss.take k) + (s.size + 1) < 4611686018427387904 := by omega
      clear h1 h2 hsk
      go_wp2
      go_round
      case rel => exact ⟨k + 1, by omega, by go_num, by rw [H1.out]; go_num⟩
      case measure => simp [intOf]; omega
    · go_wp2
      go_ret
      exact ⟨ret_int (by rw [List.take_of_length_le (by omega)]), rfl⟩
end Go.Proofs.YtgfibbjifbghdaaGreat

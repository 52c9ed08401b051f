/- The contract of file.upper: a word with large letters. -/
import Derived.Test.YtipbakdodbmfjaaGreatDoorTypeLaw
namespace Go.Proofs.YtipbakdodbmfjaaGreatDoor
open Go.ChangeShapes Go.WideShapes Go.ChangeAt Go.RowKit

theorem upC_hit {c : UInt8} (h1 : 97 ≤ c.toNat) (h2 : c.toNat ≤ 122) : ((upC c).toNat : Int) = (c.toNat : Int) - 32 := by
  rw [upC_nat, if_pos ⟨h1, h2⟩]; omega
theorem upC_miss {c : UInt8} (h : c.toNat < 97 ∨ 122 < c.toNat) : upC c = c := by
  rw [upC, if_neg (by omega)]
/-- k bytes are large already. -/
def upTo (l : List UInt8) (k : Nat) : List UInt8 := (l.take k).map upC ++ l.drop k
theorem upTo_zero (l : List UInt8) : upTo l 0 = l := by simp [upTo]
theorem upTo_all (l : List UInt8) (k : Nat) (h : l.length ≤ k) : upTo l k = l.map upC := by simp [upTo, List.take_of_length_le h, List.drop_eq_nil_of_le h]
theorem upTo_length (l : List UInt8) (k : Nat) : (upTo l k).length = l.length := by simp [upTo]; omega
theorem upTo_get (l : List UInt8) (k : Nat) (h : k < l.length) : (upTo l k)[k]'(by rw [upTo_length]; exact h) = l[k] := by
  simp only [upTo]
  rw [List.getElem_append_right (by simp; omega)]
  simp [Nat.min_eq_left (Nat.le_of_lt h)]
theorem upTo_set (l : List UInt8) (k : Nat) (h : k < l.length) : (upTo l k).set k (upC l[k]) = upTo l (k + 1) := by
  simp only [upTo]
  have hl : ((l.take k).map upC).length = k := by simp; omega
  rw [List.set_append_right _ _ (by omega), hl, Nat.sub_self, List.drop_eq_getElem_cons h, List.set_cons_zero, List.take_succ_eq_append_getElem h, List.map_append, List.append_assoc]
  rfl
theorem upTo_same (l : List UInt8) (k : Nat) (h : k < l.length) (hs : upC l[k] = l[k]) : upTo l (k + 1) = upTo l k := by
  simp only [upTo]
  rw [List.take_succ_eq_append_getElem h, List.drop_eq_getElem_cons h, List.map_append, List.append_assoc]
  simp only [List.map_cons, List.map_nil, hs]
  rfl

theorem upper_any (w : World) (s : ByteArray) (hs : s.size ≤ 9223372036854775807) :
    Calls Tryz.prog 41 #[.string s] w fun e w' => e = .returned (.string ⟨(upP s.data.toList).toArray⟩) ∧ Below w.heap.size w w' := by
  obtain ⟨cap, w1, hrun, hc1, hc2, hb1, hz1, hr1⟩ := conv_bytes w 9 29 5 s Tryz.underlying9 Tryz.underlying29 Tryz.underlying5 hs
  have hsl : s.data.toList.length = s.size := by simp
  go_enter Tryz.func41, Tryz.ntmps41
  go_wp2
  clear hrun
  have HZ := Lib.hid hz1; clear hz1
  have hzl : w.heap.size < w1.heap.size := by have := HZ.out; omega
  go_loopw [10, 4, 5] (fun i _ _ wr => ∃ k : Nat, k ≤ s.size ∧ i = .int .i64 k ∧ Below w.heap.size w wr ∧ ByteRow wr w.heap.size (upTo s.data.toList k)) (fun i _ _ _ => s.size - (intOf i).toNat)
  case atStart => exact ⟨0, Nat.zero_le _, rfl, hb1, by rw [upTo_zero]; exact hr1⟩
  case round =>
    obtain ⟨k, hk, rfl, hbr, hrr⟩ := hrel
    by_cases hlt : k < s.size
    · have hkl : k < s.data.toList.length := by omega
      have hc := hrr.cell (i := k) (by rw [upTo_length]; exact hkl)
      rw [upTo_get _ _ hkl] at hc
      have hf := hrr.free (i := k) (by rw [upTo_length]; exact hkl)
      have hset := fun (x : Int) (c : UInt8) (hx : x = (c.toNat : Int)) => hrr.set (k := k) (by rw [upTo_length]; exact hkl) hx
      have hse := upTo_set s.data.toList k hkl
      have hsa := upTo_same s.data.toList k hkl
      obtain ⟨c, hck⟩ : ∃ c, c = s.data.toList[k] := ⟨_, rfl⟩
      rw [← hck] at hc hse hsa
      have HK := Lib.hid hck; clear hck
      have H1 := Lib.hid hse; clear hse
      have H2 := Lib.hid hsa; clear hsa
      have H3 := Lib.hid hset; clear hset
      have H4 := Lib.hid hrr; clear hrr
      by_cases hx : 97 ≤ c.toNat ∧ c.toNat ≤ 122
      · obtain ⟨x1, x2⟩ := hx
        go_wp2
        go_roundw
        case rel =>
          refine ⟨k + 1, by omega, by go_num, hbr.setCell (by simp) _, ?_⟩
          rw [← H1.out]
          exact H3.out _ _ (by rw [upC_hit x1 x2]; omega)
        case measure => simp [intOf]; omega
      · have hx' : c.toNat < 97 ∨ 122 < c.toNat := by omega
        clear hx
        have H5 := Lib.hid (H2.out (upC_miss hx'))
        rcases hx' with hx | hx
        all_goals
          go_wp2
          go_roundw
          case rel => exact ⟨k + 1, by omega, by go_num, hbr, by rw [H5.out]; exact H4.out⟩
          case measure => simp [intOf]; omega
    · have hke : k = s.size := by omega
      have hback := conv_back wr 29 9 5 Tryz.underlying29 Tryz.underlying5 Tryz.underlying9 w.heap.size cap s.size (upTo s.data.toList k) (by rw [upTo_length]; exact hsl) hrr
      rw [upTo_all _ _ (by omega)] at hback
      clear hke
      go_wp2
      go_ret
      exact ⟨rfl, hbr⟩


end Go.Proofs.YtipbakdodbmfjaaGreatDoor

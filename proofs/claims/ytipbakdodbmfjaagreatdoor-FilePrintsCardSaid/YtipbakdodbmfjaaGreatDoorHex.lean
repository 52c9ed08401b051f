/- Contracts of script.hex and the statements' own hex: bytes as they are written. -/
import Derived.Test.YtipbakdodbmfjaaGreatDoorEnv
import Derived.Test.YtipbakdodbmfjaaGreatDoorScriptLaw
namespace Go.Proofs.YtipbakdodbmfjaaGreatDoor
open Go.ChangeShapes Go.WideShapes Go.ChangeAt Go.RowKit

theorem hexB_snoc (l : List UInt8) (k : Nat) (h : k < l.length) : hexP (l.take (k + 1)) = hexP (l.take k) ++ [hexD (l[k].toNat / 16)] ++ [hexD (l[k].toNat % 16)] := by
  rw [List.take_succ_eq_append_getElem h, hexP, hexP, hexB, hexB, List.flatMap_append]; simp
theorem hexB_len : ∀ l : List UInt8, (hexB l).length = 2 * l.length
  | [] => rfl
  | c :: l => by
    have := hexB_len l
    simp only [hexB, List.flatMap_cons, List.length_append, List.length_cons, List.length_nil] at this ⊢
    omega
theorem digits_get (m : Nat) (h : m < 16) : (⟨#[48, 49, 50, 51, 52, 53, 54, 55, 56, 57, 97, 98, 99, 100, 101, 102]⟩ : ByteArray)[m]'(by exact h) = hexD m := by
  have : m = 0 ∨ m = 1 ∨ m = 2 ∨ m = 3 ∨ m = 4 ∨ m = 5 ∨ m = 6 ∨ m = 7 ∨ m = 8 ∨ m = 9 ∨ m = 10 ∨ m = 11 ∨ m = 12 ∨ m = 13 ∨ m = 14 ∨ m = 15 := by omega
  rcases this with rfl | rfl | rfl | rfl | rfl | rfl | rfl | rfl | rfl | rfl | rfl | rfl | rfl | rfl | rfl | rfl <;> rfl
/-- a slice of bytes -/
abbrev Byts (w : World) (ao : Option Addr) (len cap : Nat) (l : List UInt8) : Prop := Row w ao len cap (l.map fun c => Value.int .u8 (c.toNat : Int))

set_option maxHeartbeats 1000000 in
set_option maxRecDepth 100000 in
theorem hex_any (w : World) (ao : Option Addr) (len cap : Nat) (l : List UInt8) (hs : Byts w ao len cap l) (hb : len ≤ 1099511627776) :
    Calls Tryz.prog 114 #[.slice ao len cap] w fun e w' => e = .returned (.string ⟨(hexP l).toArray⟩) ∧ Below w.heap.size w w' := by
  have hl : l.length = len := by simpa using hs.hlen
  have hcap := hs.hcap
  have hle := hs.hle
  have hst := bld_start w
  have HL := Lib.hid hl; clear hl
  go_enter Tryz.func114, Tryz.ntmps114
  go_wp2_with fail
  refine (writeByte_any _ _ _ 120 _ hst.is (by rw [bytes_len]; simp) hst.le).mono ?_
  rintro e w1 ⟨rfl, hat, hb1⟩
  have hbl := bld_byte hst 120 hat hb1
  clear hst hat hb1
  go_wp2_with fail
  go_loopw [9, 5] (fun i _ wr => ∃ k : Nat, k ≤ len ∧ i = .int .i64 k ∧ Bld w.heap.size w.heap.size w (hexP (l.take k)) wr) (fun i _ _ => len - (intOf i).toNat)
  case atStart => exact ⟨0, Nat.zero_le _, rfl, by simpa [hexP, hexB] using hbl⟩
  case round =>
    obtain ⟨k, hk, rfl, hbr⟩ := hrel
    clear hbl
    by_cases hlt : k < len
    · obtain ⟨b, off, rfl⟩ := hs.addr hlt
      have hc := (hs.below hbr.bel (Nat.le_refl _)).at hlt
      have hkl : k < l.length := by have := HL.out; omega
      have hsn := hexB_snoc l k hkl
      rw [List.getElem_map] at hc
      obtain ⟨c, hck⟩ : ∃ c, c = l[k] := ⟨_, rfl⟩
      rw [← hck] at hc hsn
      obtain ⟨n, hn⟩ : ∃ n, c.toNat = n := ⟨_, rfl⟩
      rw [hn] at hc hsn
      have hn2 : n < 256 := by have := c.toNat_lt; omega
      have HN := Lib.hid hsn
      have hlen : (hexP (l.take k)).length ≤ 2199023255553 := by
        rw [hexP, List.length_cons, hexB_len, List.length_take]; omega
      clear hsn hck hn
      go_wp2_with fail
      refine (writeByte_any _ _ _ _ _ hbr.is (by rw [bytes_len]; omega) hbr.le).mono ?_
      rintro e w2 ⟨rfl, hat, hb2⟩
      have hb3 := bld_byte hbr _ hat hb2
      rw [digits_get (n / 16) (by omega)] at hb3
      clear hat hb2 hbr
      go_wp2_with fail
      refine (writeByte_any _ _ _ _ _ hb3.is (by rw [bytes_len, List.length_append]; simp; omega) hb3.le).mono ?_
      rintro e w3 ⟨rfl, hat, hb4⟩
      have hb5 := bld_byte hb3 _ hat hb4
      rw [digits_get (n % 16) (by omega), ← HN.out] at hb5
      clear hat hb4 hb3
      go_wp2
      go_roundw
      case rel => exact ⟨k + 1, by omega, by go_num, hb5⟩
      case measure => simp [intOf]; omega
    · have hall : l.take k = l := List.take_of_length_le (by have := HL.out; omega)
      rw [hall] at hbr
      clear hall
      go_wp2_with fail
      refine (Tryz.Builder_String_any _ _ _ _ hbr.is hbr.le).mono ?_
      rintro e w2 ⟨rfl, hb2⟩
      go_wp2
      go_ret
      exact ⟨rfl, hbr.bel.trans hb2⟩
end Go.Proofs.YtipbakdodbmfjaaGreatDoor

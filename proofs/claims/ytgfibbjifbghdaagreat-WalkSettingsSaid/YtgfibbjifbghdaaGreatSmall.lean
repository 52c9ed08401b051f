/- Contracts of name.small and the reference's Small: each answers the label with small letters, and writes nothing that was there. -/
import Derived.Test.YtgfibbjifbghdaaGreatSound
import Derived.Lib.ConvBytes
namespace Go.Proofs.YtgfibbjifbghdaaGreat
open Go.ChangeShapes Go.WideShapes Go.ChangeAt Go.RowKit

/-- Block B's first cells are the bytes l, and may be written. -/
def ByteRow (w : World) (B : Nat) (l : List UInt8) : Prop := ∀ i (h : i < l.length), w.cell? ⟨B, i, none⟩ = some (.int .u8 (l[i].toNat : Int)) ∧ w.frozen? ⟨B, i, none⟩ = false

theorem ByteRow.cell {w : World} {B : Nat} {l : List UInt8} (h : ByteRow w B l) {i : Nat} (hi : i < l.length) : w.cell? ⟨B, i, none⟩ = some (.int .u8 (l[i].toNat : Int)) := (h i hi).1
theorem ByteRow.free {w : World} {B : Nat} {l : List UInt8} (h : ByteRow w B l) {i : Nat} (hi : i < l.length) : w.frozen? ⟨B, i, none⟩ = false := (h i hi).2
theorem ByteRow.set {w : World} {B : Nat} {l : List UInt8} (h : ByteRow w B l) {k : Nat} (hk : k < l.length) {x : Int} {c : UInt8} (hx : x = (c.toNat : Int)) : ByteRow (w.setCell ⟨B, k, none⟩ (.int .u8 x)) B (l.set k c) := by
  intro i hi
  have hi' : i < l.length := by simpa using hi
  subst hx
  constructor
  · by_cases e : i = k
    · subst e
      rw [List.getElem_set_self]
      exact World.cell?_setCell_same' w _ _ (by rw [h.cell hi']; rfl)
    · rw [List.getElem_set_ne (by omega), World.cell?_setCell_other (w := w) (a := ⟨B, k, none⟩) (b := ⟨B, i, none⟩) (h := fun h => e (by cases h; rfl))]
      exact h.cell hi'
  · rw [World.frozen?_setCell]
    exact h.free hi'

/-- '[]byte(s)' : a new block with the bytes. -/
theorem conv_bytes {P : Program} (w : World) (src dst e : TypeId) (s : ByteArray) {u : TypeDesc} (hs : P.underlying src = some u) (hd : P.underlying dst = some (.slice e)) (he : P.underlying e = some (.int .u8)) (hlen : s.size ≤ 9223372036854775807) :
    ∃ cap w1, (convert src dst (.string s)).run P w = .ok (.slice (some ⟨w.heap.size, 0, none⟩) s.size cap) w1 ∧ s.size ≤ cap ∧ cap ≤ 9223372036854775807 ∧ Below w.heap.size w w1 ∧ w1.heap.size = w.heap.size + 1 ∧ ByteRow w1 w.heap.size s.data.toList := by
  refine ⟨_, _, Lib.run_convert_string_bytes w src dst e s hs hd he, grownCap_ge _ _ _ _, grownCap_le_maxLen _ _ _ _ hlen, ?_, Lib.bytesWorld_size _ _ _, fun i hi => ⟨?_, ?_⟩⟩
  · refine ⟨?_, ?_, ?_, by rw [Lib.bytesWorld_size]; omega, fun k hk => Lib.bytesWorld_at_old w e s k hk⟩
    all_goals
      unfold Lib.bytesWorld World.freeze
      split <;> rfl
  · rw [Lib.bytesWorld_cell w e s i (by simpa using hi)]
    rw [List.getD_eq_getElem?_getD, List.getElem?_eq_getElem hi]; rfl
  · have := Lib.bytesWorld_at_new w e s
    simp only [World.frozen?, this]
    have h2 : s.size ≤ (Lib.bytesCells w e s).size := by simp [Lib.bytesCells]
    have h3 : i < s.size := by simpa using hi
    simp; omega

def lowB (c : UInt8) : UInt8 := if 65 ≤ c.toNat ∧ c.toNat ≤ 90 then UInt8.ofNat (c.toNat + 32) else c
def small (s : ByteArray) : ByteArray := ⟨(s.data.toList.map lowB).toArray⟩
theorem small_size (s : ByteArray) : (small s).size = s.size := by
  show ((s.data.toList.map lowB).toArray).size = s.data.size
  simp
theorem lowB_hit {c : UInt8} (h1 : 65 ≤ c.toNat) (h2 : c.toNat ≤ 90) : ((lowB c).toNat : Int) = (c.toNat : Int) + 32 := by
  rw [lowB, if_pos ⟨h1, h2⟩]
  have : (UInt8.ofNat (c.toNat + 32)).toNat = c.toNat + 32 := by
    rw [UInt8.toNat_ofNat']; omega
  omega
theorem lowB_miss {c : UInt8} (h : c.toNat < 65 ∨ 90 < c.toNat) : lowB c = c := by
  rw [lowB, if_neg (by omega)]

/-- k bytes are small already. -/
def lowTo (l : List UInt8) (k : Nat) : List UInt8 := (l.take k).map lowB ++ l.drop k
theorem lowTo_zero (l : List UInt8) : lowTo l 0 = l := by simp [lowTo]
theorem lowTo_all (l : List UInt8) (k : Nat) (h : l.length ≤ k) : lowTo l k = l.map lowB := by simp [lowTo, List.take_of_length_le h, List.drop_eq_nil_of_le h]
theorem lowTo_length (l : List UInt8) (k : Nat) : (lowTo l k).length = l.length := by simp [lowTo]; omega
theorem lowTo_get (l : List UInt8) (k : Nat) (h : k < l.length) : (lowTo l k)[k]'(by rw [lowTo_length]; exact h) = l[k] := by
  simp only [lowTo]
  rw [List.getElem_append_right (by simp; omega)]
  simp [Nat.min_eq_left (Nat.le_of_lt h)]
theorem lowTo_set (l : List UInt8) (k : Nat) (h : k < l.length) : (lowTo l k).set k (lowB l[k]) = lowTo l (k + 1) := by
  simp only [lowTo]
  have hl : ((l.take k).map lowB).length = k := by simp; omega
  rw [List.set_append_right _ _ (by omega), hl, Nat.sub_self, List.drop_eq_getElem_cons h, List.set_cons_zero, List.take_succ_eq_append_getElem h, List.map_append, List.append_assoc]
  rfl
theorem lowTo_same (l : List UInt8) (k : Nat) (h : k < l.length) (hs : lowB l[k] = l[k]) : lowTo l (k + 1) = lowTo l k := by
  simp only [lowTo]
  rw [List.take_succ_eq_append_getElem h, List.drop_eq_getElem_cons h, List.map_append, List.append_assoc]
  simp only [List.map_cons, List.map_nil, hs]
  rfl

theorem strOfNums_bytes (l : List UInt8) : strOfNums (l.map fun c => (c.toNat : Int)) = ⟨l.toArray⟩ := by
  simp only [strOfNums, List.map_map]
  congr 2
  conv => rhs; rw [← List.map_id l]
  exact List.map_congr_left fun c _ => by simp

/-- 'string(b)' of bytes. -/
theorem conv_back {P : Program} (w : World) (src dst e : TypeId) (hs : P.underlying src = some (.slice e)) (he : P.underlying e = some (.int .u8)) (hd : P.underlying dst = some .string) (B cap n : Nat) (l : List UInt8) (hl : l.length = n) (hr : ByteRow w B l) :
    (convert src dst (.slice (some ⟨B, 0, none⟩) n cap)).run P w = .ok (.string ⟨l.toArray⟩) w := by
  have := run_convert_bytes_arg (P := P) w src e hs he B 0 n cap (l.map fun c => (c.toNat : Int)) (by simpa using hl) (fun i hi => by
    have := hr.cell (i := i) (by omega)
    simp [List.getD, show i < l.length by omega, this]) dst hd
  rw [this, strOfNums_bytes]

theorem small_any (w : World) (s : ByteArray) (hs : s.size ≤ 9223372036854775807) :
    Calls Tryz.prog 82 #[.string s] w fun e w' => e = .returned (.string (small s)) ∧ Below w.heap.size w w' := by
  obtain ⟨cap, w1, hrun, hc1, hc2, hb1, hz1, hr1⟩ := conv_bytes w 9 28 5 s Tryz.underlying9 Tryz.underlying28 Tryz.underlying5 hs
  have hsl : s.data.toList.length = s.size := by simp
  go_enter Tryz.func82, Tryz.ntmps82
  go_wp2
  clear hrun
  have HZ := Lib.hid hz1; clear hz1
  have hzl : w.heap.size < w1.heap.size := by have := HZ.out; omega
  go_loopw [10, 4, 5] (fun i _ _ wr => ∃ k : Nat, k ≤ s.size ∧ i = .int .i64 k ∧ Below w.heap.size w wr ∧ ByteRow wr w.heap.size (lowTo s.data.toList k)) (fun i _ _ _ => s.size - (intOf i).toNat)
  case atStart => exact ⟨0, Nat.zero_le _, rfl, hb1, by rw [lowTo_zero]; exact hr1⟩
  case round =>
    obtain ⟨k, hk, rfl, hbr, hrr⟩ := hrel
    by_cases hlt : k < s.size
    · have hkl : k < s.data.toList.length := by omega
      have hc := hrr.cell (i := k) (by rw [lowTo_length]; exact hkl)
      rw [lowTo_get _ _ hkl] at hc
      have hf := hrr.free (i := k) (by rw [lowTo_length]; exact hkl)
      have hset := fun (x : Int) (c : UInt8) (hx : x = (c.toNat : Int)) => hrr.set (k := k) (by rw [lowTo_length]; exact hkl) hx
      have hse := lowTo_set s.data.toList k hkl
      have hsa := lowTo_same s.data.toList k hkl
      obtain ⟨c, hck⟩ : ∃ c, c = s.data.toList[k] := ⟨_, rfl⟩
      rw [← hck] at hc hse hsa
      have HK := Lib.hid hck; clear hck
      have H1 := Lib.hid hse; clear hse
      have H2 := Lib.hid hsa; clear hsa
      have H3 := Lib.hid hset; clear hset
      have H4 := Lib.hid hrr; clear hrr
      by_cases hx : 65 ≤ c.toNat ∧ c.toNat ≤ 90
      · obtain ⟨x1, x2⟩ := hx
        go_wp2
        go_roundw
        case rel =>
          refine ⟨k + 1, by omega, by go_num, hbr.setCell (by simp) _, ?_⟩
          rw [← H1.out]
          exact H3.out _ _ (by rw [lowB_hit x1 x2]; omega)
        case measure => simp [intOf]; omega
      · have hx' : c.toNat < 65 ∨ 90 < c.toNat := by omega
        clear hx
        have H5 := Lib.hid (H2.out (lowB_miss hx'))
        rcases hx' with hx | hx
        all_goals
          go_wp2
          go_roundw
          case rel => exact ⟨k + 1, by omega, by go_num, hbr, by rw [H5.out]; exact H4.out⟩
          case measure => simp [intOf]; omega
    · have hke : k = s.size := by omega
      have hback := conv_back wr 28 9 5 Tryz.underlying28 Tryz.underlying5 Tryz.underlying9 w.heap.size cap s.size (lowTo s.data.toList k) (by rw [lowTo_length]; exact hsl) hrr
      rw [lowTo_all _ _ (by omega)] at hback
      clear hke
      go_wp2
      go_ret
      exact ⟨rfl, hbr⟩

end Go.Proofs.YtgfibbjifbghdaaGreat

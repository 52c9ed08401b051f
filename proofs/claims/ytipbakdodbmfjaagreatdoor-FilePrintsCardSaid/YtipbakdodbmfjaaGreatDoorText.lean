/- Contracts of name.escape and name.Text: the text of a name. The package-level table of the library that the run reads is asked to hold its numbers. -/
import Derived.Test.YtipbakdodbmfjaaGreatDoorEqual
import Derived.Test.YtipbakdodbmfjaaGreatDoorBuilder
import Derived.Test.YtipbakdodbmfjaaGreatDoorShelf
import Derived.Lib.ItoaMem
import Derived.Lib.SmallJoins
namespace Go.Proofs.YtipbakdodbmfjaaGreatDoor
open Go.ChangeShapes Go.WideShapes Go.ChangeAt Go.RowKit

def dig (n : Nat) : UInt8 := UInt8.ofNat (48 + n)
/-- how a byte of a label is written -/
def escL (c : UInt8) : List UInt8 :=
  if c.toNat = 46 ∨ c.toNat = 92 then [92, c] else if c.toNat < 33 ∨ 126 < c.toNat then [92, dig (c.toNat / 100), dig (c.toNat / 10 % 10), dig (c.toNat % 10)] else [c]

theorem encode_ascii (c : UInt8) (h : c.toNat < 128) : Utf8.encode (c.toNat : Int) = ⟨#[c]⟩ := by
  have hv : Utf8.valid (c.toNat : Int) = true := by unfold Utf8.valid; simp; omega
  unfold Utf8.encode
  simp only [hv, if_true, Int.toNat_natCast, h]
  simp

def Tab (w : World) : Prop := Lib.TabIs Tryz.prog w "internal/strconv.uint64pow10" IntKind.u64 Lib.pow10Tab

theorem decDigits_three (n : Nat) (h : n < 256) : Lib.repeatL [48] (3 - (Lib.decDigits n).length) ++ Lib.decDigits n = [dig (n / 100), dig (n / 10 % 10), dig (n % 10)] ∧ (Lib.decDigits n).length ≤ 3 := by
  have h10 : ∀ k, k < 10 → Lib.decDigits k = [dig k] := fun k hk => by rw [Lib.decDigits, dif_pos hk]; rfl
  by_cases h1 : n < 10
  · rw [h10 n h1]
    have e1 : n / 100 = 0 := by omega
    have e2 : n / 10 % 10 = 0 := by omega
    have e3 : n % 10 = n := by omega
    rw [e1, e2, e3]
    exact ⟨rfl, by simp⟩
  · by_cases h2 : n < 100
    · have e : Lib.decDigits n = [dig (n / 10), dig (n % 10)] := by
        rw [Lib.decDigits, dif_neg h1, h10 _ (by omega)]; rfl
      rw [e]
      have e1 : n / 100 = 0 := by omega
      have e2 : n / 10 % 10 = n / 10 := by omega
      rw [e1, e2]
      exact ⟨rfl, by simp⟩
    · have e : Lib.decDigits n = [dig (n / 100), dig (n / 10 % 10), dig (n % 10)] := by
        rw [Lib.decDigits, dif_neg h1, Lib.decDigits, dif_neg (by omega), h10 _ (by omega), Nat.div_div_eq_div_mul]; rfl
      rw [e]
      exact ⟨rfl, by simp⟩

theorem encode_ascii' (n : Nat) (h : n < 128) : Utf8.encode (n : Int) = ⟨#[UInt8.ofNat n]⟩ := by
  have := encode_ascii (UInt8.ofNat n) (by rw [UInt8.toNat_ofNat']; omega)
  rwa [UInt8.toNat_ofNat', Nat.mod_eq_of_lt (by omega)] at this

theorem cat3 (a b : List UInt8) : (⟨#[92]⟩ : ByteArray) ++ ⟨a.toArray⟩ ++ ⟨b.toArray⟩ = ⟨(92 :: (a ++ b)).toArray⟩ := by
  apply ByteArray.ext
  simp [ByteArray.data_append]
theorem below_grow (w : World) (k : Nat) (os : Array Obj) : Below w.heap.size w (Sort.grow (w.drewN k) os) := by
  refine ⟨?_, ?_, ?_, ?_, fun i hi => ?_⟩
  all_goals simp [Sort.grow, World.drewN]
  rw [Array.getElem?_append_left hi]
theorem escape_dot (w : World) (n : Nat) (h2 : n = 46 ∨ n = 92) :
    Calls Tryz.prog 130 #[.int .u8 (n : Int)] w fun e w' => e = .returned (.string ⟨#[92, UInt8.ofNat n]⟩) ∧ Below w.heap.size w w' := by
  have e1 : Utf8.encode 46 = ⟨#[46]⟩ := encode_ascii' 46 (by decide)
  have e2 : Utf8.encode 92 = ⟨#[92]⟩ := encode_ascii' 92 (by decide)
  rcases h2 with rfl | rfl
  all_goals
    go_enter Tryz.func130, Tryz.ntmps130
    go_wp2
    go_ret
    exact ⟨ret_str rfl, Below.refl _ _⟩
theorem escape_plain (w : World) (n : Nat) (h7 : ((n : Int) == 46) = false) (h8 : ((n : Int) == 92) = false) (h5 : 33 ≤ n) (h6 : n ≤ 126) :
    Calls Tryz.prog 130 #[.int .u8 (n : Int)] w fun e w' => e = .returned (.string ⟨#[UInt8.ofNat n]⟩) ∧ Below w.heap.size w w' := by
  have ha : Hid (Utf8.encode (n : Int) = ⟨#[UInt8.ofNat n]⟩) := encode_ascii' n (by omega)
  have d1 : decide ((n : Int) < 33) = false := by rw [decide_eq_false_iff_not]; omega
  have d2 : decide ((126 : Int) < (n : Int)) = false := by rw [decide_eq_false_iff_not]; omega
  go_enter Tryz.func130, Tryz.ntmps130
  go_wp2
  go_ret
  exact ⟨ret_str ha.out, Below.refl _ _⟩
set_option maxHeartbeats 400000 in
theorem escape_digits (w : World) (n : Nat) (hn : n < 256) (hT : Tab w) (h7 : ((n : Int) == 46) = false) (h8 : ((n : Int) == 92) = false) (h4 : n < 33 ∨ 126 < n) :
    Calls Tryz.prog 130 #[.int .u8 (n : Int)] w fun e w' => e = .returned (.string ⟨#[92, dig (n / 100), dig (n / 10 % 10), dig (n % 10)]⟩) ∧ Below w.heap.size w w' := by
  obtain ⟨hd, hl⟩ := decDigits_three n hn
  have hi : Lib.itoa (n : Int) = Lib.decDigits n := by simp [Lib.itoa]
  have HC := Tryz.strconv_Itoa n (by omega) (by omega) w hT
  rw [hi] at HC
  obtain ⟨ds, hds⟩ : ∃ ds, ds = Lib.decDigits n := ⟨_, rfl⟩
  rw [← hds] at hd hl HC
  have hsz : (⟨ds.toArray⟩ : ByteArray).size = ds.length := by show ds.toArray.size = _; simp
  have hrep : ∀ w, _ := fun w => Tryz.strings_Repeat ⟨#[48]⟩ (3 - ds.length) w (by omega) (by show 1 * _ ≤ _; omega)
  have HD := Lib.hid hd
  have HI := Lib.hid HC
  have HR := Lib.hid hrep
  clear hd hi hds HC hrep
  have hrl : (Lib.repeatL [48] (3 - ds.length)).length ≤ 3 := by rw [Lib.repeatL_length]; simp
  have HN : Hid (((3 : Int) - (ds.length : Int)) = ((3 - ds.length : Nat) : Int)) := by show _ = _; omega
  rcases h4 with h4 | h4
  · go_enter Tryz.func130, Tryz.ntmps130
    go_wp2_with fail
    refine HI.out.mono ?_
    rintro e w1 ⟨rfl, k1, os1, hw1⟩
    have hb1 : Below w.heap.size w w1 := by rw [hw1]; exact below_grow _ _ _
    clear hw1
    go_wp2_with fail
    rw [HN.out]
    refine (HR.out _).mono ?_
    rintro e w2 ⟨rfl, hb2⟩
    go_wp2
    go_ret
    exact ⟨ret_str ((cat3 _ _).trans (by rw [HD.out])), below_on hb1 hb2 (Nat.le_refl _)⟩
  · have d1 : decide ((n : Int) < 33) = false := by rw [decide_eq_false_iff_not]; omega
    go_enter Tryz.func130, Tryz.ntmps130
    go_wp2_with fail
    refine HI.out.mono ?_
    rintro e w1 ⟨rfl, k1, os1, hw1⟩
    have hb1 : Below w.heap.size w w1 := by rw [hw1]; exact below_grow _ _ _
    clear hw1
    go_wp2_with fail
    rw [HN.out]
    refine (HR.out _).mono ?_
    rintro e w2 ⟨rfl, hb2⟩
    go_wp2
    go_ret
    exact ⟨ret_str ((cat3 _ _).trans (by rw [HD.out])), below_on hb1 hb2 (Nat.le_refl _)⟩

def escN (n : Nat) : List UInt8 :=
  if n = 46 ∨ n = 92 then [92, UInt8.ofNat n] else if n < 33 ∨ 126 < n then [92, dig (n / 100), dig (n / 10 % 10), dig (n % 10)] else [UInt8.ofNat n]
theorem escN_eq (c : UInt8) : escN c.toNat = escL c := by simp only [escN, escL, UInt8.ofNat_toNat]
theorem escN_len (n : Nat) : (escN n).length ≤ 4 := by
  unfold escN
  split
  · simp
  · split <;> simp

theorem escape_any (w : World) (n : Nat) (hn : n < 256) (hT : Tab w) :
    Calls Tryz.prog 130 #[.int .u8 (n : Int)] w fun e w' => e = .returned (.string ⟨(escN n).toArray⟩) ∧ Below w.heap.size w w' := by
  by_cases h1 : n = 46 ∨ n = 92
  · have e : escN n = [92, UInt8.ofNat n] := by rw [escN, if_pos h1]
    rw [e]
    exact escape_dot w n h1
  · have h7 : ((n : Int) == 46) = false := by rw [beq_eq_false_iff_ne]; omega
    have h8 : ((n : Int) == 92) = false := by rw [beq_eq_false_iff_ne]; omega
    by_cases h4 : n < 33 ∨ 126 < n
    · have e : escN n = [92, dig (n / 100), dig (n / 10 % 10), dig (n % 10)] := by rw [escN, if_neg h1, if_pos h4]
      rw [e]
      exact escape_digits w n hn hT h7 h8 h4
    · have e : escN n = [UInt8.ofNat n] := by rw [escN, if_neg h1, if_neg h4]
      rw [e]
      exact escape_plain w n h7 h8 (by omega) (by omega)

theorem tab_on {w w' : World} (h : Tab w) (hb : Below w.heap.size w w') : Tab w' :=
  Joins.tab_stays (g := 2) (by kernel_rfl) h hb (Nat.le_refl _)

/-- a label's text, without the point -/
def labT (l : List UInt8) : List UInt8 := l.flatMap escL
def bodyT (ss : List ByteArray) : List UInt8 := ss.flatMap fun s => labT s.data.toList ++ [46]
def textT (ss : List ByteArray) : List UInt8 := if ss.length = 0 then [46] else bodyT ss
theorem labT_len : ∀ l : List UInt8, (labT l).length ≤ 4 * l.length
  | [] => by simp [labT]
  | c :: l => by
    have := labT_len l
    have h := escN_len c.toNat
    rw [escN_eq] at h
    simp only [labT, List.flatMap_cons, List.length_append, List.length_cons] at this ⊢
    omega
theorem bodyT_len : ∀ ss : List ByteArray, (bodyT ss).length ≤ 4 * sizeN ss
  | [] => by simp [bodyT]
  | s :: ss => by
    have := bodyT_len ss
    have h := labT_len s.data.toList
    have hl : s.data.toList.length = s.size := by simp
    simp only [bodyT, List.flatMap_cons, List.length_append, sizeN, List.length_cons, List.length_nil] at this ⊢
    omega
theorem labT_snoc (l : List UInt8) (k : Nat) (h : k < l.length) : labT (l.take (k + 1)) = labT (l.take k) ++ escN l[k].toNat := by
  rw [List.take_succ_eq_append_getElem h, labT, List.flatMap_append, escN_eq]; simp [labT]
theorem labT_take (l : List UInt8) (k : Nat) : (labT (l.take k)).length ≤ (labT l).length := by
  conv => rhs; rw [← List.take_append_drop k l, labT, List.flatMap_append]
  simp [labT]
theorem take_bytes (s : ByteArray) (j : Nat) (h : s.size ≤ j) : s.data.toList.take j = s.data.toList := List.take_of_length_le (by simpa using h)
theorem bodyT_snoc (ss : List ByteArray) (k : Nat) (h : k < ss.length) : bodyT (ss.take (k + 1)) = bodyT (ss.take k) ++ labT ss[k].data.toList ++ [46] := by
  rw [List.take_succ_eq_append_getElem h, bodyT, List.flatMap_append]; simp [bodyT]

/-- the builder at block b holds the bytes l; below block B all is as it was in w0 -/
structure Bld (B b : Nat) (w0 : World) (l : List UInt8) (w : World) : Prop where
  is : IsB B b (Lib.byteCells l) w
  bel : Below B w0 w
  le0 : B ≤ w0.heap.size
theorem Bld.le {B b : Nat} {w0 w : World} {l : List UInt8} (h : Bld B b w0 l w) : B ≤ w.heap.size := Nat.le_trans h.le0 h.bel.size

theorem bld_start (w : World) : Bld w.heap.size w.heap.size w [] (w.alloc (.cells #[.pointer none, .slice none 0 0] 94)) := by
  refine ⟨.inl ⟨Nat.le_refl _, .slice none 0 0, heap_alloc_new w _, World.ownsRow_nil _ _ _ _, by simp [Value.ownBlock]⟩, (Below.refl _ _).alloc (Nat.le_refl _) _, Nat.le_refl _⟩
theorem bld_byte {B b : Nat} {w0 w w' : World} {l : List UInt8} (h : Bld B b w0 l w) (c : UInt8) (h1 : BAt B b (Lib.byteCells l ++ [.int .u8 (c.toNat : Int)]) w') (h2 : Below B w w') : Bld B b w0 (l ++ [c]) w' :=
  ⟨.inr (by rw [Lib.byteCells_append]; exact h1), h.bel.trans h2, h.le0⟩
theorem bld_str {B b : Nat} {w0 w w' : World} {l : List UInt8} (h : Bld B b w0 l w) (s : List UInt8) (h1 : BAt B b (Lib.byteCells l ++ Lib.strCells ⟨s.toArray⟩) w') (h2 : Below B w w') : Bld B b w0 (l ++ s) w' :=
  ⟨.inr (by rw [Lib.byteCells_append]; rw [Lib.strCells_eq] at h1; simpa using h1), h.bel.trans h2, h.le0⟩
theorem bld_quiet {B b : Nat} {w0 w w' : World} {l : List UInt8} (h : Bld B b w0 l w) (hb : Below w.heap.size w w') : Bld B b w0 l w' := by
  have hg : w.grownBy w' none := ⟨hb.os, hb.tape, hb.output, hb.size, fun k hk _ => hb.block k hk⟩
  have key : ∀ p, Lib.BuilderAt 94 5 B b p (Lib.byteCells l) w → Lib.BuilderAt 94 5 B b p (Lib.byteCells l) w' := by
    rintro p ⟨h1, v, h2, h3, h4⟩
    have hlt : b < w.heap.size := (Array.getElem?_eq_some_iff.1 h2).1
    exact ⟨h1, v, by rw [hb.block b hlt]; exact h2, h3.kept hg (by cases v.ownBlock <;> simp), h4⟩
  refine ⟨?_, below_on h.bel hb h.le0, h.le0⟩
  rcases h.is with h1 | h1
  · exact .inl (key _ h1)
  · exact .inr (key _ h1)
theorem bytes_len (l : List UInt8) : (Lib.byteCells l).length = l.length := Lib.byteCells_length l

set_option maxHeartbeats 1000000 in
theorem text_any (w : World) (ao : Option Addr) (len cap : Nat) (ss : List ByteArray) (hs : Strs w ao len cap ss) (hb : 4 * sizeN ss ≤ 140737488355328) (hT : Tab w) :
    Calls Tryz.prog 92 #[.slice ao len cap] w fun e w' => e = .returned (.string ⟨(textT ss).toArray⟩) ∧ Below w.heap.size w w' := by
  have hl := hs.len
  have hcap := hs.row.hcap
  have hle := hs.row.hle
  have hst := bld_start w
  have HB := Lib.hid hb; clear hb
  go_enter Tryz.func92, Tryz.ntmps92
  go_wp2
  go_loopw [9] (fun i wr => ∃ k : Nat, k ≤ len ∧ i = .int .i64 k ∧ Bld w.heap.size w.heap.size w (bodyT (ss.take k)) wr) (fun i _ => len - (intOf i).toNat)
  case atStart => exact ⟨0, Nat.zero_le _, rfl, hst⟩
  case round =>
    obtain ⟨k, hk, rfl, hbl⟩ := hrel
    clear hst
    by_cases hlt : k < len
    · obtain ⟨b, off, rfl⟩ := hs.row.addr hlt
      have hc := (hs.below hbl.bel (Nat.le_refl _)).at hlt
      have h3 := hs.get_small (i := k) (by omega)
      have hsn := bodyT_snoc ss k (by omega)
      obtain ⟨s, hsk⟩ : ∃ s, s = ss[k] := ⟨_, rfl⟩
      rw [← hsk] at hc h3 hsn
      have HK := Lib.hid hsk; clear hsk
      have HSN := Lib.hid hsn; clear hsn
      have hfin := bodyT_len (ss.take (k + 1))
      have hfin2 := sizeN_take_le ss (k + 1)
      have HF := Lib.hid (show (bodyT (ss.take (k + 1))).length ≤ 140737488355328 by have := HB.out; omega)
      clear hfin hfin2
      go_wp2
      obtain ⟨wo, rfl⟩ : ∃ wo : World, wo = wr := ⟨_, rfl⟩
      go_loopw [15, 6] (fun i _ wr => ∃ j : Nat, j ≤ s.size ∧ i = .int .i64 j ∧ Bld w.heap.size w.heap.size w (bodyT (ss.take k) ++ labT (s.data.toList.take j)) wr) (fun i _ _ => s.size - (intOf i).toNat)
      case atStart => exact ⟨0, Nat.zero_le _, rfl, by simpa [labT] using hbl⟩
      case round =>
        obtain ⟨j, hj, rfl, hbl2⟩ := hrel
        clear hbl hc
        by_cases hjl : j < s.size
        · have hsn2 := labT_snoc s.data.toList j (by simpa using hjl)
          have hsz : (bodyT (ss.take k) ++ labT (s.data.toList.take j)).length + (escN (s[j]).toNat).length ≤ 140737488355328 := by
            have e1 := congrArg List.length hsn2
            have e2 := labT_take s.data.toList (j + 1)
            have e3 := congrArg List.length HSN.out
            have e4 := HF.out
            simp only [List.length_append, List.length_cons, List.length_nil] at e1 e3 ⊢
            have e5 : (s.data.toList[j]'(by simpa using hjl)) = s[j] := rfl
            rw [e5] at e1
            omega
          have HS2 := Lib.hid hsn2; clear hsn2
          have HZ := Lib.hid hsz; clear hsz
          go_wp2_with fail
          refine (escape_any _ _ (s[j]).toNat_lt (tab_on hT hbl2.bel)).mono ?_
          rintro e w1 ⟨rfl, hb1⟩
          have hbl3 := bld_quiet hbl2 hb1
          clear hbl2
          go_wp2_with fail
          refine (writeString_any _ _ _ _ _ hbl3.is (by rw [bytes_len]; exact HZ.out) hbl3.le).mono ?_
          rintro e w2 ⟨rfl, hat, hb2⟩
          have hbl4 := bld_str hbl3 _ hat hb2
          clear hbl3 hat
          go_wp2
          go_roundw
          case rel => exact ⟨j + 1, by omega, by go_num, by rw [HS2.out, ← List.append_assoc]; exact hbl4⟩
          case measure => simp [intOf]; omega
        · have hall : (bodyT (ss.take k) ++ labT (s.data.toList.take j)) = bodyT (ss.take k) ++ labT s.data.toList := by rw [take_bytes s j (by omega)]
          rw [hall] at hbl2
          have HA := Lib.hid hall; clear hall
          go_wp2_with fail
          refine (writeByte_any _ _ _ 46 _ hbl2.is (by
            have e3 := congrArg List.length HSN.out
            have e4 := HF.out
            simp only [List.length_append, List.length_cons, List.length_nil] at e3
            rw [bytes_len, List.length_append]; omega) hbl2.le).mono ?_
          rintro e w1 ⟨rfl, hat, hb1⟩
          have hbl3 := bld_byte hbl2 46 hat hb1
          clear hbl2 hat
          go_wp2
          go_roundw
          case rel => exact ⟨k + 1, by omega, by go_num, by rw [HSN.out]; exact hbl3⟩
          case measure => simp [intOf]; omega
    · have hke : k = len := by omega
      subst hke
      have hall : bodyT (ss.take k) = bodyT ss := by rw [List.take_of_length_le (by omega)]
      rw [hall] at hbl
      clear hall
      by_cases h0 : k = 0
      · have hT0 : Hid (textT ss = [46]) := by simp only [Hid, textT]; rw [if_pos (by omega)]
        have hq : ((k : Int) == 0) = true := by rw [beq_iff_eq]; omega
        go_wp2
        go_ret
        exact ⟨ret_str (by rw [hT0.out]), hbl.bel⟩
      · have hT0 : Hid (textT ss = bodyT ss) := by simp only [Hid, textT]; rw [if_neg (by omega)]
        have hq : ((k : Int) == 0) = false := by rw [beq_eq_false_iff_ne]; omega
        go_wp2_with fail
        refine (Tryz.Builder_String_any _ _ _ _ hbl.is hbl.le).mono ?_
        rintro e w1 ⟨rfl, hb1⟩
        go_wp2
        go_ret
        exact ⟨ret_str (by rw [hT0.out]), hbl.bel.trans hb1⟩
end Go.Proofs.YtipbakdodbmfjaaGreatDoor

/- Merged texts: Knum, Kput, Kget, Kzero, Kseal, Kbytes, Kopen, Kdev, Kread, Konly, Kwrite, Ksync, Ksync2, Kcrash, Knew, Knums, Ksread, Kload, Ksave, Kblank, Klog, Kpart, Kopenb, Kopenk, Knone, Kget0, Kfind. -/
import Derived.Test.YtgfibbjifbghdaaGreatBase
import Derived.Test.YtgfibbjifbghdaaGreatChecked
import Derived.Test.YtgfibbjifbghdaaGreatData
import Derived.Laws.CopyOwn
import Derived.Laws.MakeOwn
import Derived.Laws.BitsAllLaws
import Derived.Lib.AppendZerosOnto
import Derived.Test.YtgfibbjifbghdaaGreatMem
import Derived.Test.YtgfibbjifbghdaaGreatClones
import Derived.Laws.BytesArg
import Derived.Laws.BytesString
import Derived.Test.YtgfibbjifbghdaaGreatFown
import Derived.Laws.Tables
import Derived.Test.YtgfibbjifbghdaaGreatCache
import Derived.Deep.RegionLaw
import Derived.Test.YtgfibbjifbghdaaGreatCtold
import Derived.Test.YtgfibbjifbghdaaGreatCnew
import Derived.Deep.RegionHeld3
import Derived.Test.YtgfibbjifbghdaaGreatTailp
namespace Go.Proofs.YtgfibbjifbghdaaGreat
section
open Go.ChangeShapes Go.WideShapes Go.ChangeAt Go.RowKit

/-- has a number so many bytes? -/
def fitK (n : Int) (size : Nat) : Bool := decide (0 ≤ n) && decide (n < 256 ^ size)
theorem fitk_eq {n d : Int} {k : Nat} (h0 : 0 ≤ n) (h : (256 : Int) ^ k = d) (hd : 0 < d) : (n / d == 0) = fitK n k := by
  subst h
  simp only [fitK, h0, decide_true, Bool.true_and]
  by_cases hl : n < 256 ^ k
  · rw [Int.ediv_eq_zero_of_lt h0 hl]; simp [hl]
  · have h1 : ¬ n / 256 ^ k = 0 := by
      intro e
      have := Int.lt_ediv_add_one_mul_self n hd
      rw [e] at this
      omega
    simp [hl, h1]
set_option maxHeartbeats 4000000 in
set_option maxRecDepth 100000 in
theorem fitk_any (w : World) (n : Int) (size : Nat) (hs : 1 ≤ size) (hs7 : size ≤ 7) :
    Calls Tryz.prog 94 #[.int .i64 n, .int .i64 (size : Int)] w fun e w' => e = .returned (.bool (fitK n size)) ∧ w' = w := by
  by_cases h0 : 0 ≤ n
  · have hz : size = 1 ∨ size = 2 ∨ size = 3 ∨ size = 4 ∨ size = 5 ∨ size = 6 ∨ size = 7 := by omega
    rcases hz with rfl | rfl | rfl | rfl | rfl | rfl | rfl
    all_goals
      first | simp only [Int.cast_ofNat_Int] | simp only [Int.natCast_one]
      go_enter Tryz.func94, Tryz.ntmps94
      go_wp2_with fail
      go_ret
      exact ⟨ret_bool (fitk_eq h0 (by decide) (by decide)), rfl⟩
  · have hf : fitK n size = false := by simp [fitK, h0]
    have hd : decide ((0 : Int) ≤ n) = false := by simpa using h0
    have hd1 : decide ((1 : Int) ≤ (size : Int)) = true := by simp; omega
    have hd7 : decide ((size : Int) ≤ (7 : Int)) = true := by simp; omega
    clear h0
    rw [hf]
    clear hf
    go_enter Tryz.func94, Tryz.ntmps94
    go_wp2_with fail
    go_ret
    exact ⟨rfl, rfl⟩
end
section
open Go.ChangeShapes Go.WideShapes Go.ChangeAt Go.RowKit

/-- a number's bytes, the greatest first -/
def putN (n : Int) (size : Nat) : List UInt8 := (List.range size).map fun t => UInt8.ofNat (n.toNat / 256 ^ (size - 1 - t) % 256)
def u8V (c : UInt8) : Value := .int .u8 (c.toNat : Int)
def putL (l : List UInt8) (n : Int) (size : Nat) : List UInt8 := if fitK n size = true then l ++ putN n size else l
theorem u8Info : (Tryz.prog.info? 5).map (fun i => (i.zero, i.size, i.bytes)) = some (some (.int .u8 0), 1, 1) := by kernel_rfl
theorem made_one (z : Value) (n : Nat) : madeCells #[z] n = (List.replicate n z).toArray := by
  unfold madeCells
  apply Array.ext
  · simp
  · intro i h1 h2
    simp at h1
    simp [Nat.mod_one]
theorem byts_src {W : World} {bo : Option Addr} {bl bc : Nat} {l : List UInt8} (h : Byts W bo bl bc l) (g : Nat) : 0 < (l.map u8V).length → (some (⟨g, 0, none⟩ : Addr) = some ⟨g, 0, none⟩) ∧ ∃ ad, bo = some ad ∧ ∀ j v, (l.map u8V)[j]? = some v → W.cell? (ad.add j) = some v := fun h0 => by
  have hl := h.hlen
  rw [List.length_map] at hl h0
  obtain ⟨b, off, e, hc⟩ := h.hcells (by omega)
  refine ⟨rfl, _, e, fun j v hj => ?_⟩
  rw [addr_add]
  have hj' : j < l.length := by
    rcases Nat.lt_or_ge j l.length with h | h
    · exact h
    · rw [List.getElem?_eq_none (by simpa using h)] at hj; cases hj
  rw [hc j (by simpa using hj'), ← hj, List.getElem?_eq_getElem (by simpa using hj')]
  rfl
theorem owns_put {w W : World} {l : List UInt8} {bl : Nat} (h : W.heap[w.heap.size]? = some (.cells (l.map u8V ++ List.replicate 7 (Value.int .u8 0)).toArray 5 (0, 0))) (hl : l.length = bl) {B : Nat} (hB : B ≤ w.heap.size) (hb : bl ≤ 1000000000) : W.ownsRow B 5 1 (.slice (some ⟨w.heap.size, 0, none⟩) bl (bl + 7)) bl (l.map u8V) := by
  refine ⟨by simp [hl], .inr ⟨w.heap.size, bl + 7, _, rfl, hB, h, by omega, by unfold maxLen; omega, by simp [hl], ?_⟩⟩
  simp [hl]
theorem u8_one (l : List UInt8) : ∀ v ∈ l.map u8V, v.oneCell' = true := by
  intro v hv
  obtain ⟨c, _, rfl⟩ := List.mem_map.1 hv
  rfl
theorem put_at (n : Int) (size t : Nat) (h0 : 0 ≤ n) (ht : t < size) : (n / 2 ^ (8 * (size - 1 - t)) % 256 : Int) = ((UInt8.ofNat (n.toNat / 256 ^ (size - 1 - t) % 256)).toNat : Int) ∧ (putN n size).take (t + 1) = (putN n size).take t ++ [UInt8.ofNat (n.toNat / 256 ^ (size - 1 - t) % 256)] := by
  constructor
  · obtain ⟨m, rfl⟩ := Int.eq_ofNat_of_zero_le h0
    rw [UInt8.toNat_ofNat', Int.toNat_natCast, Int.pow_mul, show ((2 : Int) ^ 8) = 256 from rfl, Nat.mod_mod_of_dvd _ (show (256 : Nat) ∣ 2 ^ 8 from ⟨1, rfl⟩)]
    simp only [Int.natCast_emod, Int.natCast_ediv, Int.natCast_pow, Int.cast_ofNat_Int]
  · rw [List.take_succ_eq_append_getElem (by simpa [putN] using ht)]
    simp [putN]
set_option maxHeartbeats 8000000 in
set_option maxRecDepth 100000 in
theorem putk_any (w : World) (bo : Option Addr) (bl bc : Nat) (l : List UInt8) (hl : Byts w bo bl bc l) (hbl : bl ≤ 1000000000) (n : Int) (size : Nat) (hs : 1 ≤ size) (hs7 : size ≤ 7) :
    Calls Tryz.prog 95 #[.slice bo bl bc, .int .i64 n, .int .i64 (size : Int)] w fun e w' => (∃ v, e = .returned v ∧ w'.ownsRow w.heap.size 5 1 v (putL l n size).length ((putL l n size).map u8V)) ∧ Below w.heap.size w w' := by
  obtain ⟨i0, hi, hz0, hz1, hz2⟩ := info_parts u8Info
  have hmk := run_make (P := Tryz.prog) w 28 5 i0 _ Tryz.underlying28 hi hz0 .i64 .i64 (bl : Int) ((bl : Int) + 7) (by omega) (by omega) (by rw [hz2]; omega) (by omega)
  simp only [hz1, Nat.mul_one, Int.toNat_natCast, show ((bl : Int) + 7).toNat = bl + 7 from by omega] at hmk
  have hm0 : madeCells (Value.int .u8 0).cells (bl + 7) = (List.replicate (bl + 7) (Value.int .u8 0)).toArray := made_one _ _
  rw [hm0] at hmk
  clear hm0
  have hA : (w.alloc (.cells (List.replicate (bl + 7) (Value.int .u8 0)).toArray 5)).heap[w.heap.size]? = some (.cells (List.replicate (bl + 7) (Value.int .u8 0)).toArray 5 (0, 0)) := heap_alloc_new w _
  have hb1 : Below w.heap.size w (w.alloc (.cells (List.replicate (bl + 7) (Value.int .u8 0)).toArray 5)) := (Below.refl _ _).alloc (Nat.le_refl _) _
  have hlen := hl.hlen
  rw [List.length_map] at hlen
  have HL := Lib.hid (And.intro hl hlen)
  have HI := Lib.hid (And.intro hi (And.intro hz0 (And.intro hz1 hz2)))
  have HA := Lib.hid hA
  have HB1 := Lib.hid hb1
  clear hl hlen hi hz0 hz1 hz2 hA hb1
  have hc1 : (l.map u8V).length = Nat.min bl bl := by rw [List.length_map, HL.out.2]; exact (Nat.min_self _).symm
  have hc2 := byts_src (HL.out.1.below HB1.out (Nat.le_refl _)) w.heap.size
  have hc3 : 0 + (l.map u8V).length ≤ (List.replicate (bl + 7) (Value.int .u8 0)).length := by rw [List.length_map, HL.out.2, List.length_replicate]; omega
  have HC := Lib.hid (And.intro hc1 (And.intro hc2 hc3))
  have HS : Hid (splice (List.replicate (bl + 7) (Value.int .u8 0)) 0 (l.map u8V) = l.map u8V ++ List.replicate 7 (Value.int .u8 0)) := Lib.hid (by
    rw [splice, List.take_zero, List.nil_append, List.length_map, HL.out.2, List.drop_replicate]
    congr 2; omega)
  clear hc1 hc2 hc3
  cases hf : fitK n size with
  | false =>
    have HF := Lib.hid (fun w => fitk_any w n size hs hs7)
    rw [hf] at HF
    have HP := Lib.hid (show putL l n size = l by simp [putL, hf])
    clear hf
    go_enter Tryz.func95, Tryz.ntmps95
    go_wp2_with (first | (refine wpList_copy_splice rfl _ _ 28 28 rfl 5 Tryz.underlying28 (by kernel_rfl) (some ⟨w.heap.size, 0, none⟩) bo bl (bl + 7) bl bc rfl rfl w.heap.size 0 (List.replicate (bl + 7) (Value.int .u8 0)) 5 HA.out (l.map u8V) HC.out.1 HC.out.2.1 HC.out.2.2 (u8_one l) w.heap.size w HB1.out (Nat.le_refl _) ?_; intro W hW hbW; have HW := Lib.hid hbW; clear hbW) | (go_at_call 94; refine (HF.out _).mono ?_; rintro e W ⟨rfl, rfl⟩))
    go_ret
    rw [HP.out]
    exact ⟨⟨.slice (some ⟨w.heap.size, 0, none⟩) bl (bl + 7), rfl, by rw [HL.out.2]; exact owns_put (w := w) (W := W) (by have := hW.out; rw [HS.out] at this; exact this) HL.out.2 (Nat.le_refl _) hbl⟩, HW.out⟩
  | true =>
    have HF := Lib.hid (fun w => fitk_any w n size hs hs7)
    rw [hf] at HF
    have HP := Lib.hid (show putL l n size = l ++ putN n size by simp [putL, hf])
    have hn0 : 0 ≤ n := by simp only [fitK, Bool.and_eq_true, decide_eq_true_eq] at hf; exact hf.1
    clear hf
    go_enter Tryz.func95, Tryz.ntmps95
    go_wp2_with (first | (refine wpList_copy_splice rfl _ _ 28 28 rfl 5 Tryz.underlying28 (by kernel_rfl) (some ⟨w.heap.size, 0, none⟩) bo bl (bl + 7) bl bc rfl rfl w.heap.size 0 (List.replicate (bl + 7) (Value.int .u8 0)) 5 HA.out (l.map u8V) HC.out.1 HC.out.2.1 HC.out.2.2 (u8_one l) w.heap.size w HB1.out (Nat.le_refl _) ?_; intro W hW hbW; have HW := Lib.hid hbW; clear hbW) | (go_at_call 94; refine (HF.out _).mono ?_; rintro e W ⟨rfl, rfl⟩))
    have HO := Lib.hid (owns_put (W := W) (l := l) (bl := bl) (by have := hW.out; rw [HS.out] at this; exact this) HL.out.2 (Nat.le_refl _) (by omega))
    clear hW hmk
    go_loopw [7, 8] (fun v k wr => ∃ t : Nat, t ≤ size ∧ k = .int .i64 ((size : Int) - 1 - t) ∧ Hid (Below w.heap.size w wr ∧ wr.ownsRow w.heap.size 5 1 v (bl + t) (l.map u8V ++ ((putN n size).take t).map u8V))) (fun _ k _ => (intOf k + 1).toNat)
    case atStart => exact ⟨0, Nat.zero_le _, by go_num, Lib.hid ⟨HW.out, by simpa using HO.out⟩⟩
    case round =>
      obtain ⟨t, ht, rfl, hinv⟩ := hrel
      clear HO HW
      by_cases hlt : t < size
      · obtain ⟨r, hr⟩ : ∃ r : Nat, r = size - 1 - t := ⟨_, rfl⟩
        have hr2 : (size : Int) - 1 - t = r := by omega
        rw [hr2]
        clear hr2
        have HRQ := Lib.hid hr
        have hr6 : r ≤ 6 := by omega
        have hx := put_at n size t hn0 hlt
        rw [← hr] at hx
        clear hr
        obtain ⟨i1, g1, g2, g3⟩ := (⟨i0, HI.out.1, HI.out.2.1, HI.out.2.2⟩ : ∃ i, Tryz.prog.info? 5 = some i ∧ i.zero = some (.int .u8 0) ∧ i.size = 1 ∧ i.bytes = 1)
        obtain ⟨v', w6, hrun, hown, hgr⟩ := append_row (P := Tryz.prog) (wr.alloc (.cells #[.int .u8 (n / 2 ^ (8 * r) % 256)] 5)) w.heap.size 28 28 5 i1 _ 1 Tryz.underlying28 g1 g2 g3.1 g3.2 rfl u7 (bl + t) _ (hinv.out.2.alloc _) (some ⟨wr.heap.size, 0, none⟩) 1 1 [.int .u8 (n / 2 ^ (8 * r) % 256)] (row_one wr _ _) (by intro u hu; simp at hu; subst hu; rfl) (by omega) (by omega) (by have := hinv.out.1.size; simp; omega)
        have hb6 : Below w.heap.size w w6 := (hinv.out.1.alloc hinv.out.1.size _).grown hgr (by have := hinv.out.1.size; simp; omega) (fun j hj => (hinv.out.2.lt j hj).1)
        have hlist : l.map u8V ++ ((putN n size).take t).map u8V ++ [.int .u8 (n / 2 ^ (8 * r) % 256)] = l.map u8V ++ ((putN n size).take (t + 1)).map u8V := by
          rw [hx.2, List.map_append, List.append_assoc, hx.1]; rfl
        rw [hlist] at hown
        have HST := Lib.hid (And.intro hb6 hown)
        have HRUN := Lib.hid hrun
        clear hx g1 g2 g3 hrun hown hgr hb6 hlist hinv
        go_wp2_with (at_builtin; refine wpList_append_run rfl _ _ _ rfl _ _ rfl rfl HRUN.out ?_)
        go_roundw
        case rel => exact ⟨t + 1, by omega, congrArg (Value.int .i64) (by have := HRQ.out; omega), HST⟩
        case measure => simp [intOf]
      · obtain rfl : t = size := by omega
        have hneg : (t : Int) - 1 - t = -1 := by omega
        rw [hneg]
        clear hneg
        go_wp2_with fail
        go_ret
        have h2 := hinv.out.2
        have hpl : (putN n t).length = t := by simp [putN]
        rw [List.take_of_length_le (by omega), ← List.map_append] at h2
        rw [HP.out]
        exact ⟨⟨_, rfl, by rw [List.length_append, hpl, HL.out.2]; exact h2⟩, hinv.out.1⟩
end
section
open Go.ChangeShapes Go.WideShapes Go.ChangeAt Go.RowKit

/-- the number that bytes are -/
def beN (l : List UInt8) : Nat := l.foldl (fun n x => n * 256 + x.toNat) 0
theorem beN_snoc (l : List UInt8) (x : UInt8) : beN (l ++ [x]) = beN l * 256 + x.toNat := by simp [beN, List.foldl_append]
theorem beN_lt : ∀ (l : List UInt8), beN l < 256 ^ l.length := by
  intro l
  induction h : l.length generalizing l with
  | zero => have := List.eq_nil_of_length_eq_zero h; subst this; decide
  | succ n ih =>
    obtain ⟨a, x, rfl⟩ : ∃ a x, l = a ++ [x] := ⟨l.dropLast, l.getLast (by intro e; subst e; simp at h), (List.dropLast_concat_getLast _).symm⟩
    have h1 := ih a (by simpa using h)
    have h2 := x.toNat_lt
    rw [beN_snoc, Nat.pow_succ]
    omega
theorem i64_or_nat (a b : Nat) (ha : a < 9223372036854775808) (hb : b < 9223372036854775808) : bits .or .i64 (a : Int) (b : Int) = ((a ||| b : Nat) : Int) := by
  have hx : a ||| b < 2 ^ 63 := Nat.or_lt_two_pow (by omega) (by omega)
  show IntKind.i64.wrap ((BitVec.ofInt 64 (a : Int) ||| BitVec.ofInt 64 (b : Int)).toNat : Int) = _
  rw [BitVec.toNat_or, ofInt_u64 a (by omega), ofInt_u64 b (by omega)]
  simp [IntKind.wrap, IntKind.bits, IntKind.signed]
  omega
theorem or_byte (m x : Nat) (h : m < 281474976710656) (hx : x < 256) : bits BinOp.or IntKind.i64 ((m : Int) * 256) (x : Int) = (m : Int) * 256 + (x : Int) := by
  have h1 := i64_or_nat (m * 256) x (by omega) (by omega)
  rw [show ((m * 256 : Nat) : Int) = (m : Int) * 256 from Int.natCast_mul _ _] at h1
  rw [h1]
  have h2 : m * 256 ||| x = m * 256 + x := by
    have := Nat.two_pow_add_eq_or_of_lt (i := 8) (b := x) (by simpa using hx) m
    rw [show (256 : Nat) = 2 ^ 8 from rfl, Nat.mul_comm m, ← this]
  rw [h2, Int.natCast_add, Int.natCast_mul]; rfl
/-- what num.Get answers -/
def getP (l : List UInt8) (pos size : Nat) : Int × Int := if pos + size ≤ l.length then ((beN ((l.drop pos).take size) : Int), 0) else (0, 3)
set_option maxHeartbeats 8000000 in
set_option maxRecDepth 100000 in
theorem getk_any (w : World) (bo : Option Addr) (bl bc : Nat) (l : List UInt8) (hl : Byts w bo bl bc l) (pos size : Nat) (hp : pos ≤ 1000000000000) (hs : 1 ≤ size) (hs7 : size ≤ 7) :
    Calls Tryz.prog 128 #[.slice bo bl bc, .int .i64 (pos : Int), .int .i64 (size : Int)] w fun e w' => e = .returned (.tuple #[.int .i64 (getP l pos size).1, .int .i64 (getP l pos size).2]) ∧ w' = w := by
  have hlen := hl.hlen
  rw [List.length_map] at hlen
  have hle := hl.hle
  have hcap := hl.hcap
  have hmx := hl.hmax
  by_cases hin : pos + size ≤ bl
  · have HG := Lib.hid (show getP l pos size = ((beN ((l.drop pos).take size) : Int), 0) by rw [getP, if_pos (by omega)])
    have hlt : ¬ ((bl : Int) - (pos : Int) < (size : Int)) := by omega
    obtain ⟨b, off, rfl⟩ := hl.addr (k := pos) (by omega)
    have HL := Lib.hid (And.intro hl hlen)
    clear hl hlen
    by_cases hcp : bc = pos
    · exfalso; omega
    go_enter Tryz.func128, Tryz.ntmps128
    go_wp2_with fail
    go_loopw [8, 42] (fun v i wr => ∃ t : Nat, t ≤ size ∧ i = .int .i64 t ∧ v = .int .i64 (beN ((l.drop pos).take t) : Int) ∧ wr = w) (fun _ i _ => size - (intOf i).toNat)
    case atStart => exact ⟨0, Nat.zero_le _, rfl, rfl, rfl⟩
    case round =>
      obtain ⟨t, ht, rfl, rfl, rfl⟩ := hrel
      by_cases h1 : t < size
      · have hc := HL.out.1.at (i := pos + t) (by omega)
        obtain ⟨x, hx⟩ : ∃ x, x = (l[pos + t]'(by have := HL.out.2; omega)) := ⟨_, rfl⟩
        have hc' : wr.cell? ⟨b, off + pos + t, none⟩ = some (.int .u8 (x.toNat : Int)) := by
          rw [hx, Nat.add_assoc, hc]; simp
        clear hc
        have hm1 := beN_lt ((l.drop pos).take t)
        have hm2 : (256 : Nat) ^ ((l.drop pos).take t).length ≤ 256 ^ 6 := Nat.pow_le_pow_right (by decide) (by rw [List.length_take]; omega)
        have hm3 := beN_snoc ((l.drop pos).take t) x
        rw [show (l.drop pos).take t ++ [x] = (l.drop pos).take (t + 1) by
          rw [List.take_succ_eq_append_getElem (by rw [List.length_drop]; have := HL.out.2; omega), hx]; simp] at hm3
        have HM3 := Lib.hid hm3
        obtain ⟨m, hm⟩ : ∃ m, m = beN ((l.drop pos).take t) := ⟨_, rfl⟩
        rw [← hm] at HM3 hm1 ⊢
        have hmb : m < 281474976710656 := by have : (256 : Nat) ^ 6 = 281474976710656 := by decide
                                             omega
        obtain ⟨xn, hxn⟩ : ∃ xn, xn = x.toNat := ⟨_, rfl⟩
        have hxb : xn < 256 := by rw [hxn]; exact x.toNat_lt
        rw [← hxn] at hc' HM3
        have hor := or_byte m xn hmb hxb
        clear hm hx hm1 hm2 hm3 hxn
        go_wp2_with fail
        go_roundw
        case rel => exact ⟨t + 1, by omega, by go_num, congrArg (Value.int .i64) (by rw [HM3.out]; push_cast; rfl), trivial⟩
        case measure => simp [intOf]; omega
      · obtain rfl : t = size := by omega
        go_wp2_with fail
        go_ret2
        rw [HG.out]
        exact ⟨rfl, rfl⟩
  · have HG := Lib.hid (show getP l pos size = (0, 3) by rw [getP, if_neg (by omega)])
    clear hl hlen
    rw [HG.out]
    by_cases hp2 : bl < pos
    · go_enter Tryz.func128, Tryz.ntmps128
      go_wp2_with fail
      go_ret2
      exact ⟨rfl, rfl⟩
    · have hlt : ((bl : Int) - (pos : Int) < (size : Int)) := by omega
      clear HG
      go_enter Tryz.func128, Tryz.ntmps128
      go_wp2_with fail
      go_ret2
      exact ⟨rfl, rfl⟩
end
section
open Go.ChangeShapes Go.WideShapes Go.ChangeAt Go.RowKit

theorem zero_cells (z : Value) (n : Nat) : Builtin.zeroCells #[z] n = (List.replicate n z).toArray := by
  unfold Builtin.zeroCells
  apply Array.ext
  · simp
  · intro i h1 h2
    simp [Nat.mod_one]
theorem run_zeros_room {P : Program} (w : World) (t tn ty e : TypeId) (i : TypeInfo) (z : Value) (kq kn : IntKind) (ht : P.underlying t = some (.slice e)) (htn : P.underlying tn = some (.int kn)) (hi : P.info? e = some i) (hz : i.zero = some z) (hs : i.size = 1) (hzc : z.cells = #[z]) (hz1 : z.oneCell' = true) (hby : i.bytes ≤ 1000)
    (g sLen sCap : Nat) (cur : Array Value) (hg : w.heap[g]? = some (.cells cur e (0, 0))) (k : Nat) (hk : k ≤ 1000000000) (hroom : sLen + k ≤ sCap) (hfit : sLen + k ≤ cur.size) :
    (Builtin.append_ #[t, tn] ty #[.slice (some ⟨g, 0, none⟩) sLen sCap, .int kq k]).run P w =
      .ok (.slice (some ⟨g, 0, none⟩) (sLen + k) sCap) (w.setRow g (cur.toList.take sLen ++ List.replicate k z ++ cur.toList.drop (sLen + k)).toArray) := by
  have hw : IntKind.i64.wrap (k : Int) = k := by rw [IntKind.wrap_i64]; omega
  have hneg : ¬ ((k : Int) < 0) := by omega
  have h48i : ¬ (281474976710656 < (k : Int) * (i.bytes : Int)) := by
    rw [← Int.natCast_mul]
    have : k * i.bytes ≤ 1000000000 * 1000 := Nat.mul_le_mul hk hby
    omega
  by_cases hk0 : k = 0
  · subst hk0
    have hself : w.setRow g (cur.toList.take sLen ++ List.replicate 0 z ++ cur.toList.drop (sLen + 0)).toArray = w := by
      simp only [List.replicate_zero, List.append_nil, Nat.add_zero, List.take_append_drop]
      exact setRow_self w g cur _ _ hg
    rw [hself]
    have hst : (storeCells ⟨g, sLen, none⟩ []).run P w = .ok () w := rfl
    have hw0 : IntKind.i64.wrap 0 = 0 := by decide
    simp [Builtin.append_, run_underlying ht, run_underlying htn, sizeOf, typeInfo, zeroValue, hi, hz, hs, asInt, asIntOf, hw0, hst, Addr.add_lit, show sLen ≤ sCap by omega]
  · have hst := run_storeCells_at P g sLen e (List.replicate k z) 0 cur w hg (by simp; omega) (by intro u hu; rw [List.eq_of_mem_replicate hu]; exact hz1)
    simp only [Nat.add_zero] at hst
    simp only [List.length_replicate] at hst
    simp [Builtin.append_, run_underlying ht, run_underlying htn, sizeOf, typeInfo, zeroValue, hi, hz, hs, asInt, asIntOf, hw, hneg, h48i, hk0, hroom, Addr.add_lit, hzc, zero_cells, hst]
/-- 'append(v, make([]T, k)...)', v a row of the call's own that is not empty -/
theorem append_zeros {P : Program} (w : World) (base : Nat) (t tn ty e : TypeId) (i : TypeInfo) (z : Value) (kq kn : IntKind) (ht : P.underlying t = some (.slice e)) (htn : P.underlying tn = some (.int kn)) (hi : P.info? e = some i) (hz : i.zero = some z) (hs : i.size = 1) (hzc : z.cells = #[z]) (hz1 : z.oneCell' = true) (hby : i.bytes ≤ 1000)
    (v : Value) (n : Nat) (xs : List Value) (hown : w.ownsRow base e 1 v n xs) (hn : 0 < n) (k : Nat) (hk : n + k ≤ 1000000000) (hbase : base ≤ w.heap.size) :
    ∃ v' w', (Builtin.append_ #[t, tn] ty #[v, .int kq k]).run P w = .ok v' w' ∧ w'.ownsRow base e 1 v' (n + k) (xs ++ List.replicate k z) ∧ w.grownBy w' v.ownBlock := by
  have hmul : (n + k) * i.bytes ≤ 1000000000 * 1000 := Nat.mul_le_mul hk hby
  have hlen : (xs ++ List.replicate k z).length = (n + k) * 1 := by rw [List.length_append, hown.1, List.length_replicate]; omega
  rcases hown.2 with ⟨_, h0⟩ | ⟨g, cap, cur, rfl, hbg, hg, hnc, hcm, hcs, htake⟩
  · omega
  · by_cases hroom : n + k ≤ cap
    · have hr := run_zeros_room (P := P) w t tn ty e i z kq kn ht htn hi hz hs hzc hz1 hby g n cap cur hg k (by omega) hroom (by omega)
      refine ⟨_, _, hr, ⟨hlen, .inr ⟨g, cap, _, rfl, hbg, setRow_heap w g cur _ e _ hg, hroom, hcm, ?_, ?_⟩⟩, ⟨rfl, rfl, rfl, by simp, fun k _ hk => setRow_other w g k _ (fun e => hk (by simp [Value.ownBlock, e]))⟩⟩
      · simp only [List.size_toArray, List.length_append, List.length_take, List.length_drop, Array.length_toList, List.length_replicate]
        omega
      · rw [Nat.mul_one] at htake
        rw [htake, ← hlen]
        exact List.take_left
    · have holds : ∀ j u, xs[j]? = some u → w.drew.cell? ((⟨g, 0, none⟩ : Addr).add j) = some u := hown.cells (g := g) rfl
      have hf := run_firstCells_some (P := P) w.drew i.size n ⟨g, 0, none⟩ n cap xs (by rw [hs]; exact hown.1) holds
      have hr := Lib.run_append_grow_zeros (P := P) w t tn ty e i z kq kn ht htn hi hz (some ⟨g, 0, none⟩) n cap xs hf k (by omega) (by omega) (by omega) (by omega) (by
        have : k * i.bytes ≤ 1000000000 * 1000 := Nat.mul_le_mul (by omega) hby
        omega) (growslice_fits (by omega) (by omega))
      have hge := grownCap_ge w (n + k) cap e
      have hcm2 : grownCap w (n + k) cap e ≤ maxLen := grownCap_le_maxLen w (n + k) cap e (by unfold maxLen; omega)
      refine ⟨_, _, hr, ⟨hlen, .inr ⟨w.heap.size, _, _, rfl, hbase, heap_alloc_new w.drew _, hge, hcm2, ?_, ?_⟩⟩, ⟨rfl, rfl, rfl, by simp, fun k hk _ => heap_alloc_old w.drew _ hk⟩⟩
      · have h1 := hown.1
        rw [hzc, zero_cells, zero_cells]
        simp only [Array.size_append, List.size_toArray, List.length_replicate, Nat.mul_one] at h1 ⊢
        omega
      · rw [hzc, zero_cells, zero_cells]
        simp only [Array.toList_append, List.append_assoc]
        rw [← List.append_assoc, ← hlen]
        exact List.take_left
end
section
open Go.ChangeShapes Go.WideShapes Go.ChangeAt Go.RowKit

/-- what a sector tells of itself -/
structure HeadP where
  kind : Int
  epoch : Int
  seq : Int
  part : Int
  parts : Int
def headC (h : HeadP) : Array Value := #[.int .i64 h.kind, .int .i64 h.epoch, .int .i64 h.seq, .int .i64 h.part, .int .i64 h.parts]
def numAt (h : HeadP) (n : Nat) : Nat → Int
  | 0 => h.kind
  | 1 => h.epoch
  | 2 => h.seq
  | 3 => h.part
  | 4 => h.parts
  | _ => n
def sizeAt : Nat → Nat
  | 0 => 1
  | 1 => 4
  | 2 => 7
  | 3 => 1
  | 4 => 1
  | _ => 2
theorem sizeAt_ok (t : Nat) : 1 ≤ sizeAt t ∧ sizeAt t ≤ 7 := by
  match t with
  | 0 | 1 | 2 | 3 | 4 | n + 5 => simp [sizeAt]
def fitsH (h : HeadP) : Bool := fitK h.kind 1 && fitK h.epoch 4 && fitK h.seq 7 && fitK h.part 1 && fitK h.parts 1
theorem fitsH_all {h : HeadP} {n : Nat} (hh : ∀ s, s < 5 → fitK (numAt h n s) (sizeAt s) = true) : fitsH h = true := by
  have h0 := hh 0 (by omega); have h1 := hh 1 (by omega); have h2 := hh 2 (by omega); have h3 := hh 3 (by omega); have h4 := hh 4 (by omega)
  simp only [numAt, sizeAt] at h0 h1 h2 h3 h4
  simp [fitsH, h0, h1, h2, h3, h4]
set_option maxRecDepth 20000 in
theorem fitsH_none {h : HeadP} {n t : Nat} (ht : t < 5) (hh : fitK (numAt h n t) (sizeAt t) = false) : fitsH h = false := by
  have h5 : t = 0 ∨ t = 1 ∨ t = 2 ∨ t = 3 ∨ t = 4 := by omega
  rcases h5 with rfl | rfl | rfl | rfl | rfl
  · have e : fitK h.kind 1 = false := hh
    unfold fitsH; rw [e]; simp only [Bool.false_and]
  · have e : fitK h.epoch 4 = false := hh
    unfold fitsH; rw [e]; simp only [Bool.and_false, Bool.false_and]
  · have e : fitK h.seq 7 = false := hh
    unfold fitsH; rw [e]; simp only [Bool.and_false, Bool.false_and]
  · have e : fitK h.part 1 = false := hh
    unfold fitsH; rw [e]; simp only [Bool.and_false, Bool.false_and]
  · have e : fitK h.parts 1 = false := hh
    unfold fitsH; rw [e]; simp only [Bool.and_false]
/-- the error of Seal -/
def sealE (h : HeadP) (l : List UInt8) : Int := if fitsH h = false then 15 else if h.kind = 0 ∨ h.parts = 0 ∨ h.parts ≤ h.part then 15 else if 496 < l.length then 4 else 0
/-- the first numbers' bytes -/
def preB (h : HeadP) (n : Nat) : Nat → List UInt8
  | 0 => []
  | t + 1 => preB h n t ++ putN (numAt h n t) (sizeAt t)
def sealB (h : HeadP) (l : List UInt8) : List UInt8 := preB h l.length 6 ++ l ++ List.replicate (496 - l.length) 0
theorem putB_len (n : Int) (size : Nat) : (putN n size).length = size := by simp [putN]
theorem preB_len (h : HeadP) (n : Nat) : (preB h n 6).length = 16 := by simp [preB, putB_len, sizeAt]
theorem sealB_len {h : HeadP} {l : List UInt8} (hl : l.length ≤ 496) : (sealB h l).length = 512 := by
  simp [sealB, preB_len]; omega
set_option maxHeartbeats 4000000 in
set_option maxRecDepth 100000 in
theorem sizes_any (w : World) : Calls Tryz.prog 132 #[] w fun e w' => (∃ g, e = .returned (.slice (some ⟨g, 0, none⟩) 6 6) ∧ (∀ t, t < 6 → w'.cell? ⟨g, t, none⟩ = some (.int .i64 (sizeAt t : Int))) ∧ w.heap.size ≤ g) ∧ Below w.heap.size w w' := by
  go_enter Tryz.func132, Tryz.ntmps132
  go_wp2_with fail
  go_ret
  refine ⟨⟨w.heap.size, rfl, fun t ht => ?_, Nat.le_refl _⟩, (Below.refl _ _).alloc (Nat.le_refl _) _⟩
  rw [World.cell?_alloc_new]
  match t, ht with
  | 0, _ | 1, _ | 2, _ | 3, _ | 4, _ | 5, _ => rfl
theorem num_cell {W : World} {g n : Nat} {h : HeadP} (hB : Blk W g #[.int .i64 h.kind, .int .i64 h.epoch, .int .i64 h.seq, .int .i64 h.part, .int .i64 h.parts, .int .i64 (n : Int)] 3) (t : Nat) (ht : t < 6) : W.cell? ⟨g, t, none⟩ = some (.int .i64 (numAt h n t)) := by
  have := hB.cell t
  rw [this]
  match t, ht with
  | 0, _ | 1, _ | 2, _ | 3, _ | 4, _ | 5, _ => rfl
structure SealRes (w : World) (h : HeadP) (l : List UInt8) (e : Ending) (w' : World) : Prop where
  ok : sealE h l = 0 → ∃ v, e = .returned (.tuple #[v, .int .i64 0]) ∧ w'.ownsRow w.heap.size 5 1 v 512 ((sealB h l).map u8V)
  bad : sealE h l ≠ 0 → e = .returned (.tuple #[.slice none 0 0, .int .i64 (sealE h l)])
  bel : Below w.heap.size w w'
theorem pre_le (h : HeadP) (n t : Nat) (ht : t ≤ 6) : (preB h n t).length ≤ 16 := by
  have h7 : t = 0 ∨ t = 1 ∨ t = 2 ∨ t = 3 ∨ t = 4 ∨ t = 5 ∨ t = 6 := by omega
  rcases h7 with rfl | rfl | rfl | rfl | rfl | rfl | rfl <;> simp [preB, putB_len, sizeAt]
theorem owns_monoK {w : World} {B B' : Nat} {e : TypeId} {size : Nat} {v : Value} {n : Nat} {xs : List Value} (h : w.ownsRow B e size v n xs) (hB : B' ≤ B) : w.ownsRow B' e size v n xs := by
  obtain ⟨h1, h2⟩ := h
  refine ⟨h1, h2.imp id ?_⟩
  rintro ⟨g, cap, cur, a, b, c⟩
  exact ⟨g, cap, cur, a, by omega, c⟩
/-- 'append(s, make([]T, k)...)' whose run is known. -/
theorem wpList_zeros_run {P : Program} {w : World} {ops : Array Oper} {rest : List Oper} {o : Oper} {a : Act} {Q : Exit → Act → World → Prop} (hgd : o.guard = none) (s x : Operand) (t tn : TypeId)
    (ho : o.op = .call { callee := .builtin .append, args := #[s, x], argTypes := #[t, tn] }) (v xv : Value) (hs : a.eval s = v) (hx : a.eval x = xv) {v' : Value} {w' : World}
    (hrun : (Builtin.append_ #[t, tn] o.type #[v, xv]).run P w = .ok v' w') (h : wpList P ops Q rest (a.put o.dst v') w') : wpList P ops Q (o :: rest) a w := by
  refine wpList_plain hgd fun K hK => ?_
  unfold Oper.wp
  simp [execOp, ho, resolve, invoke, builtin, hs, hx, hrun, Result.andThen]
  exact hK _ _ h
theorem seal_fail {w w' : World} {h : HeadP} {l : List UInt8} {k : Int} {e : Ending} (hE : sealE h l = k) (hk : k ≠ 0) (he : e = .returned (.tuple #[.slice none 0 0, .int .i64 k])) (hb : Below w.heap.size w w') : SealRes w h l e w' :=
  ⟨fun e0 => absurd (hE.symm.trans e0) hk, fun _ => by rw [hE]; exact he, hb⟩
set_option maxHeartbeats 16000000 in
set_option maxRecDepth 100000 in
theorem seal_any (w : World) (h : HeadP) (bo : Option Addr) (bl bc : Nat) (l : List UInt8) (hl : Byts w bo bl bc l) (hbl : bl ≤ 1000000) :
    Calls Tryz.prog 96 #[.agg (headC h), .slice bo bl bc] w fun e w' => SealRes w h l e w' := by
  have hlen := hl.hlen
  rw [List.length_map] at hlen
  have HL := Lib.hid (And.intro hl hlen)
  clear hl
  subst hlen
  simp only [headC]
  have hA : Blk (w.alloc (.cells (headC h) 147)) w.heap.size (headC h) 147 := heap_alloc_new w _
  have hN : Blk ((w.alloc (.cells (headC h) 147)).alloc (.cells #[.int .i64 h.kind, .int .i64 h.epoch, .int .i64 h.seq, .int .i64 h.part, .int .i64 h.parts, .int .i64 (l.length : Int)] 3)) (w.heap.size + 1) #[.int .i64 h.kind, .int .i64 h.epoch, .int .i64 h.seq, .int .i64 h.part, .int .i64 h.parts, .int .i64 (l.length : Int)] 3 := by
    have := heap_alloc_new (w.alloc (.cells (headC h) 147)) (.cells #[.int .i64 h.kind, .int .i64 h.epoch, .int .i64 h.seq, .int .i64 h.part, .int .i64 h.parts, .int .i64 (l.length : Int)] 3)
    simpa [Blk] using this
  have hAN := hA.on ((Below.refl _ _).alloc (Nat.le_refl _) (.cells #[.int .i64 h.kind, .int .i64 h.epoch, .int .i64 h.seq, .int .i64 h.part, .int .i64 h.parts, .int .i64 (l.length : Int)] 3))
  have hb2 : Below w.heap.size w ((w.alloc (.cells (headC h) 147)).alloc (.cells #[.int .i64 h.kind, .int .i64 h.epoch, .int .i64 h.seq, .int .i64 h.part, .int .i64 h.parts, .int .i64 (l.length : Int)] 3)) := ((Below.refl _ _).alloc (Nat.le_refl _) _).alloc (by simp) _
  have HN := Lib.hid (And.intro hAN (And.intro hN hb2))
  have a0 := hA.cell 0
  have a1 := hA.cell 1
  have a2 := hA.cell 2
  have a3 := hA.cell 3
  have a4 := hA.cell 4
  simp only [headC] at a0 a1 a2 a3 a4
  clear hA hN hAN hb2
  go_enter Tryz.func96, Tryz.ntmps96
  go_wp2_with fail
  clear a0 a1 a2 a3 a4
  go_loopw [28] (fun i wr => ∃ t : Nat, t ≤ 5 ∧ i = .int .i64 t ∧ Hid (Below w.heap.size w wr ∧ Blk wr w.heap.size (headC h) 147 ∧ Blk wr (w.heap.size + 1) #[.int .i64 h.kind, .int .i64 h.epoch, .int .i64 h.seq, .int .i64 h.part, .int .i64 h.parts, .int .i64 (l.length : Int)] 3 ∧ ∀ s, s < t → fitK (numAt h l.length s) (sizeAt s) = true)) (fun i _ => 5 - (intOf i).toNat)
  case atStart => exact ⟨0, Nat.zero_le _, rfl, Lib.hid ⟨HN.out.2.2, HN.out.1, HN.out.2.1, fun s hs => absurd hs (by omega)⟩⟩
  case round =>
    obtain ⟨t, ht, rfl, hinv⟩ := hrel
    by_cases hlt : t < 5
    · obtain ⟨nt, hnt⟩ : ∃ nt, nt = numAt h l.length t := ⟨_, rfl⟩
      obtain ⟨zt, hzt⟩ : ∃ zt, zt = sizeAt t := ⟨_, rfl⟩
      have hz := sizeAt_ok t
      rw [← hzt] at hz
      have c0 : wr.cell? ⟨w.heap.size + 1, t, none⟩ = some (.int .i64 nt) := by rw [hnt]; exact num_cell hinv.out.2.2.1 t (by omega)
      have HI := Lib.hid hinv.out
      have HQ := Lib.hid (And.intro hnt hzt)
      cases hf : fitK nt zt with
      | false =>
        have HF := Lib.hid (show ∀ w, _ from fun w => fitk_any w nt zt hz.1 hz.2)
        rw [hf] at HF
        have HE := Lib.hid (show sealE h l = 15 by rw [sealE, if_pos (fitsH_none hlt (by rw [← hnt, ← hzt]; exact hf))])
        clear hinv hnt hzt hz hf
        go_wp2_with (first | (go_at_call 132; refine (sizes_any _).mono ?_; rintro e W ⟨⟨g, rfl, hg, _⟩, hb⟩; have HBW := Lib.hid hb; have g0 : W.cell? ⟨g, t, none⟩ = some (.int .i64 (zt : Int)) := by { rw [HQ.out.2]; exact hg t (by omega) }; clear hg hb) | (go_at_call 94; refine (HF.out _).mono ?_; rintro e W2 ⟨rfl, rfl⟩))
        go_ret2
        exact seal_fail HE.out (by decide) rfl (below_on HI.out.1 HBW.out (Nat.le_refl _))
      | true =>
        have HF := Lib.hid (show ∀ w, _ from fun w => fitk_any w nt zt hz.1 hz.2)
        rw [hf] at HF
        have HT := Lib.hid hf
        clear hinv hnt hzt hz hf
        go_wp2_with (first | (go_at_call 132; refine (sizes_any _).mono ?_; rintro e W ⟨⟨g, rfl, hg, _⟩, hb⟩; have HBW := Lib.hid hb; have g0 : W.cell? ⟨g, t, none⟩ = some (.int .i64 (zt : Int)) := by { rw [HQ.out.2]; exact hg t (by omega) }; clear hg hb) | (go_at_call 94; refine (HF.out _).mono ?_; rintro e W2 ⟨rfl, rfl⟩))
        go_roundw
        case rel =>
          refine ⟨t + 1, by omega, by go_num, Lib.hid ⟨below_on HI.out.1 HBW.out (Nat.le_refl _), HI.out.2.1.on HBW.out, HI.out.2.2.1.on HBW.out, fun s hs => ?_⟩⟩
          rcases Nat.lt_succ_iff_lt_or_eq.1 hs with h1 | rfl
          · exact HI.out.2.2.2 s h1
          · rw [← HQ.out.1, ← HQ.out.2]; exact HT.out
        case measure => simp [intOf]; omega
    · obtain rfl : t = 5 := by omega
      have hfit := fitsH_all hinv.out.2.2.2
      have HI := Lib.hid hinv.out
      have d0 : wr.cell? ⟨w.heap.size, 0, none⟩ = some (.int .i64 h.kind) := hinv.out.2.1.cell 0
      have d3 : wr.cell? ⟨w.heap.size, 3, none⟩ = some (.int .i64 h.part) := hinv.out.2.1.cell 3
      have d4 : wr.cell? ⟨w.heap.size, 4, none⟩ = some (.int .i64 h.parts) := hinv.out.2.1.cell 4
      have HFT := Lib.hid hfit
      clear hinv hfit
      by_cases hc : h.kind = 0 ∨ h.parts = 0 ∨ h.parts ≤ h.part
      · have HE := Lib.hid (show sealE h l = 15 by rw [sealE, if_neg (by rw [HFT.out]; decide), if_pos hc])
        obtain ⟨hk, hk'⟩ : ∃ q : Bool, q = (h.kind == 0) := ⟨_, rfl⟩
        by_cases c1 : h.kind = 0
        · have c1b : (h.kind == 0) = true := by simpa using c1
          clear hc c1 hk hk'
          go_wp2_with fail
          go_ret2
          exact seal_fail HE.out (by decide) rfl HI.out.1
        · have c1b : (h.kind == 0) = false := by simpa using c1
          by_cases c2 : h.parts = 0
          · have c2b : (h.parts == 0) = true := by simpa using c2
            clear hc c1 c2 hk hk'
            go_wp2_with fail
            go_ret2
            exact seal_fail HE.out (by decide) rfl HI.out.1
          · have c2b : (h.parts == 0) = false := by simpa using c2
            have c3b : decide (h.parts ≤ h.part) = true := by simpa [c1, c2] using hc
            clear hc c1 c2 hk hk'
            go_wp2_with fail
            go_ret2
            exact seal_fail HE.out (by decide) rfl HI.out.1
      · have c1b : (h.kind == 0) = false := by simpa using (fun e => hc (.inl e))
        have c2b : (h.parts == 0) = false := by simpa using (fun e => hc (.inr (.inl e)))
        have c3b : decide (h.parts ≤ h.part) = false := by simpa using (fun e => hc (.inr (.inr e)))
        by_cases hbig : 496 < l.length
        · have HE := Lib.hid (show sealE h l = 4 by rw [sealE, if_neg (by rw [HFT.out]; decide), if_neg hc, if_pos hbig])
          clear hc
          go_wp2_with fail
          go_ret2
          exact seal_fail HE.out (by decide) rfl HI.out.1
        · have HE := Lib.hid (show sealE h l = 0 by rw [sealE, if_neg (by rw [HFT.out]; decide), if_neg hc, if_neg hbig])
          clear hc
          go_wp2_with fail
          clear d0 d3 d4 c1b c2b c3b
          have hfa : ∀ s, s < 6 → fitK (numAt h l.length s) (sizeAt s) = true := fun s hs => by
            rcases Nat.lt_or_ge s 5 with h1 | h1
            · exact HI.out.2.2.2 s h1
            · obtain rfl : s = 5 := by omega
              show fitK (l.length : Int) 2 = true
              simp only [fitK, Bool.and_eq_true, decide_eq_true_eq]
              exact ⟨by omega, by have : (256 : Int) ^ 2 = 65536 := by decide
                                  omega⟩
          have HFA := Lib.hid hfa
          have HST : Hid (Below w.heap.size w wr ∧ Blk wr (w.heap.size + 1) #[.int .i64 h.kind, .int .i64 h.epoch, .int .i64 h.seq, .int .i64 h.part, .int .i64 h.parts, .int .i64 (l.length : Int)] 3 ∧ wr.ownsRow w.heap.size 5 1 (.slice none 0 0) (preB h l.length 0).length ((preB h l.length 0).map u8V)) := Lib.hid ⟨HI.out.1, HI.out.2.2.1, World.ownsRow_nil _ _ _ _⟩
          clear hfa
          go_loopw [9, 63] (fun v i wr => ∃ t : Nat, t ≤ 6 ∧ i = .int .i64 t ∧ Hid (Below w.heap.size w wr ∧ Blk wr (w.heap.size + 1) #[.int .i64 h.kind, .int .i64 h.epoch, .int .i64 h.seq, .int .i64 h.part, .int .i64 h.parts, .int .i64 (l.length : Int)] 3 ∧ wr.ownsRow w.heap.size 5 1 v (preB h l.length t).length ((preB h l.length t).map u8V))) (fun _ i _ => 6 - (intOf i).toNat)
          case atStart => exact ⟨0, Nat.zero_le _, rfl, HST⟩
          case round =>
            rename World => w3
            obtain ⟨t, ht, rfl, hinv⟩ := hrel
            by_cases hlt2 : t < 6
            · obtain ⟨nt, hnt⟩ : ∃ nt, nt = numAt h l.length t := ⟨_, rfl⟩
              obtain ⟨zt, hzt⟩ : ∃ zt, zt = sizeAt t := ⟨_, rfl⟩
              have hz := sizeAt_ok t
              rw [← hzt] at hz
              have c0 : w3.cell? ⟨w.heap.size + 1, t, none⟩ = some (.int .i64 nt) := by rw [hnt]; exact num_cell hinv.out.2.1 t (by omega)
              have hpl := pre_le h l.length t ht
              obtain ⟨ao, cap, hv, hrow⟩ := row_of_owns hinv.out.2.2 (by omega)
              have HI2 := Lib.hid hinv.out
              have HQ := Lib.hid (And.intro hnt hzt)
              have HRW := Lib.hid hrow
              have HPL := Lib.hid hpl
              have HPU := Lib.hid (show putL (preB h l.length t) nt zt = preB h l.length (t + 1) by rw [putL, if_pos (by rw [hnt, hzt]; exact HFA.out t hlt2), hnt, hzt]; rfl)
              have HZ := Lib.hid hz
              clear hinv hnt hzt hz hrow hpl
              subst hv
              obtain ⟨pn, hpn⟩ : ∃ pn, pn = (preB h l.length t).length := ⟨_, rfl⟩
              rw [← hpn] at HRW HPL ⊢
              have HPN := Lib.hid hpn
              clear hpn
              go_wp2_with (first | (go_at_call 132; refine (sizes_any _).mono ?_; rintro e W ⟨⟨g, rfl, hg, _⟩, hb⟩; have HBW := Lib.hid hb; have g0 : W.cell? ⟨g, t, none⟩ = some (.int .i64 (zt : Int)) := by { rw [HQ.out.2]; exact hg t (by omega) }; clear hg hb) | (go_at_call 95; refine (putk_any W ao pn cap (preB h l.length t) (HRW.out.below HBW.out (Nat.le_refl _)) (by have := HPL.out; omega) nt zt HZ.out.1 HZ.out.2).mono ?_; rintro e W2 ⟨⟨v2, rfl, hown2⟩, hb2⟩; have HO2 := Lib.hid (And.intro hown2 hb2); clear hown2 hb2 g0 c0))
              go_roundw
              case rel =>
                have hb3 := below_on HI2.out.1 (below_on HBW.out HO2.out.2 (Nat.le_refl _)) (Nat.le_refl _)
                have ho := HO2.out.1
                rw [HPU.out] at ho
                (repeat apply Exists.intro)
                refine ⟨?_, rfl⟩
                exact ⟨t + 1, by omega, by go_num, Lib.hid ⟨hb3, (HI2.out.2.1.on (below_on HBW.out HO2.out.2 (Nat.le_refl _))), owns_monoK ho (by have := HI2.out.1.size; have := HBW.out.size; omega)⟩⟩
              case measure => simp [intOf]; omega
            · obtain rfl : t = 6 := by omega
              have ho := hinv.out.2.2
              rw [preB_len] at ho
              obtain ⟨ao, cap, hv, _⟩ := row_of_owns ho (by omega)
              subst hv
              obtain ⟨i0, hi, hz0, hz1, hz2⟩ := info_parts u8Info
              have hbw := hinv.out.1.size
              obtain ⟨v4, w4, hrun4, hown4, hgr4⟩ := append_row (P := Tryz.prog) w3 w.heap.size 28 28 5 i0 _ 1 Tryz.underlying28 hi hz0 hz1 hz2 rfl _ 16 _ ho bo l.length bc (l.map u8V) (HL.out.1.below hinv.out.1 (Nat.le_refl _)) (u8_one l) (by omega) (by omega) hbw
              have hb4 : Below w.heap.size w w4 := hinv.out.1.grown hgr4 hbw (fun j hj => (ho.lt j hj).1)
              obtain ⟨q, hq⟩ : ∃ q, q = 16 + l.length := ⟨_, rfl⟩
              rw [← hq] at hown4
              obtain ⟨a4, c4, hv4, _⟩ := row_of_owns hown4 (by omega)
              subst hv4
              obtain ⟨k, hk⟩ : ∃ k : Nat, (512 : Int) - (q : Int) = (k : Int) := ⟨512 - q, by omega⟩
              obtain ⟨v5, w5, hrun5, hown5, hgr5⟩ := append_zeros (P := Tryz.prog) w4 w.heap.size 28 3 28 5 i0 (.int .u8 0) .i64 .i64 Tryz.underlying28 Tryz.underlying3 hi hz0 hz1 rfl rfl (by rw [hz2]; omega) _ q _ hown4 (by omega) k (by omega) hb4.size
              have hb5 : Below w.heap.size w w5 := hb4.grown hgr5 hb4.size (fun j hj => (hown4.lt j hj).1)
              have hfin : (preB h l.length 6).map u8V ++ l.map u8V ++ List.replicate k (Value.int .u8 0) = (sealB h l).map u8V := by
                rw [sealB, List.map_append, List.map_append, List.map_replicate, show 496 - l.length = k from by omega]
                rfl
              rw [hfin, show q + k = 512 from by omega] at hown5
              have HE5 := Lib.hid (And.intro hown5 hb5)
              have HR4 := Lib.hid hrun4
              have HR5 := Lib.hid hrun5
              have hq9 : q ≤ 512 := by omega
              clear ho hi hz0 hz1 hz2 hbw hrun4 hown4 hgr4 hb4 hq hrun5 hown5 hgr5 hb5 hfin hinv
              go_wp2_with (first | (at_builtin; refine wpList_append_run rfl _ _ _ rfl _ _ rfl rfl HR4.out ?_; clear HR4) | (refine wpList_zeros_run rfl _ _ _ _ rfl _ _ rfl rfl HR5.out ?_; clear HR5))
              go_ret2
              exact ⟨fun _ => ⟨v5, rfl, HE5.out.1⟩, fun e => absurd HE.out e, HE5.out.2⟩
end
section
open Go.ChangeShapes Go.WideShapes Go.ChangeAt Go.RowKit

set_option maxHeartbeats 1000000 in
set_option maxRecDepth 100000 in
theorem bclone_any (w : World) (ao : Option Addr) (len cap : Nat) (vs : List Value) (hs : Row w ao len cap vs) (h1 : ∀ u ∈ vs, u.oneCell' = true) (hb : len * 1 ≤ 140737488355328) :
    Calls Tryz.prog 86 #[.slice ao len cap] w fun e w' => (∃ ao' c', e = .returned (.slice ao' len c') ∧ Own1 [5] w.heap.size w' ao' len c' vs) ∧ Below w.heap.size w w' := by
  have hl := hs.hlen
  have hmx := hs.hmax
  cases ao with
  | none =>
    have hc := hs.hnil rfl
    have hm : len = 0 := by have := hs.hle; omega
    have hs0 := Lib.hid hs
    subst hc; subst hm
    have hnil : ∀ w : World, (binOp .eql 28 (.slice none 0 0) (.slice none 0 0)).run Tryz.prog w = .ok (.bool true) w := fun w => by kernel_rfl
    clear hs h1 hl
    go_enter Tryz.func86, Tryz.ntmps86
    go_wp2
    go_ret
    exact ⟨⟨none, 0, rfl, hs0.out, rowIn_zero _ _⟩, Below.refl _ _⟩
  | some a =>
    obtain ⟨i0, hi, hz0, hz1, hz2⟩ := info_parts infoByte
    have hbel : Below w.heap.size w (w.alloc (.cells #[] 5)) := (Below.refl _ _).alloc (Nat.le_refl _) _
    obtain ⟨v', w1, hrun, hown, hgrow⟩ := append_row (P := Tryz.prog) (w.alloc (.cells #[] 5)) w.heap.size 28 28 5 i0 _ 1 Tryz.underlying28 hi hz0 hz1 hz2 rfl (.slice (some ⟨w.heap.size, 0, none⟩) 0 0) 0 []
      (World.ownsRow_made w #[] 0 (Nat.le_refl _) (by unfold maxLen; omega) rfl) (some a) len cap vs (hs.below hbel (Nat.le_refl _)) h1 (by omega) (by omega) (by simp)
    have hg := Lib.hid (hbel.grown hgrow (by simp) (by intro k hk; simp [Value.ownBlock] at hk; omega))
    clear hgrow hbel
    rw [List.nil_append, Nat.zero_add] at hown
    obtain ⟨ao', cap', rfl, hs'⟩ := own1_of_owns hown hmx
    have HO := Lib.hid hs'
    clear hown hi hz0 hz1 hz2 hb hs' hs h1 hl
    have HR := Lib.hid hrun; clear hrun
    have hnil : ∀ w : World, (binOp .eql 28 (.slice (some a) len cap) (.slice none 0 0)).run Tryz.prog w = .ok (.bool false) w := fun w => Lib.run_eql_slice_nil w 28 5 (some a) len cap 0 0 Tryz.underlying28
    have hbs : ∀ w : World, (Instr.buildSlice 28 0 #[]).run Tryz.prog w = .ok (.slice (some ⟨w.heap.size, 0, none⟩) 0 0) (w.alloc (.cells #[] 5)) := fun _ => by kernel_rfl
    go_enter Tryz.func86, Tryz.ntmps86
    go_wp2_with (at_builtin; refine wpList_append_run rfl _ _ _ rfl _ _ rfl rfl HR.out ?_)
    go_ret
    exact ⟨⟨ao', cap', rfl, HO.out⟩, hg.out⟩

theorem conv_byts {w : World} {bo : Option Addr} {bl bc : Nat} {l : List UInt8} (h : Byts w bo bl bc l) : (convert 28 9 (.slice bo bl bc)).run Tryz.prog w = .ok (.string ⟨l.toArray⟩) w := by
  have hl := h.hlen
  rw [List.length_map] at hl
  rcases h.split with h0 | ⟨b, off, h0, rfl⟩
  · have he : l = [] := List.eq_nil_of_length_eq_zero (by omega)
    subst he
    subst h0
    rw [run_convert_bytes_string w 28 9 5 _ 0 bc Tryz.underlying28 Tryz.underlying5 Tryz.underlying9]
    cases bo <;> simp [Conv.bytesToString, loadCells]
    all_goals rfl
  · have := run_convert_bytes_arg (P := Tryz.prog) w 28 5 Tryz.underlying28 Tryz.underlying5 b off bl bc (l.map fun c => (c.toNat : Int)) (by simpa using hl) (fun i hi => by
      have := h.at (i := i) hi
      simp [List.getD, show i < l.length by omega, this]) 9 Tryz.underlying9
    rw [this, strOfNums_bytes]
set_option maxHeartbeats 4000000 in
set_option maxRecDepth 100000 in
theorem bequal_any (w : World) (ao : Option Addr) (al ac : Nat) (a : List UInt8) (ha : Byts w ao al ac a) (bo : Option Addr) (bl bc : Nat) (b : List UInt8) (hb : Byts w bo bl bc b) :
    Calls Tryz.prog 55 #[.slice ao al ac, .slice bo bl bc] w fun e w' => e = .returned (.bool (decide (a = b))) ∧ w' = w := by
  have h1 := conv_byts ha
  have h2 := conv_byts hb
  clear ha hb
  go_enter Tryz.func55, Tryz.ntmps55
  go_wp2_with fail
  go_ret
  exact ⟨ret_bool (by rw [Bool.eq_iff_iff]; simp), rfl⟩
end
section
open Go.ChangeShapes Go.WideShapes Go.ChangeAt Go.RowKit

def offAt : Nat → Nat
  | 0 => 0
  | 1 => 1
  | 2 => 5
  | 3 => 12
  | 4 => 13
  | 5 => 14
  | _ => 16
theorem offAt_step {t : Nat} (h : t < 6) : offAt (t + 1) = offAt t + sizeAt t ∧ offAt t + sizeAt t ≤ 16 := by
  match t, h with
  | 0, _ | 1, _ | 2, _ | 3, _ | 4, _ | 5, _ => decide
/-- the numbers of a sector's head -/
def numOf (b : List UInt8) (t : Nat) : Int := (beN ((b.drop (offAt t)).take (sizeAt t)) : Int)
def openH (b : List UInt8) : HeadP := ⟨numOf b 0, numOf b 1, numOf b 2, numOf b 3, numOf b 4⟩
def openD (b : List UInt8) : List UInt8 := (b.drop 16).take (numOf b 5).toNat
/-- the error of Open -/
def openE (b : List UInt8) : Int := if b.length ≠ 512 then 3 else if 496 < numOf b 5 then 14 else if sealE (openH b) (openD b) ≠ 0 ∨ sealB (openH b) (openD b) ≠ b then 14 else 0
def zeroH : HeadP := ⟨0, 0, 0, 0, 0⟩
def arrAt (b : List UInt8) (t : Nat) : Array Value := #[.int .i64 (if 0 < t then numOf b 0 else 0), .int .i64 (if 1 < t then numOf b 1 else 0), .int .i64 (if 2 < t then numOf b 2 else 0), .int .i64 (if 3 < t then numOf b 3 else 0), .int .i64 (if 4 < t then numOf b 4 else 0), .int .i64 (if 5 < t then numOf b 5 else 0)]
theorem arr_set (b : List UInt8) {t : Nat} (h : t < 6) : (arrAt b t).setIfInBounds t (.int .i64 (numOf b t)) = arrAt b (t + 1) := by
  match t, h with
  | 0, _ | 1, _ | 2, _ | 3, _ | 4, _ | 5, _ => simp [arrAt]
theorem arr_get (b : List UInt8) {t : Nat} (h : t < 6) : (arrAt b t)[t]? = some (.int .i64 0) := by
  match t, h with
  | 0, _ | 1, _ | 2, _ | 3, _ | 4, _ | 5, _ => simp [arrAt]
structure OpenRes (w : World) (b : List UInt8) (e : Ending) (w' : World) : Prop where
  ok : openE b = 0 → ∃ ao c, e = .returned (.tuple #[.agg (headC (openH b)), .slice ao (openD b).length c, .int .i64 0]) ∧ Own1 [5] w.heap.size w' ao (openD b).length c ((openD b).map u8V)
  bad : openE b ≠ 0 → e = .returned (.tuple #[.agg (headC zeroH), .slice none 0 0, .int .i64 (openE b)])
  bel : Below w.heap.size w w'
theorem open_fail {w w' : World} {b : List UInt8} {k : Int} {e : Ending} (hE : openE b = k) (hk : k ≠ 0) (he : e = .returned (.tuple #[.agg (headC zeroH), .slice none 0 0, .int .i64 k])) (hb : Below w.heap.size w w') : OpenRes w b e w' :=
  ⟨fun e0 => absurd (hE.symm.trans e0) hk, fun _ => by rw [hE]; exact he, hb⟩
theorem headSize : (Tryz.prog.info? 147).map (·.size) = some 5 := by kernel_rfl
theorem headC_all (h : HeadP) : (headC h).all (·.oneCell') = true := by simp [headC, Value.oneCell']
theorem open_out {w W : World} {h : HeadP} (hB : Blk W w.heap.size (headC h) 147) (hb : Below w.heap.size w W) (H : HeadP) : Blk (W.setRow w.heap.size (headC H)) w.heap.size (headC H) 147 ∧ Below w.heap.size w (W.setRow w.heap.size (headC H)) :=
  ⟨blk_setRow hB (headC H), hb.trans (below_of_but (but_setRow W w.heap.size (headC H)) (Nat.le_refl _) hb.size)⟩
/-- a part of a row -/
theorem Row.part {w : World} {b off len cap : Nat} {vs : List Value} (h : Row w (some ⟨b, off, none⟩) len cap vs) {lo m : Nat} (hm : lo + m ≤ len) : Row w (some ⟨b, off + lo, none⟩) m (cap - lo) ((vs.drop lo).take m) := by
  have hl := h.hlen
  have hle := h.hle
  refine ⟨by simp; omega, by omega, by have := h.hcap; omega, by have := h.hmax; omega, fun e => (by cases e), fun h0 => ⟨b, off + lo, rfl, fun i hi => ?_⟩⟩
  have hi' : i < m := by simp at hi; omega
  have := h.at (i := lo + i) (by omega)
  rw [show off + lo + i = off + (lo + i) from by omega, this]
  simp
theorem sopen_results {tmps : Array Value} {w : World} {R : Nat} {h : HeadP} {v : Value} {k : Int} (h2 : tmps[2]? = some (.pointer (some ⟨R, 0, none⟩))) (h3 : tmps[3]? = some v) (h4 : tmps[4]? = some (.int .i64 k)) (hB : Blk w R (headC h) 147) :
    (results Tryz.f100 tmps).run Tryz.prog w = .ok (.tuple #[.agg (headC h), v, .int .i64 k]) w := by
  have c0 := hB.cell 0
  have c1 := hB.cell 1
  have c2 := hB.cell 2
  have c3 := hB.cell 3
  have c4 := hB.cell 4
  simp [headC] at c0 c1 c2 c3 c4
  simp [results, go_sem, h2, h3, h4, c0, c1, c2, c3, c4, headC]
set_option maxHeartbeats 16000000 in
set_option maxRecDepth 100000 in
theorem sopen_any (w : World) (bo : Option Addr) (bl bc : Nat) (b : List UInt8) (hb : Byts w bo bl bc b) :
    Calls Tryz.prog 100 #[.slice bo bl bc] w fun e w' => OpenRes w b e w' := by
  have hlen := hb.hlen
  rw [List.length_map] at hlen
  have hle := hb.hle
  have hcap := hb.hcap
  have HL := Lib.hid (And.intro hb hlen)
  have hz : Blk (w.alloc (.cells (headC zeroH) 147)) w.heap.size (headC zeroH) 147 := heap_alloc_new w _
  by_cases h512 : bl = 512
  · subst h512
    have HB := Lib.hid hlen
    clear hlen hb
    have hz2 : Blk ((w.alloc (.cells (headC zeroH) 147)).alloc (.cells (arrAt b 0) 233)) w.heap.size (headC zeroH) 147 := hz.on ((Below.refl _ _).alloc (Nat.le_refl _) _)
    have hA : Blk ((w.alloc (.cells (headC zeroH) 147)).alloc (.cells (arrAt b 0) 233)) (w.heap.size + 1) (arrAt b 0) 233 := by
      have := heap_alloc_new (w.alloc (.cells (headC zeroH) 147)) (.cells (arrAt b 0) 233)
      simpa [Blk] using this
    have hb2 : Below w.heap.size w ((w.alloc (.cells (headC zeroH) 147)).alloc (.cells (arrAt b 0) 233)) := ((Below.refl _ _).alloc (Nat.le_refl _) _).alloc (by simp) _
    have HST := Lib.hid (And.intro hb2 (And.intro hz2 hA))
    clear hz hz2 hA hb2
    go_enter Tryz.func100, Tryz.ntmps100
    go_wp2_with fail
    (try change Calls _ _ _ ((w.alloc (.cells (headC zeroH) 147)).alloc (.cells (arrAt b 0) 233)) _)
    refine (sizes_any _).mono ?_
    rintro e W0 ⟨⟨g, rfl, hg, hgB⟩, hb0⟩
    have HG := Lib.hid (And.intro hg hgB)
    have HS0 := Lib.hid (And.intro (below_on HST.out.1 hb0 (Nat.le_refl _)) (And.intro (HST.out.2.1.on hb0) (HST.out.2.2.on hb0)))
    have HB0 := Lib.hid hb0
    have hgn : w.heap.size + 2 ≤ g := by have := hgB; simp at this; omega
    clear hg hgB hb0
    go_wp2_with fail
    go_loopw [6, 16] (fun pos i wr => ∃ t : Nat, t ≤ 6 ∧ i = .int .i64 t ∧ pos = .int .i64 (offAt t : Int) ∧ Hid (Below w.heap.size w wr ∧ Blk wr w.heap.size (headC zeroH) 147 ∧ Blk wr (w.heap.size + 1) (arrAt b t) 233 ∧ ∀ s, s < 6 → wr.cell? ⟨g, s, none⟩ = some (.int .i64 (sizeAt s : Int)))) (fun _ i _ => 6 - (intOf i).toNat)
    case atStart => exact ⟨0, Nat.zero_le _, rfl, rfl, Lib.hid ⟨HS0.out.1, HS0.out.2.1, HS0.out.2.2, HG.out.1⟩⟩
    case round =>
      obtain ⟨t, ht, rfl, rfl, hinv⟩ := hrel
      by_cases hlt : t < 6
      · obtain ⟨zt, hzt⟩ : ∃ zt, zt = sizeAt t := ⟨_, rfl⟩
        obtain ⟨po, hpo⟩ : ∃ po, po = offAt t := ⟨_, rfl⟩
        obtain ⟨nt, hnt⟩ : ∃ nt, nt = numOf b t := ⟨_, rfl⟩
        have hz := sizeAt_ok t
        have hst := offAt_step hlt
        rw [← hzt] at hz hst
        rw [← hpo] at hst ⊢
        have c0 : wr.cell? ⟨g, t, none⟩ = some (.int .i64 (zt : Int)) := by rw [hzt]; exact hinv.out.2.2.2 t hlt
        have a0 : wr.cell? ⟨w.heap.size + 1, t, none⟩ = some (.int .i64 0) := by rw [hinv.out.2.2.1.cell t]; exact arr_get b hlt
        have f0 := hinv.out.2.2.1.free t
        have hg0 := getk_any wr bo 512 bc b (HL.out.1.below hinv.out.1 (Nat.le_refl _)) po zt (by omega) hz.1 hz.2
        have hgp : getP b po zt = (nt, 0) := by
          rw [getP, if_pos (by have := HB.out; omega), hnt, numOf, ← hpo, ← hzt]
        rw [hgp] at hg0
        have HGT := Lib.hid hg0
        have HI := Lib.hid hinv.out
        have HQ := Lib.hid (And.intro hzt (And.intro hpo (And.intro hnt hst)))
        have hpo16 : po + zt ≤ 16 := hst.2
        clear hinv hzt hpo hnt hz hst hg0 hgp
        go_wp2_with (go_at_call 128; refine HGT.out.mono ?_; rintro e W ⟨rfl, rfl⟩)
        go_roundw
        case rel =>
          have hgr : W.grownBy (W.setCell ⟨w.heap.size + 1, t, none⟩ (.int .i64 nt)) (some (w.heap.size + 1)) := but_set _ _ _ _
          have hset := HI.out.2.2.1.set t (.int .i64 nt)
          rw [HQ.out.2.2.1, arr_set b hlt, ← HQ.out.2.2.1] at hset
          refine ⟨t + 1, by omega, by go_num, congrArg (Value.int .i64) (by rw [HQ.out.2.2.2.1]; push_cast; rfl), Lib.hid ⟨HI.out.1.trans (below_of_but hgr (by omega) (by have := HI.out.1.size; omega)), HI.out.2.1.but hgr (by omega), hset, fun s hs => ?_⟩⟩
          rw [← HI.out.2.2.2 s hs]
          simp only [World.cell?]
          rw [hgr.block g ?_ (by intro e; have := Option.some.inj e; omega)]
          have := World.block_lt_of_cell? W _ (HI.out.2.2.2 s hs)
          simpa using this
        case measure => simp [intOf]; omega
      · obtain rfl : t = 6 := by omega
        have HI := Lib.hid hinv.out
        obtain ⟨m, hm⟩ : ∃ m : Nat, numOf b 5 = (m : Int) := ⟨_, rfl⟩
        have a5 : wr.cell? ⟨w.heap.size + 1, 5, none⟩ = some (.int .i64 (m : Int)) := by rw [hinv.out.2.2.1.cell 5, ← hm]; simp [arrAt]
        have HM := Lib.hid hm
        clear hm hinv
        by_cases hbig : 496 < m
        · have HE := Lib.hid (show openE b = 14 by rw [openE, if_neg (by have := HB.out; omega), if_pos (by have := HM.out; omega)])
          have hz := HI.out.2.1
          have HZ := Lib.hid hz
          have HZ2 := Lib.hid (And.intro (blk_setRow hz (headC zeroH)) (HI.out.1.trans (below_of_but (but_setRow wr w.heap.size (headC zeroH)) (Nat.le_refl _) HI.out.1.size)))
          clear hz
          go_wp2_with (refine wpList_store_row rfl 147 _ _ rfl w.heap.size (headC zeroH) rfl rfl 147 (headC zeroH) HZ.out headSize rfl (headC_all _) ?_)
          exact bodyPost_ret (v := .tuple #[.agg (headC zeroH), .slice none 0 0, .int .i64 14]) (sopen_results rfl rfl rfl HZ2.out.1) rfl (open_fail HE.out (by decide) rfl HZ2.out.2)
        · obtain ⟨bb, off, rfl⟩ := HL.out.1.addr (k := 0) (by omega)
          have a0 : wr.cell? ⟨w.heap.size + 1, 0, none⟩ = some (.int .i64 (openH b).kind) := by rw [HI.out.2.2.1.cell 0]; simp [arrAt, openH]
          have a1 : wr.cell? ⟨w.heap.size + 1, 1, none⟩ = some (.int .i64 (openH b).epoch) := by rw [HI.out.2.2.1.cell 1]; simp [arrAt, openH]
          have a2 : wr.cell? ⟨w.heap.size + 1, 2, none⟩ = some (.int .i64 (openH b).seq) := by rw [HI.out.2.2.1.cell 2]; simp [arrAt, openH]
          have a3 : wr.cell? ⟨w.heap.size + 1, 3, none⟩ = some (.int .i64 (openH b).part) := by rw [HI.out.2.2.1.cell 3]; simp [arrAt, openH]
          have a4 : wr.cell? ⟨w.heap.size + 1, 4, none⟩ = some (.int .i64 (openH b).parts) := by rw [HI.out.2.2.1.cell 4]; simp [arrAt, openH]
          obtain ⟨H, hH⟩ : ∃ H, H = openH b := ⟨_, rfl⟩
          rw [← hH] at a0 a1 a2 a3 a4
          have HH := Lib.hid hH
          clear hH
          have hz := HI.out.2.1
          have HZ := Lib.hid hz
          have hgr := but_setRow wr w.heap.size (headC H)
          have hnew : Blk (wr.setRow w.heap.size (headC H)) w.heap.size (headC H) 147 := blk_setRow hz (headC H)
          have hbn : Below w.heap.size w (wr.setRow w.heap.size (headC H)) := HI.out.1.trans (below_of_but hgr (Nat.le_refl _) HI.out.1.size)
          have ha5 : (wr.setRow w.heap.size (headC H)).cell? ⟨w.heap.size + 1, 5, none⟩ = some (.int .i64 (m : Int)) := by
            rw [(HI.out.2.2.1.but hgr (by omega)).cell 5, ← HM.out]; simp [arrAt]
          have hpart := (HL.out.1.below hbn (Nat.le_refl _)).part (lo := 16) (m := m) (by omega)
          have hvs : ((b.map fun c => Value.int .u8 (c.toNat : Int)).drop 16).take m = (openD b).map u8V := by
            rw [openD, HM.out, Int.toNat_natCast, List.map_take, List.map_drop]; rfl
          rw [hvs] at hpart
          have HCL := Lib.hid (bclone_any (wr.setRow w.heap.size (headC H)) _ m (bc - 16) _ hpart (u8_one _) (by omega))
          have HNW := Lib.hid (And.intro hnew hbn)
          have HDL := Lib.hid (show (openD b).length = m by rw [openD, HM.out, Int.toNat_natCast, List.length_take, List.length_drop, HB.out]; omega)
          have hcp : ¬ bc = 16 := by omega
          clear hz hgr hnew hbn hpart hvs
          go_wp2_with (refine wpList_store_row rfl 147 _ _ rfl w.heap.size (headC H) rfl rfl 147 (headC zeroH) HZ.out headSize rfl (headC_all _) ?_)
          clear a0 a1 a2 a3 a4 a5 ha5
          refine HCL.out.mono ?_
          rintro e W1 ⟨⟨da, dc, rfl, hd⟩, hb1⟩
          have hB1 := HNW.out.1.on hb1
          have hbw1 := below_on HNW.out.2 hb1 (Nat.le_refl _)
          have c0 := hB1.cell 0
          have c1 := hB1.cell 1
          have c2 := hB1.cell 2
          have c3 := hB1.cell 3
          have c4 := hB1.cell 4
          simp only [headC] at c0 c1 c2 c3 c4
          have HD := Lib.hid (And.intro hd (And.intro hB1 hbw1))
          have hsl := seal_any W1 H da m dc (openD b) hd.row (by omega)
          simp only [headC] at hsl
          have HSL := Lib.hid hsl
          clear hd hb1 hB1 hbw1 hsl HCL
          go_wp2_with fail
          refine HSL.out.mono ?_
          rintro e W2 hres
          have hB2 := HD.out.2.1.on hres.bel
          have hw2 := below_on HD.out.2.2 hres.bel (Nat.le_refl _)
          have hd2 := HD.out.1.on hres.bel
          have hlt2 : w.heap.size < (wr.setRow w.heap.size (headC H)).heap.size := HNW.out.1.lt
          have HW2 := Lib.hid (And.intro hB2 (And.intro hw2 (And.intro hd2 hlt2)))
          have q0 := hB2.cell 0
          have q1 := hB2.cell 1
          have q2 := hB2.cell 2
          have q3 := hB2.cell 3
          have q4 := hB2.cell 4
          simp only [headC] at q0 q1 q2 q3 q4
          have hEt := HH.out
          have h512 : openE b = if sealE H (openD b) ≠ 0 ∨ sealB H (openD b) ≠ b then 14 else 0 := by
            rw [openE, if_neg (by have := HB.out; omega), if_neg (by have := HM.out; omega), ← hEt]
          have H512 := Lib.hid h512
          have HRS := Lib.hid hres
          clear hB2 hw2 hd2 hlt2 hEt h512 hres c0 c1 c2 c3 c4 HSL
          have HOUT := Lib.hid (open_out HW2.out.1 HW2.out.2.1)
          by_cases hse : sealE H (openD b) = 0
          · obtain ⟨v, he, hown⟩ := HRS.out.ok hse
            obtain ⟨sa, sc, hv, hrow⟩ := row_of_owns hown (by omega)
            subst hv
            subst he
            have HEQ := Lib.hid (bequal_any W2 sa 512 sc (sealB H (openD b)) hrow (some ⟨bb, off, none⟩) 512 bc b (HL.out.1.below HW2.out.2.1 (Nat.le_refl _)))
            clear hown hrow
            by_cases hsame : sealB H (openD b) = b
            · have HE := Lib.hid (show openE b = 0 by rw [H512.out, if_neg (by rw [hse, hsame]; simp)])
              have hdec : decide (sealB H (openD b) = b) = true := by simpa using hsame
              rw [hdec] at HEQ
              clear hse hsame hdec
              go_wp2_with (first | (go_at_call 55; refine HEQ.out.mono ?_; rintro e W3 ⟨rfl, rfl⟩) | (refine wpList_store_row rfl 147 _ _ rfl w.heap.size (headC H) rfl rfl 147 (headC H) HW2.out.1 headSize rfl (headC_all _) ?_))
              have HO := HOUT.out H
              refine bodyPost_ret (v := .tuple #[.agg (headC H), .slice da m dc, .int .i64 0]) (sopen_results rfl rfl rfl HO.1) rfl ⟨fun _ => ?_, fun e => absurd HE.out e, HO.2⟩
              refine ⟨da, dc, by rw [HH.out, HDL.out], ?_⟩
              rw [HDL.out]
              exact (HW2.out.2.2.1.step (Same.grown (but_setRow W3 _ _) (fun k hk e => by have := Option.some.inj e; have := hk.2; have := HW2.out.2.2.2; omega))).mono (by have := HW2.out.2.2.2; omega)
            · have HE := Lib.hid (show openE b = 14 by rw [H512.out, if_pos (.inr hsame)])
              have hdec : decide (sealB H (openD b) = b) = false := by simpa using hsame
              rw [hdec] at HEQ
              clear hse hsame hdec
              go_wp2_with (first | (go_at_call 55; refine HEQ.out.mono ?_; rintro e W3 ⟨rfl, rfl⟩) | (refine wpList_store_row rfl 147 _ _ rfl w.heap.size (headC zeroH) rfl rfl 147 (headC H) HW2.out.1 headSize rfl (headC_all _) ?_))
              have HO := HOUT.out zeroH
              exact bodyPost_ret (v := .tuple #[.agg (headC zeroH), .slice none 0 0, .int .i64 14]) (sopen_results rfl rfl rfl HO.1) rfl (open_fail HE.out (by decide) rfl HO.2)
          · have HE := Lib.hid (show openE b = 14 by rw [H512.out, if_pos (.inl hse)])
            have he := HRS.out.bad hse
            obtain ⟨k, hk⟩ : ∃ k, k = sealE H (openD b) := ⟨_, rfl⟩
            rw [← hk] at he hse
            have hkb : (k != 0) = true := by simpa using hse
            subst he
            clear hk hse
            go_wp2_with (refine wpList_store_row rfl 147 _ _ rfl w.heap.size (headC zeroH) rfl rfl 147 (headC H) HW2.out.1 headSize rfl (headC_all _) ?_)
            have HO := HOUT.out zeroH
            exact bodyPost_ret (v := .tuple #[.agg (headC zeroH), .slice none 0 0, .int .i64 14]) (sopen_results rfl rfl rfl HO.1) rfl (open_fail HE.out (by decide) rfl HO.2)
  · have HE := Lib.hid (show openE b = 3 by rw [openE, if_pos (by omega)])
    have hne : ((bl : Int) != 512) = true := by simp; omega
    have HZ := Lib.hid hz
    clear hb hlen hz
    go_enter Tryz.func100, Tryz.ntmps100
    go_wp2_with fail
    exact bodyPost_ret (v := .tuple #[.agg (headC zeroH), .slice none 0 0, .int .i64 3]) (sopen_results rfl rfl rfl HZ.out) rfl (open_fail HE.out (by decide) rfl ((Below.refl _ _).alloc (Nat.le_refl _) _))
end
section
open Go.ChangeShapes Go.WideShapes Go.ChangeAt Go.RowKit

/-- a device: its sectors, each with its bytes and whether it is torn; the writes that are not sure -/
structure DevP where
  sure : List (List UInt8 × Bool)
  unsure : List (Nat × List UInt8)
  limit : Nat
  down : Bool
def secL (s : List UInt8 × Bool) : List Value := s.1.map u8V ++ [.bool s.2]
def sectL (l : List (List UInt8 × Bool)) : List Value := l.flatMap secL
theorem secL_len {s : List UInt8 × Bool} (h : s.1.length = 512) : (secL s).length = 513 := by simp [secL, h]
theorem sect_len : ∀ {l : List (List UInt8 × Bool)}, (∀ s ∈ l, s.1.length = 512) → (sectL l).length = l.length * 513
  | [], _ => rfl
  | s :: l, h => by
    have ih := sect_len (l := l) (fun x hx => h x (List.mem_cons_of_mem _ hx))
    have hs := secL_len (h s List.mem_cons_self)
    simp only [sectL, List.flatMap_cons, List.length_append, List.length_cons] at ih ⊢
    omega
theorem sect_get : ∀ {l : List (List UInt8 × Bool)}, (∀ s ∈ l, s.1.length = 512) → ∀ (k : Nat) (hk : k < l.length) (j : Nat), j < 513 → (sectL l)[k * 513 + j]? = (secL l[k])[j]?
  | [], _, k, hk, _, _ => absurd hk (by simp)
  | s :: l, h, 0, _, j, hj => by
    have hs := secL_len (h s List.mem_cons_self)
    simp only [sectL, List.flatMap_cons, Nat.zero_mul, Nat.zero_add, List.getElem_cons_zero]
    rw [List.getElem?_append_left (by omega)]
  | s :: l, h, k + 1, hk, j, hj => by
    have hs := secL_len (h s List.mem_cons_self)
    have ih := sect_get (l := l) (fun x hx => h x (List.mem_cons_of_mem _ hx)) k (by simpa using hk) j hj
    simp only [sectL, List.flatMap_cons, List.getElem_cons_succ] at ih ⊢
    rw [List.getElem?_append_right (by omega), hs, show (k + 1) * 513 + j - 513 = k * 513 + j from by omega, ih]
/-- one sector is another -/
theorem sect_set : ∀ {l : List (List UInt8 × Bool)}, (∀ s ∈ l, s.1.length = 512) → ∀ (k : Nat), k < l.length → ∀ (x : List UInt8 × Bool), sectL (l.set k x) = (sectL l).take (k * 513) ++ (secL x ++ (sectL l).drop (k * 513 + 513))
  | [], _, k, hk, _ => absurd hk (by simp)
  | s :: l, h, 0, _, x => by
    have hs := secL_len (h s List.mem_cons_self)
    simp only [sectL, List.set_cons_zero, List.flatMap_cons, Nat.zero_mul, List.take_zero, List.nil_append, Nat.zero_add]
    rw [List.drop_append, hs, Nat.sub_self, List.drop_zero, List.drop_of_length_le (by omega), List.nil_append]
  | s :: l, h, k + 1, hk, x => by
    have hs := secL_len (h s List.mem_cons_self)
    have ih := sect_set (l := l) (fun x hx => h x (List.mem_cons_of_mem _ hx)) k (by simpa using hk) x
    simp only [sectL, List.set_cons_succ, List.flatMap_cons] at ih ⊢
    rw [ih, List.take_append, List.drop_append, hs, List.take_of_length_le (l := secL s) (by omega), List.drop_of_length_le (l := secL s) (by omega), show (k + 1) * 513 - 513 = k * 513 from by omega, show (k + 1) * 513 + 513 - 513 = k * 513 + 513 from by omega, List.nil_append, List.append_assoc]
/-- writes -/
def writeK : Kind (Nat × List UInt8) where
  H := Option Addr × Nat
  size := 2
  cells := fun h x => #[.int .i64 (x.1 : Int), .slice h.1 512 h.2]
  is := fun S w h x => Byts w h.1 512 h.2 x.2 ∧ rowIn S h.1 512
  hsize := fun _ _ => rfl
  pos := by decide
  one := fun h x u hu => by
    simp at hu
    rcases hu with rfl | rfl <;> rfl
  mono := fun h hS => ⟨h.1, h.2.mono h.1 hS⟩
  keep := fun h hs => ⟨h.1.keep h.2 hs, h.2⟩
structure IsDev (B : Nat) (w : World) (D : Nat) (d : DevP) : Prop where
  ex : ∃ SU v, Blk w D #[.slice (some ⟨SU, 0, none⟩) d.sure.length d.sure.length, v, .int .i64 (d.limit : Int), .bool d.down] 83 ∧ Blk w SU (sectL d.sure).toArray 229 ∧ B ≤ SU ∧ Gath writeK [5] 226 B w v d.unsure
  base : B ≤ D
  pos : 0 < d.sure.length
  le : d.sure.length ≤ 4096
  lens : ∀ s ∈ d.sure, s.1.length = 512
  ulens : ∀ u ∈ d.unsure, u.2.length = 512 ∧ u.1 < d.sure.length
  lim : d.limit ≤ 1000000000
  cnt : d.unsure.length ≤ 900000
theorem IsDev.on {B : Nat} {w w' : World} {D : Nat} {d : DevP} (h : IsDev B w D d) (hb : Below w.heap.size w w') : IsDev B w' D d := by
  obtain ⟨SU, v, h1, h2, h3, h4⟩ := h.ex
  exact ⟨⟨SU, v, h1.on hb, h2.on hb, h3, h4.on hb⟩, h.base, h.pos, h.le, h.lens, h.ulens, h.lim, h.cnt⟩
end
section
open Go.ChangeShapes Go.WideShapes Go.ChangeAt Go.RowKit

/-- the write that counts -/
def lastW (u : List (Nat × List UInt8)) (pos : Nat) : Option (List UInt8) := (u.reverse.find? fun x => x.1 == pos).map (·.2)
theorem lastW_step {u : List (Nat × List UInt8)} {pos r : Nat} (h : r < u.length) : lastW (u.take (r + 1)) pos = if (u[r]).1 = pos then some u[r].2 else lastW (u.take r) pos := by
  unfold lastW
  rw [List.take_succ_eq_append_getElem h, List.reverse_append, List.reverse_singleton, List.singleton_append]
  by_cases he : (u[r]).1 = pos
  · rw [if_pos he, List.find?_cons_of_pos (by simpa using he)]; rfl
  · rw [if_neg he, List.find?_cons_of_neg (by simpa using he)]
/-- what Read answers of a sector that is there, while the power is -/
def readP (d : DevP) (pos : Nat) : Option (List UInt8) := match lastW d.unsure pos with
  | some b => some b
  | none => match d.sure[pos]? with
    | some s => if s.2 = true then none else some s.1
    | none => none
set_option maxHeartbeats 4000000 in
set_option maxRecDepth 100000 in
theorem dlen_any (w : World) (B D : Nat) (d : DevP) (hd : IsDev B w D d) : Calls Tryz.prog 34 #[.pointer (some ⟨D, 0, none⟩)] w fun e w' => e = .returned (.int .i64 (d.sure.length : Int)) ∧ w' = w := by
  obtain ⟨SU, v, h1, _⟩ := hd.ex
  have c0 : w.cell? ⟨D, 0, none⟩ = some (.slice (some ⟨SU, 0, none⟩) d.sure.length d.sure.length) := h1.cell 0
  clear h1 hd
  go_enter Tryz.func34, Tryz.ntmps34
  go_wp2_with fail
  go_ret
  exact ⟨rfl, rfl⟩
set_option maxHeartbeats 4000000 in
set_option maxRecDepth 100000 in
theorem ddown_any (w : World) (B D : Nat) (d : DevP) (hd : IsDev B w D d) : Calls Tryz.prog 59 #[.pointer (some ⟨D, 0, none⟩)] w fun e w' => e = .returned (.bool d.down) ∧ w' = w := by
  obtain ⟨SU, v, h1, _⟩ := hd.ex
  have c3 : w.cell? ⟨D, 3, none⟩ = some (.bool d.down) := h1.cell 3
  clear h1 hd
  go_enter Tryz.func59, Tryz.ntmps59
  go_wp2_with fail
  go_ret
  exact ⟨rfl, rfl⟩
def checkE (d : DevP) (pos : Nat) : Int := if d.down = true then 8 else if d.sure.length ≤ pos then 1 else 0
set_option maxHeartbeats 4000000 in
set_option maxRecDepth 100000 in
theorem dcheck_any (w : World) (B D : Nat) (d : DevP) (hd : IsDev B w D d) (pos : Nat) : Calls Tryz.prog 129 #[.pointer (some ⟨D, 0, none⟩), .int .i64 (pos : Int)] w fun e w' => e = .returned (.int .i64 (checkE d pos)) ∧ w' = w := by
  obtain ⟨SU, v, h1, _⟩ := hd.ex
  have c0 : w.cell? ⟨D, 0, none⟩ = some (.slice (some ⟨SU, 0, none⟩) d.sure.length d.sure.length) := h1.cell 0
  have c3 : w.cell? ⟨D, 3, none⟩ = some (.bool d.down) := h1.cell 3
  clear h1 hd
  cases hdn : d.down with
  | true =>
    have HE := Lib.hid (show checkE d pos = 8 by simp [checkE, hdn])
    rw [hdn] at c3
    clear hdn
    go_enter Tryz.func129, Tryz.ntmps129
    go_wp2_with fail
    go_ret
    exact ⟨ret_int HE.out.symm, rfl⟩
  | false =>
    rw [hdn] at c3
    obtain ⟨n, hn⟩ : ∃ n, n = d.sure.length := ⟨_, rfl⟩
    rw [← hn] at c0
    by_cases hp : n ≤ pos
    · have HE := Lib.hid (show checkE d pos = 1 by simp [checkE, hdn, ← hn, hp])
      clear hdn hn
      have hp2 : decide ((n : Int) ≤ (pos : Int)) = true := by simp; omega
      go_enter Tryz.func129, Tryz.ntmps129
      go_wp2_with fail
      go_ret
      exact ⟨ret_int HE.out.symm, rfl⟩
    · have HE := Lib.hid (show checkE d pos = 0 by simp [checkE, hdn, ← hn, hp])
      clear hdn hn
      have hp2 : decide ((n : Int) ≤ (pos : Int)) = false := by simp; omega
      go_enter Tryz.func129, Tryz.ntmps129
      go_wp2_with fail
      go_ret
      exact ⟨ret_int HE.out.symm, rfl⟩
structure ReadRes (w : World) (d : DevP) (pos : Nat) (e : Ending) (w' : World) : Prop where
  down : d.down = true → e = .returned (.tuple #[.slice none 0 0, .int .i64 8])
  ok : d.down = false → ∀ b, readP d pos = some b → ∃ ao c, e = .returned (.tuple #[.slice ao 512 c, .int .i64 0]) ∧ Own1 [5] w.heap.size w' ao 512 c (b.map u8V) ∧ b.length = 512
  torn : d.down = false → readP d pos = none → e = .returned (.tuple #[.slice none 0 0, .int .i64 9])
  bel : Below w.heap.size w w'
set_option maxHeartbeats 16000000 in
set_option maxRecDepth 100000 in
theorem dread_any (w : World) (B D : Nat) (d : DevP) (hd : IsDev B w D d) (pos : Nat) (hp : pos < d.sure.length) : Calls Tryz.prog 91 #[.pointer (some ⟨D, 0, none⟩), .int .i64 (pos : Int)] w fun e w' => ReadRes w d pos e w' := by
  have hck := dcheck_any w B D d hd pos
  obtain ⟨SU, v, h1, h2, h3, h4⟩ := hd.ex
  obtain ⟨ao, c, hv, hsq, hab⟩ := h4.seq
  subst hv
  have c0 : w.cell? ⟨D, 0, none⟩ = some (.slice (some ⟨SU, 0, none⟩) d.sure.length d.sure.length) := h1.cell 0
  have c1 : w.cell? ⟨D, 1, none⟩ = some (.slice ao d.unsure.length c) := h1.cell 1
  have hle := hsq.hle
  have hcnt := hd.cnt
  have hle2 := hd.le
  cases hdn : d.down with
  | true =>
    have HE := Lib.hid (show checkE d pos = 8 by simp [checkE, hdn])
    rw [HE.out] at hck
    have HCK := Lib.hid hck
    have HDN := Lib.hid hdn
    clear hck hdn h1 h2 h4 hsq hab hd
    go_enter Tryz.func91, Tryz.ntmps91
    go_wp2_with (go_at_call 129; refine HCK.out.mono ?_; rintro e W ⟨rfl, rfl⟩)
    go_ret2
    exact ⟨fun _ => rfl, fun e => absurd (HDN.out.symm.trans e) (by decide), fun e => absurd (HDN.out.symm.trans e) (by decide), Below.refl _ _⟩
  | false =>
    have HE := Lib.hid (show checkE d pos = 0 by simp [checkE, hdn]; omega)
    rw [HE.out] at hck
    have HCK := Lib.hid hck
    have HDN := Lib.hid hdn
    have HD := Lib.hid hd
    have HSQ := Lib.hid hsq
    have HSU := Lib.hid h2
    have HPP := Lib.hid hp
    clear hck hdn h1 h2 h4 hsq hab hd hp
    obtain ⟨n, hn⟩ : ∃ n, n = d.unsure.length := ⟨_, rfl⟩
    obtain ⟨ns, hns⟩ : ∃ ns, ns = d.sure.length := ⟨_, rfl⟩
    rw [← hn] at c1 hle hcnt
    rw [← hns] at c0 hle2
    have HN := Lib.hid (And.intro hn hns)
    clear hn hns
    go_enter Tryz.func91, Tryz.ntmps91
    go_wp2_with (go_at_call 129; refine HCK.out.mono ?_; rintro e W ⟨rfl, rfl⟩)
    go_loopw [7] (fun i wr => ∃ t : Nat, t ≤ n ∧ i = .int .i64 ((t : Int) - 1) ∧ wr = W ∧ Hid (lastW d.unsure pos = lastW (d.unsure.take t) pos)) (fun i _ => (intOf i + 1).toNat)
    case atStart => exact ⟨n, Nat.le_refl _, rfl, rfl, Lib.hid (by rw [HN.out.1, List.take_length])⟩
    case round =>
      obtain ⟨t, ht, rfl, rfl, hinv⟩ := hrel
      by_cases h0 : t = 0
      · subst h0
        have hlast : lastW d.unsure pos = none := by rw [hinv.out]; rfl
        have HLS := Lib.hid hlast
        clear hinv hlast
        have hm1 : ((0 : Nat) : Int) - 1 = -1 := by decide
        rw [hm1]
        clear hm1
        have hps : pos < d.sure.length := HPP.out
        obtain ⟨s, hs⟩ : ∃ s, s = d.sure[pos] := ⟨_, rfl⟩
        have hsl := HD.out.lens s (by rw [hs]; exact List.getElem_mem _)
        have hcell : ∀ j, j < 513 → wr.cell? ⟨SU, pos * 513 + j, none⟩ = (secL s)[j]? := fun j hj => by
          rw [HSU.out.cell (pos * 513 + j), hs, ← sect_get HD.out.lens pos hps j hj, List.getElem?_toArray]
        have q1 : wr.cell? ⟨SU, pos * 513 + 512, none⟩ = some (.bool s.2) := by
          rw [hcell 512 (by omega), secL, List.getElem?_append_right (by simp [hsl])]
          simp [hsl]
        have hrow : Row wr (some ⟨SU, pos * 513, none⟩) 512 512 (s.1.map u8V) := by
          refine ⟨by simp [hsl], Nat.le_refl _, by omega, by omega, fun e => (by cases e), fun _ => ⟨SU, pos * 513, rfl, fun i hi => ?_⟩⟩
          have hi' : i < 512 := by simpa [hsl] using hi
          rw [hcell i (by omega), secL, List.getElem?_append_left (by simp [hsl]; exact hi'), List.getElem?_eq_getElem]
        have HRP := Lib.hid (show readP d pos = if s.2 = true then none else some s.1 by rw [readP, HLS.out, List.getElem?_eq_getElem hps, ← hs])
        have HCL := Lib.hid (clone_byts wr _ 512 512 _ hrow (u8_one s.1) (by omega))
        have HSL := Lib.hid hsl
        have hpn : pos < ns := by rw [HN.out.2]; exact hps
        have hp4 : pos * 513 ≤ 2101248 := by omega
        clear hs hsl hcell hrow hps
        cases htn : s.2 with
        | true =>
          rw [htn] at q1
          have HTN := Lib.hid htn
          clear htn
          go_wp2_with fail
          go_ret2
          exact ⟨fun e => absurd (HDN.out.symm.trans e) (by decide), fun _ b hb => (by rw [HRP.out, if_pos HTN.out] at hb; cases hb), fun _ _ => rfl, Below.refl _ _⟩
        | false =>
          rw [htn] at q1
          have HTN := Lib.hid htn
          clear htn
          go_wp2_with (go_at_call 130; refine HCL.out.mono ?_; rintro e W2 ⟨⟨ao', c', rfl, ho⟩, hb⟩; have HO := Lib.hid (And.intro ho hb); clear ho hb)
          go_ret2
          exact ⟨fun e => absurd (HDN.out.symm.trans e) (by decide), fun _ b hb => by
            rw [HRP.out, if_neg (by rw [HTN.out]; decide)] at hb
            cases hb
            exact ⟨_, _, rfl, HO.out.1, HSL.out⟩, fun _ hn => (by rw [HRP.out, if_neg (by rw [HTN.out]; decide)] at hn; cases hn), HO.out.2⟩
      · obtain ⟨r, rfl⟩ : ∃ r, t = r + 1 := ⟨t - 1, by omega⟩
        have hr1 : ((r + 1 : Nat) : Int) - 1 = (r : Int) := by omega
        rw [hr1]
        clear hr1 h0
        have hrn : r < n := by omega
        have hru : r < d.unsure.length := by rw [← HN.out.1]; exact hrn
        obtain ⟨b0, off, rfl⟩ := HSQ.out.addr hru
        obtain ⟨k, hk1, hk2, hk3⟩ := HSQ.out.at hru
        have e0 := hk1 0 (by decide)
        have e1 := hk1 1 (by decide)
        simp [writeK] at e0 e1
        obtain ⟨u, hu⟩ : ∃ u, u = d.unsure[r] := ⟨_, rfl⟩
        have hst := lastW_step (pos := pos) hru
        rw [← hu] at e0 hk2 hst
        have hul := HD.out.ulens u (by rw [hu]; exact List.getElem_mem _)
        rw [← hinv.out] at hst
        have HK2 := Lib.hid hk2
        have HUL := Lib.hid hul.1
        by_cases hat : u.1 = pos
        · rw [if_pos hat] at hst
          have hatb : ((u.1 : Int) == (pos : Int)) = true := by simp; omega
          have HRP := Lib.hid (show readP d pos = some u.2 by rw [readP, hst])
          have HCL := Lib.hid (clone_byts wr k.1 512 k.2 _ hk2 (u8_one u.2) (by omega))
          clear hk1 hk2 hk3 hu hst hul hat hinv hru
          go_wp2_with (go_at_call 130; refine HCL.out.mono ?_; rintro e W2 ⟨⟨ao', c', rfl, ho⟩, hb⟩; have HO := Lib.hid (And.intro ho hb); clear ho hb)
          go_ret2
          exact ⟨fun e => absurd (HDN.out.symm.trans e) (by decide), fun _ b hb => by
            rw [HRP.out] at hb
            cases hb
            exact ⟨_, _, rfl, HO.out.1, HUL.out⟩, fun _ hn => (by rw [HRP.out] at hn; cases hn), HO.out.2⟩
        · rw [if_neg hat] at hst
          have hatb : ((u.1 : Int) == (pos : Int)) = false := by simp; omega
          have HST := Lib.hid hst
          clear hk1 hk2 hk3 hu hst hul hat hinv hru
          go_wp2_with fail
          go_roundw
          case rel => exact ⟨r, by omega, rfl, trivial, HST⟩
          case measure => simp [intOf]
end
section
open Go.ChangeShapes Go.WideShapes Go.ChangeAt Go.RowKit

/-- of what is there from block B on only blocks of the types S turn -/
structure Only (S : List TypeId) (B : Nat) (w w' : World) : Prop where
  bel : Below B w w'
  keep : ∀ b, b < w.heap.size → ¬ tagged S w b → w'.heap[b]? = w.heap[b]?
theorem Only.refl (S : List TypeId) (B : Nat) (w : World) : Only S B w w := ⟨Below.refl _ _, fun _ _ _ => rfl⟩
theorem Only.below {S : List TypeId} {B : Nat} {w w' : World} (h : Below w.heap.size w w') (hB : B ≤ w.heap.size) : Only S B w w' := ⟨h.mono hB, fun b hb _ => h.block b hb⟩
theorem Only.trans {S : List TypeId} {B : Nat} {a b c : World} (h : Only S B a b) (k : Only S B b c) : Only S B a c :=
  ⟨h.bel.trans k.bel, fun x hx hn => by
    have e := h.keep x hx hn
    have hl : x < b.heap.size := by have := h.bel.size; omega
    rw [k.keep x hl (fun ht => hn (by obtain ⟨cs, t, h1, h2⟩ := ht; exact ⟨cs, t, e ▸ h1, h2⟩)), e]⟩
theorem Only.mono {S S' : List TypeId} {B : Nat} {w w' : World} (h : Only S B w w') (hs : ∀ t ∈ S, t ∈ S') : Only S' B w w' := ⟨h.bel, fun b hb hn => h.keep b hb (fun ht => hn (tagged_mono ht hs))⟩
theorem Only.blk {S : List TypeId} {B : Nat} {w w' : World} {g : Nat} {cs : Array Value} {T : TypeId} (h : Only S B w w') (hb : Blk w g cs T) (hT : T ∉ S) : Blk w' g cs T := by
  unfold Blk at hb ⊢
  rw [h.keep g (Array.getElem?_eq_some_iff.1 hb).1 (fun ⟨cs', t, h1, h2⟩ => by rw [hb] at h1; cases h1; exact hT h2), hb]
theorem Only.same {S T : List TypeId} {B : Nat} {w w' : World} (h : Only S B w w') (hd : ∀ t ∈ T, t ∉ S) : Same (tagged T w) w w' := fun b hb ht => h.keep b hb (fun hs => by
  obtain ⟨c1, t1, h1, k1⟩ := ht
  obtain ⟨c2, t2, h2, k2⟩ := hs
  rw [h1] at h2
  cases h2
  exact hd _ k1 k2)
theorem Only.but {S : List TypeId} {B : Nat} {w w' : World} {g : Nat} {cs : Array Value} {T : TypeId} (hg : w.grownBy w' (some g)) (hb : Blk w g cs T) (hT : T ∈ S) (hB : B ≤ g) : Only S B w w' := by
  have hl := (Array.getElem?_eq_some_iff.1 (show w.heap[g]? = _ from hb)).1
  exact ⟨below_of_but hg hB (by omega), fun b hb' hn => hg.block b hb' (fun e => hn (by cases e; exact ⟨cs, T, hb, hT⟩))⟩
end
section
open Go.ChangeShapes Go.WideShapes Go.ChangeAt Go.RowKit

def dvT : List TypeId := [83, 229, 226]
/-- a device's own cells turn -/
theorem dev_turn {B : Nat} {w w' : World} {D SU l' : Nat} {d : DevP} {v : Value} {dn' : Bool} (hd : IsDev B w D d) (h2 : Blk w SU (sectL d.sure).toArray 229) (h3 : B ≤ SU) (h1 : Blk w D #[.slice (some ⟨SU, 0, none⟩) d.sure.length d.sure.length, v, .int .i64 (d.limit : Int), .bool d.down] 83) (hg : w.grownBy w' (some D))
    (h4 : Gath writeK [5] 226 B w v d.unsure) (hB : Blk w' D #[.slice (some ⟨SU, 0, none⟩) d.sure.length d.sure.length, v, .int .i64 (l' : Int), .bool dn'] 83) (hl : l' ≤ 1000000000) : IsDev B w' D { d with limit := l', down := dn' } := by
  have hne : SU ≠ D := tagged_ne (T := [229]) h1 (by decide) ⟨_, _, h2, List.mem_cons_self⟩
  exact ⟨⟨SU, v, hB, h2.but hg hne, h3, h4.step (Same.grown hg (fun b ht e => by
    have e := Option.some.inj e
    subst e
    exact tagged_ne h1 (by decide) ht rfl))⟩, hd.base, hd.pos, hd.le, hd.lens, hd.ulens, hl, hd.cnt⟩
def spendP (d : DevP) : DevP := if d.limit = 0 then d else { d with limit := d.limit - 1, down := decide (d.limit = 1) }
def spendOk (d : DevP) : Bool := decide (d.limit ≠ 1)
set_option maxHeartbeats 4000000 in
set_option maxRecDepth 100000 in
theorem dspend_any (w : World) (B D : Nat) (d : DevP) (hd : IsDev B w D d) : Calls Tryz.prog 133 #[.pointer (some ⟨D, 0, none⟩)] w fun e w' => e = .returned (.bool (spendOk d)) ∧ IsDev B w' D (spendP d) ∧ Only dvT B w w' := by
  obtain ⟨SU, v, h1, h2, h3, h4⟩ := hd.ex
  have c2 : w.cell? ⟨D, 2, none⟩ = some (.int .i64 (d.limit : Int)) := h1.cell 2
  have hlim := hd.lim
  have hbase := hd.base
  by_cases h0 : d.limit = 0
  · have HP := Lib.hid (show spendP d = d ∧ spendOk d = true by simp [spendP, spendOk, h0])
    rw [h0] at c2
    have HD := Lib.hid hd
    clear h1 h2 h4 hd h0 hlim
    go_enter Tryz.func133, Tryz.ntmps133
    go_wp2_with fail
    go_ret
    exact ⟨ret_bool HP.out.2.symm, by rw [HP.out.1]; exact HD.out, Only.refl _ _ _⟩
  · obtain ⟨m, hm⟩ : ∃ m, d.limit = m + 1 := ⟨d.limit - 1, by omega⟩
    have c0 := h1.cell 0
    have HP := Lib.hid (show spendP d = { d with limit := m, down := decide (m = 0) } ∧ spendOk d = !decide (m = 0) by
      constructor
      · rw [spendP, if_neg h0, hm]; simp
      · rw [spendOk, hm]; simp)
    have hg1 := but_set w D 2 (.int .i64 (m : Int))
    have hB1 := h1.set 2 (.int .i64 (m : Int))
    have hg2 := but_set (w.setCell ⟨D, 2, none⟩ (.int .i64 (m : Int))) D 3 (.bool (decide (m = 0)))
    have hB2 := hB1.set 3 (.bool (decide (m = 0)))
    have hgg := but_trans hg1 hg2
    have hfin := dev_turn (l' := m) (dn' := decide (m = 0)) hd h2 h3 h1 hgg h4 (by simpa using hB2) (by omega)
    have hon : Only dvT B w ((w.setCell ⟨D, 2, none⟩ (.int .i64 (m : Int))).setCell ⟨D, 3, none⟩ (.bool (decide (m = 0)))) := Only.but hgg h1 (by decide) hbase
    have HF := Lib.hid (And.intro hfin hon)
    have f2 := h1.free 2
    have k2 := hB1.cell 2
    have k3 := hB1.cell 3
    have f3 := hB1.free 3
    have j3 := hB2.cell 3
    simp at k2 k3 j3
    rw [hm] at c2
    have hmb : m ≤ 1000000000 := by omega
    have hcast : ((m + 1 : Nat) : Int) - 1 = (m : Int) := by omega
    have hdec : ((m : Int) == 0) = decide (m = 0) := by rw [Bool.eq_iff_iff]; simp
    clear h1 h2 h4 hd hm h0 hg1 hB1 hg2 hB2 hgg hfin hon hlim c0
    go_enter Tryz.func133, Tryz.ntmps133
    go_wp2_with fail
    go_ret
    exact ⟨ret_bool HP.out.2.symm, by rw [HP.out.1]; exact HF.out.1, HF.out.2⟩
theorem grown_blk {w w' : World} {row : Option Nat} {B g : Nat} {cs : Array Value} {T T' : TypeId} (hg : w.grownBy w' row) (hr : ∀ b, row = some b → ∃ cs, Blk w b cs T ∧ B ≤ b) (hb : Blk w g cs T') (hT : T' ≠ T) : Blk w' g cs T' := by
  have hl := hb.lt
  unfold Blk
  rw [hg.block g hl (fun e => by
    obtain ⟨cs2, h2, _⟩ := hr g e.symm
    unfold Blk at hb h2
    rw [hb] at h2
    simp at h2
    exact hT h2.2)]
  exact hb
theorem grown_only {S : List TypeId} {w w' : World} {row : Option Nat} {B : Nat} {T : TypeId} (hg : w.grownBy w' row) (hr : ∀ b, row = some b → ∃ cs, Blk w b cs T ∧ B ≤ b) (hT : T ∈ S) (hB : B ≤ w.heap.size) : Only S B w w' :=
  ⟨(Below.refl B w).grown hg hB (fun b e => (hr b e).elim fun _ h => h.2), fun b hb hn => hg.block b hb (fun e => hn (by
    obtain ⟨cs2, h2, _⟩ := hr b e.symm
    exact ⟨cs2, T, h2, hT⟩))⟩
theorem writeParts : ∃ (i0 : TypeInfo) (z : Value), Tryz.prog.info? 226 = some i0 ∧ i0.zero = some z ∧ i0.size = 2 ∧ z.cells.size = 2 ∧ i0.bytes ≤ 1000 := by
  have h : (Tryz.prog.info? 226).map (fun i => (i.zero.map (·.cells.size), i.size, decide (i.bytes ≤ 1000))) = some (some 2, 2, true) := by kernel_rfl
  obtain ⟨i0, hi, hii⟩ := Option.map_eq_some_iff.1 h
  simp only [Prod.mk.injEq, decide_eq_true_eq] at hii
  obtain ⟨z, hz, hzs⟩ := Option.map_eq_some_iff.1 hii.1
  exact ⟨i0, z, hi, hz, hii.2.1, hzs, hii.2.2⟩
structure CopyPrep (W : World) (zz : Array Value) (bo : Option Addr) (b : List UInt8) : Prop where
  blk : (W.alloc (.cells zz 5)).heap[W.heap.size]? = some (.cells (List.replicate 512 (Value.int .u8 0)).toArray 5 (0, 0))
  src : 0 < (b.map u8V).length → (some (⟨W.heap.size, 0, none⟩ : Addr) = some ⟨W.heap.size, 0, none⟩) ∧ ∃ ad, bo = some ad ∧ ∀ j v, (b.map u8V)[j]? = some v → (W.alloc (.cells zz 5)).cell? (ad.add j) = some v
  bel : Below W.heap.size W (W.alloc (.cells zz 5))
  len : (b.map u8V).length = Nat.min 512 512
  fit : 0 + (b.map u8V).length ≤ (List.replicate 512 (Value.int .u8 0)).length
theorem copy_prep (W : World) {zz : Array Value} (hz : zz = (List.replicate 512 (Value.int .u8 0)).toArray) {bo : Option Addr} {bc : Nat} {b : List UInt8} (hb : Byts W bo 512 bc b) (hl : b.length = 512) : Hid (CopyPrep W zz bo b) := Lib.hid (by
  have hal : Below W.heap.size W (W.alloc (.cells zz 5)) := (Below.refl _ _).alloc (Nat.le_refl _) _
  exact ⟨by rw [← hz]; exact heap_alloc_new W _, byts_src (hb.below hal (Nat.le_refl _)) W.heap.size, hal, by rw [List.length_map, hl]; rfl, by rw [List.length_map, hl, List.length_replicate]; omega⟩)
/-- what the append of a write needs -/
structure WPrep (B : Nat) (W : World) (g pos : Nat) (b : List UInt8) (v : Value) (u : List (Nat × List UInt8)) (v' : Value) (W' : World) : Prop where
  run : (Builtin.append_ #[81, 81] 81 #[v, .slice (some ⟨W.heap.size, 0, none⟩) 1 1]).run Tryz.prog (W.alloc (.cells #[.int .i64 (pos : Int), .slice (some ⟨g, 0, none⟩) 512 512] 226)) = .ok v' W'
  gath : Gath writeK [5] 226 B W' v' (u ++ [(pos, b)])
  grown : (W.alloc (.cells #[.int .i64 (pos : Int), .slice (some ⟨g, 0, none⟩) 512 512] 226)).grownBy W' v.ownBlock
  row : ∀ k, v.ownBlock = some k → ∃ cs, Blk (W.alloc (.cells #[.int .i64 (pos : Int), .slice (some ⟨g, 0, none⟩) 512 512] 226)) k cs 226 ∧ B ≤ k
theorem wprep {B : Nat} {W : World} {g : Nat} {b : List UInt8} {v : Value} {u : List (Nat × List UInt8)} (hB : B ≤ W.heap.size) (hu : u.length ≤ 900000) (hW : Hid (W.heap[g]? = some (.cells (splice (List.replicate 512 (Value.int .u8 0)) 0 (b.map u8V)).toArray 5 (0, 0)))) (hG : Gath writeK [5] 226 B W v u) (hl : b.length = 512) (pos : Nat) : ∃ v' W', WPrep B W g pos b v u v' W' := by
  have hsp : splice (List.replicate 512 (Value.int .u8 0)) 0 (b.map u8V) = b.map u8V := by
    rw [splice, List.take_zero, List.nil_append, List.length_map, hl, List.drop_replicate]
    simp
  have hblk : Blk W g (b.map u8V).toArray 5 := by have := hW.out; rw [hsp] at this; exact this
  have hal : Below W.heap.size W (W.alloc (.cells #[.int .i64 (pos : Int), .slice (some ⟨g, 0, none⟩) 512 512] 226)) := (Below.refl _ _).alloc (Nat.le_refl _) _
  have hb2 := hblk.on hal
  have hrow : Byts (W.alloc (.cells #[.int .i64 (pos : Int), .slice (some ⟨g, 0, none⟩) 512 512] 226)) (some ⟨g, 0, none⟩) 512 512 b := by
    refine ⟨by simp [hl], Nat.le_refl _, by omega, by omega, fun e => (by cases e), fun _ => ⟨g, 0, rfl, fun i hi => ?_⟩⟩
    rw [Nat.zero_add, hb2.cell i, List.getElem?_toArray, List.getElem?_eq_getElem (by simpa using hi)]
    rfl
  obtain ⟨i0, z, hi, hz, hs0, hzs, hby⟩ := writeParts
  obtain ⟨v', W', hrun, hgath, hgr, hr, _⟩ := (hG.on hal).push (ts := 81) (by decide) i0 z Tryz.underlying81 hi hz hs0 hzs hby (by omega) (by have := hal.size; omega) (some ⟨g, 0, none⟩, 512) (pos, b) ⟨hrow, fun _ a ha => by cases ha; exact ⟨_, _, hb2, List.mem_cons_self⟩⟩ ⟨W.heap.size, 0, none⟩ 1 (fun j _ => by rw [addr_add, Nat.zero_add]; exact World.cell?_alloc_new W _ _ j) 81
  exact ⟨v', W', hrun, hgath, hgr, hr⟩
theorem dblk {B : Nat} {W2 W W' : World} {g pos D : Nat} {b : List UInt8} {v v' : Value} {u : List (Nat × List UInt8)} {cs : Array Value} (h : Blk W2 D cs 83) (hb : Below W2.heap.size W2 W) (hp : WPrep B W g pos b v u v' W') : Blk W' D cs 83 :=
  grown_blk hp.grown hp.row ((h.on hb).on ((Below.refl _ _).alloc (Nat.le_refl _) _)) (by decide)
theorem dcell1 {B : Nat} {W2 W W' : World} {g pos D : Nat} {b : List UInt8} {v v' a0 a2 a3 : Value} {u : List (Nat × List UInt8)} (h : Blk W2 D #[a0, v, a2, a3] 83) (hb : Below W2.heap.size W2 W) (hp : WPrep B W g pos b v u v' W') : W'.cell? ⟨D, 1, none⟩ = some v := (dblk h hb hp).cell 1
theorem dfree1 {B : Nat} {W2 W W' : World} {g pos D : Nat} {b : List UInt8} {v v' a0 a2 a3 : Value} {u : List (Nat × List UInt8)} (h : Blk W2 D #[a0, v, a2, a3] 83) (hb : Below W2.heap.size W2 W) (hp : WPrep B W g pos b v u v' W') : W'.frozen? ⟨D, 1, none⟩ = false := (dblk h hb hp).free 1
/-- what a write makes of a device -/
def writeP (d : DevP) (pos : Nat) (b : List UInt8) : DevP := if d.down = true then d else if spendOk d = true then { spendP d with unsure := d.unsure ++ [(pos, b)] } else spendP d
def writeE (d : DevP) : Int := if d.down = true then 8 else if spendOk d = true then 0 else 8
theorem spend_same (d : DevP) : (spendP d).sure = d.sure ∧ (spendP d).unsure = d.unsure := by
  unfold spendP; split <;> exact ⟨rfl, rfl⟩
/-- a device with one write more -/
theorem dwrite_law {B : Nat} {W2 W3 W4 : World} {D SU g pos : Nat} {d : DevP} {b : List UInt8} {v v' : Value} (hd : IsDev B W2 D d) (h1 : Blk W2 D #[.slice (some ⟨SU, 0, none⟩) d.sure.length d.sure.length, v, .int .i64 (d.limit : Int), .bool d.down] 83) (h2 : Blk W2 SU (sectL d.sure).toArray 229) (h3 : B ≤ SU)
    (hb : Below W2.heap.size W2 W3) (hp : WPrep B W3 g pos b v d.unsure v' W4) (hl : b.length = 512) (hpos : pos < d.sure.length) (hcnt : d.unsure.length < 900000) : IsDev B (W4.setCell ⟨D, 1, none⟩ v') D { d with unsure := d.unsure ++ [(pos, b)] } ∧ Only dvT B W2 (W4.setCell ⟨D, 1, none⟩ v') := by
  have hD4 := dblk h1 hb hp
  have hal : Below W3.heap.size W3 (W3.alloc (.cells #[.int .i64 (pos : Int), .slice (some ⟨g, 0, none⟩) 512 512] 226)) := (Below.refl _ _).alloc (Nat.le_refl _) _
  have hS4 : Blk W4 SU (sectL d.sure).toArray 229 := grown_blk hp.grown hp.row ((h2.on hb).on hal) (by decide)
  have hg := but_set W4 D 1 v'
  have hne : SU ≠ D := tagged_ne (T := [229]) h1 (by decide) ⟨_, _, h2, List.mem_cons_self⟩
  have hBW : B ≤ W2.heap.size := by have := hd.base; have := h1.lt; omega
  refine ⟨⟨⟨SU, v', by simpa using hD4.set 1 v', hS4.but hg hne, h3, hp.gath.step (Same.grown hg (fun x ht e => by
    have e := Option.some.inj e
    subst e
    exact tagged_ne hD4 (by decide) ht rfl))⟩, hd.base, hd.pos, hd.le, hd.lens, fun u hu => ?_, hd.lim, by rw [List.length_append, List.length_singleton]; exact hcnt⟩, ?_⟩
  · rcases List.mem_append.1 hu with h | h
    · exact hd.ulens u h
    · rw [List.mem_singleton.1 h]; exact ⟨hl, hpos⟩
  · have o1 : Only dvT B W2 (W3.alloc (.cells #[.int .i64 (pos : Int), .slice (some ⟨g, 0, none⟩) 512 512] 226)) := Only.below (below_on hb hal (Nat.le_refl _)) hBW
    have o2 : Only dvT B (W3.alloc (.cells #[.int .i64 (pos : Int), .slice (some ⟨g, 0, none⟩) 512 512] 226)) W4 := grown_only hp.grown hp.row (by decide) (by have := hb.size; have := hal.size; omega)
    exact (o1.trans o2).trans (Only.but hg hD4 (by decide) hd.base)
set_option maxHeartbeats 16000000 in
set_option maxRecDepth 100000 in
theorem dwrite_any (w : World) (B D : Nat) (d : DevP) (hd : IsDev B w D d) (pos : Nat) (hp : pos < d.sure.length) (bo : Option Addr) (bc : Nat) (b : List UInt8) (hb : Byts w bo 512 bc b) (hbB : rowIn (tagged [5] w) bo 512) (hcnt : d.unsure.length < 900000) :
    Calls Tryz.prog 98 #[.pointer (some ⟨D, 0, none⟩), .int .i64 (pos : Int), .slice bo 512 bc] w fun e w' => e = .returned (.int .i64 (writeE d)) ∧ IsDev B w' D (writeP d pos b) ∧ Only dvT B w w' := by
  have hck := dcheck_any w B D d hd pos
  cases hdn : d.down with
  | true =>
    have HE := Lib.hid (show checkE d pos = 8 ∧ writeE d = 8 ∧ writeP d pos b = d by simp [checkE, writeE, writeP, hdn])
    rw [HE.out.1] at hck
    have HCK := Lib.hid hck
    have HD := Lib.hid hd
    clear hck hdn hd hb
    go_enter Tryz.func98, Tryz.ntmps98
    go_wp2_with (go_at_call 129; refine HCK.out.mono ?_; rintro e W ⟨rfl, rfl⟩)
    go_ret
    exact ⟨ret_int HE.out.2.1.symm, by rw [HE.out.2.2]; exact HD.out, Only.refl _ _ _⟩
  | false =>
    have HE0 := Lib.hid (show checkE d pos = 0 by simp [checkE, hdn]; omega)
    rw [HE0.out] at hck
    have HCK := Lib.hid hck
    have HSP := Lib.hid (dspend_any w B D d hd)
    have hlen := hb.hlen
    rw [List.length_map] at hlen
    have HB := Lib.hid (And.intro hb (And.intro hlen hbB))
    have HPP := Lib.hid (And.intro hp hcnt)
    clear hck hd hb hlen hp hcnt hbB
    cases hok : spendOk d with
    | false =>
      have HE := Lib.hid (show writeE d = 8 ∧ writeP d pos b = spendP d by simp [writeE, writeP, hdn, hok])
      rw [hok] at HSP
      clear hdn hok
      go_enter Tryz.func98, Tryz.ntmps98
      go_wp2_with (first | (go_at_call 129; refine HCK.out.mono ?_; rintro e W ⟨rfl, rfl⟩) | (go_at_call 133; refine HSP.out.mono ?_; rintro e W2 ⟨rfl, hd2, ho2⟩; have HD2 := Lib.hid (And.intro hd2 ho2); clear hd2 ho2))
      go_ret
      exact ⟨ret_int HE.out.1.symm, by rw [HE.out.2]; exact HD2.out.1, HD2.out.2⟩
    | true =>
      have HE := Lib.hid (show writeE d = 0 ∧ writeP d pos b = { spendP d with unsure := d.unsure ++ [(pos, b)] } by simp [writeE, writeP, hdn, hok])
      rw [hok] at HSP
      clear hdn hok
      obtain ⟨zz, hzz⟩ : ∃ zz, zz = (List.replicate 512 (Value.int .u8 0)).toArray := ⟨_, rfl⟩
      have hmk : ∀ w : World, (Instr.makeSlice 28 (.int .i64 512) (.int .i64 512)).run Tryz.prog w = .ok (.slice (some ⟨w.heap.size, 0, none⟩) 512 512) (w.alloc (.cells zz 5)) := fun w => by
        obtain ⟨i0, hi, hz0, hz1, hz2⟩ := info_parts u8Info
        have := run_make (P := Tryz.prog) w 28 5 i0 _ Tryz.underlying28 hi hz0 .i64 .i64 512 512 (by omega) (by omega) (by rw [hz2]; omega) (by omega)
        rw [this, hz1, hzz]
        show Result.ok _ (w.alloc (.cells (madeCells #[Value.int .u8 0] 512) _)) = _
        rw [made_one]; rfl
      have HZZ := Lib.hid hzz
      clear hzz
      go_enter Tryz.func98, Tryz.ntmps98
      go_wp2_with (first | (go_at_call 129; refine HCK.out.mono ?_; rintro e W ⟨rfl, rfl⟩) | (go_at_call 133; refine HSP.out.mono ?_; rintro e W2 ⟨rfl, hd2, ho2⟩; have HCP := copy_prep W2 HZZ.out (HB.out.1.keep HB.out.2.2 (ho2.same (by decide))) HB.out.2.1; have HD2 := Lib.hid (And.intro hd2 ho2); obtain ⟨SU, v, h1, h2, h3, h4⟩ := hd2.ex; have HEX := Lib.hid (And.intro h1 (And.intro h2 (And.intro h3 h4))); clear hd2 ho2 h1 h2 h3 h4) | (refine wpList_copy_splice rfl _ _ 28 28 rfl 5 Tryz.underlying28 (by kernel_rfl) (some ⟨W2.heap.size, 0, none⟩) bo 512 512 512 bc rfl rfl W2.heap.size 0 (List.replicate 512 (Value.int .u8 0)) 5 HCP.out.blk (b.map u8V) HCP.out.len HCP.out.src HCP.out.fit (u8_one b) W2.heap.size W2 HCP.out.bel (Nat.le_refl _) ?_; intro W3 hW3 hbW3; have HW3 := Lib.hid hbW3; have d1 : W3.cell? ⟨D, 1, none⟩ = some v := (HEX.out.1.on hbW3).cell 1; obtain ⟨v', W4, hwp⟩ := wprep (B := B) (by have := HEX.out.1.lt; have := HD2.out.1.base; have := hbW3.size; omega) (by rw [(spend_same d).2]; have := HPP.out.2; omega) hW3 (HEX.out.2.2.2.on hbW3) HB.out.2.1 pos; obtain ⟨ao', c', hv', -, -⟩ := hwp.gath.seq; subst hv'; have HWP := Lib.hid hwp; clear hbW3 hW3 hmk hwp) | (at_builtin; refine wpList_append_run rfl _ _ _ rfl _ _ rfl rfl HWP.out.run ?_; have d1' := dcell1 HEX.out.1 HW3.out HWP.out; have f1' := dfree1 HEX.out.1 HW3.out HWP.out; clear d1))
      go_ret
      obtain ⟨g1, g2⟩ := dwrite_law HD2.out.1 HEX.out.1 HEX.out.2.1 HEX.out.2.2.1 HW3.out HWP.out HB.out.2.1 (by rw [(spend_same d).1]; exact HPP.out.1) (by rw [(spend_same d).2]; exact HPP.out.2)
      rw [List.length_append, List.length_singleton] at g1 g2
      have g3 := HD2.out.2.trans g2
      refine ⟨ret_int HE.out.1.symm, ?_, g3⟩
      rw [HE.out.2, ← (spend_same d).2]
      exact g1
end
section
open Go.ChangeShapes Go.WideShapes Go.ChangeAt Go.RowKit

theorem settle_list {l : List (List UInt8 × Bool)} (hl : ∀ s ∈ l, s.1.length = 512) {k : Nat} (hk : k < l.length) (b : List UInt8) (hb : b.length = 512) (torn : Bool) :
    splice ((sectL l).set (k * 513 + 512) (.bool torn)) (k * 513) (b.map u8V) = sectL (l.set k (b, torn)) := by
  have hlen := sect_len hl
  rw [sect_set hl k hk, splice, List.length_map, hb, List.take_set_of_le (by omega), List.drop_eq_getElem_cons (by rw [List.length_set]; omega), List.getElem_set_self, List.drop_set_of_lt (by omega)]
  simp [secL, List.append_assoc]
/-- a copy as one step of a region that draws its order; the world is told just so -/
theorem step_copy_row {P : Program} {ops : Array Oper} {o : Oper} {a : Act} {w : World} {K : Act → World → Prop} {Q : Exit → Act → World → Prop} {E : Prop} (hgd : o.guard = none) (d s : Operand) (dT sT : TypeId)
    (ho : o.op = .call { callee := .builtin .copy, args := #[d, s], argTypes := #[dT, sT] }) (elem : TypeId) (hu : P.underlying dT = some (.slice elem)) (hsz : (P.info? elem).map (·.size) = some 1)
    (ad : Addr) (dLen dCap sLen sCap g off : Nat) (hd : a.eval d = .slice (some ⟨g, off, none⟩) dLen dCap) (hs : a.eval s = .slice (some ad) sLen sCap)
    (cur : List Value) (t : TypeId) (hg : w.heap[g]? = some (.cells cur.toArray t (0, 0))) (cs : List Value) (hn : cs.length = Nat.min sLen dLen)
    (hsrc : ∀ j v, cs[j]? = some v → w.cell? (ad.add j) = some v) (hfit : off + cs.length ≤ cur.length) (h1 : ∀ v ∈ cs, v.oneCell' = true)
    (h : K (a.put o.dst (goInt cs.length)) (w.setRow g (splice cur off cs).toArray)) :
    if Region.wanted o (yielded ops a.tmps) = true then Oper.wp P o a w K Q else E := by
  have hw : Region.wanted o (yielded ops a.tmps) = true := by simp [Region.wanted, hgd]
  rw [if_pos hw]
  have hrun := run_copy_row (P := P) w dT sT o.type elem g off dLen dCap ad sLen sCap cur.toArray t cs hu hsz hg hn hsrc (by simpa using hfit) h1
  unfold Oper.wp
  simp [execOp, ho, resolve, invoke, builtin, hd, hs, hrun, Result.andThen]
  exact h
theorem settle_law {B D : Nat} {w w1 w2 : World} {d : DevP} (hd : IsDev B w D d) {SU : Nat} {v : Value} {cs : List Value} (hB : B ≤ SU)
    (h1 : Blk w1 D #[.slice (some ⟨SU, 0, none⟩) d.sure.length d.sure.length, v, .int .i64 (d.limit : Int), .bool d.down] 83) (h2 : Blk w1 SU cs.toArray 229) (h4 : Gath writeK [5] 226 B w1 v d.unsure)
    (g : w1.grownBy w2 (some SU)) {pos : Nat} {b : List UInt8} {torn : Bool} (h2' : Blk w2 SU (sectL (d.sure.set pos (b, torn))).toArray 229) (hb : b.length = 512) :
    IsDev B w2 D { d with sure := d.sure.set pos (b, torn) } ∧ Only [229] B w1 w2 := by
  have hD := h1.but g (tagged_ne (T := [83]) h2 (by decide) ⟨_, _, h1, List.mem_cons_self⟩)
  have hG := h4.step (Same.grown g (fun x ht e => by
    have e := Option.some.inj e
    subst e
    exact tagged_ne h2 (by decide) ht rfl))
  refine ⟨⟨⟨SU, v, ?_, h2', hB, hG⟩, hd.base, ?_, ?_, ?_, ?_, hd.lim, hd.cnt⟩, Only.but g h2 (by decide) hB⟩
  · rw [List.length_set]; exact hD
  · rw [List.length_set]; exact hd.pos
  · rw [List.length_set]; exact hd.le
  · intro s hs
    rcases List.mem_or_eq_of_mem_set hs with h | h
    · exact hd.lens s h
    · rw [h]; exact hb
  · intro u hu
    rw [List.length_set]
    exact hd.ulens u hu
set_option maxHeartbeats 16000000 in
set_option maxRecDepth 100000 in
theorem dsettle_any (w : World) (B D : Nat) (d : DevP) (hd : IsDev B w D d) (pos : Nat) (hp : pos < d.sure.length) (ao : Option Addr) (c : Nat) (b : List UInt8) (hb : Byts w ao 512 c b) (hbS : rowIn (tagged [226, 5] w) ao 512) (torn : Bool) :
    Calls Tryz.prog 134 #[.pointer (some ⟨D, 0, none⟩), .agg #[.int .i64 (pos : Int), .slice ao 512 c], .bool torn] w fun e w' => e = .returned (.tuple #[]) ∧ IsDev B w' D { d with sure := d.sure.set pos (b, torn) } ∧ Only [229] B w w' := by
  obtain ⟨SU, v, h1, h2, h3, h4⟩ := hd.ex
  have hal : Below w.heap.size w (w.alloc (.cells #[.int .i64 (pos : Int), .slice ao 512 c] 226)) := (Below.refl _ _).alloc (Nat.le_refl _) _
  have hA : Blk (w.alloc (.cells #[.int .i64 (pos : Int), .slice ao 512 c] 226)) w.heap.size #[.int .i64 (pos : Int), .slice ao 512 c] 226 := heap_alloc_new w _
  obtain ⟨n, hn⟩ : ∃ n, n = d.sure.length := ⟨_, rfl⟩
  have HD := Lib.hid (And.intro hd (And.intro h1 (And.intro h2 (And.intro h3 h4))))
  have c0 : (w.alloc (.cells #[.int .i64 (pos : Int), .slice ao 512 c] 226)).drew.cell? ⟨D, 0, none⟩ = some (.slice (some ⟨SU, 0, none⟩) n n) := by rw [hn]; exact (h1.on hal).cell 0
  have a0 : (w.alloc (.cells #[.int .i64 (pos : Int), .slice ao 512 c] 226)).drew.cell? ⟨w.heap.size, 0, none⟩ = some (.int .i64 (pos : Int)) := hA.cell 0
  have hsl := hd.lens _ (List.getElem_mem hp)
  have b1 : (w.alloc (.cells #[.int .i64 (pos : Int), .slice ao 512 c] 226)).drew.cell? ⟨SU, pos * 513 + 512, none⟩ = some (.bool (d.sure[pos]).2) := by
    show (w.alloc (.cells #[.int .i64 (pos : Int), .slice ao 512 c] 226)).cell? _ = _
    rw [(h2.on hal).cell, List.getElem?_toArray, sect_get hd.lens pos hp 512 (by omega), secL, List.getElem?_append_right (by simp [hsl])]
    simp [hsl]
  have b2 : (w.alloc (.cells #[.int .i64 (pos : Int), .slice ao 512 c] 226)).drew.frozen? ⟨SU, pos * 513 + 512, none⟩ = false := (h2.on hal).free _
  obtain ⟨t0, ht0⟩ : ∃ t0, t0 = (d.sure[pos]).2 := ⟨_, rfl⟩
  rw [← ht0] at b1
  have hpn : pos < n := by omega
  have hn4 : n ≤ 4096 := by have := hd.le; omega
  have HN := Lib.hid hn
  have HB := Lib.hid (And.intro hb hbS)
  clear hd h1 h2 h4 hb hbS hp hn hsl ht0
  obtain ⟨ad, rfl⟩ : ∃ ad, ao = some ad := by
    obtain ⟨b0, off, e⟩ := HB.out.1.addr (k := 0) (by omega)
    exact ⟨_, e⟩
  have hg1 := but_set (w.alloc (.cells #[.int .i64 (pos : Int), .slice (some ad) 512 c] 226)) SU (pos * 513 + 512) (.bool torn)
  have h2a := HD.out.2.2.1.on hal
  have hdr : ∀ Z : World, Below Z.heap.size Z Z.drew := fun Z => Below.drew (Below.refl _ _)
  have hS0 := h2a.set (pos * 513 + 512) (.bool torn)
  have hS := hS0.on (hdr _)
  rw [List.setIfInBounds_toArray] at hS
  have hDev := ((HD.out.2.1.on hal).but hg1 (tagged_ne (T := [83]) h2a (by decide) ⟨_, _, HD.out.2.1.on hal, List.mem_cons_self⟩)).on (hdr _)
  have hBox := (hA.but hg1 (tagged_ne (T := [226]) h2a (by decide) ⟨_, _, hA, List.mem_cons_self⟩)).on (hdr _)
  have hBW : B ≤ w.heap.size := by have := HD.out.1.base; have := HD.out.2.1.lt; omega
  have hOn : Only [229] B w ((w.alloc (.cells #[.int .i64 (pos : Int), .slice (some ad) 512 c] 226)).setCell ⟨SU, pos * 513 + 512, none⟩ (.bool torn)).drew := ((Only.below hal hBW).trans (Only.but hg1 h2a (by decide) h3)).trans (Only.below (Below.drew (Below.refl _ _)) (by have := hal.size; have := hg1.size; omega))
  have hGa : Gath writeK [5] 226 B ((w.alloc (.cells #[.int .i64 (pos : Int), .slice (some ad) 512 c] 226)).setCell ⟨SU, pos * 513 + 512, none⟩ (.bool torn)).drew v d.unsure := ((HD.out.2.2.2.2.on hal).step (Same.grown hg1 (fun x ht e => by
    have e := Option.some.inj e
    subst e
    exact tagged_ne h2a (by decide) ht rfl))).on (Below.drew (Below.refl _ _))
  have hBy : Byts ((w.alloc (.cells #[.int .i64 (pos : Int), .slice (some ad) 512 c] 226)).setCell ⟨SU, pos * 513 + 512, none⟩ (.bool torn)).drew (some ad) 512 c b := HB.out.1.keep HB.out.2 (hOn.same (by decide))
  have HZ := Lib.hid (And.intro hS (And.intro hDev (And.intro hBox (And.intro hOn (And.intro hGa hBy)))))
  clear hg1 h2a hS hDev hBox hBW hOn hGa hBy hal hA
  go_enter Tryz.func134, Tryz.ntmps134
  go_wp2_with fail
  go_region
  go_wp2_with fail
  clear c0 a0 b1 b2
  generalize ((w.alloc (.cells #[.int .i64 (pos : Int), .slice (some ad) 512 c] 226)).setCell ⟨SU, pos * 513 + 512, none⟩ (.bool torn)).drew = Z at HZ ⊢
  have z1 : Z.drew.cell? ⟨w.heap.size, 1, none⟩ = some (.slice (some ad) 512 c) := HZ.out.2.2.1.cell 1
  have hlen := HZ.out.2.2.2.2.2.hlen
  rw [List.length_map] at hlen
  have hsl := sect_len HD.out.1.lens
  have hc1 : (b.map u8V).length = Nat.min 512 512 := by rw [List.length_map, hlen]; rfl
  have hc2 : ∀ j v, (b.map u8V)[j]? = some v → Z.drew.cell? (ad.add j) = some v := fun j v hj => by
    obtain ⟨_, ad', e, h⟩ := byts_src HZ.out.2.2.2.2.2 0 (by rw [List.length_map, hlen]; omega)
    cases e
    exact h j v hj
  have hc3 : pos * 513 + (b.map u8V).length ≤ ((sectL d.sure).set (pos * 513 + 512) (Value.bool torn)).length := by rw [List.length_map, hlen, List.length_set, hsl, ← HN.out]; omega
  have HC := Lib.hid (And.intro hc1 (And.intro hc2 (And.intro hc3 hlen)))
  clear hlen hsl hc1 hc2 hc3
  go_region_law (refine step_copy_row rfl (.tmp 21) (.tmp 23) 28 28 rfl 5 Tryz.underlying28 (by kernel_rfl) ad 512 512 512 c SU (pos * 513) rfl rfl ((sectL d.sure).set (pos * 513 + 512) (Value.bool torn)) 229 HZ.out.1 (b.map u8V) HC.out.1 HC.out.2.1 HC.out.2.2.1 (u8_one b) ?_)
  have HL := Lib.hid (settle_list HD.out.1.lens (show pos < d.sure.length by have := HN.out; omega) b HC.out.2.2.2 torn)
  have hZ : Below Z.heap.size Z Z.drew := hdr Z
  generalize hZZ : Z.drew = Y at hZ ⊢
  have s1 := HZ.out.1.on hZ
  rw [HL.out]
  have g := but_setRow Y SU (sectL (d.sure.set pos (b, torn))).toArray
  have HF := Lib.hid (settle_law HD.out.1 h3 (HZ.out.2.1.on hZ) s1 (HZ.out.2.2.2.2.1.on hZ) g (blk_setRow s1 _) HC.out.2.2.2)
  go_wp2_with fail
  go_end0
  refine ⟨rfl, HF.out.1, (HZ.out.2.2.2.1.trans (Only.below hZ ?_)).trans HF.out.2⟩
  have := HZ.out.2.2.2.1.bel.size
  have := HD.out.1.base
  have := HD.out.2.1.lt
  omega
end
section
open Go.ChangeShapes Go.WideShapes Go.ChangeAt Go.RowKit

/-- the first t writes, each as f says -/
def setN (f : Nat → Option Bool) (us : List (Nat × List UInt8)) (s : List (List UInt8 × Bool)) : Nat → List (List UInt8 × Bool)
  | 0 => s
  | t + 1 => match us[t]?, f t with
    | some u, some b => (setN f us s t).set u.1 (u.2, b)
    | _, _ => setN f us s t
theorem setN_len (f : Nat → Option Bool) (us : List (Nat × List UInt8)) (s : List (List UInt8 × Bool)) (t : Nat) : (setN f us s t).length = s.length := by
  induction t with
  | zero => rfl
  | succ t ih =>
    rw [setN]
    split
    · rw [List.length_set, ih]
    · exact ih
def syncP (d : DevP) : DevP := if d.down = true then d else if spendOk d = true then { spendP d with sure := setN (fun _ => some false) d.unsure d.sure d.unsure.length, unsure := [] } else spendP d
def syncE (d : DevP) : Int := if d.down = true then 8 else if spendOk d = true then 0 else 8
/-- what is not sure is no more -/
theorem clear_law {B : Nat} {w w' : World} {D SU l' : Nat} {d : DevP} {dn' : Bool} (hd : IsDev B w D d) (h2 : Blk w SU (sectL d.sure).toArray 229) (h3 : B ≤ SU) {cs : Array Value} (h1 : Blk w D cs 83)
    (hg : w.grownBy w' (some D)) (hB : Blk w' D #[.slice (some ⟨SU, 0, none⟩) d.sure.length d.sure.length, .slice none 0 0, .int .i64 (l' : Int), .bool dn'] 83) (hl : l' ≤ 1000000000) : IsDev B w' D { d with unsure := [], limit := l', down := dn' } ∧ Only dvT B w w' := by
  have hne : SU ≠ D := tagged_ne (T := [229]) h1 (by decide) ⟨_, _, h2, List.mem_cons_self⟩
  exact ⟨⟨⟨SU, _, hB, h2.but hg hne, h3, Gath.nil _ _ _ _ _⟩, hd.base, hd.pos, hd.le, hd.lens, fun u hu => absurd hu List.not_mem_nil, hl, Nat.zero_le _⟩, Only.but hg h1 (by decide) hd.base⟩
set_option maxHeartbeats 16000000 in
set_option maxRecDepth 100000 in
theorem dsync_any (w : World) (B D : Nat) (d : DevP) (hd : IsDev B w D d) :
    Calls Tryz.prog 97 #[.pointer (some ⟨D, 0, none⟩)] w fun e w' => e = .returned (.int .i64 (syncE d)) ∧ IsDev B w' D (syncP d) ∧ Only dvT B w w' := by
  have c3 : w.cell? ⟨D, 3, none⟩ = some (.bool d.down) := by obtain ⟨SU, v, h1, _⟩ := hd.ex; exact h1.cell 3
  cases hdn : d.down with
  | true =>
    have HE := Lib.hid (show syncE d = 8 ∧ syncP d = d by simp [syncE, syncP, hdn])
    rw [hdn] at c3
    have HD := Lib.hid hd
    clear hd hdn
    go_enter Tryz.func97, Tryz.ntmps97
    go_wp2_with fail
    go_ret
    exact ⟨ret_int HE.out.1.symm, by rw [HE.out.2]; exact HD.out, Only.refl _ _ _⟩
  | false =>
    rw [hdn] at c3
    have HSP := Lib.hid (dspend_any w B D d hd)
    cases hok : spendOk d with
    | false =>
      have HE := Lib.hid (show syncE d = 8 ∧ syncP d = spendP d by simp [syncE, syncP, hdn, hok])
      rw [hok] at HSP
      clear hd hdn hok
      go_enter Tryz.func97, Tryz.ntmps97
      go_wp2_with (go_at_call 133; refine HSP.out.mono ?_; rintro e W2 ⟨rfl, hd2, ho2⟩; have HD2 := Lib.hid (And.intro hd2 ho2); clear hd2 ho2)
      go_ret
      exact ⟨ret_int HE.out.1.symm, by rw [HE.out.2]; exact HD2.out.1, HD2.out.2⟩
    | true =>
      have HE := Lib.hid (show syncE d = 0 ∧ syncP d = { spendP d with sure := setN (fun _ => some false) (spendP d).unsure (spendP d).sure (spendP d).unsure.length, unsure := [] } by simp [syncE, syncP, hdn, hok, (spend_same d).1, (spend_same d).2])
      rw [hok] at HSP
      clear hd hdn hok
      go_enter Tryz.func97, Tryz.ntmps97
      go_wp2_with (go_at_call 133; refine HSP.out.mono ?_; rintro e W2 ⟨rfl, hd2, ho2⟩; generalize spendP d = q at hd2 HE; obtain ⟨SU, v, h1, h2, h3, h4⟩ := hd2.ex; obtain ⟨ao, c, hv, hsq, hab⟩ := h4.seq; subst hv; have c1 : W2.cell? ⟨D, 1, none⟩ = some (.slice ao q.unsure.length c) := h1.cell 1; have hle := hsq.hle; have hcnt := hd2.cnt; obtain ⟨n, hn⟩ : ∃ n, n = q.unsure.length := ⟨_, rfl⟩; rw [← hn] at c1 hle hcnt; have HN := Lib.hid hn; have HD2 := Lib.hid (And.intro hd2 (And.intro ho2 (And.intro h1 hsq))); clear hd2 ho2 h1 h2 h3 h4 hsq hab hn)
      go_loopw [23] (fun i wr => ∃ t : Nat, t ≤ n ∧ i = .int .i64 (t : Int) ∧ Hid (IsDev B wr D { q with sure := setN (fun _ => some false) q.unsure q.sure t } ∧ Only [229] B W2 wr)) (fun i _ => (n - intOf i).toNat)
      case atStart => exact ⟨0, Nat.zero_le _, rfl, Lib.hid ⟨HD2.out.1, Only.refl _ _ _⟩⟩
      case round =>
        obtain ⟨t, ht, rfl, hinv⟩ := hrel
        by_cases h0 : t = n
        · obtain ⟨SU2, v2, k1, k2, k3, k4⟩ := hinv.out.1.ex
          have f1 := k1.free 1
          have m1 := k1.cell 1
          simp at m1
          have HF := Lib.hid (clear_law hinv.out.1 k2 k3 k1 (but_set wr D 1 (.slice none 0 0)) (by simpa using k1.set 1 (.slice none 0 0)) hinv.out.1.lim)
          have HT := Lib.hid h0
          subst h0
          clear k1 k2 k4
          go_wp2_with fail
          go_ret
          refine ⟨ret_int HE.out.1.symm, ?_, ?_⟩
          · rw [HE.out.2, ← HN.out]
            exact HF.out.1
          · have h1 := HD2.out.2.1.bel.size
            exact (HD2.out.2.1.trans (hinv.out.2.mono (by decide))).trans HF.out.2
        · have hlt : t < n := by omega
          have hru : t < q.unsure.length := by rw [← HN.out]; exact hlt
          have hsq := HD2.out.2.2.2.step (hinv.out.2.same (by decide))
          obtain ⟨b0, off, rfl⟩ := hsq.addr hru
          obtain ⟨k, hk1, hk2, hk3⟩ := hsq.at hru
          have e0 := hk1 0 (by decide)
          have e1 := hk1 1 (by decide)
          simp [writeK] at e0 e1
          obtain ⟨u, hu⟩ : ∃ u, u = q.unsure[t] := ⟨_, rfl⟩
          rw [← hu] at e0 hk2
          have hul := HD2.out.1.ulens u (by rw [hu]; exact List.getElem_mem _)
          have hu2 : q.unsure[t]? = some u := by rw [hu]; exact List.getElem?_eq_getElem hru
          have HU := Lib.hid (And.intro hu2 (And.intro hul (And.intro hk2 hk3)))
          clear hk1 hk2 hk3 hu hu2 hul hru hsq h0
          have hset := fun (Z : World) (hZ : Below wr.heap.size wr Z) => dsettle_any Z B D _ (hinv.out.1.on hZ) u.1 (by show u.1 < (setN _ _ _ _).length; rw [setN_len]; exact HU.out.2.1.2) k.1 k.2 u.2 (HU.out.2.2.1.below hZ (Nat.le_refl _)) (rowIn.mono HU.out.2.2.2 HU.out.2.2.1 (fun b hb ht => tagged_keep ht (hZ.block b hb))) false
          have HSET := Lib.hid hset
          clear hset
          go_wp2_with (go_at_call 134; refine (HSET.out _ ((Below.refl _ _).alloc (Nat.le_refl _) _)).mono ?_; rintro e W3 ⟨rfl, hd3, ho3⟩; have H3 := Lib.hid (And.intro hd3 ho3); clear hd3 ho3)
          have hnx : Hid (IsDev B W3 D { q with sure := setN (fun _ => some false) q.unsure q.sure (t + 1) } ∧ Only [229] B W2 W3) := Lib.hid (by
            have hs : setN (fun _ => some false) q.unsure q.sure (t + 1) = (setN (fun _ => some false) q.unsure q.sure t).set u.1 (u.2, false) := by rw [setN, HU.out.1]
            rw [hs]
            have h1 := hinv.out.1.base
            obtain ⟨_, _, h2, _⟩ := hinv.out.1.ex
            have h3 := h2.lt
            exact ⟨H3.out.1, (hinv.out.2.trans (Only.below ((Below.refl _ _).alloc (Nat.le_refl _) _) (by omega))).trans H3.out.2⟩)
          have hcast : (t : Int) + 1 = ((t + 1 : Nat) : Int) := by omega
          go_roundw
          case rel => exact ⟨t + 1, hlt, by simp, hnx⟩
          case measure => simp [intOf]; omega
end
section
open Go.ChangeShapes Go.WideShapes Go.ChangeAt Go.RowKit

def bitP (m t : Nat) : Bool := decide (m / 2 ^ (t % 64) % 2 = 1)
/-- which writes are done: torn, or whole -/
def crashF (m tn t : Nat) : Option Bool := if bitP tn t = true then some true else if bitP m t = true then some false else none
def crashP (d : DevP) (m tn : Nat) : DevP := { sure := setN (crashF m tn) d.unsure d.sure d.unsure.length, unsure := [], limit := 0, down := false }
theorem u64bit {m : Nat} (hm : m < 18446744073709551616) (t : Nat) : (bits BinOp.and IntKind.u64 ((m : Int) / 2 ^ (t % 64)) 1 == 1) = bitP m t := by
  have h1 : (m : Int) / 2 ^ (t % 64) = ((m / 2 ^ (t % 64) : Nat) : Int) := by push_cast; rfl
  have h2 : m / 2 ^ (t % 64) < 18446744073709551616 := Nat.lt_of_le_of_lt (Nat.div_le_self _ _) hm
  rw [h1, show (1 : Int) = ((1 : Nat) : Int) from rfl, u64_and_nat _ 1 h2 (by omega), Nat.and_one_is_mod, bitP, Bool.eq_iff_iff]
  simp
  omega
def zeroS : List UInt8 × Bool := (List.replicate 512 0, false)
def newD (n : Nat) : DevP := { sure := List.replicate n zeroS, unsure := [], limit := 0, down := false }
theorem secInfo : ∃ (i0 : TypeInfo), Tryz.prog.info? 229 = some i0 ∧ i0.size = 513 ∧ i0.bytes ≤ 1000 ∧ i0.zero.map (·.cells.toList) = some ((List.replicate 512 (Value.int .u8 0)) ++ [.bool false]) := by
  have h : (Tryz.prog.info? 229).map (fun i => (i.size, decide (i.bytes ≤ 1000), i.zero.map (·.cells.toList))) = some (513, true, some ((List.replicate 512 (Value.int .u8 0)) ++ [.bool false])) := by kernel_rfl
  obtain ⟨i0, h1, h2⟩ := Option.map_eq_some_iff.1 h
  simp only [Prod.mk.injEq, decide_eq_true_eq] at h2
  exact ⟨i0, h1, h2.1, h2.2.1, h2.2.2⟩
theorem zero_lens (n : Nat) : ∀ s ∈ List.replicate n zeroS, s.1.length = 512 := fun s hs => by rw [List.eq_of_mem_replicate hs]; exact List.length_replicate
theorem made_sect {z : Array Value} (hz : z.toList = (List.replicate 512 (Value.int .u8 0)) ++ [.bool false]) (n : Nat) : madeCells z (n * 513) = (sectL (List.replicate n zeroS)).toArray := by
  have hzz : z.toList = secL zeroS := by
    have h0 : u8V 0 = .int .u8 0 := rfl
    rw [hz, secL, zeroS, List.map_replicate, h0]
  have hzs : z.size = 513 := by rw [← Array.length_toList, hz, List.length_append, List.length_replicate]; rfl
  have hl := sect_len (zero_lens n)
  rw [List.length_replicate] at hl
  apply Array.ext
  · simp [madeCells, hl]
  · intro i h1 h2
    have hi : i < n * 513 := by simpa [madeCells] using h1
    have hk : i / 513 < n := by omega
    have hj : i % 513 < 513 := Nat.mod_lt _ (by omega)
    have h3 := sect_get (zero_lens n) (i / 513) (by simpa using hk) (i % 513) hj
    rw [show i / 513 * 513 + i % 513 = i from by omega, List.getElem_replicate, ← hzz] at h3
    have h4 : (madeCells z (n * 513))[i]? = z.toList[i % 513]? := by
      rw [madeCells, Array.getElem?_map]
      simp [hi, hzs, hj, getElem!_pos]
    apply Option.some.inj
    rw [← Array.getElem?_eq_getElem h1, ← Array.getElem?_eq_getElem h2, h4, List.getElem?_toArray, h3]
set_option maxHeartbeats 16000000 in
set_option maxRecDepth 100000 in
theorem dnew_any (w : World) (n : Nat) (hn : 1 ≤ n) (hn4 : n ≤ 4096) :
    Calls Tryz.prog 17 #[.int .i64 (n : Int)] w fun e w' => (∃ D, e = .returned (.tuple #[.pointer (some ⟨D, 0, none⟩), .int .i64 0]) ∧ IsDev w.heap.size w' D (newD n)) ∧ Below w.heap.size w w' := by
  obtain ⟨i0, hi, hz0, hz1, hz2⟩ := secInfo
  obtain ⟨z, hz, hzc⟩ := Option.map_eq_some_iff.1 hz2
  have hmk := run_make (P := Tryz.prog) w 80 229 i0 z Tryz.underlying80 hi hz .i64 .i64 (n : Int) (n : Int) (by omega) (by omega) (by have h := Nat.mul_le_mul hz1 hn4; have h2 : ((i0.bytes * n : Nat) : Int) = (i0.bytes : Int) * (n : Int) := Int.natCast_mul _ _; omega) (by omega)
  rw [hz0, Int.toNat_natCast, made_sect hzc n] at hmk
  obtain ⟨zz, hzz⟩ : ∃ zz, zz = (sectL (List.replicate n zeroS)).toArray := ⟨_, rfl⟩
  rw [← hzz] at hmk
  have HZ := Lib.hid hzz
  clear hz2 hz hzc hi hz0 hz1 hzz
  go_enter Tryz.func17, Tryz.ntmps17
  go_wp2_with fail
  go_ret2
  have hZ := HZ.out
  subst hZ
  have ha1 : Below w.heap.size w (w.alloc (.cells (sectL (List.replicate n zeroS)).toArray 229)) := (Below.refl _ _).alloc (Nat.le_refl _) _
  have hb1 : Blk (w.alloc (.cells (sectL (List.replicate n zeroS)).toArray 229)) w.heap.size (sectL (List.replicate n zeroS)).toArray 229 := heap_alloc_new w _
  have hs1 : (w.alloc (.cells (sectL (List.replicate n zeroS)).toArray 229)).heap.size = w.heap.size + 1 := Array.size_push _
  generalize w.alloc (.cells (sectL (List.replicate n zeroS)).toArray 229) = W1 at ha1 hb1 hs1 ⊢
  rw [← hs1]
  have ha2 : Below W1.heap.size W1 (W1.alloc (.cells #[.slice (some ⟨w.heap.size, 0, none⟩) n n, .slice none 0 0, .int .i64 0, .bool false] 83)) := (Below.refl _ _).alloc (Nat.le_refl _) _
  have hb2 : Blk (W1.alloc (.cells #[.slice (some ⟨w.heap.size, 0, none⟩) n n, .slice none 0 0, .int .i64 0, .bool false] 83)) W1.heap.size #[.slice (some ⟨w.heap.size, 0, none⟩) n n, .slice none 0 0, .int .i64 0, .bool false] 83 := heap_alloc_new W1 _
  refine ⟨⟨_, rfl, ⟨⟨w.heap.size, _, ?_, hb1.on ha2, Nat.le_refl _, Gath.nil _ _ _ _ _⟩, by omega, ?_, ?_, zero_lens n, fun u hu => absurd hu List.not_mem_nil, Nat.zero_le _, Nat.zero_le _⟩⟩, ha1.trans (ha2.mono (by omega))⟩
  · rw [show (newD n).sure.length = n from List.length_replicate]; exact hb2
  · rw [show (newD n).sure.length = n from List.length_replicate]; omega
  · rw [show (newD n).sure.length = n from List.length_replicate]; omega
end
section
open Go.ChangeShapes Go.WideShapes Go.ChangeAt Go.RowKit

/-- the block of a log's beginning -/
structure SupP where
  gen : Int
  epoch : Int
  first : Int
  from' : Int
  count : Int
def supC (s : SupP) : Array Value := #[.int .i64 s.gen, .int .i64 s.epoch, .int .i64 s.first, .int .i64 s.from', .int .i64 s.count]
def numsC (b : Nat) : Array Value := #[.pointer (some ⟨b, 0, none⟩), .pointer (some ⟨b, 1, none⟩), .pointer (some ⟨b, 2, none⟩), .pointer (some ⟨b, 3, none⟩), .pointer (some ⟨b, 4, none⟩)]
theorem numsC_all (b : Nat) : (numsC b).all (·.oneCell') = true := by simp [numsC, Value.oneCell']
theorem numsSize : (Tryz.prog.info? 186).map (·.size) = some 5 := by kernel_rfl
theorem nums_results {tmps : Array Value} {w : World} {R b : Nat} (h2 : tmps[2]? = some (.pointer (some ⟨R, 0, none⟩))) (hB : Blk w R (numsC b) 186) :
    (results Tryz.f93 tmps).run Tryz.prog w = .ok (.agg (numsC b)) w := by
  have c0 := hB.cell 0
  have c1 := hB.cell 1
  have c2 := hB.cell 2
  have c3 := hB.cell 3
  have c4 := hB.cell 4
  simp [numsC] at c0 c1 c2 c3 c4
  have hlen : R < w.heap.size := hB.lt
  simp [results, go_sem, h2, c0, c1, c2, c3, c4, numsC]
set_option maxHeartbeats 16000000 in
set_option maxRecDepth 100000 in
theorem numbers_any (w : World) (b : Nat) :
    Calls Tryz.prog 93 #[.pointer (some ⟨b, 0, none⟩)] w fun e w' => e = .returned (.agg (numsC b)) ∧ Below w.heap.size w w' := by
  go_enter Tryz.func93, Tryz.ntmps93
  have hA : Blk (w.alloc (.cells #[.pointer none, .pointer none, .pointer none, .pointer none, .pointer none] 186)) w.heap.size #[.pointer none, .pointer none, .pointer none, .pointer none, .pointer none] 186 := heap_alloc_new w _
  have hal : Below w.heap.size w (w.alloc (.cells #[.pointer none, .pointer none, .pointer none, .pointer none, .pointer none] 186)) := (Below.refl _ _).alloc (Nat.le_refl _) _
  have HA := Lib.hid (And.intro hA hal)
  clear hA hal
  go_wp2_with fail
  generalize (w.alloc (.cells #[.pointer none, .pointer none, .pointer none, .pointer none, .pointer none] 186)) = Z at HA ⊢
  have c0 := HA.out.1.cell 0
  have c1 := HA.out.1.cell 1
  have c2 := HA.out.1.cell 2
  have c3 := HA.out.1.cell 3
  have c4 := HA.out.1.cell 4
  simp at c0 c1 c2 c3 c4
  have f0 := HA.out.1.free 0
  have f1 := HA.out.1.free 1
  have f2 := HA.out.1.free 2
  have f3 := HA.out.1.free 3
  have f4 := HA.out.1.free 4
  go_region
  clear c0 c1 c2 c3 c4 f0 f1 f2 f3 f4
  go_wp2_with fail
  have s1 := HA.out.1.set 0 (.pointer (some ⟨b, 0, none⟩))
  have s2 := s1.set 1 (.pointer (some ⟨b, 1, none⟩))
  have s3 := s2.set 2 (.pointer (some ⟨b, 2, none⟩))
  have s4 := s3.set 3 (.pointer (some ⟨b, 3, none⟩))
  have s5 := s4.set 4 (.pointer (some ⟨b, 4, none⟩))
  have g1 := but_set Z w.heap.size 0 (.pointer (some ⟨b, 0, none⟩))
  have g2 := but_trans g1 (but_set _ w.heap.size 1 (.pointer (some ⟨b, 1, none⟩)))
  have g3 := but_trans g2 (but_set _ w.heap.size 2 (.pointer (some ⟨b, 2, none⟩)))
  have g4 := but_trans g3 (but_set _ w.heap.size 3 (.pointer (some ⟨b, 3, none⟩)))
  have g5 := but_trans g4 (but_set _ w.heap.size 4 (.pointer (some ⟨b, 4, none⟩)))
  have hb := HA.out.2.trans (below_of_but g5 (Nat.le_refl _) HA.out.2.size)
  refine bodyPost_ret (v := .agg (numsC b)) (nums_results rfl (Blk.on (by simpa [numsC] using s5) (Below.drew (Below.refl _ _)))) rfl ⟨rfl, hb.trans (Below.drew (Below.refl _ _))⟩
end
section
open Go.ChangeShapes Go.WideShapes Go.ChangeAt Go.RowKit

def supAt (l : List UInt8) (t : Nat) : Int := (beN ((l.drop (t * 7)).take 7) : Int)
def supOf (l : List UInt8) : SupP := ⟨supAt l 0, supAt l 1, supAt l 2, supAt l 3, supAt l 4⟩
def zeroSup : SupP := ⟨0, 0, 0, 0, 0⟩
def supHead (h : HeadP) : Bool := h.kind == 1 && h.epoch == 0 && h.seq == 0 && h.part == 0 && h.parts == 1
def supOk (raw : List UInt8) : Bool := decide (openE raw = 0) && supHead (openH raw) && decide ((openD raw).length = 35)
/-- what read answers -/
def supRead (d : DevP) (pos : Nat) : SupP × Bool × Int := if d.down = true then (zeroSup, false, 8) else match readP d pos with
  | none => (zeroSup, false, 0)
  | some raw => if supOk raw = true then (supOf (openD raw), decide ((supOf (openD raw)).gen % 2 = (pos : Int)), 0) else (zeroSup, false, 0)
theorem supSize : (Tryz.prog.info? 133).map (·.size) = some 5 := by kernel_rfl
theorem supC_all (s : SupP) : (supC s).all (·.oneCell') = true := by simp [supC, Value.oneCell']
theorem supread_results {tmps : Array Value} {w : World} {R : Nat} {s : SupP} {b : Bool} {k : Int} (h4 : tmps[4]? = some (.pointer (some ⟨R, 0, none⟩))) (h5 : tmps[5]? = some (.bool b)) (h6 : tmps[6]? = some (.int .i64 k)) (hB : Blk w R (supC s) 133) :
    (results Tryz.f90 tmps).run Tryz.prog w = .ok (.tuple #[.agg (supC s), .bool b, .int .i64 k]) w := by
  have c0 := hB.cell 0
  have c1 := hB.cell 1
  have c2 := hB.cell 2
  have c3 := hB.cell 3
  have c4 := hB.cell 4
  simp [supC] at c0 c1 c2 c3 c4
  simp [results, go_sem, h4, h5, h6, c0, c1, c2, c3, c4, supC]
def supUp (l : List UInt8) (t : Nat) : Array Value := #[.int .i64 (if 0 < t then supAt l 0 else 0), .int .i64 (if 1 < t then supAt l 1 else 0), .int .i64 (if 2 < t then supAt l 2 else 0), .int .i64 (if 3 < t then supAt l 3 else 0), .int .i64 (if 4 < t then supAt l 4 else 0)]
theorem supUp_set (l : List UInt8) {t : Nat} (h : t < 5) : (supUp l t).setIfInBounds t (.int .i64 (supAt l t)) = supUp l (t + 1) := by
  match t, h with
  | 0, _ | 1, _ | 2, _ | 3, _ | 4, _ => simp [supUp]
theorem supUp_get (l : List UInt8) {t : Nat} (h : t < 5) : (supUp l t)[t]? = some (.int .i64 0) := by
  match t, h with
  | 0, _ | 1, _ | 2, _ | 3, _ | 4, _ => simp [supUp]
theorem nums_get (b : Nat) {t : Nat} (h : t < 5) : (numsC b)[t]? = some (.pointer (some ⟨b, t, none⟩)) := by
  match t, h with
  | 0, _ | 1, _ | 2, _ | 3, _ | 4, _ => simp [numsC]
theorem nums_run (w : World) (b : Nat) {t : Nat} (h : t < 5) : (Instr.index 186 (.agg (numsC b)) (.int .i64 (t : Int))).run Tryz.prog w = .ok (.pointer (some ⟨b, t, none⟩)) w := by
  match t, h with
  | 0, _ | 1, _ | 2, _ | 3, _ | 4, _ => simp [Instr.index, run_underlying Tryz.underlying186, asIntOf, go_sem, numsC]
/-- a head's own block -/
theorem head_new (W : World) (h : HeadP) : Blk ((W.alloc (.cells (headC zeroH) 147)).setRow W.heap.size (headC h)) W.heap.size (headC h) 147 ∧ Below W.heap.size W ((W.alloc (.cells (headC zeroH) 147)).setRow W.heap.size (headC h)) := by
  have hal : Below W.heap.size W (W.alloc (.cells (headC zeroH) 147)) := (Below.refl _ _).alloc (Nat.le_refl _) _
  have hA : Blk (W.alloc (.cells (headC zeroH) 147)) W.heap.size (headC zeroH) 147 := heap_alloc_new W _
  exact ⟨blk_setRow hA _, hal.trans (below_of_but (but_setRow _ W.heap.size (headC h)) (Nat.le_refl _) hal.size)⟩
theorem sup_out {w W : World} {s : SupP} (hB : Blk W w.heap.size (supC s) 133) (hb : Below w.heap.size w W) (H : SupP) : Blk (W.setRow w.heap.size (supC H)) w.heap.size (supC H) 133 ∧ Below w.heap.size w (W.setRow w.heap.size (supC H)) :=
  ⟨blk_setRow hB (supC H), hb.trans (below_of_but (but_setRow W w.heap.size (supC H)) (Nat.le_refl _) hb.size)⟩
set_option maxHeartbeats 16000000 in
set_option maxRecDepth 100000 in
theorem supread_any (w : World) (B D : Nat) (d : DevP) (hd : IsDev B w D d) (pos : Nat) (hp : pos < d.sure.length) :
    Calls Tryz.prog 90 #[.pointer (some ⟨D, 0, none⟩), .int .i64 (pos : Int)] w fun e w' => e = .returned (.tuple #[.agg (supC (supRead d pos).1), .bool (supRead d pos).2.1, .int .i64 (supRead d pos).2.2]) ∧ Below w.heap.size w w' := by
  have hal : Below w.heap.size w (w.alloc (.cells (supC zeroSup) 133)) := (Below.refl _ _).alloc (Nat.le_refl _) _
  have hA : Blk (w.alloc (.cells (supC zeroSup) 133)) w.heap.size (supC zeroSup) 133 := heap_alloc_new w _
  have hRD := dread_any (w.alloc (.cells (supC zeroSup) 133)) B D d (hd.on hal) pos hp
  have HR := Lib.hid hRD
  have HA := Lib.hid (And.intro hA hal)
  clear hRD hA hal hd
  cases hdn : d.down with
  | true =>
    have HE := Lib.hid (show supRead d pos = (zeroSup, false, 8) by rw [supRead, if_pos hdn])
    have HDN := Lib.hid hdn
    clear hdn
    go_enter Tryz.func90, Tryz.ntmps90
    go_wp2_with (first | (go_at_call 91; refine HR.out.mono ?_; rintro e W hR; obtain rfl := hR.down HDN.out; have HB := Lib.hid (HA.out.2.trans (hR.bel.mono HA.out.2.size)); have HBK := Lib.hid (HA.out.1.on hR.bel); clear hR) | (refine wpList_store_row rfl 133 _ _ rfl w.heap.size (supC zeroSup) rfl rfl 133 (supC zeroSup) HBK.out supSize rfl (supC_all _) ?_))
    have HF := Lib.hid (sup_out HBK.out HB.out zeroSup)
    exact bodyPost_ret (supread_results rfl rfl rfl HF.out.1) rfl ⟨by rw [HE.out], HF.out.2⟩
  | false =>
    have HDN := Lib.hid hdn
    cases hrp : readP d pos with
    | none =>
      have HE := Lib.hid (show supRead d pos = (zeroSup, false, 0) by rw [supRead, if_neg (by rw [hdn]; decide), hrp])
      have HRP := Lib.hid hrp
      clear hdn hrp
      go_enter Tryz.func90, Tryz.ntmps90
      go_wp2_with (first | (go_at_call 91; refine HR.out.mono ?_; rintro e W hR; obtain rfl := hR.torn HDN.out HRP.out; have HB := Lib.hid (HA.out.2.trans (hR.bel.mono HA.out.2.size)); have HBK := Lib.hid (HA.out.1.on hR.bel); clear hR) | (refine wpList_store_row rfl 133 _ _ rfl w.heap.size (supC zeroSup) rfl rfl 133 (supC zeroSup) HBK.out supSize rfl (supC_all _) ?_))
      have HF := Lib.hid (sup_out HBK.out HB.out zeroSup)
      exact bodyPost_ret (supread_results rfl rfl rfl HF.out.1) rfl ⟨by rw [HE.out], HF.out.2⟩
    | some raw =>
      have hsr : supRead d pos = if supOk raw = true then (supOf (openD raw), decide ((supOf (openD raw)).gen % 2 = (pos : Int)), 0) else (zeroSup, false, 0) := by rw [supRead, if_neg (by rw [hdn]; decide), hrp]
      have HRP := Lib.hid hrp
      clear hdn hrp
      by_cases hoe : openE raw = 0
      · obtain ⟨hh0, hh⟩ : ∃ h, h = openH raw := ⟨_, rfl⟩
        obtain ⟨n, hn⟩ : ∃ n, n = (openD raw).length := ⟨_, rfl⟩
        by_cases hgd : supHead hh0 = true ∧ n = 35
        · have hh1 : hh0 = ⟨1, 0, 0, 0, 1⟩ := by
            obtain ⟨a, b, c, d, e⟩ := hh0
            have h1 := hgd.1
            simp [supHead] at h1
            obtain ⟨⟨⟨⟨rfl, rfl⟩, rfl⟩, rfl⟩, rfl⟩ := h1
            rfl
          have hn1 := hgd.2
          subst hh1
          subst hn1
          obtain ⟨l, hl⟩ : ∃ l, l = openD raw := ⟨_, rfl⟩
          have HE := Lib.hid (show supRead d pos = (supOf l, decide (supAt l 0 % 2 = (pos : Int)), 0) by
            rw [hsr, if_pos (by simp only [supOk, Bool.and_eq_true, decide_eq_true_eq]; exact ⟨⟨hoe, by rw [← hh]; decide⟩, hn.symm⟩), ← hl]; rfl)
          have HX := Lib.hid (And.intro hsr (And.intro hoe (And.intro hh (And.intro hn hl))))
          clear hsr hoe hh hn hgd hl
          go_enter Tryz.func90, Tryz.ntmps90
          go_wp2_with (first | (go_at_call 91; refine HR.out.mono ?_; rintro e W hR; obtain ⟨ao, c, rfl, ho, h512⟩ := hR.ok HDN.out raw HRP.out; have HB := Lib.hid (HA.out.2.trans (hR.bel.mono HA.out.2.size)); have HBK := Lib.hid (HA.out.1.on hR.bel); have HOP := Lib.hid (sopen_any W ao 512 c raw ho.row); clear hR ho h512) | (go_at_call 100; refine HOP.out.mono ?_; rintro e W2 hO; obtain ⟨ao2, c2, rfl, ho2⟩ := hO.ok HX.out.2.1; rw [← HX.out.2.2.1, ← HX.out.2.2.2.1]; have HO := Lib.hid (And.intro (below_on HB.out hO.bel (Nat.le_refl _)) (And.intro (HBK.out.on hO.bel) (And.intro ho2 HBK.out.lt))); clear hO ho2) | (refine wpList_store_row rfl 147 _ _ rfl W2.heap.size (headC ⟨1, 0, 0, 0, 1⟩) rfl rfl 147 (headC zeroH) (heap_alloc_new W2 _) headSize rfl (headC_all _) ?_; have hq := head_new W2 ⟨1, 0, 0, 0, 1⟩; (try change wpList _ _ _ _ _ ((W2.alloc (.cells (headC zeroH) 147)).setRow W2.heap.size (headC ⟨1, 0, 0, 0, 1⟩))); generalize (W2.alloc (.cells (headC zeroH) 147)).setRow W2.heap.size (headC ⟨1, 0, 0, 0, 1⟩) = W3 at hq ⊢; have q0 := hq.1.cell 0; have q1 := hq.1.cell 1; have q2 := hq.1.cell 2; have q3 := hq.1.cell 3; have q4 := hq.1.cell 4; simp [headC] at q0 q1 q2 q3 q4; have HQ := Lib.hid (And.intro (below_on HO.out.1 hq.2 (Nat.le_refl _)) (And.intro (HO.out.2.1.on hq.2) (And.intro (HO.out.2.2.1.on hq.2) HO.out.2.2.2))); clear hq) | (go_at_call 93; refine (numbers_any W3 w.heap.size).mono ?_; rintro e W4 ⟨rfl, hb4⟩; have HS := Lib.hid (And.intro (below_on HQ.out.1 hb4 (Nat.le_refl _)) (And.intro (HQ.out.2.1.on hb4) (And.intro (HQ.out.2.2.1.on hb4) HQ.out.2.2.2))); clear hb4 q0 q1 q2 q3 q4))
          have hs0 := HS.out.2.2.1
          rw [← HX.out.2.2.2.2, show l.length = 35 by rw [HX.out.2.2.2.2]; exact HX.out.2.2.2.1.symm] at hs0
          have hu0 : supUp l 0 = supC zeroSup := by simp [supUp, supC, zeroSup]
          have HL := Lib.hid (And.intro (And.intro HS.out.1 (And.intro (hu0 ▸ HS.out.2.1) hs0)) HS.out.2.2.2)
          have HLL := Lib.hid (show l.length = 35 by rw [HX.out.2.2.2.2]; exact HX.out.2.2.2.1.symm)
          clear hs0 hu0
          go_loopw [47] (fun i wr => ∃ t : Nat, t ≤ 5 ∧ i = .int .i64 (t : Int) ∧ Hid (Below w.heap.size w wr ∧ Blk wr w.heap.size (supUp l t) 133 ∧ Own1 [5] W.heap.size wr ao2 35 c2 (l.map u8V))) (fun i _ => (5 - intOf i).toNat)
          case atStart => exact ⟨0, Nat.zero_le _, rfl, Lib.hid HL.out.1⟩
          case round =>
            obtain ⟨t, ht, rfl, hinv⟩ := hrel
            by_cases hlt : t < 5
            · have hg := getk_any wr ao2 35 c2 l hinv.out.2.2.row (t * 7) 7 (by omega) (by omega) (by omega)
              have hgp : getP l (t * 7) 7 = (supAt l t, 0) := by rw [getP, if_pos (by rw [HLL.out]; omega)]; rfl
              rw [hgp, show ((t * 7 : Nat) : Int) = (t : Int) * 7 from Int.natCast_mul _ _] at hg
              have HG := Lib.hid hg
              have hix := nums_run wr w.heap.size hlt
              have c0 : wr.cell? ⟨w.heap.size, t, none⟩ = some (.int .i64 0) := by rw [hinv.out.2.1.cell t]; exact supUp_get l hlt
              have f0 := hinv.out.2.1.free t
              clear hg hgp
              go_wp2_with (go_at_call 128; refine HG.out.mono ?_; rintro e W5 ⟨rfl, rfl⟩)
              have hbs := but_set W5 w.heap.size t (.int .i64 (supAt l t))
              have hnb := hinv.out.2.1.set t (.int .i64 (supAt l t))
              rw [supUp_set l hlt] at hnb
              have hbw := HL.out.2
              exact ⟨⟨t + 1, hlt, by simp, Lib.hid ⟨hinv.out.1.trans (below_of_but hbs (Nat.le_refl _) hinv.out.1.size), hnb, hinv.out.2.2.step (Same.grown hbs (fun b ht e => by
                have e := Option.some.inj e
                have := ht.2
                omega))⟩⟩, by simp [intOf]; omega⟩
            · obtain rfl : t = 5 := by omega
              have hB : Blk wr w.heap.size (supC (supOf l)) 133 := hinv.out.2.1
              have c0 := hB.cell 0
              have c1 := hB.cell 1
              have c2' := hB.cell 2
              have c3 := hB.cell 3
              have c4 := hB.cell 4
              simp [supC, supOf] at c0 c1 c2' c3 c4
              obtain ⟨g, hg⟩ : ∃ g : Nat, supAt l 0 = (g : Int) := ⟨_, rfl⟩
              rw [hg] at c0
              have hs : supC (supOf l) = #[.int .i64 (g : Int), .int .i64 (supAt l 1), .int .i64 (supAt l 2), .int .i64 (supAt l 3), .int .i64 (supAt l 4)] := by rw [supC, supOf, ← hg]
              have HSC := Lib.hid hs
              have HBK2 := Lib.hid hB
              have HF := Lib.hid (sup_out hB hinv.out.1 (supOf l))
              have HGG := Lib.hid hg
              have hm2 : (g : Int).tmod 2 = ((g % 2 : Nat) : Int) := rfl
              clear hB hg hs
              go_wp2_with (refine wpList_store_row rfl 133 _ _ rfl w.heap.size (supC (supOf l)) rfl (by rw [HSC.out]; rfl) 133 (supC (supOf l)) HBK2.out supSize rfl (supC_all _) ?_)
              refine bodyPost_ret (supread_results rfl rfl rfl HF.out.1) rfl ⟨?_, HF.out.2⟩
              rw [HE.out, HGG.out, show ((g : Int) % 2 == (pos : Int)) = decide ((g : Int) % 2 = (pos : Int)) by rw [Bool.eq_iff_iff]; simp]
        · have HE := Lib.hid (show supRead d pos = (zeroSup, false, 0) by
            rw [hsr, if_neg]
            intro hk
            simp only [supOk, Bool.and_eq_true, decide_eq_true_eq] at hk
            rw [← hh, ← hn] at hk
            exact hgd ⟨hk.1.2, hk.2⟩)
          have hng : ¬ (hh0.kind = 1 ∧ hh0.epoch = 0 ∧ hh0.seq = 0 ∧ hh0.part = 0 ∧ hh0.parts = 1 ∧ n = 35) := fun hk => hgd ⟨by simp [supHead, hk.1, hk.2.1, hk.2.2.1, hk.2.2.2.1, hk.2.2.2.2.1], hk.2.2.2.2.2⟩
          have HX := Lib.hid (And.intro hsr (And.intro hoe (And.intro hh hn)))
          have HNG := Lib.hid hng
          clear hsr hoe hh hn hgd hng
          go_enter Tryz.func90, Tryz.ntmps90
          go_wp2_with (first | (go_at_call 91; refine HR.out.mono ?_; rintro e W hR; obtain ⟨ao, c, rfl, ho, h512⟩ := hR.ok HDN.out raw HRP.out; have HB := Lib.hid (HA.out.2.trans (hR.bel.mono HA.out.2.size)); have HBK := Lib.hid (HA.out.1.on hR.bel); have HOP := Lib.hid (sopen_any W ao 512 c raw ho.row); clear hR ho h512) | (go_at_call 100; refine HOP.out.mono ?_; rintro e W2 hO; obtain ⟨ao2, c2, rfl, ho2⟩ := hO.ok HX.out.2.1; rw [← HX.out.2.2.1, ← HX.out.2.2.2]; have HO := Lib.hid (And.intro ho2 (And.intro (below_on HB.out hO.bel (Nat.le_refl _)) (HBK.out.on hO.bel))); clear hO ho2) | (refine wpList_store_row rfl 147 _ _ rfl W2.heap.size (headC hh0) rfl rfl 147 (headC zeroH) (heap_alloc_new W2 _) headSize rfl (headC_all _) ?_; have hq := head_new W2 hh0; (try change wpList _ _ _ _ _ ((W2.alloc (.cells (headC zeroH) 147)).setRow W2.heap.size (headC hh0))); generalize (W2.alloc (.cells (headC zeroH) 147)).setRow W2.heap.size (headC hh0) = W3 at hq ⊢; have q0 := hq.1.cell 0; have q1 := hq.1.cell 1; have q2 := hq.1.cell 2; have q3 := hq.1.cell 3; have q4 := hq.1.cell 4; simp [headC] at q0 q1 q2 q3 q4; have HQ := Lib.hid (And.intro (below_on HO.out.2.1 hq.2 (Nat.le_refl _)) (HO.out.2.2.on hq.2)); clear hq) | (refine wpList_store_row rfl 133 _ _ rfl w.heap.size (supC zeroSup) rfl rfl 133 (supC zeroSup) HQ.out.2 supSize rfl (supC_all _) ?_))
          all_goals first
            | (have HF := sup_out HQ.out.2 HQ.out.1 zeroSup
               exact bodyPost_ret (supread_results rfl rfl rfl HF.1) rfl ⟨by rw [HE.out], HF.2⟩)
            | (exfalso
               have hN := HNG.out
               have h35 := ‹((n : Int) != 35) = false›
               simp at h35
               omega)
      · have HE := Lib.hid (show supRead d pos = (zeroSup, false, 0) by
          rw [hsr, if_neg]
          intro hk
          simp only [supOk, Bool.and_eq_true, decide_eq_true_eq] at hk
          exact hoe hk.1.1)
        obtain ⟨k, hk⟩ : ∃ k, k = openE raw := ⟨_, rfl⟩
        rw [← hk] at hoe
        have hk0 : (k == 0) = false := by simp [hoe]
        have HK := Lib.hid (And.intro hk hoe)
        clear hsr hk
        go_enter Tryz.func90, Tryz.ntmps90
        go_wp2_with (first | (go_at_call 91; refine HR.out.mono ?_; rintro e W hR; obtain ⟨ao, c, rfl, ho, h512⟩ := hR.ok HDN.out raw HRP.out; have HB := Lib.hid (HA.out.2.trans (hR.bel.mono HA.out.2.size)); have HBK := Lib.hid (HA.out.1.on hR.bel); have HOP := Lib.hid (sopen_any W ao 512 c raw ho.row); clear hR ho h512) | (go_at_call 100; refine HOP.out.mono ?_; rintro e W2 hO; obtain rfl := hO.bad (by rw [← HK.out.1]; exact HK.out.2); rw [← HK.out.1]; have HO := Lib.hid (And.intro (below_on HB.out hO.bel (Nat.le_refl _)) (HBK.out.on hO.bel)); clear hO) | (refine wpList_store_row rfl 147 _ _ rfl W2.heap.size (headC zeroH) rfl rfl 147 (headC zeroH) (heap_alloc_new W2 _) headSize rfl (headC_all _) ?_; have hq := head_new W2 zeroH; (try change wpList _ _ _ _ _ ((W2.alloc (.cells (headC zeroH) 147)).setRow W2.heap.size (headC zeroH))); generalize (W2.alloc (.cells (headC zeroH) 147)).setRow W2.heap.size (headC zeroH) = W3 at hq ⊢; have HQ := Lib.hid (And.intro (below_on HO.out.1 hq.2 (Nat.le_refl _)) (HO.out.2.on hq.2)); clear hq) | (refine wpList_store_row rfl 133 _ _ rfl w.heap.size (supC zeroSup) rfl rfl 133 (supC zeroSup) HQ.out.2 supSize rfl (supC_all _) ?_))
        have HF := sup_out HQ.out.2 HQ.out.1 zeroSup
        exact bodyPost_ret (supread_results rfl rfl rfl HF.1) rfl ⟨by rw [HE.out], HF.2⟩
end
section
open Go.ChangeShapes Go.WideShapes Go.ChangeAt Go.RowKit

/-- the best of the first t places -/
def loadN (d : DevP) : Nat → Option SupP
  | 0 => none
  | t + 1 => if (supRead d t).2.1 = true ∧ ∀ b, loadN d t = some b → b.gen < (supRead d t).1.gen then some (supRead d t).1 else loadN d t
def loadE (d : DevP) : Int := if d.down = true then 8 else if (loadN d 2).isSome = true then 0 else 11
def loadP (d : DevP) : SupP := if d.down = true then zeroSup else (loadN d 2).getD zeroSup
theorem supRead_e {d : DevP} (h : d.down = false) (t : Nat) : (supRead d t).2.2 = 0 := by
  rw [supRead, if_neg (by rw [h]; decide)]
  split
  · rfl
  · split <;> rfl
theorem load_results {tmps : Array Value} {w : World} {R : Nat} {s : SupP} {k : Int} (h2 : tmps[2]? = some (.pointer (some ⟨R, 0, none⟩))) (h3 : tmps[3]? = some (.int .i64 k)) (hB : Blk w R (supC s) 133) :
    (results Tryz.f60 tmps).run Tryz.prog w = .ok (.tuple #[.agg (supC s), .int .i64 k]) w := by
  have c0 := hB.cell 0
  have c1 := hB.cell 1
  have c2 := hB.cell 2
  have c3 := hB.cell 3
  have c4 := hB.cell 4
  simp [supC] at c0 c1 c2 c3 c4
  simp [results, go_sem, h2, h3, c0, c1, c2, c3, c4, supC]
/-- a block's own place -/
theorem sup_new (W : World) (s : SupP) : Blk ((W.alloc (.cells (supC zeroSup) 133)).setRow W.heap.size (supC s)) W.heap.size (supC s) 133 ∧ Below W.heap.size W ((W.alloc (.cells (supC zeroSup) 133)).setRow W.heap.size (supC s)) := by
  have hal : Below W.heap.size W (W.alloc (.cells (supC zeroSup) 133)) := (Below.refl _ _).alloc (Nat.le_refl _) _
  have hA : Blk (W.alloc (.cells (supC zeroSup) 133)) W.heap.size (supC zeroSup) 133 := heap_alloc_new W _
  exact ⟨blk_setRow hA _, hal.trans (below_of_but (but_setRow _ W.heap.size (supC s)) (Nat.le_refl _) hal.size)⟩
set_option maxHeartbeats 16000000 in
set_option maxRecDepth 100000 in
theorem load_any (w : World) (B D : Nat) (d : DevP) (hd : IsDev B w D d) (h2 : 2 ≤ d.sure.length) :
    Calls Tryz.prog 60 #[.pointer (some ⟨D, 0, none⟩)] w fun e w' => e = .returned (.tuple #[.agg (supC (loadP d)), .int .i64 (loadE d)]) ∧ Below w.heap.size w w' := by
  have hal : Below w.heap.size w (w.alloc (.cells (supC zeroSup) 133)) := (Below.refl _ _).alloc (Nat.le_refl _) _
  have hA : Blk (w.alloc (.cells (supC zeroSup) 133)) w.heap.size (supC zeroSup) 133 := heap_alloc_new w _
  have HLN := Lib.hid (dlen_any (w.alloc (.cells (supC zeroSup) 133)) B D d (hd.on hal))
  have HDW := Lib.hid (ddown_any (w.alloc (.cells (supC zeroSup) 133)) B D d (hd.on hal))
  have HA := Lib.hid (And.intro hal hA)
  have HD := Lib.hid hd
  have h2i : ¬ ((d.sure.length : Int) < 2) := by omega
  have hle := hd.le
  obtain ⟨n, hn⟩ : ∃ n, n = d.sure.length := ⟨_, rfl⟩
  rw [← hn] at h2i hle h2
  have HN := Lib.hid hn
  clear hal hA hd hn
  cases hdn : d.down with
  | true =>
    have HE := Lib.hid (show loadE d = 8 ∧ loadP d = zeroSup by simp [loadE, loadP, hdn])
    rw [hdn] at HDW
    clear hdn
    go_enter Tryz.func60, Tryz.ntmps60
    go_wp2_with (first | (go_at_call 34; refine HLN.out.mono ?_; rintro e W ⟨rfl, rfl⟩; rw [← HN.out]) | (go_at_call 59; refine HDW.out.mono ?_; rintro e W ⟨rfl, rfl⟩) | (refine wpList_store_row rfl 133 _ _ rfl w.heap.size (supC zeroSup) rfl rfl 133 (supC zeroSup) HA.out.2 supSize rfl (supC_all _) ?_))
    have HF := Lib.hid (sup_out HA.out.2 HA.out.1 zeroSup)
    exact bodyPost_ret (load_results rfl rfl HF.out.1) rfl ⟨by rw [HE.out.1, HE.out.2], HF.out.2⟩
  | false =>
    have HDN := Lib.hid hdn
    rw [hdn] at HDW
    clear hdn
    go_enter Tryz.func60, Tryz.ntmps60
    go_wp2_with (first | (go_at_call 34; refine HLN.out.mono ?_; rintro e W ⟨rfl, rfl⟩; rw [← HN.out]) | (go_at_call 59; refine HDW.out.mono ?_; rintro e W ⟨rfl, rfl⟩))
    go_loopw [5, 19] (fun f i wr => ∃ t : Nat, t ≤ 2 ∧ i = .int .i64 (t : Int) ∧ f = .bool (loadN d t).isSome ∧ Hid (Below w.heap.size w wr ∧ Blk wr w.heap.size (supC zeroSup) 133 ∧ Blk wr (w.heap.size + 1) (supC ((loadN d t).getD zeroSup)) 133)) (fun _ i _ => (2 - intOf i).toNat)
    case atStart =>
      refine ⟨0, Nat.zero_le _, rfl, rfl, Lib.hid ?_⟩
      have h1 := HA.out.1.alloc HA.out.1.size (.cells (supC zeroSup) 133)
      have h3 := heap_alloc_new (w.alloc (.cells (supC zeroSup) 133)) (.cells (supC zeroSup) 133)
      rw [show (w.alloc (.cells (supC zeroSup) 133)).heap.size = w.heap.size + 1 from Array.size_push _] at h3
      exact ⟨h1, HA.out.2.on ((Below.refl _ _).alloc (Nat.le_refl _) _), h3⟩
    case round =>
      obtain ⟨t, ht, rfl, rfl, hinv⟩ := hrel
      by_cases hlt : t < 2
      · have hr := supread_any wr B D d (HD.out.on hinv.out.1) t (by rw [← HN.out]; omega)
        rw [supRead_e HDN.out t] at hr
        obtain ⟨rs, hrs⟩ : ∃ rs, rs = (supRead d t).1 := ⟨_, rfl⟩
        obtain ⟨rb, hrb⟩ : ∃ rb, rb = (supRead d t).2.1 := ⟨_, rfl⟩
        obtain ⟨lo, hlo⟩ : ∃ lo, lo = loadN d t := ⟨_, rfl⟩
        have hst : loadN d (t + 1) = if rb = true ∧ ∀ b, lo = some b → b.gen < rs.gen then some rs else lo := by rw [loadN, hrs, hrb, hlo]
        rw [← hrs, ← hrb] at hr
        rw [← hlo] at hinv ⊢
        have HR := Lib.hid hr
        have HS := Lib.hid hst
        clear hr hst hrs hrb hlo
        cases rb with
        | false =>
          have HNX := Lib.hid (show loadN d (t + 1) = lo by rw [HS.out, if_neg (by simp)])
          go_wp2_with (first | (go_at_call 90; refine HR.out.mono ?_; rintro e W ⟨rfl, hb⟩; have HW := Lib.hid (And.intro (below_on hinv.out.1 hb (Nat.le_refl _)) (And.intro (hinv.out.2.1.on hb) (hinv.out.2.2.on hb))); clear hb) | (refine wpList_store_row rfl 133 _ _ rfl W.heap.size (supC rs) rfl rfl 133 (supC zeroSup) (heap_alloc_new W _) supSize rfl (supC_all _) ?_; have hq := sup_new W rs; (try change wpList _ _ _ _ _ ((W.alloc (.cells (supC zeroSup) 133)).setRow W.heap.size (supC rs))); generalize (W.alloc (.cells (supC zeroSup) 133)).setRow W.heap.size (supC rs) = W3 at hq ⊢; have q0 := hq.1.cell 0; simp [supC] at q0; have HQ := Lib.hid (And.intro (below_on HW.out.1 hq.2 (Nat.le_refl _)) (And.intro (HW.out.2.1.on hq.2) (HW.out.2.2.on hq.2))); clear hq))
          go_roundw
          case rel => exact ⟨t + 1, hlt, by simp, by rw [HNX.out], Lib.hid (by rw [HNX.out]; exact HQ.out)⟩
          case measure => simp [intOf]; omega
        | true =>
          cases lo with
          | none =>
            have HNX := Lib.hid (show loadN d (t + 1) = some rs by rw [HS.out, if_pos ⟨rfl, fun b hb => by cases hb⟩])
            go_wp2_with (first | (go_at_call 90; refine HR.out.mono ?_; rintro e W ⟨rfl, hb⟩; have HW := Lib.hid (And.intro (below_on hinv.out.1 hb (Nat.le_refl _)) (And.intro (hinv.out.2.1.on hb) (hinv.out.2.2.on hb))); clear hb) | (refine wpList_store_row rfl 133 _ _ rfl W.heap.size (supC rs) rfl rfl 133 (supC zeroSup) (heap_alloc_new W _) supSize rfl (supC_all _) ?_; have hq := sup_new W rs; (try change wpList _ _ _ _ _ ((W.alloc (.cells (supC zeroSup) 133)).setRow W.heap.size (supC rs))); generalize (W.alloc (.cells (supC zeroSup) 133)).setRow W.heap.size (supC rs) = W3 at hq ⊢; have q0 := hq.1.cell 0; have q1 := hq.1.cell 1; have q2 := hq.1.cell 2; have q3 := hq.1.cell 3; have q4 := hq.1.cell 4; simp [supC] at q0 q1 q2 q3 q4; have HQ := Lib.hid (And.intro (below_on HW.out.1 hq.2 (Nat.le_refl _)) (And.intro (HW.out.2.1.on hq.2) (HW.out.2.2.on hq.2))); clear hq) | (refine wpList_store_row rfl 133 _ _ rfl (w.heap.size + 1) (supC rs) rfl rfl 133 (supC ((none : Option SupP).getD zeroSup)) HQ.out.2.2 supSize rfl (supC_all _) ?_))
            have hsr := but_setRow W3 (w.heap.size + 1) (supC rs)
            have HZ := Lib.hid (And.intro (HQ.out.1.trans (below_of_but hsr (Nat.le_succ _) HQ.out.1.size)) (And.intro (HQ.out.2.1.but hsr (by omega)) (blk_setRow HQ.out.2.2 (supC rs))))
            clear hsr
            go_roundw
            case rel => exact ⟨t + 1, hlt, by simp, by rw [HNX.out]; rfl, Lib.hid (by rw [HNX.out]; exact HZ.out)⟩
            case measure => simp [intOf]; omega
          | some b =>
            by_cases hgt : b.gen < rs.gen
            · have HNX := Lib.hid (show loadN d (t + 1) = some rs by rw [HS.out, if_pos ⟨rfl, fun b' hb => by cases hb; exact hgt⟩])
              go_wp2_with (first | (go_at_call 90; refine HR.out.mono ?_; rintro e W ⟨rfl, hb⟩; have HW := Lib.hid (And.intro (below_on hinv.out.1 hb (Nat.le_refl _)) (And.intro (hinv.out.2.1.on hb) (hinv.out.2.2.on hb))); clear hb) | (refine wpList_store_row rfl 133 _ _ rfl W.heap.size (supC rs) rfl rfl 133 (supC zeroSup) (heap_alloc_new W _) supSize rfl (supC_all _) ?_; have hq := sup_new W rs; (try change wpList _ _ _ _ _ ((W.alloc (.cells (supC zeroSup) 133)).setRow W.heap.size (supC rs))); generalize (W.alloc (.cells (supC zeroSup) 133)).setRow W.heap.size (supC rs) = W3 at hq ⊢; have q0 := hq.1.cell 0; have q1 := hq.1.cell 1; have q2 := hq.1.cell 2; have q3 := hq.1.cell 3; have q4 := hq.1.cell 4; simp [supC] at q0 q1 q2 q3 q4; have HQ := Lib.hid (And.intro (below_on HW.out.1 hq.2 (Nat.le_refl _)) (And.intro (HW.out.2.1.on hq.2) (HW.out.2.2.on hq.2))); have qb := HQ.out.2.2.cell 0; simp [supC] at qb; clear hq) | (refine wpList_store_row rfl 133 _ _ rfl (w.heap.size + 1) (supC rs) rfl rfl 133 (supC ((some b).getD zeroSup)) HQ.out.2.2 supSize rfl (supC_all _) ?_))
              have hsr := but_setRow W3 (w.heap.size + 1) (supC rs)
              have HZ := Lib.hid (And.intro (HQ.out.1.trans (below_of_but hsr (Nat.le_succ _) HQ.out.1.size)) (And.intro (HQ.out.2.1.but hsr (by omega)) (blk_setRow HQ.out.2.2 (supC rs))))
              clear hsr
              go_roundw
              case rel => exact ⟨t + 1, hlt, by simp, by rw [HNX.out]; rfl, Lib.hid (by rw [HNX.out]; exact HZ.out)⟩
              case measure => simp [intOf]; omega
            · have HNX := Lib.hid (show loadN d (t + 1) = some b by rw [HS.out, if_neg (fun h => hgt (h.2 b rfl))])
              go_wp2_with (first | (go_at_call 90; refine HR.out.mono ?_; rintro e W ⟨rfl, hb⟩; have HW := Lib.hid (And.intro (below_on hinv.out.1 hb (Nat.le_refl _)) (And.intro (hinv.out.2.1.on hb) (hinv.out.2.2.on hb))); clear hb) | (refine wpList_store_row rfl 133 _ _ rfl W.heap.size (supC rs) rfl rfl 133 (supC zeroSup) (heap_alloc_new W _) supSize rfl (supC_all _) ?_; have hq := sup_new W rs; (try change wpList _ _ _ _ _ ((W.alloc (.cells (supC zeroSup) 133)).setRow W.heap.size (supC rs))); generalize (W.alloc (.cells (supC zeroSup) 133)).setRow W.heap.size (supC rs) = W3 at hq ⊢; have q0 := hq.1.cell 0; have q1 := hq.1.cell 1; have q2 := hq.1.cell 2; have q3 := hq.1.cell 3; have q4 := hq.1.cell 4; simp [supC] at q0 q1 q2 q3 q4; have HQ := Lib.hid (And.intro (below_on HW.out.1 hq.2 (Nat.le_refl _)) (And.intro (HW.out.2.1.on hq.2) (HW.out.2.2.on hq.2))); have qb := HQ.out.2.2.cell 0; simp [supC] at qb; clear hq))
              go_roundw
              case rel => exact ⟨t + 1, hlt, by simp, by rw [HNX.out]; rfl, Lib.hid (by rw [HNX.out]; exact HQ.out)⟩
              case measure => simp [intOf]; omega
      · obtain rfl : t = 2 := by omega
        cases hlo : loadN d 2 with
        | none =>
          have HE := Lib.hid (show loadE d = 11 ∧ loadP d = zeroSup by simp [loadE, loadP, HDN.out, hlo])
          have HF := Lib.hid (sup_out hinv.out.2.1 hinv.out.1 zeroSup)
          clear hlo
          go_wp2_with (refine wpList_store_row rfl 133 _ _ rfl w.heap.size (supC zeroSup) rfl rfl 133 (supC zeroSup) hinv.out.2.1 supSize rfl (supC_all _) ?_)
          exact bodyPost_ret (load_results rfl rfl HF.out.1) rfl ⟨by rw [HE.out.1, HE.out.2], HF.out.2⟩
        | some s =>
          have HE := Lib.hid (show loadE d = 0 ∧ loadP d = s by simp [loadE, loadP, HDN.out, hlo])
          have HF := Lib.hid (sup_out hinv.out.2.1 hinv.out.1 s)
          have hb := hinv.out.2.2
          rw [hlo] at hb
          have q0 := hb.cell 0
          have q1 := hb.cell 1
          have q2 := hb.cell 2
          have q3 := hb.cell 3
          have q4 := hb.cell 4
          simp [supC] at q0 q1 q2 q3 q4
          clear hb hlo
          go_wp2_with (refine wpList_store_row rfl 133 _ _ rfl w.heap.size (supC s) rfl rfl 133 (supC zeroSup) hinv.out.2.1 supSize rfl (supC_all _) ?_)
          exact bodyPost_ret (load_results rfl rfl HF.out.1) rfl ⟨by rw [HE.out.1, HE.out.2], HF.out.2⟩
end
section
open Go.ChangeShapes Go.WideShapes Go.ChangeAt Go.RowKit

def supNum (s : SupP) : Nat → Int
  | 0 => s.gen
  | 1 => s.epoch
  | 2 => s.first
  | 3 => s.from'
  | _ => s.count
/-- the data of the first t numbers -/
def supData (s : SupP) : Nat → List UInt8
  | 0 => []
  | t + 1 => supData s t ++ putN (supNum s t) 7
theorem supData_len (s : SupP) (t : Nat) : (supData s t).length = t * 7 := by
  induction t with
  | zero => rfl
  | succ t ih => rw [supData, List.length_append, ih, putB_len]; omega
def supFits (s : SupP) : Bool := fitK s.gen 7 && fitK s.epoch 7 && fitK s.first 7 && fitK s.from' 7 && fitK s.count 7
/-- may b follow what lies there? -/
def supNext (d : DevP) (b : SupP) : Bool := match loadN d 2 with
  | some old => b.gen == old.gen + 1
  | none => b.gen == 0
def supRaw (b : SupP) : List UInt8 := sealB ⟨1, 0, 0, 0, 1⟩ (supData b 5)
/-- what Save does, and its error -/
def saveP (d : DevP) (b : SupP) : DevP × Int :=
  if d.down = true then (d, 8) else if supFits b = false then (d, 15) else if supNext d b = false then (d, 15)
  else if syncE d ≠ 0 then (syncP d, syncE d)
  else if writeE (syncP d) ≠ 0 then (writeP (syncP d) (b.gen % 2).toNat (supRaw b), writeE (syncP d))
  else (syncP (writeP (syncP d) (b.gen % 2).toNat (supRaw b)), syncE (writeP (syncP d) (b.gen % 2).toNat (supRaw b)))
theorem supC_get (s : SupP) {t : Nat} (h : t < 5) : (supC s)[t]? = some (.int .i64 (supNum s t)) := by
  match t, h with
  | 0, _ | 1, _ | 2, _ | 3, _ | 4, _ => simp [supC, supNum]
theorem supFits_at {s : SupP} (h : supFits s = true) {t : Nat} (ht : t < 5) : fitK (supNum s t) 7 = true := by
  simp only [supFits, Bool.and_eq_true] at h
  obtain ⟨⟨⟨⟨h0, h1⟩, h2⟩, h3⟩, h4⟩ := h
  match t, ht with
  | 0, _ => exact h0
  | 1, _ => exact h1
  | 2, _ => exact h2
  | 3, _ => exact h3
  | 4, _ => exact h4
theorem fit7 {n : Int} (h : fitK n 7 = true) : 0 ≤ n ∧ n < 72057594037927936 := by
  simp only [fitK, Bool.and_eq_true, decide_eq_true_eq] at h
  exact ⟨h.1, by have := h.2; have h256 : (256 : Int) ^ 7 = 72057594037927936 := by decide
                 omega⟩
theorem seal_sup (l : List UInt8) (hl : l.length = 35) : sealE ⟨1, 0, 0, 0, 1⟩ l = 0 := by
  rw [sealE, if_neg (by decide), if_neg (by decide), if_neg (by omega)]
theorem sync_len (d : DevP) : (syncP d).sure.length = d.sure.length := by
  unfold syncP
  split
  · rfl
  · split
    · exact setN_len _ _ _ _
    · rw [(spend_same d).1]
theorem sync_clear {d : DevP} (h : d.down = false) (hs : spendOk d = true) : (syncP d).unsure = [] ∧ (syncP d).down = false := by
  have hne : d.limit ≠ 1 := by simpa [spendOk] using hs
  rw [syncP, if_neg (by rw [h]; decide), if_pos hs]
  refine ⟨rfl, ?_⟩
  show (spendP d).down = false
  rw [spendP]
  split
  · exact h
  · simpa using hne
theorem sup_next {d : DevP} {b : SupP} (h : supNext d b = true) : ∃ old k, old = loadP d ∧ k = loadE d ∧ ((k = 0 ∧ b.gen = old.gen + 1) ∨ (k = 11 ∧ b.gen = 0)) ∨ d.down = true := by
  cases hdn : d.down with
  | true => exact ⟨zeroSup, 0, .inr rfl⟩
  | false =>
    refine ⟨loadP d, loadE d, .inl ⟨rfl, rfl, ?_⟩⟩
    unfold supNext at h
    cases hl : loadN d 2 with
    | none => rw [hl] at h; right; simp [loadE, hdn, hl]; simpa using h
    | some old => rw [hl] at h; left; simp [loadE, loadP, hdn, hl]; simpa using h
theorem own_only {B : Nat} {w w' : World} {ao : Option Addr} {n c : Nat} {vs : List Value} {N : Nat} (h : Own1 [5] N w ao n c vs) (ho : Only dvT B w w') : Own1 [5] N w' ao n c vs :=
  h.step ((ho.same (T := [5]) (by decide)).mono (fun _ _ h => h.1))
theorem ex_blk {w : World} {g : Nat} {cs : Array Value} {T : TypeId} (h : Blk w g cs T) : ∃ cs, Blk w g cs T := ⟨_, h⟩
theorem only_cell {B : Nat} {w w' : World} {g : Nat} {v : Value} (ho : Only dvT B w w') (h : w.cell? ⟨g, 0, none⟩ = some v ∧ ∃ cs, Blk w g cs 133) (hT : 133 ∉ dvT) : w'.cell? ⟨g, 0, none⟩ = some v := by
  obtain ⟨hc, cs, hb⟩ := h
  have h2 := ho.blk hb hT
  rw [h2.cell 0, ← hc, hb.cell 0]
theorem IsDev.Ble {B : Nat} {w : World} {D : Nat} {d : DevP} (h : IsDev B w D d) : B ≤ w.heap.size := by
  obtain ⟨SU, v, h1, _⟩ := h.ex
  have := h1.lt
  have := h.base
  omega
set_option maxHeartbeats 16000000 in
set_option maxRecDepth 100000 in
theorem save_any (w : World) (B D : Nat) (d : DevP) (hd : IsDev B w D d) (h2 : 2 ≤ d.sure.length) (hdn : d.down = false) (b : SupP) (hfit : supFits b = true) (hnx : supNext d b = true) :
    Calls Tryz.prog 63 #[.pointer (some ⟨D, 0, none⟩), .agg (supC b)] w fun e w' => e = .returned (.int .i64 (saveP d b).2) ∧ IsDev B w' D (saveP d b).1 ∧ Only dvT B w w' := by
  have hal : Below w.heap.size w (w.alloc (.cells (supC b) 133)) := (Below.refl _ _).alloc (Nat.le_refl _) _
  have hA : Blk (w.alloc (.cells (supC b) 133)) w.heap.size (supC b) 133 := heap_alloc_new w _
  have HLD := Lib.hid (load_any (w.alloc (.cells (supC b) 133)) B D d (hd.on hal) h2)
  have HA := Lib.hid (And.intro hal hA)
  obtain ⟨old, k, hk0⟩ := sup_next hnx
  obtain ⟨hold, hke, hk⟩ := hk0.resolve_right (by rw [hdn]; decide)
  clear hk0
  rw [← hold, ← hke] at HLD
  have HD := Lib.hid (And.intro hd (And.intro h2 hdn))
  have hg0 := fit7 (supFits_at hfit (t := 0) (by omega))
  simp only [supNum] at hg0
  obtain ⟨g, hg⟩ : ∃ g : Nat, b.gen = (g : Int) := ⟨b.gen.toNat, by omega⟩
  rw [hg] at hk hg0
  have HF := Lib.hid (And.intro hfit hg)
  have HS := Lib.hid (show saveP d b = if syncE d ≠ 0 then (syncP d, syncE d) else if writeE (syncP d) ≠ 0 then (writeP (syncP d) (g % 2) (supRaw b), writeE (syncP d)) else (syncP (writeP (syncP d) (g % 2) (supRaw b)), syncE (writeP (syncP d) (g % 2) (supRaw b))) by
    rw [saveP, if_neg (by rw [hdn]; decide), if_neg (by rw [hfit]; decide), if_neg (by rw [hnx]; decide), hg, show ((g : Int) % 2).toNat = g % 2 by omega])
  obtain ⟨og, hog⟩ : ∃ og, og = old.gen := ⟨_, rfl⟩
  rw [← hog] at hk
  have HOG := Lib.hid hog
  clear hal hA hd h2 hdn hfit hnx hold hke hg hog
  rcases hk with ⟨rfl, hgo⟩ | ⟨rfl, hg1⟩
  all_goals (
    first
      | (have ho : og = (g : Int) - 1 := by omega
         subst ho)
      | (have hg2 : ((g : Int) != 0) = false := by (rw [bne_eq_false_iff_eq]; omega)
         have hg3 : ((g : Int) == 0) = true := by (rw [beq_iff_eq]; omega))
    (try clear hgo)
    (try clear hg1)
    go_enter Tryz.func63, Tryz.ntmps63
    go_wp2_with (first | (go_at_call 60; refine HLD.out.mono ?_; rintro e W ⟨rfl, hb⟩; have HW := Lib.hid (And.intro (below_on HA.out.1 hb (Nat.le_refl _)) (HA.out.2.on hb)); clear hb) | (refine wpList_store_row rfl 133 _ _ rfl W.heap.size (supC old) rfl rfl 133 (supC zeroSup) (heap_alloc_new W _) supSize rfl (supC_all _) ?_; have hq := sup_new W old; (try change wpList _ _ _ _ _ ((W.alloc (.cells (supC zeroSup) 133)).setRow W.heap.size (supC old))); generalize (W.alloc (.cells (supC zeroSup) 133)).setRow W.heap.size (supC old) = W3 at hq ⊢; have HQ := Lib.hid (And.intro (below_on HW.out.1 hq.2 (Nat.le_refl _)) (And.intro (HW.out.2.on hq.2) hq.1)); clear hq) | (go_at_call 93; refine (numbers_any W3 w.heap.size).mono ?_; rintro e W4 ⟨rfl, hb4⟩; have HN := Lib.hid (And.intro (below_on HQ.out.1 hb4 (Nat.le_refl _)) (And.intro (HQ.out.2.1.on hb4) (HQ.out.2.2.on hb4))); clear hb4))
    go_loopw [7, 27] (fun v i wr => ∃ t : Nat, t ≤ 5 ∧ i = .int .i64 (t : Int) ∧ Hid (Below w.heap.size w wr ∧ Blk wr w.heap.size (supC b) 133 ∧ Blk wr W.heap.size (supC old) 133 ∧ wr.ownsRow w.heap.size 5 1 v (t * 7) ((supData b t).map u8V))) (fun _ i _ => (5 - intOf i).toNat)
    case atStart => exact ⟨0, Nat.zero_le _, rfl, Lib.hid ⟨HN.out.1, HN.out.2.1, HN.out.2.2, World.ownsRow_nil _ _ _ _⟩⟩
    case round =>
      obtain ⟨t, ht, rfl, hinv⟩ := hrel
      by_cases hlt : t < 5
      · obtain ⟨nt, hnt⟩ : ∃ nt, nt = supNum b t := ⟨_, rfl⟩
        have hix := nums_run wr w.heap.size hlt
        have c0 : wr.cell? ⟨w.heap.size, t, none⟩ = some (.int .i64 nt) := by rw [hinv.out.2.1.cell t, hnt]; exact supC_get b hlt
        have hft := supFits_at HF.out.1 hlt
        rw [← hnt] at hft
        have HFK := Lib.hid (fun w => fitk_any w nt 7 (by omega) (by omega))
        rw [hft] at HFK
        obtain ⟨ao, cap, hv, hrow⟩ := row_of_owns hinv.out.2.2.2 (by omega)
        have HRW := Lib.hid hrow
        have HPU := Lib.hid (show putL (supData b t) nt 7 = supData b (t + 1) by rw [putL, if_pos hft, hnt]; rfl)
        have HI := Lib.hid hinv.out
        have hw2 := hinv.out.1.size
        have hdl := supData_len b t
        have HPT := Lib.hid (fun (W : World) (h : Below wr.heap.size wr W) => putk_any W ao (t * 7) cap (supData b t) (hrow.below h (Nat.le_refl _)) (by omega) nt 7 (by omega) (by omega))
        clear hinv hnt hft hrow hdl
        subst hv
        go_wp2_with (first | (go_at_call 94; refine (HFK.out _).mono ?_; rintro e W5 ⟨rfl, rfl⟩) | (go_at_call 95; refine (HPT.out W5 (Below.refl _ _)).mono ?_; rintro e W6 ⟨⟨v2, rfl, hown2⟩, hb2⟩; have HO2 := Lib.hid (And.intro hown2 hb2); clear hown2 hb2))
        go_roundw
        case rel =>
          have ho := HO2.out.1
          rw [HPU.out, show (supData b (t + 1)).length = (t + 1) * 7 from supData_len _ _] at ho
          exact ⟨t + 1, hlt, by go_num, Lib.hid ⟨below_on HI.out.1 HO2.out.2 (Nat.le_refl _), HI.out.2.1.on HO2.out.2, HI.out.2.2.1.on HO2.out.2, owns_monoK ho hw2⟩⟩
        case measure => simp [intOf]; omega
      · obtain rfl : t = 5 := by omega
        obtain ⟨ao, cap, hv, hown⟩ := own1_of_owns hinv.out.2.2.2 (by omega)
        subst hv
        have c3 : wr.cell? ⟨w.heap.size, 0, none⟩ = some (.int .i64 (g : Int)) := by rw [hinv.out.2.1.cell 0, supC_get b (by omega), supNum, HF.out.2]
        first
          | (have c5 : wr.cell? ⟨W.heap.size, 0, none⟩ = some (.int .i64 ((g : Int) - 1)) := by rw [hinv.out.2.2.1.cell 0, supC_get old (by omega), supNum, ← HOG.out])
          | (have c5 : wr.cell? ⟨W.heap.size, 0, none⟩ = some (.int .i64 og) := by rw [hinv.out.2.2.1.cell 0, supC_get old (by omega), supNum, ← HOG.out])
        have HI := Lib.hid (And.intro hinv.out.1 (And.intro hown hinv.out.2.1))
        have h35 := supData_len b 5
        have HSE := Lib.hid (seal_sup (supData b 5) h35)
        have HSL := Lib.hid (seal_any wr ⟨1, 0, 0, 0, 1⟩ ao 35 cap (supData b 5) hown.row (by omega))
        have HBL := Lib.hid (HD.out.1.Ble)
        have hm2 : (g : Int).tmod 2 = ((g % 2 : Nat) : Int) := rfl
        have HP2 := Lib.hid (show g % 2 < d.sure.length by have := HD.out.2.1; have := Nat.mod_lt g (show 0 < 2 by omega); omega)
        clear hinv hown h35
        cases hs1 : spendOk d with
        | false =>
          have HE := Lib.hid (And.intro (show syncE d = 8 by rw [syncE, if_neg (by rw [HD.out.2.2]; decide), hs1]; rfl) (show saveP d b = (syncP d, 8) by rw [HS.out, if_pos (by rw [syncE, if_neg (by rw [HD.out.2.2]; decide), hs1]; decide), syncE, if_neg (by rw [HD.out.2.2]; decide), hs1]; rfl))
          clear hs1
          go_wp2_with (first | (go_at_call 96; refine HSL.out.mono ?_; rintro e W7 hS; obtain ⟨v7, rfl, hv7⟩ := hS.ok HSE.out; obtain ⟨ro, rc, rfl, hro⟩ := own1_of_owns hv7 (by omega); have H7 := Lib.hid (And.intro (below_on HI.out.1 hS.bel (Nat.le_refl _)) hro); clear hS hv7 hro c3 c5) | (go_at_call 97; refine (dsync_any W7 B D d (HD.out.1.on H7.out.1)).mono ?_; rintro e W8 ⟨rfl, hd8, ho8⟩; rw [HE.out.1]; have H8 := Lib.hid (And.intro hd8 ((Only.below H7.out.1 HBL.out).trans ho8)); clear hd8 ho8))
          go_ret
          exact ⟨by rw [HE.out.2]; rfl, by rw [HE.out.2]; exact H8.out.1, H8.out.2⟩
        | true =>
          have hc := sync_clear HD.out.2.2 hs1
          have HE := Lib.hid (And.intro (show syncE d = 0 by rw [syncE, if_neg (by rw [HD.out.2.2]; decide), hs1]; rfl) hc)
          clear hs1 hc
          cases hs2 : spendOk (syncP d) with
          | false =>
            have HE2 := Lib.hid (And.intro (show writeE (syncP d) = 8 by rw [writeE, if_neg (by rw [HE.out.2.2]; decide), hs2]; rfl) (show saveP d b = (writeP (syncP d) (g % 2) (supRaw b), 8) by rw [HS.out, if_neg (by rw [HE.out.1]; decide), if_pos (by rw [writeE, if_neg (by rw [HE.out.2.2]; decide), hs2]; decide), writeE, if_neg (by rw [HE.out.2.2]; decide), hs2]; rfl))
            clear hs2
            go_wp2_with (first | (go_at_call 96; refine HSL.out.mono ?_; rintro e W7 hS; obtain ⟨v7, rfl, hv7⟩ := hS.ok HSE.out; obtain ⟨ro, rc, rfl, hro⟩ := own1_of_owns hv7 (by omega); have H7 := Lib.hid (And.intro (below_on HI.out.1 hS.bel (Nat.le_refl _)) (And.intro hro (And.intro (cell_keep hS.bel c3) (ex_blk (HI.out.2.2.on hS.bel))))); clear hS hv7 hro c3 c5) | (go_at_call 97; refine (dsync_any W7 B D d (HD.out.1.on H7.out.1)).mono ?_; rintro e W8 ⟨rfl, hd8, ho8⟩; rw [HE.out.1]; have H8 := Lib.hid (And.intro hd8 (And.intro ((Only.below H7.out.1 HBL.out).trans ho8) (own_only H7.out.2.1 ho8))); have c8 := only_cell ho8 H7.out.2.2 (by decide); clear hd8 ho8) | (go_at_call 98; (try rw [show (g : Int).tmod 2 = ((g % 2 : Nat) : Int) from rfl]); (try rw [show (g : Int) % 2 = ((g % 2 : Nat) : Int) from rfl]); refine (dwrite_any W8 B D _ H8.out.1 (g % 2) (by rw [sync_len]; exact HP2.out) ro rc (supRaw b) H8.out.2.2.row (fun h0 a ha => (H8.out.2.2.mem h0 a ha).1) (by rw [HE.out.2.1]; simp)).mono ?_; rintro e W9 ⟨rfl, hd9, ho9⟩; rw [HE2.out.1]; have H9 := Lib.hid (And.intro hd9 (H8.out.2.1.trans ho9)); clear hd9 ho9))
            go_ret
            exact ⟨by rw [HE2.out.2]; rfl, by rw [HE2.out.2]; exact H9.out.1, H9.out.2⟩
          | true =>
            have HE2 := Lib.hid (And.intro (show writeE (syncP d) = 0 by rw [writeE, if_neg (by rw [HE.out.2.2]; decide), hs2]; rfl) (show saveP d b = (syncP (writeP (syncP d) (g % 2) (supRaw b)), syncE (writeP (syncP d) (g % 2) (supRaw b))) by rw [HS.out, if_neg (by rw [HE.out.1]; decide), if_neg (by rw [writeE, if_neg (by rw [HE.out.2.2]; decide), hs2]; decide)]))
            clear hs2
            go_wp2_with (first | (go_at_call 96; refine HSL.out.mono ?_; rintro e W7 hS; obtain ⟨v7, rfl, hv7⟩ := hS.ok HSE.out; obtain ⟨ro, rc, rfl, hro⟩ := own1_of_owns hv7 (by omega); have H7 := Lib.hid (And.intro (below_on HI.out.1 hS.bel (Nat.le_refl _)) (And.intro hro (And.intro (cell_keep hS.bel c3) (ex_blk (HI.out.2.2.on hS.bel))))); clear hS hv7 hro c3 c5) | (go_at_call 97; refine (dsync_any W7 B D d (HD.out.1.on H7.out.1)).mono ?_; rintro e W8 ⟨rfl, hd8, ho8⟩; rw [HE.out.1]; have H8 := Lib.hid (And.intro hd8 (And.intro ((Only.below H7.out.1 HBL.out).trans ho8) (own_only H7.out.2.1 ho8))); have c8 := only_cell ho8 H7.out.2.2 (by decide); clear hd8 ho8) | (go_at_call 98; (try rw [show (g : Int).tmod 2 = ((g % 2 : Nat) : Int) from rfl]); (try rw [show (g : Int) % 2 = ((g % 2 : Nat) : Int) from rfl]); refine (dwrite_any W8 B D _ H8.out.1 (g % 2) (by rw [sync_len]; exact HP2.out) ro rc (supRaw b) H8.out.2.2.row (fun h0 a ha => (H8.out.2.2.mem h0 a ha).1) (by rw [HE.out.2.1]; simp)).mono ?_; rintro e W9 ⟨rfl, hd9, ho9⟩; rw [HE2.out.1]; have H9 := Lib.hid (And.intro hd9 (H8.out.2.1.trans ho9)); clear hd9 ho9) | (go_at_call 97; refine (dsync_any W9 B D _ H9.out.1).mono ?_; rintro e W10 ⟨rfl, hd10, ho10⟩; have H10 := Lib.hid (And.intro hd10 (H9.out.2.trans ho10)); clear hd10 ho10))
            go_ret
            exact ⟨by rw [HE2.out.2]; rfl, by rw [HE2.out.2]; exact H10.out.1, H10.out.2⟩)
end
section
open Go.ChangeShapes Go.WideShapes Go.ChangeAt Go.RowKit

def zeroL (b : List UInt8) : Bool := b.all (fun x => x == 0)
def blankAt (d : DevP) (t : Nat) : Bool := match readP d t with
  | none => true
  | some b => zeroL b
def blankN (d : DevP) : Nat → Bool
  | 0 => true
  | t + 1 => blankN d t && blankAt d t
theorem blank_fall (d : DevP) {t : Nat} (h : blankN d t = false) (k : Nat) : blankN d (t + k) = false := by
  induction k with
  | zero => exact h
  | succ k ih => rw [← Nat.add_assoc, blankN, ih]; rfl
set_option maxHeartbeats 16000000 in
set_option maxRecDepth 100000 in
theorem blank_any (w : World) (B D : Nat) (d : DevP) (hd : IsDev B w D d) (hdn : d.down = false) :
    Calls Tryz.prog 61 #[.pointer (some ⟨D, 0, none⟩)] w fun e w' => e = .returned (.tuple #[.bool (blankN d d.sure.length), .int .i64 0]) ∧ Below w.heap.size w w' := by
  have HLN := Lib.hid (dlen_any w B D d hd)
  have hle := hd.le
  obtain ⟨n, hn⟩ : ∃ n, n = d.sure.length := ⟨_, rfl⟩
  rw [← hn] at HLN hle ⊢
  have HD := Lib.hid (And.intro hd (And.intro hdn hn))
  clear hd hdn hn
  go_enter Tryz.func61, Tryz.ntmps61
  go_wp2_with (go_at_call 34; refine HLN.out.mono ?_; rintro e W ⟨rfl, rfl⟩)
  go_loopw [11] (fun i wr => ∃ t : Nat, t ≤ n ∧ i = .int .i64 (t : Int) ∧ Hid (blankN d t = true ∧ Below W.heap.size W wr)) (fun i _ => (n - intOf i).toNat)
  case atStart => exact ⟨0, Nat.zero_le _, rfl, Lib.hid ⟨rfl, Below.refl _ _⟩⟩
  case round =>
    obtain ⟨t, ht, rfl, hinv⟩ := hrel
    by_cases h0 : t = n
    · subst h0
      go_wp2_with fail
      go_ret2
      exact ⟨by rw [hinv.out.1]; rfl, hinv.out.2⟩
    · have hlt : t < n := by omega
      have HR := Lib.hid (dread_any wr B D d (HD.out.1.on hinv.out.2) t (by rw [← HD.out.2.2]; exact hlt))
      cases hrp : readP d t with
      | none =>
        have HNX := Lib.hid (And.intro hrp (show blankN d (t + 1) = true by rw [blankN, hinv.out.1, blankAt, hrp]; rfl))
        clear hrp
        go_wp2_with (go_at_call 91; refine HR.out.mono ?_; rintro e W2 hR; obtain rfl := hR.torn HD.out.2.1 HNX.out.1; have HW := Lib.hid (below_on hinv.out.2 hR.bel (Nat.le_refl _)); clear hR)
        go_roundw
        case rel => exact ⟨t + 1, hlt, by simp, Lib.hid ⟨HNX.out.2, HW.out⟩⟩
        case measure => simp [intOf]; omega
      | some raw =>
        have HRP := Lib.hid hrp
        have HBT := Lib.hid (show blankN d (t + 1) = zeroL raw by rw [blankN, hinv.out.1, blankAt, hrp]; rfl)
        clear hrp
        go_wp2_with (go_at_call 91; refine HR.out.mono ?_; rintro e W2 hR; obtain ⟨ao, c, rfl, ho, h512⟩ := hR.ok HD.out.2.1 raw HRP.out; have HW := Lib.hid (And.intro (below_on hinv.out.2 hR.bel (Nat.le_refl _)) (And.intro ho.row h512)); clear hR ho h512)
        go_loopw [27] (fun i wi => ∃ k : Nat, k ≤ 512 ∧ i = .int .i64 (k : Int) ∧ wi = W2 ∧ Hid (zeroL (raw.take k) = true)) (fun i _ => (512 - intOf i).toNat)
        case atStart => exact ⟨0, by omega, rfl, rfl, Lib.hid (by simp [zeroL])⟩
        case round =>
          rename World => w3
          obtain ⟨k, hk, rfl, rfl, hz⟩ := hrel
          by_cases hk5 : k = 512
          · have HNX := Lib.hid (show blankN d (t + 1) = true by rw [HBT.out, ← hz.out, hk5, List.take_of_length_le (by have := HW.out.2.2; omega)])
            subst hk5
            go_wp2_with fail
            go_roundw
            case rel => exact ⟨t + 1, hlt, by simp, Lib.hid ⟨HNX.out, HW.out.1⟩⟩
            case measure => simp [intOf]; omega
          · have hk2 : k < 512 := by omega
            have hkl : k < raw.length := by have := HW.out.2.2; omega
            obtain ⟨b0, off, rfl⟩ := HW.out.2.1.addr (k := 0) (by omega)
            have c0 := HW.out.2.1.at (i := k) hk2
            obtain ⟨x, hx⟩ : ∃ x, x = raw[k] := ⟨_, rfl⟩
            simp [← hx] at c0
            have hst : zeroL (raw.take (k + 1)) = (zeroL (raw.take k) && (x == 0)) := by rw [List.take_succ_eq_append_getElem hkl, ← hx]; simp [zeroL]
            by_cases h0x : x = 0
            · subst h0x
              have HNX := Lib.hid (show zeroL (raw.take (k + 1)) = true by rw [hst, hz.out]; rfl)
              have c1 : w3.cell? ⟨b0, off + k, none⟩ = some (.int .u8 0) := c0
              clear hst hx hkl c0
              go_wp2_with fail
              go_roundw
              case rel => exact ⟨k + 1, hk2, by simp, trivial, HNX⟩
              case measure => simp [intOf]; omega
            · have hxn : ((x.toNat : Int) == 0) = false := by
                rw [Bool.eq_false_iff]
                intro h
                exact h0x (UInt8.toNat_inj.1 (by simpa using h))
              have hzr : zeroL raw = false := by
                rw [Bool.eq_false_iff]
                intro h
                rw [zeroL, List.all_eq_true] at h
                exact h0x (by simpa using h x (by rw [hx]; exact List.getElem_mem _))
              have HNX := Lib.hid (show blankN d n = false by
                have h1 := blank_fall d (HBT.out.trans hzr) (n - (t + 1))
                rwa [show t + 1 + (n - (t + 1)) = n by omega] at h1)
              have c1 : w3.cell? ⟨b0, off + k, none⟩ = some (.int .u8 (x.toNat : Int)) := c0
              clear hst hx hkl c0 hzr
              go_wp2_with fail
              go_ret2
              exact ⟨by rw [HNX.out]; rfl, HW.out.1⟩
end
section
open Go.ChangeShapes Go.WideShapes Go.ChangeAt Go.RowKit

/-- a log: its block, where its records lie (place, parts), the place behind the last one -/
structure LogP where
  block : SupP
  list : List (Nat × Nat)
  fin : Nat
  down : Bool
def recK : Kind (Nat × Nat) where
  H := Unit
  size := 2
  cells := fun _ x => #[.int .i64 (x.1 : Int), .int .i64 (x.2 : Int)]
  is := fun _ _ _ _ => True
  hsize := fun _ _ => rfl
  pos := by decide
  one := fun h x u hu => by
    simp at hu
    rcases hu with rfl | rfl <;> rfl
  mono := fun h _ => trivial
  keep := fun h _ => trivial
def logC (D : Nat) (s : SupP) (v : Value) (fin : Nat) (dn : Bool) : Array Value := #[.pointer (some ⟨D, 0, none⟩), .int .i64 s.gen, .int .i64 s.epoch, .int .i64 s.first, .int .i64 s.from', .int .i64 s.count, v, .int .i64 (fin : Int), .bool dn]
structure IsLog (B : Nat) (w : World) (L D : Nat) (l : LogP) : Prop where
  ex : ∃ v, Blk w L (logC D l.block v l.fin l.down) 136 ∧ Gath recK [] 145 B w v l.list
  base : B ≤ L
  fits : supFits l.block = true
  cnt : l.list.length ≤ 100000
theorem IsLog.on {B : Nat} {w w' : World} {L D : Nat} {l : LogP} (h : IsLog B w L D l) (hb : Below w.heap.size w w') : IsLog B w' L D l := by
  obtain ⟨v, h1, h2⟩ := h.ex
  exact ⟨⟨v, h1.on hb, h2.on hb⟩, h.base, h.fits, h.cnt⟩
/-- a log stays where blocks of other types turn -/
theorem IsLog.only {S : List TypeId} {B B' : Nat} {w w' : World} {L D : Nat} {l : LogP} (h : IsLog B w L D l) (ho : Only S B' w w') (h1 : 136 ∉ S) (h2 : 145 ∉ S) : IsLog B w' L D l := by
  obtain ⟨v, a, b⟩ := h.ex
  exact ⟨⟨v, ho.blk a h1, b.step (ho.same (T := [145]) (by intro t ht; rw [List.mem_singleton.1 ht]; exact h2))⟩, h.base, h.fits, h.cnt⟩
set_option maxHeartbeats 4000000 in
set_option maxRecDepth 100000 in
theorem lfirst_any (w : World) (B L D : Nat) (l : LogP) (hl : IsLog B w L D l) : Calls Tryz.prog 35 #[.pointer (some ⟨L, 0, none⟩)] w fun e w' => e = .returned (.int .i64 l.block.first) ∧ w' = w := by
  obtain ⟨v, h1, h2⟩ := hl.ex
  have c3 : w.cell? ⟨L, 3, none⟩ = some (.int .i64 l.block.first) := h1.cell 3
  clear h1 h2 hl
  go_enter Tryz.func35, Tryz.ntmps35
  go_wp2_with fail
  go_ret
  exact ⟨rfl, rfl⟩
set_option maxHeartbeats 4000000 in
set_option maxRecDepth 100000 in
theorem lnext_any (w : World) (B L D : Nat) (l : LogP) (hl : IsLog B w L D l) : Calls Tryz.prog 36 #[.pointer (some ⟨L, 0, none⟩)] w fun e w' => e = .returned (.int .i64 (l.block.first + (l.list.length : Int))) ∧ Below w.heap.size w w' := by
  obtain ⟨v, h1, h2⟩ := hl.ex
  obtain ⟨ao, c, rfl, hsq, _⟩ := h2.seq
  have c3 : w.cell? ⟨L, 3, none⟩ = some (.int .i64 l.block.first) := h1.cell 3
  have c6 : w.cell? ⟨L, 6, none⟩ = some (.slice ao l.list.length c) := h1.cell 6
  have hf := fit7 (supFits_at hl.fits (t := 2) (by omega))
  simp only [supNum] at hf
  have hn := hl.cnt
  obtain ⟨n, hnn⟩ : ∃ n, n = l.list.length := ⟨_, rfl⟩
  obtain ⟨x, hx⟩ : ∃ x, x = l.block.first := ⟨_, rfl⟩
  rw [← hnn] at c6 hn ⊢
  rw [← hx] at c3 hf ⊢
  clear h1 h2 hl hsq hx hnn
  go_enter Tryz.func36, Tryz.ntmps36
  go_wp2_with fail
  go_region
  go_wp2_with fail
  go_ret
  exact ⟨rfl, Below.drew (Below.refl _ _)⟩
end
section
open Go.ChangeShapes Go.WideShapes Go.ChangeAt Go.RowKit

def partA (old : Array Value) (off : Nat) (vs : List Value) : Array Value := (old.toList.take off ++ (vs ++ old.toList.drop (off + vs.length))).toArray
theorem run_storeCells_part {P : Program} (g off : Nat) (t : TypeId) : ∀ (vs : List Value) (i : Nat) (cur : Array Value) (w : World), w.heap[g]? = some (.cells cur t (0, 0)) → off + i + vs.length ≤ cur.size → (∀ v ∈ vs, v.oneCell' = true) →
    (storeCells ⟨g, off, none⟩ vs i).run P w = .ok () (w.setRow g (partA cur (off + i) vs))
  | [], i, cur, w, hg, hl, _ => by
    have hlt : g < w.heap.size := (Array.getElem?_eq_some_iff.1 hg).1
    have hv : w.heap[g] = .cells cur t (0, 0) := (Array.getElem?_eq_some_iff.1 hg).2
    have hp : partA cur (off + i) [] = cur := by
      rw [partA, List.nil_append, List.length_nil, Nat.add_zero, List.take_append_drop, Array.toArray_toList]
    rw [hp]
    simp only [storeCells]
    show Result.ok () w = _
    congr 1
    unfold World.setRow
    cases w with
    | mk heap tape drawn os output =>
      congr 1
      apply Array.ext
      · simp
      · intro k h1 h2
        simp only [Array.getElem_modify]
        split
        · rename_i hk; subst hk; simp at hv; simp [hv]
        · rfl
  | v :: rest, i, cur, w, hg, hl, h1 => by
    have hi : off + i < cur.size := by simp at hl; omega
    have hadd : (⟨g, off, none⟩ : Addr).add i = ⟨g, off + i, none⟩ := by unfold Addr.add; split <;> simp_all
    have hcell : w.cell? ⟨g, off + i, none⟩ = some cur[off + i] := by simp [World.cell?, hg, hi]
    have hfro : w.frozen? ⟨g, off + i, none⟩ = false := by simp [World.frozen?, hg]
    have hst : (store ((⟨g, off, none⟩ : Addr).add i) v).run P w = .ok () (w.setRow g (cur.setIfInBounds (off + i) v)) := by
      rw [hadd, run_store P w _ v _ (h1 v (by simp)), hcell]
      simp [hfro, setCell_eq_setRow w g (off + i) cur t (0, 0) v hg]
    have ih := run_storeCells_part (P := P) g off t rest (i + 1) (cur.setIfInBounds (off + i) v) (w.setRow g (cur.setIfInBounds (off + i) v)) (setRow_heap w g cur _ t _ hg) (by simp at hl ⊢; omega) (fun x hx => h1 x (by simp [hx]))
    simp only [storeCells, Sem.run_bind, hst, Result.andThen_ok, ih, setRow_setRow]
    congr 2
    rw [partA, partA, Array.toList_setIfInBounds]
    congr 1
    have hl2 : off + i < cur.toList.length := by rw [Array.length_toList]; exact hi
    rw [show off + (i + 1) = off + i + 1 from rfl, List.take_succ_eq_append_getElem (by rw [List.length_set]; exact hl2), List.getElem_set_self, List.take_set_of_le (Nat.le_refl _), List.drop_set_of_lt (by omega), List.length_cons, show off + i + (rest.length + 1) = off + i + 1 + rest.length by omega, List.append_assoc]
    rfl
theorem run_storeVar_part {P : Program} (w : World) (g off : Nat) (t ty : TypeId) (old cells : Array Value) (hg : w.heap[g]? = some (.cells old t (0, 0))) (hi : (P.info? ty).map (·.size) = some cells.size)
    (ho : off + cells.size ≤ old.size) (h1 : cells.all (·.oneCell') = true) :
    (storeVar ty ⟨g, off, none⟩ (.agg cells)).run P w = .ok () (w.setRow g (partA old off cells.toList)) := by
  have := run_storeCells_part (P := P) g off t cells.toList 0 old w hg (by simp; omega) (fun v hv => (Array.all_eq_true_iff_forall_mem.1 h1) v (by simpa using hv))
  cases hq : P.info? ty with
  | none => simp [hq] at hi
  | some i =>
    have hs : cells.size = i.size := by simp [hq] at hi; omega
    simp [storeVar, sizeOf, typeInfo, hq, Value.cells, hs, this]
theorem wpList_store_part {P : Program} {ops : Array Oper} {rest : List Oper} {o : Oper} {a : Act} {w : World} {Q : Exit → Act → World → Prop} (hgd : o.guard = none) (ty : TypeId) (x y : Operand) (ho : o.op = .store ty x y)
    (g off : Nat) (cells : Array Value) (hx : a.eval x = .pointer (some ⟨g, off, none⟩)) (hy : a.eval y = .agg cells)
    (t : TypeId) (old : Array Value) (hg : w.heap[g]? = some (.cells old t (0, 0))) (hi : (P.info? ty).map (·.size) = some cells.size)
    (hold : off + cells.size ≤ old.size) (h1 : cells.all (·.oneCell') = true)
    (h : wpList P ops Q rest (a.put o.dst undef) (w.setRow g (partA old off cells.toList))) : wpList P ops Q (o :: rest) a w := by
  refine wpList_plain hgd fun K hK => ?_
  unfold Oper.wp execOp
  simp only [ho, hx, hy, Instr.storeAt, Instr.sureAddr, Sem.run_bind, Sem.run_pure, Result.andThen_ok, run_storeVar_part w g off t ty old cells hg hi hold h1]
  exact hK _ _ h
end
section
open Go.ChangeShapes Go.WideShapes Go.ChangeAt Go.RowKit

def b0 : SupP := ⟨0, 1, 0, 0, 0⟩
theorem zero_read {n t : Nat} (h : t < n) : readP (newD n) t = some (List.replicate 512 0) := by
  have h1 : lastW (newD n).unsure t = none := rfl
  have h2 : (newD n).sure[t]? = some zeroS := by simp [newD, h]
  rw [readP, h1, h2]
  rfl
theorem zero_num (t : Nat) : numOf (List.replicate 512 0) t = 0 := by
  have hz : ∀ k : Nat, beN (List.replicate k (0 : UInt8)) = 0 := by
    intro k
    induction k with
    | zero => rfl
    | succ k ih => rw [List.replicate_succ', beN_snoc, ih]; rfl
  rw [numOf, List.drop_replicate, List.take_replicate, hz]
  rfl
theorem zero_open : openE (List.replicate 512 0) = 14 := by
  have hs : sealE (openH (List.replicate 512 0)) (openD (List.replicate 512 0)) = 15 := by
    have hk : (openH (List.replicate 512 0)).kind = 0 := zero_num 0
    rw [sealE]
    split
    · rfl
    · rw [if_pos (.inl hk)]
  rw [openE, if_neg (by rw [List.length_replicate]; exact fun h => h rfl), if_neg (by rw [zero_num]; decide), if_pos (.inl (by rw [hs]; decide))]
theorem zero_sup {n t : Nat} (h : t < n) : supRead (newD n) t = (zeroSup, false, 0) := by
  rw [supRead, if_neg (by simp [newD]), zero_read h]
  show (if supOk (List.replicate 512 0) = true then _ else _) = _
  rw [if_neg]
  rw [supOk, zero_open]
  decide
theorem zero_loadN {n : Nat} (h : 2 ≤ n) : loadN (newD n) 2 = none := by
  simp [loadN, zero_sup (show 1 < n by omega), zero_sup (show 0 < n by omega)]
theorem zero_load {n : Nat} (h : 2 ≤ n) : loadE (newD n) = 11 ∧ loadP (newD n) = zeroSup ∧ supNext (newD n) b0 = true := by
  have h1 := zero_loadN h
  refine ⟨by rw [loadE, if_neg (by simp [newD]), h1]; rfl, by rw [loadP, if_neg (by simp [newD]), h1]; rfl, by rw [supNext, h1]; rfl⟩
theorem zero_blank (n : Nat) : ∀ t, t ≤ n → blankN (newD n) t = true
  | 0, _ => rfl
  | t + 1, h => by
    rw [blankN, zero_blank n t (by omega), blankAt, zero_read (by omega)]
    have hz : zeroL (List.replicate 512 0) = true := by
      rw [zeroL, List.all_eq_true]
      intro x hx
      rw [List.eq_of_mem_replicate hx]
      rfl
    rw [Bool.true_and]
    exact hz
/-- a new device behind its first Open -/
def bornD (n : Nat) : DevP := { sure := (List.replicate n zeroS).set 0 (supRaw b0, false), unsure := [], limit := 0, down := false }
theorem zero_save {n : Nat} (h : 2 ≤ n) : saveP (newD n) b0 = (bornD n, 0) := by
  have h1 : syncP (newD n) = newD n := rfl
  have h2 : writeP (newD n) 0 (supRaw b0) = { newD n with unsure := [(0, supRaw b0)] } := rfl
  have h3 : syncP { newD n with unsure := [(0, supRaw b0)] } = bornD n := rfl
  rw [saveP, if_neg (by simp [newD]), if_neg (by decide), if_neg (by rw [(zero_load h).2.2]; decide), if_neg (by simp [syncE, newD, spendOk]), if_neg (by rw [h1]; simp [writeE, newD, spendOk]), h1]
  show (syncP (writeP (newD n) 0 (supRaw b0)), syncE (writeP (newD n) 0 (supRaw b0))) = _
  rw [h2, h3]
  rfl
/-- a log's own block turns -/
theorem log_block {W : World} {g D fin : Nat} {s : SupP} {v : Value} {dn : Bool} (h : Blk W g (logC D s v fin dn) 136) (b : SupP) : Blk (W.setRow g (partA (logC D s v fin dn) 1 (supC b).toList)) g (logC D b v fin dn) 136 ∧ W.grownBy (W.setRow g (partA (logC D s v fin dn) 1 (supC b).toList)) (some g) := by
  have hp : partA (logC D s v fin dn) 1 (supC b).toList = logC D b v fin dn := by simp [partA, logC, supC]
  rw [hp]
  exact ⟨blk_setRow h _, but_setRow W g _⟩
set_option maxHeartbeats 16000000 in
set_option maxRecDepth 100000 in
theorem lopen_new (w : World) (D n : Nat) (B : Nat) (h4 : 4 ≤ n) (hd : IsDev B w D (newD n)) :
    Calls Tryz.prog 33 #[.pointer (some ⟨D, 0, none⟩)] w fun e w' => (∃ L, e = .returned (.tuple #[.pointer (some ⟨L, 0, none⟩), .int .i64 0]) ∧ IsLog w.heap.size w' L D ⟨b0, [], 0, false⟩) ∧ IsDev B w' D (bornD n) ∧ Only dvT B w w' := by
  have hlen : (newD n).sure.length = n := List.length_replicate
  have HLN := Lib.hid (dlen_any w B D _ hd)
  have HDW := Lib.hid (ddown_any w B D _ hd)
  rw [hlen] at HLN
  rw [show (newD n).down = false from rfl] at HDW
  have h4i : ¬ ((n : Int) < 4) := by omega
  have HD := Lib.hid (And.intro hd (And.intro h4 hlen))
  have HBL := Lib.hid hd.Ble
  have hA : Blk (w.alloc (.cells (logC D zeroSup (.slice none 0 0) 0 false) 136)) w.heap.size (logC D zeroSup (.slice none 0 0) 0 false) 136 := heap_alloc_new w _
  have hal : Below w.heap.size w (w.alloc (.cells (logC D zeroSup (.slice none 0 0) 0 false) 136)) := (Below.refl _ _).alloc (Nat.le_refl _) _
  have HA := Lib.hid (And.intro hal hA)
  have HLD := Lib.hid (load_any (w.alloc (.cells (logC D zeroSup (.slice none 0 0) 0 false) 136)) B D _ (hd.on hal) (by rw [hlen]; omega))
  rw [(zero_load (n := n) (by omega)).1, (zero_load (n := n) (by omega)).2.1] at HLD
  clear hd h4 hlen hA hal
  go_enter Tryz.func33, Tryz.ntmps33
  go_wp2_with (first | (go_at_call 34; refine HLN.out.mono ?_; rintro e w ⟨rfl, rfl⟩) | (go_at_call 59; refine HDW.out.mono ?_; rintro e w ⟨rfl, rfl⟩) | (go_at_call 60; refine HLD.out.mono ?_; rintro e W2 ⟨rfl, hb⟩; have HW := Lib.hid (And.intro (below_on HA.out.1 hb (Nat.le_refl _)) (HA.out.2.on hb)); clear hb) | (refine wpList_store_row rfl 133 _ _ rfl W2.heap.size (supC zeroSup) rfl rfl 133 (supC zeroSup) (heap_alloc_new W2 _) supSize rfl (supC_all _) ?_; have hq := sup_new W2 zeroSup; (try change wpList _ _ _ _ _ ((W2.alloc (.cells (supC zeroSup) 133)).setRow W2.heap.size (supC zeroSup))); generalize (W2.alloc (.cells (supC zeroSup) 133)).setRow W2.heap.size (supC zeroSup) = W3 at hq ⊢; have HQ := Lib.hid (And.intro (below_on HW.out.1 hq.2 (Nat.le_refl _)) (HW.out.2.on hq.2)); clear hq) | (go_at_call 61; refine (blank_any W3 B D _ (HD.out.1.on HQ.out.1) rfl).mono ?_; rintro e W4 ⟨rfl, hb⟩; rw [HD.out.2.2, zero_blank n n (Nat.le_refl _)]; have HR := Lib.hid (And.intro (below_on HQ.out.1 hb (Nat.le_refl _)) (HQ.out.2.on hb)); clear hb) | (refine wpList_store_part rfl 133 _ _ rfl w.heap.size 1 (supC b0) rfl rfl 136 (logC D zeroSup (.slice none 0 0) 0 false) HR.out.2 supSize (by simp [supC, logC]) (supC_all _) ?_; have hq := log_block HR.out.2 b0; generalize W4.setRow w.heap.size (partA (logC D zeroSup (.slice none 0 0) 0 false) 1 (supC b0).toList) = W5 at hq ⊢; have HZ := Lib.hid (And.intro (HR.out.1.trans (below_of_but hq.2 (Nat.le_refl _) HR.out.1.size)) hq.1); clear hq; have q1 := HZ.out.2.cell 1; have q2 := HZ.out.2.cell 2; have q3 := HZ.out.2.cell 3; have q4 := HZ.out.2.cell 4; have q5 := HZ.out.2.cell 5; simp [logC, b0] at q1 q2 q3 q4 q5) | (go_at_call 63; refine (save_any W5 B D _ (HD.out.1.on HZ.out.1) (by rw [HD.out.2.2]; have := HD.out.2.1; omega) rfl b0 (by decide) (zero_load (by have := HD.out.2.1; omega)).2.2).mono ?_; rintro e W6 ⟨rfl, hd6, ho6⟩; rw [zero_save (by have := HD.out.2.1; omega)] at hd6 ⊢; have H6 := Lib.hid (And.intro hd6 ho6); clear hd6 ho6))
  go_ret2
  refine ⟨⟨_, rfl, ⟨_, H6.out.2.blk HZ.out.2 (by decide), Gath.nil _ _ _ _ _⟩, Nat.le_refl _, by decide, Nat.zero_le _⟩, H6.out.1, (Only.below HZ.out.1 HBL.out).trans H6.out.2⟩
end
section
open Go.ChangeShapes Go.WideShapes Go.ChangeAt Go.RowKit

theorem Gath.mono {α : Type} {K : Kind α} {T : List TypeId} {ty : TypeId} {B B' : Nat} {w : World} {v : Value} {xs : List α} (h : Gath K T ty B w v xs) (hB : B' ≤ B) : Gath K T ty B' w v xs := by
  obtain ⟨cs, h1, h2⟩ := h
  obtain ⟨h3, h4⟩ := h1
  refine ⟨cs, ⟨h3, h4.imp id ?_⟩, h2⟩
  rintro ⟨g, cap, cur, a, b, c⟩
  exact ⟨g, cap, cur, a, by omega, c⟩
theorem IsLog.mono {B B' : Nat} {w : World} {L D : Nat} {l : LogP} (h : IsLog B w L D l) (hB : B' ≤ B) : IsLog B' w L D l := by
  obtain ⟨v, h1, h2⟩ := h.ex
  exact ⟨⟨v, h1, h2.mono hB⟩, Nat.le_trans hB h.base, h.fits, h.cnt⟩
/-- a cache stays where blocks of other types turn -/
theorem IsCache.only {S : List TypeId} {B B' : Nat} {w w' : World} {C k : Nat} {most stale : Int} {L : List Slot} (h : IsCache B w C most stale k L) (ho : Only S B' w w') (h1 : ∀ t ∈ fT, t ∉ S) (h2 : 131 ∉ S) (h3 : 203 ∉ S) : IsCache B w' C most stale k L := by
  obtain ⟨M, a, b, c⟩ := h.ex
  refine ⟨⟨M, ho.blk a h2, b, c.on (ho.keep M c.lt fun ht => ?_)⟩, h.base, fun s hs => ?_, h.apart, h.keys, h.used, h.order⟩
  · obtain ⟨n, D, ⟨es, clock, hm, _⟩, _⟩ := c
    obtain ⟨cs, t, e, _⟩ := ht
    rw [hm] at e
    cases e
  · obtain ⟨p, q, r, t⟩ := h.slot s hs
    exact ⟨p, ho.blk q h3, r.step (ho.same h1), t⟩
def keepC (C L : Nat) (places now told : Int) (mem dn : Bool) : Array Value := #[.pointer (some ⟨C, 0, none⟩), .pointer (some ⟨L, 0, none⟩), .int .i64 places, .int .i64 now, .int .i64 told, .bool mem, .bool dn]
set_option maxHeartbeats 16000000 in
set_option maxRecDepth 100000 in
theorem kopen_new (w : World) (D n : Nat) (B : Nat) (h4 : 4 ≤ n) (hd : IsDev B w D (newD n)) (most stale : Int) (h1 : 1 ≤ most) (h2 : most ≤ 4096) (hs : timeB stale = true) :
    Calls Tryz.prog 18 #[.pointer (some ⟨D, 0, none⟩), .int .i64 most, .int .i64 stale] w fun e w' => (∃ K C L, e = .returned (.tuple #[.pointer (some ⟨K, 0, none⟩), .int .i64 0]) ∧ Blk w' K (keepC C L ((n : Int) - 2) 0 0 false false) 92 ∧ w.heap.size ≤ K ∧ IsCache w.heap.size w' C most stale 0 [] ∧ IsLog w.heap.size w' L D ⟨b0, [], 0, false⟩) ∧ IsDev B w' D (bornD n) ∧ Only dvT B w w' := by
  have HNW := Lib.hid (new_any w w.heap.size (Nat.le_refl _) most stale h1 h2 hs)
  have HD := Lib.hid (And.intro hd h4)
  have HBL := Lib.hid hd.Ble
  have hn4 := hd.le
  rw [show (newD n).sure.length = n from List.length_replicate] at hn4
  clear hd h4 h1 h2 hs
  go_enter Tryz.func18, Tryz.ntmps18
  go_wp2_with (first | (go_at_call 32; refine HNW.out.mono ?_; rintro e W1 ⟨⟨C, rfl, hc⟩, hb1⟩; have H1 := Lib.hid (And.intro hc hb1); clear hc hb1) | (go_at_call 33; refine (lopen_new W1 D n B HD.out.2 (HD.out.1.on H1.out.2)).mono ?_; rintro e W2 ⟨⟨L, rfl, hl⟩, hd2, ho2⟩; have H2 := Lib.hid (And.intro (hl.mono H1.out.2.size) (And.intro hd2 (And.intro ho2 (And.intro ((Only.below H1.out.2 HBL.out).trans ho2) (H1.out.1.only ho2 (by decide) (by decide) (by decide)))))); clear hl hd2 ho2) | (go_at_call 34; refine (dlen_any W2 B D _ H2.out.2.1).mono ?_; rintro e W2 ⟨rfl, rfl⟩; rw [show (bornD n).sure.length = n by simp [bornD]]) | (go_at_call 35; have hK := heap_alloc_new W2 (.cells (keepC C L ((n : Int) - 2) 0 0 false false) 92); have hb3 := (Below.refl W2.heap.size W2).alloc (Nat.le_refl _) (.cells (keepC C L ((n : Int) - 2) 0 0 false false) 92); (try change Calls _ _ _ (W2.alloc (.cells (keepC C L ((n : Int) - 2) 0 0 false false) 92)) _); generalize W2.alloc (.cells (keepC C L ((n : Int) - 2) 0 0 false false) 92) = W3 at hK hb3 ⊢; have H3 := Lib.hid (And.intro hK hb3); clear hK hb3; refine (lfirst_any W3 _ L D _ (H2.out.1.on H3.out.2)).mono ?_; rintro e W3 ⟨rfl, rfl⟩))
  go_loopw [12] (fun i wr => i = .int .i64 0 ∧ wr = W3) (fun _ _ => 0)
  case atStart => exact ⟨rfl, rfl⟩
  case round =>
    obtain ⟨rfl, rfl⟩ := hrel
    go_wp2_with (go_at_call 36; refine (lnext_any wr _ L D _ (H2.out.1.on H3.out.2)).mono ?_; rintro e W4 ⟨rfl, hb4⟩; have H4 := Lib.hid hb4; clear hb4; (try simp [b0]))
    go_ret2
    have hb := below_on H3.out.2 H4.out (Nat.le_refl _)
    have hsz := H2.out.2.2.2.1.bel.size
    have hle := HBL.out
    have hw1 := H1.out.2.size
    have hw2 := H2.out.2.2.1.bel.size
    exact ⟨⟨W2.heap.size, C, L, rfl, Blk.on H3.out.1 H4.out, by omega, H2.out.2.2.2.2.on hb, H2.out.1.on hb⟩, H2.out.2.1.on hb, H2.out.2.2.2.1.trans (Only.below hb (by omega))⟩
end
section
open Go.ChangeShapes Go.WideShapes Go.ChangeAt Go.RowKit

theorem findL_nil (nm : List ByteArray) (typ : Int) (p : Slot → Bool) : findL [] nm typ p = none := by
  unfold findL
  split <;> rfl
set_option maxHeartbeats 16000000 in
set_option maxRecDepth 100000 in
theorem told_nil (w : World) (C : Nat) : Calls Tryz.prog 113 #[.pointer (some ⟨C, 0, none⟩), .pointer none] w fun e w' => e = .returned (.tuple #[.agg noF, .bool false]) ∧ Below w.heap.size w w' := by
  have hN : Blk (w.alloc (.cells noF 100)) w.heap.size noF 100 := heap_alloc_new w _
  have hb1 : Below w.heap.size w (w.alloc (.cells noF 100)) := (Below.refl _ _).alloc (Nat.le_refl _) _
  have HN := Lib.hid hN
  have HB := Lib.hid hb1
  clear hN hb1
  go_enter Tryz.func113, Tryz.ntmps113
  go_wp2_with (refine wpList_store_row rfl 100 _ _ rfl w.heap.size noF rfl rfl 100 noF HN.out factSize rfl (factC_all zH zF) ?_)
  refine bodyPost_ret (told_results (k := zH) (f := zF) rfl rfl (blk_setRow HN.out noF)) rfl ?_
  exact ⟨rfl, HB.out.grown (but_setRow _ w.heap.size noF) (HB.out.size) (fun k e => Nat.le_of_eq (Option.some.inj e))⟩
set_option maxHeartbeats 16000000 in
set_option maxRecDepth 100000 in
theorem get_none (w : World) (B C : Nat) (most stale : Int) (k : Nat) (L : List Slot) (hC : IsCache B w C most stale k L) (na : Option Addr) (nl nc : Nat) (nm : List ByteArray) (typ : Int) (hn : Strs w na nl nc nm) (hz : sizeN nm ≤ 1099511627776) (now : Int) (hno : findL L nm typ (fitsF now) = none) :
    Calls Tryz.prog 74 #[.pointer (some ⟨C, 0, none⟩), .slice na nl nc, .int .i64 typ, .int .i64 now] w fun e w' => e = .returned (.tuple #[.agg noF, .bool false]) ∧ Below w.heap.size w w' := by
  have hN : Blk (w.alloc (.cells noF 100)) w.heap.size noF 100 := heap_alloc_new w _
  have hb1 : Below w.heap.size w (w.alloc (.cells noF 100)) := (Below.refl _ _).alloc (Nat.le_refl _) _
  have HN := Lib.hid hN
  have HB := Lib.hid hb1
  have HC := Lib.hid (And.intro hC (And.intro hn (And.intro hz hno)))
  clear hN hb1 hC hn hz hno
  go_enter Tryz.func74, Tryz.ntmps74
  go_wp2_with (first | (go_at_call 115; refine (when_any _ B C most stale k L (HC.out.1.on HB.out) now).mono ?_; rintro e W1 ⟨rfl, hb⟩; have HW1 := Lib.hid (And.intro (below_on HB.out hb (Nat.le_refl _)) (HN.out.on hb)); clear hb) | (go_at_call 114; refine (findF_any _ B C most stale k L (HC.out.1.on HW1.out.1) na nl nc nm typ (HC.out.2.1.below HW1.out.1 (Nat.le_refl _)) HC.out.2.2.1 now stale).mono ?_; rintro e W2 ⟨rfl, hb⟩; rw [HC.out.2.2.2]; simp only [itemV]; have HW2 := Lib.hid (And.intro (below_on HW1.out.1 hb (Nat.le_refl _)) (HW1.out.2.on hb)); clear hb) | (go_at_call 113; refine (told_nil W2 C).mono ?_; rintro e W3 ⟨rfl, hb⟩; have HW3 := Lib.hid (And.intro (below_on HW2.out.1 hb (Nat.le_refl _)) (HW2.out.2.on hb)); clear hb) | (refine wpList_store_row rfl 100 _ _ rfl w.heap.size noF rfl rfl 100 noF HW3.out.2 factSize rfl (factC_all zH zF) ?_))
  refine bodyPost_ret (get_results (k := zH) (f := zF) rfl rfl (blk_setRow HW3.out.2 noF)) rfl ?_
  exact ⟨rfl, HW3.out.1.grown (but_setRow _ w.heap.size noF) HW3.out.1.size (fun k e => Nat.le_of_eq (Option.some.inj e))⟩
/-- a Keep's time behind a call -/
def atT (known now : Int) : Int := if timeB now = true then max known now else known
set_option maxHeartbeats 4000000 in
set_option maxRecDepth 100000 in
theorem kat_any (w : World) (B K C L : Nat) (pl kn told : Int) (mem dn : Bool) (hK : Blk w K (keepC C L pl kn told mem dn) 92) (hB : B ≤ K) (now : Int) :
    Calls Tryz.prog 75 #[.pointer (some ⟨K, 0, none⟩), .int .i64 now] w fun e w' => e = .returned (.int .i64 (atT kn now)) ∧ Blk w' K (keepC C L pl (atT kn now) told mem dn) 92 ∧ Only [92] B w w' := by
  have hT := time_any now w
  have c3 : w.cell? ⟨K, 3, none⟩ = some (.int .i64 kn) := hK.cell 3
  have f3 := hK.free 3
  have hg := but_set w K 3 (.int .i64 (max kn now))
  have hB2 := hK.set 3 (.int .i64 (max kn now))
  have c3' : (w.setCell ⟨K, 3, none⟩ (.int .i64 (max kn now))).cell? ⟨K, 3, none⟩ = some (.int .i64 (max kn now)) := by have := hB2.cell 3; simpa [keepC] using this
  have HO := Lib.hid (And.intro hK (And.intro (Only.but (S := [92]) hg hK (by decide) hB) hB2))
  cases ht : timeB now with
  | true =>
    have HT := Lib.hid (show atT kn now = max kn now by rw [atT, if_pos ht])
    rw [ht] at hT
    clear hK hg hB2 ht
    go_enter Tryz.func75, Tryz.ntmps75
    go_wp2_with (go_at_call 25; refine hT.mono ?_; rintro e w ⟨rfl, rfl⟩)
    go_ret
    exact ⟨by rw [HT.out]; rfl, by rw [HT.out]; simpa [keepC] using HO.out.2.2, HO.out.2.1⟩
  | false =>
    have HT := Lib.hid (show atT kn now = kn by rw [atT, if_neg (by rw [ht]; decide)])
    rw [ht] at hT
    clear hK hg hB2 ht
    go_enter Tryz.func75, Tryz.ntmps75
    go_wp2_with (go_at_call 25; refine hT.mono ?_; rintro e w ⟨rfl, rfl⟩)
    go_ret
    exact ⟨by rw [HT.out]; rfl, by rw [HT.out]; exact HO.out.1, Only.refl _ _ _⟩
end
section
open Go.ChangeShapes Go.WideShapes Go.ChangeAt Go.RowKit

/-- what lies in a Keep, and the cache that it leads to -/
structure KeepAt (B : Nat) (w : World) (K C L : Nat) (pl kn told : Int) (mem dn : Bool) (most stale : Int) (k : Nat) (S : List Slot) : Prop where
  blk : Blk w K (keepC C L pl kn told mem dn) 92
  ca : IsCache B w C most stale k S
  base : B ≤ K
theorem KeepAt.on {B : Nat} {w w' : World} {K C L : Nat} {pl kn told : Int} {mem dn : Bool} {most stale : Int} {k : Nat} {S : List Slot} (h : KeepAt B w K C L pl kn told mem dn most stale k S) (hb : Below w.heap.size w w') : KeepAt B w' K C L pl kn told mem dn most stale k S := ⟨h.blk.on hb, h.ca.on hb, h.base⟩
theorem kget_results {tmps : Array Value} {w : World} {R : Nat} {k : FactH} {f : FactP} {b : Bool} (h4 : tmps[8]? = some (.pointer (some ⟨R, 0, none⟩))) (h5 : tmps[9]? = some (.bool b)) (hB : Blk w R (factC k f) 100) :
    (results Tryz.f45 tmps).run Tryz.prog w = .ok (.tuple #[.agg (factC k f), .bool b]) w := by
  have c0 := hB.cell 0
  have c1 := hB.cell 1
  have c2 := hB.cell 2
  have c3 := hB.cell 3
  have c4 := hB.cell 4
  have c5 := hB.cell 5
  have c6 := hB.cell 6
  have c7 := hB.cell 7
  have c8 := hB.cell 8
  have c9 := hB.cell 9
  have c10 := hB.cell 10
  have c11 := hB.cell 11
  have c12 := hB.cell 12
  simp [factC] at c0 c1 c2 c3 c4 c5 c6 c7 c8 c9 c10 c11 c12
  simp [results, go_sem, h4, h5, c0, c1, c2, c3, c4, c5, c6, c7, c8, c9, c10, c11, c12, factC]
theorem store_row_run {P : Program} {W : World} {g : Nat} {old : Array Value} {T : TypeId} (h : Blk W g old T) (cs : Array Value) (hs : old.size = cs.size) (h1 : cs.all (·.oneCell') = true) : (storeCells ⟨g, 0, none⟩ cs.toList).run P W = .ok () (W.setRow g cs) := by
  have := run_storeCells_from (P := P) g T cs.toList 0 old W h (by simp; omega) (fun v hv => (Array.all_eq_true_iff_forall_mem.1 h1) v (by simpa using hv))
  simpa using this
theorem only_row {S : List TypeId} {B : Nat} {w W : World} (h : Only S B w W) {R : Nat} (hR : w.heap.size ≤ R) (hB : B ≤ w.heap.size) {cs : Array Value} : Only S B w (W.setRow R cs) :=
  ⟨h.bel.grown (but_setRow _ _ _) (by have := h.bel.size; omega) (fun j e => by cases e; omega), fun b hb hn => by
    rw [(but_setRow W R cs).block b (by have := h.bel.size; omega) (fun e => by have := Option.some.inj e; omega)]
    exact h.keep b hb hn⟩
theorem strs_only {S : List TypeId} {B : Nat} {w w' : World} {ao : Option Addr} {n c : Nat} {ss : List ByteArray} (h : Strs w ao n c ss) (hi : rowIn (fun b => ¬ tagged S w b) ao n) (ho : Only S B w w') : Strs w' ao n c ss := h.keep hi (fun b hb hS => ho.keep b hb hS)
set_option maxHeartbeats 16000000 in
set_option maxRecDepth 100000 in
theorem kget_none (w : World) (B K C L : Nat) (pl kn told : Int) (mem dn : Bool) (most stale : Int) (k : Nat) (S : List Slot) (hK : KeepAt B w K C L pl kn told mem dn most stale k S) (na : Option Addr) (nl nc : Nat) (nm : List ByteArray) (typ : Int) (hn : Strs w na nl nc nm) (hz : sizeN nm ≤ 1099511627776) (hni : rowIn (fun b => ¬ tagged [92] w b) na nl) (hS : S = []) (now : Int) :
    Calls Tryz.prog 45 #[.pointer (some ⟨K, 0, none⟩), .slice na nl nc, .int .i64 typ, .int .i64 now] w fun e w' => e = .returned (.tuple #[.agg noF, .bool false]) ∧ KeepAt B w' K C L pl (atT kn now) told mem dn most stale k S ∧ Only [92] B w w' := by
  subst hS
  have hN : Blk (w.alloc (.cells noF 100)) w.heap.size noF 100 := heap_alloc_new w _
  have hb1 : Below w.heap.size w (w.alloc (.cells noF 100)) := (Below.refl _ _).alloc (Nat.le_refl _) _
  have c0 : (w.alloc (.cells noF 100)).drew.cell? ⟨K, 0, none⟩ = some (.pointer (some ⟨C, 0, none⟩)) := ((hK.blk.on hb1).on (Below.drew (Below.refl _ _))).cell 0
  simp only [noF] at c0
  have HN := Lib.hid (And.intro hN hb1)
  have HK := Lib.hid (And.intro hK (And.intro hn (And.intro hz (And.intro hni hK.ca.B_le))))
  clear hN hb1 hK hn hz hni
  go_enter Tryz.func45, Tryz.ntmps45
  go_wp2_with fail
  have HK0 := Lib.hid (And.intro (HK.out.1.on (Below.drew HN.out.2)) (And.intro (HN.out.1.on (Below.drew (Below.refl _ _))) (Below.drew HN.out.2)))
  go_region_held3 (fun w' => w'.cell? ⟨K, 0, none⟩ = some (.pointer (some ⟨C, 0, none⟩)))
    (first | go_keep | exact c0 | exact hc1 | exact hc2 | exact hc3)
    (first | (go_at_call 75; refine (kat_any _ B K C L pl kn told mem dn HK0.out.1.blk HK0.out.1.base now).mono ?_; rintro e W1 ⟨rfl, hk1, ho1⟩; have hc1 : W1.cell? ⟨K, 0, none⟩ = some (.pointer (some ⟨C, 0, none⟩)) := hk1.cell 0; have H1 := Lib.hid (And.intro hk1 ho1); clear hk1 ho1) | (go_at_call 74; refine (get_none W1 B C most stale k [] ((HK0.out.1.ca).only H1.out.2 (by decide) (by decide) (by decide)) na nl nc nm typ (strs_only HK.out.2.1 HK.out.2.2.2.1 ((Only.below HK0.out.2.2 HK.out.2.2.2.2).trans H1.out.2)) HK.out.2.2.1 _ (findL_nil _ _ _)).mono ?_; rintro e W2 ⟨rfl, hb2⟩; have hc2 := cell_keep hb2 hc1; have hN2 := (H1.out.2.blk HK0.out.2.1 (by decide)).on hb2; have hst := store_row_run (P := Tryz.prog) hN2 noF rfl (factC_all zH zF); have hk3 := (H1.out.1.on hb2).but (but_setRow W2 w.heap.size noF) (Nat.ne_of_lt HK.out.1.blk.lt); have hc3 : (W2.setRow w.heap.size noF).cell? ⟨K, 0, none⟩ = some (.pointer (some ⟨C, 0, none⟩)) := hk3.cell 0; have hle := HK0.out.1.ca.B_le; have hs1 := H1.out.2.bel.size; have H2 := Lib.hid (And.intro (H1.out.1.on hb2) (And.intro ((H1.out.2.trans (Only.below hb2 (by omega)))) (And.intro hN2 (And.intro (HK0.out.1.ca.only H1.out.2 (by decide) (by decide) (by decide) |>.on hb2) hk3)))); clear hk3; clear hb2 hN2 hle hs1))
  go_split_ands
  go_wp2_with fail
  refine bodyPost_ret (kget_results (k := zH) (f := zF) rfl rfl (blk_setRow H2.out.2.2.1 noF)) rfl ?_
  refine ⟨rfl, ⟨H2.out.2.2.2.2, H2.out.2.2.2.1.but (but_setRow W2 w.heap.size noF) H2.out.2.2.1 (by decide) (by decide) (by decide), HK.out.1.base⟩, ?_⟩
  have hB := HK.out.1.ca.B_le
  have ho : Only [92] B w W2 := (Only.below HK0.out.2.2 hB).trans H2.out.2.1
  exact only_row ho (Nat.le_refl _) hB
end
section
open Go.ChangeShapes Go.WideShapes Go.ChangeAt Go.RowKit

theorem not_tagged {S : List TypeId} {w w' : World} {ao : Option Addr} {n c : Nat} {ss : List ByteArray} (h : Strs w ao n c ss) (hi : rowIn (fun b => ¬ tagged S w b) ao n) (hb : Below w.heap.size w w') : rowIn (fun b => ¬ tagged S w' b) ao n := fun h0 a ha ht => hi h0 a ha (by
  obtain ⟨cs, t, e, k⟩ := ht
  have hl := h.row.mem_lt h0 a ha
  exact ⟨cs, t, (hb.block _ hl) ▸ e, k⟩)
/-- two blocks more -/
theorem two_new (w : World) (c1 c2 : Array Value) (T1 T2 : TypeId) : Below w.heap.size w ((w.alloc (.cells c1 T1)).alloc (.cells c2 T2)).drew ∧ Blk ((w.alloc (.cells c1 T1)).alloc (.cells c2 T2)).drew w.heap.size c1 T1 ∧ Blk ((w.alloc (.cells c1 T1)).alloc (.cells c2 T2)).drew (w.heap.size + 1) c2 T2 := by
  have h1 : Blk (w.alloc (.cells c1 T1)) w.heap.size c1 T1 := heap_alloc_new w _
  have b1 : Below w.heap.size w (w.alloc (.cells c1 T1)) := (Below.refl _ _).alloc (Nat.le_refl _) _
  have b2 : Below (w.alloc (.cells c1 T1)).heap.size (w.alloc (.cells c1 T1)) ((w.alloc (.cells c1 T1)).alloc (.cells c2 T2)).drew := Below.drew ((Below.refl _ _).alloc (Nat.le_refl _) _)
  have h2 : Blk ((w.alloc (.cells c1 T1)).alloc (.cells c2 T2)) (w.alloc (.cells c1 T1)).heap.size c2 T2 := heap_alloc_new (w.alloc (.cells c1 T1)) _
  rw [show (w.alloc (.cells c1 T1)).heap.size = w.heap.size + 1 from Array.size_push _] at h2
  exact ⟨below_on b1 b2 (Nat.le_refl _), h1.on b2, h2.on (Below.drew (Below.refl _ _))⟩
theorem fget_results {tmps : Array Value} {w : World} {R : Nat} {k : FactH} {f : FactP} {b : Bool} (h4 : tmps[6]? = some (.pointer (some ⟨R, 0, none⟩))) (h5 : tmps[7]? = some (.bool b)) (hB : Blk w R (factC k f) 100) :
    (results Tryz.f48 tmps).run Tryz.prog w = .ok (.tuple #[.agg (factC k f), .bool b]) w := by
  have c0 := hB.cell 0
  have c1 := hB.cell 1
  have c2 := hB.cell 2
  have c3 := hB.cell 3
  have c4 := hB.cell 4
  have c5 := hB.cell 5
  have c6 := hB.cell 6
  have c7 := hB.cell 7
  have c8 := hB.cell 8
  have c9 := hB.cell 9
  have c10 := hB.cell 10
  have c11 := hB.cell 11
  have c12 := hB.cell 12
  simp [factC] at c0 c1 c2 c3 c4 c5 c6 c7 c8 c9 c10 c11 c12
  simp [results, go_sem, h4, h5, c0, c1, c2, c3, c4, c5, c6, c7, c8, c9, c10, c11, c12, factC]

def findC (K : Nat) (now : Int) (old : Bool) (code : Int) (an so : Value) (st : Bool) : Array Value := #[.pointer (some ⟨K, 0, none⟩), .int .i64 now, .bool old, .int .i64 code, an, so, .bool st]
theorem KeepAt.row {B : Nat} {w : World} {K C L : Nat} {pl kn told : Int} {mem dn : Bool} {most stale : Int} {k : Nat} {S : List Slot} (h : KeepAt B w K C L pl kn told mem dn most stale k S) {X : Nat} {old : Array Value} (hX : Blk w X old 100) (cs : Array Value) : KeepAt B (w.setRow X cs) K C L pl kn told mem dn most stale k S :=
  ⟨h.blk.but (but_setRow w X cs) (blk_ne h.blk hX (by decide)), h.ca.but (but_setRow w X cs) hX (by decide) (by decide) (by decide), h.base⟩
structure FindAt (B : Nat) (w Z : World) (F K C L X : Nat) (fnow code : Int) (an so : Value) (st : Bool) (pl kn told : Int) (mem dn : Bool) (most stale : Int) (k : Nat) : Prop where
  keep : KeepAt B Z K C L pl kn told mem dn most stale k []
  only : Only [92] B w Z
  own : Blk Z w.heap.size noF 100
  find : Blk Z F (findC K fnow false code an so st) 74
  res : Blk Z X noF 100
set_option maxHeartbeats 16000000 in
set_option maxRecDepth 100000 in
theorem fget_none (w : World) (F : Nat) (fnow code : Int) (an so : Value) (st : Bool) (B K C L : Nat) (pl kn told : Int) (mem dn : Bool) (most stale : Int) (k : Nat) (hF : Blk w F (findC K fnow false code an so st) 74) (hK : KeepAt B w K C L pl kn told mem dn most stale k []) (na : Option Addr) (nl nc : Nat) (nm : List ByteArray) (typ : Int) (hn : Strs w na nl nc nm) (hz : sizeN nm ≤ 1099511627776) (hni : rowIn (fun b => ¬ tagged [92] w b) na nl) :
    Calls Tryz.prog 48 #[.pointer (some ⟨F, 0, none⟩), .slice na nl nc, .int .i64 typ] w fun e w' => e = .returned (.tuple #[.agg noF, .bool false]) ∧ KeepAt B w' K C L pl (atT kn fnow) told mem dn most stale k [] ∧ Only [92] B w w' := by
  have hTW := two_new w #[.slice none 0 0, .int .i64 0, .int .i64 0, .int .i64 0, .int .i64 0, .int .i64 0, .slice none 0 0, .slice none 0 0, .slice none 0 0, .slice none 0 0, .slice none 0 0, .slice none 0 0, .slice none 0 0] #[.slice none 0 0, .int .i64 0, .int .i64 0, .int .i64 0, .int .i64 0, .int .i64 0, .slice none 0 0, .slice none 0 0, .slice none 0 0, .slice none 0 0, .slice none 0 0, .slice none 0 0, .slice none 0 0] 100 100
  have hN : Blk (w.alloc (.cells #[.slice none 0 0, .int .i64 0, .int .i64 0, .int .i64 0, .int .i64 0, .int .i64 0, .slice none 0 0, .slice none 0 0, .slice none 0 0, .slice none 0 0, .slice none 0 0, .slice none 0 0, .slice none 0 0] 100)) w.heap.size noF 100 := heap_alloc_new w _
  have hb0 : Below w.heap.size w (w.alloc (.cells #[.slice none 0 0, .int .i64 0, .int .i64 0, .int .i64 0, .int .i64 0, .int .i64 0, .slice none 0 0, .slice none 0 0, .slice none 0 0, .slice none 0 0, .slice none 0 0, .slice none 0 0, .slice none 0 0] 100)).drew := Below.drew ((Below.refl _ _).alloc (Nat.le_refl _) _)
  have hbd := hTW.1
  have c0 : ((w.alloc (.cells #[.slice none 0 0, .int .i64 0, .int .i64 0, .int .i64 0, .int .i64 0, .int .i64 0, .slice none 0 0, .slice none 0 0, .slice none 0 0, .slice none 0 0, .slice none 0 0, .slice none 0 0, .slice none 0 0] 100)).alloc (.cells #[.slice none 0 0, .int .i64 0, .int .i64 0, .int .i64 0, .int .i64 0, .int .i64 0, .slice none 0 0, .slice none 0 0, .slice none 0 0, .slice none 0 0, .slice none 0 0, .slice none 0 0, .slice none 0 0] 100)).drew.cell? ⟨F, 0, none⟩ = some (.pointer (some ⟨K, 0, none⟩)) := (hF.on hbd).cell 0
  have c1 : ((w.alloc (.cells #[.slice none 0 0, .int .i64 0, .int .i64 0, .int .i64 0, .int .i64 0, .int .i64 0, .slice none 0 0, .slice none 0 0, .slice none 0 0, .slice none 0 0, .slice none 0 0, .slice none 0 0, .slice none 0 0] 100)).alloc (.cells #[.slice none 0 0, .int .i64 0, .int .i64 0, .int .i64 0, .int .i64 0, .int .i64 0, .slice none 0 0, .slice none 0 0, .slice none 0 0, .slice none 0 0, .slice none 0 0, .slice none 0 0, .slice none 0 0] 100)).drew.cell? ⟨F, 1, none⟩ = some (.int .i64 fnow) := (hF.on hbd).cell 1
  have i0 : (w.alloc (.cells #[.slice none 0 0, .int .i64 0, .int .i64 0, .int .i64 0, .int .i64 0, .int .i64 0, .slice none 0 0, .slice none 0 0, .slice none 0 0, .slice none 0 0, .slice none 0 0, .slice none 0 0, .slice none 0 0] 100)).drew.cell? ⟨F, 0, none⟩ = some (.pointer (some ⟨K, 0, none⟩)) := (hF.on hb0).cell 0
  have i1 : (w.alloc (.cells #[.slice none 0 0, .int .i64 0, .int .i64 0, .int .i64 0, .int .i64 0, .int .i64 0, .slice none 0 0, .slice none 0 0, .slice none 0 0, .slice none 0 0, .slice none 0 0, .slice none 0 0, .slice none 0 0] 100)).drew.cell? ⟨F, 1, none⟩ = some (.int .i64 fnow) := (hF.on hb0).cell 1
  have HK := Lib.hid (And.intro hK (And.intro hn (And.intro hz (And.intro hni hK.ca.B_le))))
  have HN := Lib.hid (And.intro hTW (hF.on hbd))
  have HM := Lib.hid (And.intro (hN.on (Below.drew (Below.refl _ _))) (And.intro hb0 (hF.on hb0)))
  clear hK hn hz hF hni hTW hbd hb0 hN
  go_enter Tryz.func48, Tryz.ntmps48
  go_wp2_with fail
  go_region_held3 (fun w' => w'.cell? ⟨F, 0, none⟩ = some (.pointer (some ⟨K, 0, none⟩)) ∧ w'.cell? ⟨F, 1, none⟩ = some (.int .i64 fnow))
    (first | go_keep | exact ⟨c0, c1⟩ | exact hc1 | exact hc2 | exact hc3)
    (first | (go_at_call 45; refine (kget_none _ B K C L pl kn told mem dn most stale k [] (HK.out.1.on HN.out.1.1) na nl nc nm typ (HK.out.2.1.below HN.out.1.1 (Nat.le_refl _)) HK.out.2.2.1 (not_tagged HK.out.2.1 HK.out.2.2.2.1 HN.out.1.1) rfl fnow).mono ?_; rintro e W1 ⟨rfl, hk1, ho1⟩; have hf1 := ho1.blk HN.out.2 (by decide); have hc1 : W1.cell? ⟨F, 0, none⟩ = some (.pointer (some ⟨K, 0, none⟩)) ∧ W1.cell? ⟨F, 1, none⟩ = some (.int .i64 fnow) := ⟨hf1.cell 0, hf1.cell 1⟩; have hn1 := ho1.blk HN.out.1.2.2 (by decide); have hn0 := ho1.blk HN.out.1.2.1 (by decide); have hst := store_row_run (P := Tryz.prog) hn1 noF rfl (factC_all zH zF); have hf2 := hf1.but (but_setRow W1 (w.heap.size + 1) noF) (blk_ne hf1 hn1 (by decide)); have hc2 : (W1.setRow (w.heap.size + 1) noF).cell? ⟨F, 0, none⟩ = some (.pointer (some ⟨K, 0, none⟩)) ∧ (W1.setRow (w.heap.size + 1) noF).cell? ⟨F, 1, none⟩ = some (.int .i64 fnow) := ⟨hf2.cell 0, hf2.cell 1⟩; have HZ : Hid (FindAt B w (W1.setRow (w.heap.size + 1) noF) F K C L (w.heap.size + 1) fnow code an so st pl (atT kn fnow) told mem dn most stale k) := Lib.hid ⟨hk1.row hn1 noF, only_row ((Only.below HN.out.1.1 HK.out.2.2.2.2).trans ho1) (Nat.le_succ _) HK.out.2.2.2.2, hn0.but (but_setRow W1 _ noF) (Nat.ne_of_lt (Nat.lt_succ_self _)), hf2, blk_setRow hn1 noF⟩; clear hk1 ho1 hn1 hn0 hf1 hf2) | (go_at_call 45; refine (kget_none _ B K C L pl kn told mem dn most stale k [] (HK.out.1.on HM.out.2.1) na nl nc nm typ (HK.out.2.1.below HM.out.2.1 (Nat.le_refl _)) HK.out.2.2.1 (not_tagged HK.out.2.1 HK.out.2.2.2.1 HM.out.2.1) rfl fnow).mono ?_; rintro e W1 ⟨rfl, hk1, ho1⟩; have hf1 := ho1.blk HM.out.2.2 (by decide); have hc1 : W1.cell? ⟨F, 0, none⟩ = some (.pointer (some ⟨K, 0, none⟩)) ∧ W1.cell? ⟨F, 1, none⟩ = some (.int .i64 fnow) := ⟨hf1.cell 0, hf1.cell 1⟩; have hn0 := ho1.blk HM.out.1 (by decide); have hal : Below W1.heap.size W1 (W1.alloc (.cells #[.slice none 0 0, .int .i64 0, .int .i64 0, .int .i64 0, .int .i64 0, .int .i64 0, .slice none 0 0, .slice none 0 0, .slice none 0 0, .slice none 0 0, .slice none 0 0, .slice none 0 0, .slice none 0 0] 100)) := (Below.refl _ _).alloc (Nat.le_refl _) _; have hc2 : (W1.alloc (.cells #[.slice none 0 0, .int .i64 0, .int .i64 0, .int .i64 0, .int .i64 0, .int .i64 0, .slice none 0 0, .slice none 0 0, .slice none 0 0, .slice none 0 0, .slice none 0 0, .slice none 0 0, .slice none 0 0] 100)).cell? ⟨F, 0, none⟩ = some (.pointer (some ⟨K, 0, none⟩)) ∧ (W1.alloc (.cells #[.slice none 0 0, .int .i64 0, .int .i64 0, .int .i64 0, .int .i64 0, .int .i64 0, .slice none 0 0, .slice none 0 0, .slice none 0 0, .slice none 0 0, .slice none 0 0, .slice none 0 0, .slice none 0 0] 100)).cell? ⟨F, 1, none⟩ = some (.int .i64 fnow) := ⟨cell_keep hal hc1.1, cell_keep hal hc1.2⟩; have hn1 : Blk (W1.alloc (.cells #[.slice none 0 0, .int .i64 0, .int .i64 0, .int .i64 0, .int .i64 0, .int .i64 0, .slice none 0 0, .slice none 0 0, .slice none 0 0, .slice none 0 0, .slice none 0 0, .slice none 0 0, .slice none 0 0] 100)) W1.heap.size noF 100 := heap_alloc_new W1 _; have hst := store_row_run (P := Tryz.prog) hn1 noF rfl (factC_all zH zF); have hb3 := hal.trans (below_of_but (but_setRow (W1.alloc (.cells #[.slice none 0 0, .int .i64 0, .int .i64 0, .int .i64 0, .int .i64 0, .int .i64 0, .slice none 0 0, .slice none 0 0, .slice none 0 0, .slice none 0 0, .slice none 0 0, .slice none 0 0, .slice none 0 0] 100)) W1.heap.size noF) (Nat.le_refl _) hal.size); have hc3 : ((W1.alloc (.cells #[.slice none 0 0, .int .i64 0, .int .i64 0, .int .i64 0, .int .i64 0, .int .i64 0, .slice none 0 0, .slice none 0 0, .slice none 0 0, .slice none 0 0, .slice none 0 0, .slice none 0 0, .slice none 0 0] 100)).setRow W1.heap.size noF).cell? ⟨F, 0, none⟩ = some (.pointer (some ⟨K, 0, none⟩)) ∧ ((W1.alloc (.cells #[.slice none 0 0, .int .i64 0, .int .i64 0, .int .i64 0, .int .i64 0, .int .i64 0, .slice none 0 0, .slice none 0 0, .slice none 0 0, .slice none 0 0, .slice none 0 0, .slice none 0 0, .slice none 0 0] 100)).setRow W1.heap.size noF).cell? ⟨F, 1, none⟩ = some (.int .i64 fnow) := ⟨cell_keep hb3 hc1.1, cell_keep hb3 hc1.2⟩; have ho2 := (Only.below HM.out.2.1 HK.out.2.2.2.2).trans ho1; have HZ : Hid (FindAt B w ((W1.alloc (.cells #[.slice none 0 0, .int .i64 0, .int .i64 0, .int .i64 0, .int .i64 0, .int .i64 0, .slice none 0 0, .slice none 0 0, .slice none 0 0, .slice none 0 0, .slice none 0 0, .slice none 0 0, .slice none 0 0] 100)).setRow W1.heap.size noF) F K C L W1.heap.size fnow code an so st pl (atT kn fnow) told mem dn most stale k) := Lib.hid ⟨hk1.on hb3, ho2.trans (Only.below hb3 (by have := ho2.bel.size; have := HK.out.2.2.2.2; omega)), hn0.on hb3, hf1.on hb3, blk_setRow hn1 noF⟩; clear hk1 ho1 hn1 hn0 hf1 hb3 hal ho2))
  all_goals go_split_ands
  · generalize (W1.alloc (.cells #[.slice none 0 0, .int .i64 0, .int .i64 0, .int .i64 0, .int .i64 0, .int .i64 0, .slice none 0 0, .slice none 0 0, .slice none 0 0, .slice none 0 0, .slice none 0 0, .slice none 0 0, .slice none 0 0] 100)).setRow W1.heap.size noF = Z at HZ ⊢
    have q2 : Z.cell? ⟨F, 2, none⟩ = some (.bool false) := HZ.out.find.cell 2
    clear c0 c1 i0 i1
    go_wp2_with (refine wpList_store_row rfl 100 _ _ rfl w.heap.size noF rfl rfl 100 noF HZ.out.own factSize rfl (factC_all zH zF) ?_)
    refine bodyPost_ret (fget_results (k := zH) (f := zF) rfl rfl (blk_setRow HZ.out.own noF)) rfl ?_
    exact ⟨rfl, HZ.out.keep.row HZ.out.own noF, only_row HZ.out.only (Nat.le_refl _) HK.out.2.2.2.2⟩
  · generalize W1.setRow (w.heap.size + 1) noF = Z at HZ ⊢
    have q2 : Z.cell? ⟨F, 2, none⟩ = some (.bool false) := HZ.out.find.cell 2
    clear c0 c1 i0 i1
    go_wp2_with (refine wpList_store_row rfl 100 _ _ rfl w.heap.size noF rfl rfl 100 noF HZ.out.own factSize rfl (factC_all zH zF) ?_)
    refine bodyPost_ret (fget_results (k := zH) (f := zF) rfl rfl (blk_setRow HZ.out.own noF)) rfl ?_
    exact ⟨rfl, HZ.out.keep.row HZ.out.own noF, only_row HZ.out.only (Nat.le_refl _) HK.out.2.2.2.2⟩
end
end Go.Proofs.YtgfibbjifbghdaaGreat

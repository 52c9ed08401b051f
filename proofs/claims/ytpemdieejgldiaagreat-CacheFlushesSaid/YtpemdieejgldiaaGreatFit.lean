/- Contracts of num.Fits, the reference's Fits, fit and empty. -/
import Derived.Test.YtpemdieejgldiaaGreatData
namespace Go.Proofs.YtpemdieejgldiaaGreat
open Go.ChangeShapes Go.WideShapes Go.ChangeAt Go.RowKit

def fitsB (n : Int) (size : Nat) : Bool := decide (0 ≤ n) && decide (n < (256 : Int) ^ size)
def fitB (l : List Int) (count size : Nat) : Bool := decide (l.length = count) && l.all fun n => fitsB n size
def emptyB (d : DataP) (b h m n t : Bool) : Bool :=
  (b || decide (d.bytes.length = 0)) && ((h || decide (d.host.length = 0)) && ((m || decide (d.mail.length = 0)) && ((n || decide (d.nums.length = 0)) && (t || decide (d.texts.length = 0)))))

theorem nfits2 (w : World) (n : Int) (hw : wfi n) : Calls Tryz.prog 81 #[.int .i64 n, .int .i64 2] w fun e w' => e = .returned (.bool (fitsB n 2)) ∧ w = w' := by
  by_cases h0 : 0 ≤ n
  · have d0 : decide (0 ≤ n) = true := decide_eq_true h0
    have HQ := Lib.hid (show (n / 65536 == 0) = decide (n < 65536) from by
      rw [Bool.eq_iff_iff, decide_eq_true_eq, beq_iff_eq]; omega)
    go_enter Tryz.func81, Tryz.ntmps81
    go_wp2
    go_ret
    refine ⟨ret_bool ?_, rfl⟩
    simp [fitsB, d0, HQ.out]
  · have d0 : decide (0 ≤ n) = false := decide_eq_false h0
    go_enter Tryz.func81, Tryz.ntmps81
    go_wp2
    go_ret
    exact ⟨ret_bool (by simp [fitsB, d0]), rfl⟩
theorem nfits4 (w : World) (n : Int) (hw : wfi n) : Calls Tryz.prog 81 #[.int .i64 n, .int .i64 4] w fun e w' => e = .returned (.bool (fitsB n 4)) ∧ w = w' := by
  by_cases h0 : 0 ≤ n
  · have d0 : decide (0 ≤ n) = true := decide_eq_true h0
    have HQ := Lib.hid (show (n / 4294967296 == 0) = decide (n < 4294967296) from by
      rw [Bool.eq_iff_iff, decide_eq_true_eq, beq_iff_eq]; omega)
    go_enter Tryz.func81, Tryz.ntmps81
    go_wp2
    go_ret
    refine ⟨ret_bool ?_, rfl⟩
    simp [fitsB, d0, HQ.out]
  · have d0 : decide (0 ≤ n) = false := decide_eq_false h0
    go_enter Tryz.func81, Tryz.ntmps81
    go_wp2
    go_ret
    exact ⟨ret_bool (by simp [fitsB, d0]), rfl⟩
theorem div_fits (n : Int) (h0 : 0 ≤ n) : ∀ size : Nat, (n / (256 : Int) ^ size == 0) = decide (n < (256 : Int) ^ size) := fun size => by
  have hp : (0 : Int) < (256 : Int) ^ size := Int.pow_pos (by omega)
  rw [Bool.eq_iff_iff, decide_eq_true_eq, beq_iff_eq]
  constructor
  · intro h
    have h1 := Int.emod_add_mul_ediv n ((256 : Int) ^ size)
    have h2 := Int.emod_lt_of_pos n hp
    rw [h, Int.mul_zero, Int.add_zero] at h1
    omega
  · intro h
    exact Int.ediv_eq_zero_of_lt h0 h
theorem rfits_any (w : World) (n : Int) (size : Nat) (hs1 : 1 ≤ size) (hs7 : size ≤ 7) (hw : wfi n) : Calls Tryz.prog 99 #[.int .i64 n, .int .i64 (size : Int)] w fun e w' => e = .returned (.bool (fitsB n size)) ∧ w = w' := by
  have d1 : decide ((size : Int) < 1) = false := by rw [decide_eq_false_iff_not]; omega
  have d2 : decide ((7 : Int) < (size : Int)) = false := by rw [decide_eq_false_iff_not]; omega
  by_cases h0 : 0 ≤ n
  · have d0 : decide (n < 0) = false := by rw [decide_eq_false_iff_not]; omega
    have HN := Lib.hid h0
    have HW := Lib.hid hw
    clear h0 hw
    go_enter Tryz.func99, Tryz.ntmps99
    go_wp2
    go_loop [0, 5] (fun nv i => ∃ k : Nat, k ≤ size ∧ i = .int .i64 k ∧ nv = .int .i64 (n / (256 : Int) ^ k)) (fun _ i => size - (intOf i).toNat)
    case atStart => exact ⟨0, Nat.zero_le _, rfl, by simp⟩
    case round =>
      obtain ⟨k, hk, rfl, rfl⟩ := hrel
      by_cases hlt : k < size
      · have hstep : Hid ((n / (256 : Int) ^ k) / 256 = n / (256 : Int) ^ (k + 1)) := by
          rw [Hid, Int.ediv_ediv_of_nonneg (by exact Int.pow_nonneg (by omega)), Int.pow_succ]
        have hpos : Hid (0 ≤ n / (256 : Int) ^ k) := Int.ediv_nonneg HN.out (Int.pow_nonneg (by omega))
        have hle : Hid (n / (256 : Int) ^ k ≤ n) := Int.ediv_le_self _ HN.out
        have hq : Hid ((n / (256 : Int) ^ k).tdiv 256 = n / (256 : Int) ^ (k + 1)) := by
          rw [Hid, Int.tdiv_eq_ediv_of_nonneg hpos.out]; exact hstep.out
        obtain ⟨q, hqe⟩ : ∃ q, q = n / (256 : Int) ^ k := ⟨_, rfl⟩
        rw [← hqe] at hpos hle hq ⊢
        have q0 := hpos.out
        have q1 : q ≤ 9223372036854775807 := by have := hle.out; have := HW.out.2; omega
        clear hqe
        go_wp2
        go_round
        case rel => exact ⟨k + 1, by omega, by go_num, by rw [← hq.out, Int.tdiv_eq_ediv_of_nonneg q0]⟩
        case measure => simp [intOf]; omega
      · obtain rfl : k = size := by omega
        have HD := Lib.hid (div_fits n HN.out k)
        go_wp2
        go_ret
        refine ⟨ret_bool ?_, rfl⟩
        rw [HD.out]
        simp [fitsB, HN.out]
  · have d0 : decide (n < 0) = true := by rw [decide_eq_true_eq]; omega
    have d3 : decide (0 ≤ n) = false := by rw [decide_eq_false_iff_not]; omega
    go_enter Tryz.func99, Tryz.ntmps99
    go_wp2
    go_ret
    exact ⟨ret_bool (by simp [fitsB, d3]), rfl⟩
theorem fit_any (w : World) (ao : Option Addr) (len cap : Nat) (l : List Int) (hl : Nums w ao len cap l) (hf : ∀ n ∈ l, wfi n) (count size : Nat) (hs1 : 1 ≤ size) (hs7 : size ≤ 7) :
    Calls Tryz.prog 64 #[.slice ao len cap, .int .i64 (count : Int), .int .i64 (size : Int)] w fun e w' => e = .returned (.bool (fitB l count size)) ∧ w = w' := by
  have hlen : l.length = len := by simpa using hl.hlen
  have hcap := hl.hcap
  have hle := hl.hle
  by_cases hc : len = count
  · subst hc
    have HF := Lib.hid hf
    have HL := Lib.hid hlen
    clear hf hlen
    go_enter Tryz.func64, Tryz.ntmps64
    go_wp2
    go_loop [7] (fun i => ∃ k : Nat, k ≤ len ∧ i = .int .i64 k ∧ Hid (∀ j (hj : j < l.length), j < k → fitsB l[j] size = true)) (fun i => len - (intOf i).toNat)
    case atStart => exact ⟨0, Nat.zero_le _, rfl, fun j hj h => absurd h (by omega)⟩
    case round =>
      obtain ⟨k, hk, rfl, hno⟩ := hrel
      by_cases hlt : k < len
      · obtain ⟨b, off, rfl⟩ := hl.addr hlt
        have hc := hl.at hlt
        rw [List.getElem_map] at hc
        have hkl : k < l.length := by have := HL.out; omega
        have hw1 := HF.out _ (List.getElem_mem hkl)
        obtain ⟨z, hz⟩ : ∃ z, z = l[k] := ⟨_, rfl⟩
        rw [← hz] at hc hw1
        have HZ := Lib.hid hz
        have HC := Lib.hid (rfits_any w z size hs1 hs7 hw1)
        clear hz hw1
        cases hb : fitsB z size
        all_goals
          rw [hb] at HC
          have HB := Lib.hid hb
          clear hb
        · go_wp2_with fail
          refine HC.out.mono ?_
          rintro e w' ⟨rfl, rfl⟩
          go_wp2_with fail
          go_ret
          refine ⟨ret_bool ?_, rfl⟩
          symm
          rw [fitB, Bool.and_eq_false_iff]
          right
          rw [List.all_eq_false]
          exact ⟨z, by rw [HZ.out]; exact List.getElem_mem _, by simp [HB.out]⟩
        · go_wp2_with fail
          refine HC.out.mono ?_
          rintro e w' ⟨rfl, rfl⟩
          go_wp2_with fail
          go_round
          case rel =>
            refine ⟨k + 1, by omega, by go_num, fun j hj h => ?_⟩
            rcases Nat.lt_succ_iff_lt_or_eq.1 h with h | rfl
            · exact hno.out j hj h
            · rw [← HZ.out]; exact HB.out
          case measure => simp [intOf]; omega
      · go_wp2
        go_ret
        refine ⟨ret_bool ?_, rfl⟩
        symm
        rw [fitB, Bool.and_eq_true, decide_eq_true_eq, List.all_eq_true]
        refine ⟨HL.out, fun x hx => ?_⟩
        obtain ⟨j, hj, rfl⟩ := List.getElem_of_mem hx
        exact hno.out j hj (by have := HL.out; omega)
  · have d1 : ((len : Int) != (count : Int)) = true := by rw [bne_iff_ne]; omega
    go_enter Tryz.func64, Tryz.ntmps64
    go_wp2
    go_ret
    exact ⟨ret_bool (by simp [fitB, hlen, hc]), rfl⟩
set_option maxHeartbeats 4000000 in
set_option maxRecDepth 100000 in
theorem empty_any (w : World) (h : DataH) (d : DataP) (hd : DataLen h d) (b1 b2 b3 b4 b5 : Bool) :
    Calls Tryz.prog 63 #[.agg (dataC h), .bool b1, .bool b2, .bool b3, .bool b4, .bool b5] w fun e w' => e = .returned (.bool (emptyB d b1 b2 b3 b4 b5)) ∧ Below w.heap.size w w' := by
  have hB : Blk (w.alloc (.cells (dataC h) 34)) w.heap.size (dataC h) 34 := heap_alloc_new w _
  obtain ⟨ba, bl, bc, ha, hl, hc, ma, ml, mc, na, nl, nc, ta, tl, tc⟩ := h
  obtain ⟨e0, e1, e2, e3, e4⟩ := hd
  simp only [dataC] at *
  have c0 := hB.cell 0
  have c1 := hB.cell 1
  have c2 := hB.cell 2
  have c3 := hB.cell 3
  have c4 := hB.cell 4
  simp at c0 c1 c2 c3 c4
  have HE := Lib.hid (show ∀ x, x = emptyB d b1 b2 b3 b4 b5 → x = ((b1 || decide (bl = 0)) && ((b2 || decide (hl = 0)) && ((b3 || decide (ml = 0)) && ((b4 || decide (nl = 0)) && (b5 || decide (tl = 0)))))) from by
    rintro x rfl; simp only [emptyB, e0, e1, e2, e3, e4])
  obtain ⟨E, hE⟩ : ∃ x, x = emptyB d b1 b2 b3 b4 b5 := ⟨_, rfl⟩
  rw [← hE]
  have HE2 := Lib.hid (HE.out E hE)
  clear hB e0 e1 e2 e3 e4 hE HE
  go_enter Tryz.func63, Tryz.ntmps63
  go_wp2
  all_goals
    go_ret
    refine ⟨ret_bool ?_, (Below.refl _ _).alloc (Nat.le_refl _) _⟩
    rw [HE2.out]
    clear HE2
    simp_all
    try (rw [Bool.eq_iff_iff, beq_iff_eq, decide_eq_true_eq]; omega)
end Go.Proofs.YtpemdieejgldiaaGreat

/- Contracts of num.Fits, the reference's Fits, fit and empty. -/
import Derived.Test.YtgfibbjifbghdaaGreatData
namespace Go.Proofs.YtgfibbjifbghdaaGreat
open Go.ChangeShapes Go.WideShapes Go.ChangeAt Go.RowKit

def fitsB (n : Int) (size : Nat) : Bool := decide (0 ≤ n) && decide (n < (256 : Int) ^ size)
def fitB (l : List Int) (count size : Nat) : Bool := decide (l.length = count) && l.all fun n => fitsB n size
def emptyB (d : DataP) (b h m n t : Bool) : Bool :=
  (b || decide (d.bytes.length = 0)) && ((h || decide (d.host.length = 0)) && ((m || decide (d.mail.length = 0)) && ((n || decide (d.nums.length = 0)) && (t || decide (d.texts.length = 0)))))

theorem nfits2 (w : World) (n : Int) (hw : wfi n) : Calls Tryz.prog 94 #[.int .i64 n, .int .i64 2] w fun e w' => e = .returned (.bool (fitsB n 2)) ∧ w = w' := by
  by_cases h0 : 0 ≤ n
  · have d0 : decide (0 ≤ n) = true := decide_eq_true h0
    have HQ := Lib.hid (show (n / 65536 == 0) = decide (n < 65536) from by
      rw [Bool.eq_iff_iff, decide_eq_true_eq, beq_iff_eq]; omega)
    go_enter Tryz.func94, Tryz.ntmps94
    go_wp2
    go_ret
    refine ⟨ret_bool ?_, rfl⟩
    simp [fitsB, d0, HQ.out]
  · have d0 : decide (0 ≤ n) = false := decide_eq_false h0
    go_enter Tryz.func94, Tryz.ntmps94
    go_wp2
    go_ret
    exact ⟨ret_bool (by simp [fitsB, d0]), rfl⟩
theorem nfits4 (w : World) (n : Int) (hw : wfi n) : Calls Tryz.prog 94 #[.int .i64 n, .int .i64 4] w fun e w' => e = .returned (.bool (fitsB n 4)) ∧ w = w' := by
  by_cases h0 : 0 ≤ n
  · have d0 : decide (0 ≤ n) = true := decide_eq_true h0
    have HQ := Lib.hid (show (n / 4294967296 == 0) = decide (n < 4294967296) from by
      rw [Bool.eq_iff_iff, decide_eq_true_eq, beq_iff_eq]; omega)
    go_enter Tryz.func94, Tryz.ntmps94
    go_wp2
    go_ret
    refine ⟨ret_bool ?_, rfl⟩
    simp [fitsB, d0, HQ.out]
  · have d0 : decide (0 ≤ n) = false := decide_eq_false h0
    go_enter Tryz.func94, Tryz.ntmps94
    go_wp2
    go_ret
    exact ⟨ret_bool (by simp [fitsB, d0]), rfl⟩
theorem div_fits (n : Int) (h0 : 0 ≤ n) : ∀ size : Nat, (n / (256 : Int) ^ size == 0) = decide (n < (256 : Int) ^ size) := fun size => by
  have hp : (0 : Int) < (256 : Int) ^ size := Int.pow_pos (by omega)
  rw [Bool.eq_iff_iff, decide_eq_true_eq, beq_iff_eq]
  constructor
  · intro h
    have h1 := Int.emod_add_mul_ediv n ((256 : Int) ^ size)
    have h2 := Int.emod_lt_of_pos n hp
    rw [h, Int.mul_zero, Int.add_zero] at h1
    omega
  · intro h
    exact Int.ediv_eq_zero_of_lt h0 h
end Go.Proofs.YtgfibbjifbghdaaGreat

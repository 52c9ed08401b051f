/- Contracts of the seconds of package ttl and of the reference's. -/
import Derived.Test.YtgfibbjifbghdaaGreatBase
import Derived.Test.YtgfibbjifbghdaaGreatRows
namespace Go.Proofs.YtgfibbjifbghdaaGreat
open Go.ChangeShapes Go.WideShapes Go.ChangeAt Go.RowKit

def timeB (t : Int) : Bool := decide (0 ≤ t ∧ t ≤ 36028797018963968)
theorem timeB_yes {t : Int} (h0 : 0 ≤ t) (h1 : t ≤ 36028797018963968) : timeB t = true := by simp [timeB, h0, h1]
theorem timeB_lo {t : Int} (h0 : t < 0) : timeB t = false := by simp [timeB]; omega
theorem timeB_hi {t : Int} (h0 : 36028797018963968 < t) : timeB t = false := by simp [timeB]; omega
theorem timeB_out {t : Int} (h : timeB t = true) : 0 ≤ t ∧ t ≤ 36028797018963968 := by simpa [timeB] using h

theorem time_any (t : Int) (w : World) :
    Calls Tryz.prog 25 #[.int .i64 t] w fun e w' => e = .returned (.bool (timeB t)) ∧ w = w' := by
  go_enter Tryz.func25, Tryz.ntmps25
  go_wp2
  all_goals
    go_ret
    exact ⟨ret_bool (by simp [timeB]; omega), rfl⟩
theorem rtime_any (t : Int) (w : World) :
    Calls Tryz.prog 5 #[.int .i64 t] w fun e w' => e = .returned (.bool (timeB t)) ∧ w = w' := by
  go_enter Tryz.func5, Tryz.ntmps5
  go_wp2
  all_goals
    go_ret
    exact ⟨ret_bool (by simp [timeB]; omega), rfl⟩
def leftZ (got ttl now : Int) : Int := if timeB got && (timeB ttl && timeB now) then max (ttl - max (now - got) 0) 0 else 0
theorem leftZ_yes {got ttl now : Int} (h0 : timeB got = true) (h1 : timeB ttl = true) (h2 : timeB now = true) : leftZ got ttl now = max (ttl - max (now - got) 0) 0 := by simp [leftZ, h0, h1, h2]
theorem left_any (got ttl now : Int) (w : World) :
    Calls Tryz.prog 123 #[.int .i64 got, .int .i64 ttl, .int .i64 now] w fun e w' => e = .returned (.int .i64 (leftZ got ttl now)) ∧ w = w' := by
  cases hg : timeB got
  · go_enter Tryz.func123, Tryz.ntmps123
    go_wp2_with (go_at_call 25; refine (time_any _ _).mono ?_; rintro e w' ⟨rfl, rfl⟩)
    go_ret
    exact ⟨ret_int (by simp [leftZ, hg]), rfl⟩
  cases ht : timeB ttl
  · go_enter Tryz.func123, Tryz.ntmps123
    go_wp2_with (go_at_call 25; refine (time_any _ _).mono ?_; rintro e w' ⟨rfl, rfl⟩)
    go_ret
    exact ⟨ret_int (by simp [leftZ, ht]), rfl⟩
  cases hn : timeB now
  · go_enter Tryz.func123, Tryz.ntmps123
    go_wp2_with (go_at_call 25; refine (time_any _ _).mono ?_; rintro e w' ⟨rfl, rfl⟩)
    go_ret
    exact ⟨ret_int (by simp [leftZ, hn]), rfl⟩
  have ⟨g0, g1⟩ := timeB_out hg
  have ⟨t0, t1⟩ := timeB_out ht
  have ⟨n0, n1⟩ := timeB_out hn
  go_enter Tryz.func123, Tryz.ntmps123
  go_wp2_with (go_at_call 25; refine (time_any _ _).mono ?_; rintro e w' ⟨rfl, rfl⟩)
  all_goals
    go_ret
    exact ⟨ret_int (by rw [leftZ_yes hg ht hn]; omega), rfl⟩

theorem leftZ_def {got ttl now : Int} : leftZ got ttl now = if timeB got && (timeB ttl && timeB now) then max (ttl - max (now - got) 0) 0 else 0 := rfl
theorem leftZ_bd (got ttl now : Int) : 0 ≤ leftZ got ttl now ∧ leftZ got ttl now ≤ 36028797018963968 := by
  unfold leftZ
  split
  · rename_i h
    simp only [Bool.and_eq_true] at h
    have ⟨g0, g1⟩ := timeB_out h.2.1
    omega
  · omega
theorem fresh_any (got ttl now : Int) (w : World) :
    Calls Tryz.prog 78 #[.int .i64 got, .int .i64 ttl, .int .i64 now] w fun e w' => e = .returned (.bool (decide (0 < leftZ got ttl now))) ∧ w = w' := by
  go_enter Tryz.func78, Tryz.ntmps78
  go_wp2_with (go_at_call 123; refine (left_any _ _ _ _).mono ?_; rintro e w' ⟨rfl, rfl⟩)
  go_ret
  exact ⟨ret_bool rfl, rfl⟩

def staleB (got ttl window now : Int) : Bool := timeB got && (timeB ttl && (timeB now && (timeB window && (decide (leftZ got ttl now = 0) && decide (now < got + ttl + window)))))
theorem stale_val {got ttl window now : Int} (hg : timeB got = true) (ht : timeB ttl = true) (hn : timeB now = true) (hw : timeB window = true) (l0 : 0 ≤ leftZ got ttl now) {b c : Bool} (hb : b = !decide (0 < leftZ got ttl now)) (hc : c = decide (now < got + ttl + window)) : (b && c) = staleB got ttl window now := by
  subst hb; subst hc
  have e : decide (leftZ got ttl now = 0) = !decide (0 < leftZ got ttl now) := by
    by_cases h : 0 < leftZ got ttl now
    · have : ¬ leftZ got ttl now = 0 := by omega
      simp [h, this]
    · have : leftZ got ttl now = 0 := by omega
      simp [this]
  rw [staleB, hg, ht, hn, hw, e]; simp
theorem stale_any (got ttl window now : Int) (w : World) :
    Calls Tryz.prog 166 #[.int .i64 got, .int .i64 ttl, .int .i64 window, .int .i64 now] w fun e w' => e = .returned (.bool (staleB got ttl window now)) ∧ w = w' := by
  cases hg : timeB got
  · go_enter Tryz.func166, Tryz.ntmps166
    go_wp2_with (go_at_call 25; refine (time_any _ _).mono ?_; rintro e w' ⟨rfl, rfl⟩)
    go_ret
    exact ⟨ret_bool (by simp [staleB, hg]), rfl⟩
  cases ht : timeB ttl
  · go_enter Tryz.func166, Tryz.ntmps166
    go_wp2_with (go_at_call 25; refine (time_any _ _).mono ?_; rintro e w' ⟨rfl, rfl⟩)
    go_ret
    exact ⟨ret_bool (by simp [staleB, ht]), rfl⟩
  cases hn : timeB now
  · go_enter Tryz.func166, Tryz.ntmps166
    go_wp2_with (go_at_call 25; refine (time_any _ _).mono ?_; rintro e w' ⟨rfl, rfl⟩)
    go_ret
    exact ⟨ret_bool (by simp [staleB, hn]), rfl⟩
  cases hw : timeB window
  · go_enter Tryz.func166, Tryz.ntmps166
    go_wp2_with (go_at_call 25; refine (time_any _ _).mono ?_; rintro e w' ⟨rfl, rfl⟩)
    go_ret
    exact ⟨ret_bool (by simp [staleB, hw]), rfl⟩
  have ⟨g0, g1⟩ := timeB_out hg
  have ⟨t0, t1⟩ := timeB_out ht
  have ⟨n0, n1⟩ := timeB_out hn
  have ⟨w0, w1⟩ := timeB_out hw
  have ⟨l0, l1⟩ := leftZ_bd got ttl now
  by_cases hl : 0 < leftZ got ttl now
  all_goals
    go_enter Tryz.func166, Tryz.ntmps166
    go_wp2_with (first | (go_at_call 25; refine (time_any _ _).mono ?_; rintro e w' ⟨rfl, rfl⟩) | (go_at_call 78; refine (fresh_any _ _ _ _).mono ?_; rintro e w' ⟨rfl, rfl⟩))
    go_ret
    refine ⟨ret_bool ?_, rfl⟩
    have H := stale_val hg ht hn hw l0 rfl rfl
    rw [← H]; try simp
    try omega
end Go.Proofs.YtgfibbjifbghdaaGreat

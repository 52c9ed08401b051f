/- What a string's row of the table is; the contract of the reference's Exact. -/
import Derived.Test.YtpemdieejgldiaaGreatEqual
import Derived.BigQuiet
import Derived.Deep.QuietTactic
import Derived.WalkSpells
namespace Go.Proofs.YtpemdieejgldiaaGreat
open Go.ChangeShapes Go.WideShapes Go.ChangeAt Go.RowKit

theorem strInfo : (Tryz.prog.info? 9).map (fun i => (i.zero, i.size, i.bytes)) = some (some (.string ByteArray.empty), 1, 16) := by kernel_rfl

def exactB (a b : List ByteArray) : Bool := decide (a = b)

set_option maxHeartbeats 1000000 in
theorem exact_any (w : World) (ao bo : Option Addr) (la ca lb cb : Nat) (sa sb : List ByteArray) (ha : Strs w ao la ca sa) (hb : Strs w bo lb cb sb) :
    Calls Tryz.prog 98 #[.slice ao la ca, .slice bo lb cb] w fun e w' => e = .returned (.bool (exactB sa sb)) ∧ Below w.heap.size w w' := by
  have hla := ha.len
  have hlb := hb.len
  have hmx := ha.row.hmax
  have hca := ha.row.hcap
  have hle := ha.row.hle
  have hcb := hb.row.hcap
  have hleb := hb.row.hle
  by_cases hll : la = lb
  · subst hll
    go_enter Tryz.func98, Tryz.ntmps98
    go_wp2
    go_loopw [5] (fun i wr => ∃ k : Nat, k ≤ la ∧ i = .int .i64 k ∧ Below w.heap.size w wr ∧ Hid (∀ j (hj : j < sa.length) (hj' : j < sb.length), j < k → sa[j] = sb[j])) (fun i _ => la - (intOf i).toNat)
    case atStart => exact ⟨0, Nat.zero_le _, rfl, Below.refl _ _, fun j hj _ h => absurd h (by omega)⟩
    case round =>
      obtain ⟨k, hk, rfl, hbr, hno⟩ := hrel
      by_cases hlt : k < la
      · obtain ⟨b1, off1, rfl⟩ := ha.row.addr hlt
        obtain ⟨b2, off2, rfl⟩ := hb.row.addr hlt
        have hc1 := (ha.below hbr (Nat.le_refl _)).at hlt
        have hc2 := (hb.below hbr (Nat.le_refl _)).at hlt
        obtain ⟨x, hxk⟩ : ∃ x, x = sa[k] := ⟨_, rfl⟩
        obtain ⟨y, hyk⟩ : ∃ y, y = sb[k] := ⟨_, rfl⟩
        rw [← hxk] at hc1
        rw [← hyk] at hc2
        have HX := Lib.hid hxk; clear hxk
        have HY := Lib.hid hyk; clear hyk
        have hkp : (0 : Int) ≤ (k : Int) := Int.natCast_nonneg _
        have hkl : (k : Int) < (la : Int) := by omega
        by_cases hs : x = y
        all_goals
          have hT : (x.toList == y.toList) = decide (x = y) := toList_beq _ _
          have HS := Lib.hid hs
        · rw [decide_eq_true hs] at hT
          clear hs
          go_wp2_with fail
          go_quiet (fail)
          go_wp2
          go_roundw
          case rel =>
            refine ⟨k + 1, by omega, by go_num, below_drewN hbr _, fun j hj hj' h => ?_⟩
            rcases Nat.lt_succ_iff_lt_or_eq.1 h with h | rfl
            · exact hno.out j hj hj' h
            · rw [← HX.out, ← HY.out]; exact HS.out
          case measure => simp [intOf]; omega
        · rw [decide_eq_false hs] at hT
          clear hs
          go_wp2_with fail
          go_quiet (fail)
          go_wp2
          go_ret
          refine ⟨ret_bool ?_, below_drewN hbr _⟩
          have : ¬ sa = sb := by
            intro e; subst e
            exact HS.out (HX.out.trans HY.out.symm)
          simp [exactB, this]
      · go_wp2
        go_ret
        refine ⟨ret_bool ?_, hbr⟩
        have : sa = sb := List.ext_getElem (by omega) (fun j h1 h2 => hno.out j h1 h2 (by omega))
        simp [exactB, this]
  · have hne : ((la : Int) != (lb : Int)) = true := by rw [bne_iff_ne]; omega
    go_enter Tryz.func98, Tryz.ntmps98
    go_wp2
    go_ret
    refine ⟨ret_bool ?_, Below.refl _ _⟩
    have : ¬ sa = sb := by intro e; subst e; omega
    simp [exactB, this]
end Go.Proofs.YtpemdieejgldiaaGreat

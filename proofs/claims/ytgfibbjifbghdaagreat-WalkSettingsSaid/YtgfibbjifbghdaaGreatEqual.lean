/- Contracts of name.Equal, name.Under and the reference's: labels with small letters the same. -/
import Derived.Test.YtgfibbjifbghdaaGreatSmall
import Derived.Deep.RegionHeld3
namespace Go.Proofs.YtgfibbjifbghdaaGreat
open Go.ChangeShapes Go.WideShapes Go.ChangeAt Go.RowKit

def sameL (x y : ByteArray) : Bool := decide (small x = small y)
theorem toList_beq (x y : ByteArray) : (x.toList == y.toList) = decide (x = y) := by
  rw [Bool.eq_iff_iff, beq_iff_eq, decide_eq_true_iff, ByteArray.toList_eq, ByteArray.toList_eq]
  constructor
  · intro h
    cases x; cases y
    simp at h
    rw [h]
  · intro h; rw [h]

theorem equal1_any (w : World) (x y : ByteArray) (hx : x.size ≤ 9223372036854775807) (hy : y.size ≤ 9223372036854775807) :
    Calls Tryz.prog 81 #[.string x, .string y] w fun e w' => e = .returned (.bool (sameL x y)) ∧ Below w.heap.size w w' := by
  go_enter Tryz.func81, Tryz.ntmps81
  go_wp2_with fail
  refine (small_any _ _ hx).mono ?_
  rintro e w1 ⟨rfl, hb1⟩
  go_wp2_with fail
  refine (small_any _ _ hy).mono ?_
  rintro e w2 ⟨rfl, hb2⟩
  go_wp2
  go_ret
  exact ⟨ret_bool (toList_beq _ _), below_on hb1 hb2 (Nat.le_refl _)⟩

def eqB (a b : List ByteArray) : Bool := decide (a.map small = b.map small)
theorem eqB_len {a b : List ByteArray} (h : ¬ a.length = b.length) : eqB a b = false := by
  simp only [eqB, decide_eq_false_iff_not]
  intro e
  exact h (by simpa using congrArg List.length e)
theorem eqB_no {a b : List ByteArray} {k : Nat} (ha : k < a.length) (hb : k < b.length) (h : sameL a[k] b[k] = false) : eqB a b = false := by
  simp only [eqB, decide_eq_false_iff_not]
  intro e
  simp only [sameL, decide_eq_false_iff_not] at h
  apply h
  have := congrArg (fun l => l[k]?) e
  simpa [ha, hb] using this
theorem eqB_yes {a b : List ByteArray} (hl : a.length = b.length) (h : ∀ k (ha : k < a.length) (hb : k < b.length), sameL a[k] b[k] = true) : eqB a b = true := by
  simp only [eqB, decide_eq_true_iff]
  apply List.ext_getElem
  · simpa using hl
  · intro i h1 h2
    simp at h1 h2
    have := h i h1 h2
    simp only [sameL, decide_eq_true_iff] at this
    simpa using this

theorem equalFunc_any (w : World) (ao bo : Option Addr) (la ca lb cb : Nat) (sa sb : List ByteArray) (ha : Strs w ao la ca sa) (hb : Strs w bo lb cb sb) :
    Calls Tryz.prog 80 #[.slice ao la ca, .slice bo lb cb, .func (.func 81) #[] #[]] w fun e w' => e = .returned (.bool (eqB sa sb)) ∧ Below w.heap.size w w' := by
  have hla := ha.len
  have hlb := hb.len
  have hca := ha.row.hcap
  have hle := ha.row.hle
  have hcb := hb.row.hcap
  have hleb := hb.row.hle
  by_cases hll : la = lb
  · subst hll
    go_enter Tryz.func80, Tryz.ntmps80
    go_wp2
    go_loopw [17, 7, 8, 9] (fun i _ _ _ wr => ∃ k : Nat, k ≤ la ∧ i = .int .i64 k ∧ Below w.heap.size w wr ∧ Hid (∀ j (hj : j < sa.length) (hj' : j < sb.length), j < k → sameL sa[j] sb[j] = true)) (fun i _ _ _ _ => la - (intOf i).toNat)
    case atStart => exact ⟨0, Nat.zero_le _, rfl, Below.refl _ _, fun j hj _ h => absurd h (by omega)⟩
    case round =>
      obtain ⟨k, hk, rfl, hbr, hno⟩ := hrel
      by_cases hlt : k < la
      · obtain ⟨b1, off1, rfl⟩ := ha.row.addr hlt
        obtain ⟨b2, off2, rfl⟩ := hb.row.addr hlt
        have hc1 := (ha.below hbr (Nat.le_refl _)).at hlt
        have hc2 := (hb.below hbr (Nat.le_refl _)).at hlt
        have hx := ha.get_small (i := k) (by omega)
        have hy := hb.get_small (i := k) (by omega)
        obtain ⟨x, hxk⟩ : ∃ x, x = sa[k] := ⟨_, rfl⟩
        obtain ⟨y, hyk⟩ : ∃ y, y = sb[k] := ⟨_, rfl⟩
        rw [← hxk] at hc1 hx
        rw [← hyk] at hc2 hy
        have HX := Lib.hid hxk; clear hxk
        have HY := Lib.hid hyk; clear hyk
        cases hs : sameL x y
        all_goals
          have HS := Lib.hid hs
          go_wp2_with fail
          refine (equal1_any _ _ _ hx hy).mono ?_
          rintro e w2 ⟨rfl, hb2⟩
          go_wp2
        · go_ret
          exact ⟨ret_bool (eqB_no (k := k) (by omega) (by omega) (by rw [← HX.out, ← HY.out]; exact HS.out)).symm, below_on hbr hb2 (Nat.le_refl _)⟩
        · go_roundw
          case rel =>
            refine ⟨k + 1, by omega, by go_num, below_on hbr hb2 (Nat.le_refl _), fun j hj hj' h => ?_⟩
            rcases Nat.lt_succ_iff_lt_or_eq.1 h with h | rfl
            · exact hno.out j hj hj' h
            · rw [← HX.out, ← HY.out]; exact HS.out
          case measure => simp [intOf]; omega
      · go_wp2
        go_ret
        exact ⟨ret_bool (eqB_yes (by omega) fun j hj hj' => hno.out j hj hj' (by omega)).symm, hbr⟩
  · have hne : ((la : Int) != (lb : Int)) = true := by rw [bne_iff_ne]; omega
    go_enter Tryz.func80, Tryz.ntmps80
    go_wp2
    go_ret
    exact ⟨ret_bool (eqB_len (by omega)).symm, Below.refl _ _⟩

theorem equal_any (w : World) (ao bo : Option Addr) (la ca lb cb : Nat) (sa sb : List ByteArray) (ha : Strs w ao la ca sa) (hb : Strs w bo lb cb sb) :
    Calls Tryz.prog 51 #[.slice ao la ca, .slice bo lb cb] w fun e w' => e = .returned (.bool (eqB sa sb)) ∧ Below w.heap.size w w' := by
  go_enter Tryz.func51, Tryz.ntmps51
  go_wp2_with fail
  refine (equalFunc_any _ _ _ _ _ _ _ _ _ ha hb).mono ?_
  rintro e w2 ⟨rfl, hb2⟩
  go_wp2
  go_ret
  exact ⟨rfl, hb2⟩

def underB (n z : List ByteArray) : Bool := decide (z.length ≤ n.length) && eqB (n.drop (n.length - z.length)) z

theorem under_any (w : World) (ao bo : Option Addr) (la ca lb cb : Nat) (sa sb : List ByteArray) (ha : Strs w ao la ca sa) (hb : Strs w bo lb cb sb) :
    Calls Tryz.prog 112 #[.slice ao la ca, .slice bo lb cb] w fun e w' => e = .returned (.bool (underB sa sb)) ∧ Below w.heap.size w w' := by
  have hla := ha.len
  have hlb := hb.len
  have hca := ha.row.hcap
  have hle := ha.row.hle
  have hcb := hb.row.hcap
  have hleb := hb.row.hle
  by_cases hll : lb ≤ la
  · go_enter Tryz.func112, Tryz.ntmps112
    go_wp2_with fail
    · refine (equal_any _ _ _ _ _ _ _ _ _ (ha.cut0 (k := la - lb) (by omega) (by omega)) hb).mono ?_
      rintro e w2 ⟨rfl, hb2⟩
      go_wp2
      go_ret
      exact ⟨ret_bool (by simp only [underB, hla, hlb, hll, decide_true, Bool.true_and]), hb2⟩
    · refine (equal_any _ _ _ _ _ _ _ _ _ (ha.cut (k := la - lb) (by omega)) hb).mono ?_
      rintro e w2 ⟨rfl, hb2⟩
      go_wp2
      go_ret
      exact ⟨ret_bool (by simp only [underB, hla, hlb, hll, decide_true, Bool.true_and]), hb2⟩
  · go_enter Tryz.func112, Tryz.ntmps112
    go_wp2
    go_ret
    exact ⟨ret_bool (by simp [underB]; omega), Below.refl _ _⟩

end Go.Proofs.YtgfibbjifbghdaaGreat

/- The contract of the reference's Cmp. -/
import Derived.Test.YtelikppfiaobcaaDoorCmpLaw
import Derived.WalkLawsBesides
namespace Go.Proofs.YtelikppfiaobcaaDoor
open Go.ChangeShapes Go.WideShapes Go.ChangeAt Go.RowKit

theorem bytesLess_eq : ∀ x y : List UInt8, Op.bytesLess x y = decide (Lib.compareBytes x y < 0)
  | [], [] => by simp [Op.bytesLess, Lib.compareBytes]
  | [], _ :: _ => by simp [Op.bytesLess, Lib.compareBytes]
  | _ :: _, [] => by simp [Op.bytesLess, Lib.compareBytes]
  | a :: xs, b :: ys => by
    rcases byte_cases a b with h | rfl | h
    · rw [compareBytes_lt h, Op.bytesLess]; simp [h]
    · rw [compareBytes_eq, Op.bytesLess, bytesLess_eq xs ys]; simp
    · rw [compareBytes_gt h, Op.bytesLess]
      have h1 := byte_asymm h
      have h2 : ¬ a = b := by rintro rfl; exact byte_irrefl _ h
      simp [h1]
      intro e; exact absurd e h2

theorem less_yes {x y : ByteArray} (h : cmpL x y < 0) : Op.bytesLess (small x).toList (small y).toList = true := by
  rw [bytesLess_eq, ByteArray.toList_eq, ByteArray.toList_eq, decide_eq_true_iff]; exact h
theorem less_no {x y : ByteArray} (h : 0 ≤ cmpL x y) : Op.bytesLess (small x).toList (small y).toList = false := by
  rw [bytesLess_eq, ByteArray.toList_eq, ByteArray.toList_eq, decide_eq_false_iff_not]
  unfold cmpL at h
  omega
theorem cmpL_zero (x y : ByteArray) : cmpL x y = 0 ↔ small x = small y := by
  rw [cmpL, compareBytes_zero]
  constructor
  · intro h; apply ByteArray.ext; exact Array.toList_inj.1 h
  · intro h; rw [h]
theorem eq_no {x y : ByteArray} (h : ¬ cmpL x y = 0) : ((small x).toList == (small y).toList) = false := by
  rw [toList_beq, decide_eq_false_iff_not]
  exact fun e => h ((cmpL_zero x y).2 e)
theorem eq_yes {x y : ByteArray} (h : cmpL x y = 0) : ((small x).toList == (small y).toList) = true := by
  rw [toList_beq, decide_eq_true_iff]
  exact (cmpL_zero x y).1 h
theorem cmpL_bound (x y : ByteArray) : -1 ≤ cmpL x y ∧ cmpL x y ≤ 1 := by
  have := cmpR_bound [x] [y]
  simp only [cmpR] at this
  split at this
  · rename_i h; omega
  · exact this

set_option maxHeartbeats 1000000 in
theorem rcmp_any (w : World) (ao bo : Option Addr) (la ca lb cb : Nat) (sa sb : List ByteArray) (ha : Strs w ao la ca sa) (hb : Strs w bo lb cb sb) :
    Calls Tryd.prog 23 #[.slice ao la ca, .slice bo lb cb] w fun e w' => e = .returned (.int .i64 (cmpN sa sb)) ∧ Below w.heap.size w w' := by
  have hla := ha.len
  have hlb := hb.len
  have hmx := ha.row.hmax
  have hmb := hb.row.hmax
  have hca := ha.row.hcap
  have hle := ha.row.hle
  have hcb := hb.row.hcap
  have hleb := hb.row.hle
  go_enter Tryd.func23, Tryd.ntmps23
  go_wp2
  go_loopw [5, 6, 7] (fun i _ _ wr => ∃ m : Nat, 1 ≤ m ∧ m ≤ la + 1 ∧ m ≤ lb + 1 ∧ i = .int .i64 m ∧ Below w.heap.size w wr ∧ Hid (cmpN sa sb = cmpR (sa.reverse.drop (m - 1)) (sb.reverse.drop (m - 1)))) (fun i _ _ _ => la + 1 - (intOf i).toNat)
  case atStart => exact ⟨1, Nat.le_refl _, by omega, by omega, rfl, Below.refl _ _, rfl⟩
  case round =>
    obtain ⟨m, hm, hk, hk2, rfl, hbr, hno⟩ := hrel
    by_cases hlt : m ≤ la
    · by_cases hlt2 : m ≤ lb
      · obtain ⟨b1, off1, rfl⟩ := ha.row.addr (k := m - 1) (by omega)
        obtain ⟨b2, off2, rfl⟩ := hb.row.addr (k := m - 1) (by omega)
        have hc1 := (ha.below hbr (Nat.le_refl _)).at (i := la - m) (by omega)
        have hc2 := (hb.below hbr (Nat.le_refl _)).at (i := lb - m) (by omega)
        have hx := ha.get_small (i := la - m) (by omega)
        have hy := hb.get_small (i := lb - m) (by omega)
        have hstep := cmpR_step sa sb m hm (by omega) (by omega)
        obtain ⟨x, hxk⟩ : ∃ x, x = sa[la - m]'(by omega) := ⟨_, rfl⟩
        obtain ⟨y, hyk⟩ : ∃ y, y = sb[lb - m]'(by omega) := ⟨_, rfl⟩
        simp only [hla, hlb] at hstep
        rw [← hxk] at hc1 hx hstep
        rw [← hyk] at hc2 hy hstep
        have HS := Lib.hid hstep
        clear hxk hyk hstep
        have hbd := cmpL_bound x y
        rcases (show cmpL x y < 0 ∨ cmpL x y = 0 ∨ 0 < cmpL x y by omega) with hz | hz | hz
        · have q1 := less_yes hz
          have HZ := Lib.hid (show cmpL x y = -1 by omega); clear hz hbd
          go_wp2_with fail
          refine (rsmall_any _ _ hx).mono ?_
          rintro e x1 ⟨rfl, hb1⟩
          have hc3 := cell_keep hb1 hc2
          have hbb := below_on hbr hb1 (Nat.le_refl _)
          clear hc1 hc2 hbr hb1
          go_wp2_with fail
          refine (rsmall_any _ _ hy).mono ?_
          rintro e x2 ⟨rfl, hb2⟩
          have hbe := below_on hbb hb2 (Nat.le_refl _)
          clear hc3 hbb hb2
          go_wp2
          go_ret
          exact ⟨ret_int (by rw [hno.out, HS.out]; have := HZ.out; rw [if_neg (by omega)]; omega), hbe⟩
        · have q1 := less_no (show 0 ≤ cmpL x y by omega)
          have q2 := eq_yes hz
          have HZ := Lib.hid hz; clear hz hbd
          go_wp2_with fail
          refine (rsmall_any _ _ hx).mono ?_
          rintro e x1 ⟨rfl, hb1⟩
          have hc3 := cell_keep hb1 hc2
          have hbb := below_on hbr hb1 (Nat.le_refl _)
          clear hc1 hc2 hbr hb1
          go_wp2_with fail
          refine (rsmall_any _ _ hy).mono ?_
          rintro e x2 ⟨rfl, hb2⟩
          have hbe := below_on hbb hb2 (Nat.le_refl _)
          clear hc3 hbb hb2
          go_wp2
          go_roundw
          case rel =>
            refine ⟨m + 1, by omega, by omega, by omega, by go_num, by assumption, ?_⟩
            rw [Nat.add_sub_cancel]
            exact hno.out.trans (by rw [HS.out, if_pos HZ.out])
          case measure => simp [intOf]; omega
        · have q1 := less_no (show 0 ≤ cmpL x y by omega)
          have q2 := eq_no (show ¬ cmpL x y = 0 by omega)
          have HZ := Lib.hid (show cmpL x y = 1 by omega); clear hz hbd
          go_wp2_with fail
          refine (rsmall_any _ _ hx).mono ?_
          rintro e x1 ⟨rfl, hb1⟩
          have hc3 := cell_keep hb1 hc2
          have hbb := below_on hbr hb1 (Nat.le_refl _)
          clear hc1 hc2 hbr hb1
          go_wp2_with fail
          refine (rsmall_any _ _ hy).mono ?_
          rintro e x2 ⟨rfl, hb2⟩
          have hbe := below_on hbb hb2 (Nat.le_refl _)
          clear hc3 hbb hb2
          go_wp2
          go_ret
          exact ⟨ret_int (by rw [hno.out, HS.out]; have := HZ.out; rw [if_neg (by omega)]; omega), hbe⟩
      · have HE := Lib.hid (cmpR_nil (sa.reverse.drop (m - 1)) (sb.reverse.drop (m - 1)) (.inr (by simp; omega)))
        go_wp2
        go_ret
        exact ⟨ret_int (by rw [hno.out, HE.out]; simp [Lib.compareInt]; omega), hbr⟩
    · have HE := Lib.hid (cmpR_nil (sa.reverse.drop (m - 1)) (sb.reverse.drop (m - 1)) (.inl (by simp; omega)))
      by_cases hlt2 : m ≤ lb
      all_goals
        go_wp2
        go_ret
        exact ⟨ret_int (by rw [hno.out, HE.out]; simp [Lib.compareInt]; omega), hbr⟩
end Go.Proofs.YtelikppfiaobcaaDoor

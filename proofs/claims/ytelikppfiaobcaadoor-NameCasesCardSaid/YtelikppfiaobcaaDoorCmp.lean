/- Contracts of name.Cmp and the reference's Cmp. -/
import Derived.Test.YtelikppfiaobcaaDoorEqual
import Derived.Test.YtelikppfiaobcaaDoorShelf
import Derived.Deep.RegionHeld3
namespace Go.Proofs.YtelikppfiaobcaaDoor
open Go.ChangeShapes Go.WideShapes Go.ChangeAt Go.RowKit

/-- how two labels stand, with small letters -/
def cmpL (x y : ByteArray) : Int := Lib.compareBytes (small x).data.toList (small y).data.toList
def cmpR : List ByteArray → List ByteArray → Int
  | [], [] => 0
  | [], _ :: _ => -1
  | _ :: _, [] => 1
  | x :: a, y :: b => if cmpL x y = 0 then cmpR a b else cmpL x y
def cmpN (a b : List ByteArray) : Int := cmpR a.reverse b.reverse

theorem cmpR_nil (a b : List ByteArray) (h : a.length = 0 ∨ b.length = 0) : cmpR a b = Lib.compareInt a.length b.length := by
  cases a with
  | nil =>
    cases b with
    | nil => simp [cmpR, Lib.compareInt]
    | cons y b => simp [cmpR, Lib.compareInt]
  | cons x a =>
    cases b with
    | nil => simp [cmpR, Lib.compareInt]; omega
    | cons y b => simp at h

theorem cmpR_step (sa sb : List ByteArray) (m : Nat) (hm : 1 ≤ m) (h1 : m ≤ sa.length) (h2 : m ≤ sb.length) :
    cmpR (sa.reverse.drop (m - 1)) (sb.reverse.drop (m - 1)) = if cmpL (sa[sa.length - m]'(by omega)) (sb[sb.length - m]'(by omega)) = 0 then cmpR (sa.reverse.drop m) (sb.reverse.drop m) else cmpL (sa[sa.length - m]'(by omega)) (sb[sb.length - m]'(by omega)) := by
  have ea : sa.reverse.drop (m - 1) = sa[sa.length - m]'(by omega) :: sa.reverse.drop m := by
    rw [List.drop_eq_getElem_cons (by simp; omega), List.getElem_reverse]
    congr 2 <;> omega
  have eb : sb.reverse.drop (m - 1) = sb[sb.length - m]'(by omega) :: sb.reverse.drop m := by
    rw [List.drop_eq_getElem_cons (by simp; omega), List.getElem_reverse]
    congr 2 <;> omega
  rw [ea, eb, cmpR]

set_option maxHeartbeats 1000000 in
theorem cmp_any (w : World) (ao bo : Option Addr) (la ca lb cb : Nat) (sa sb : List ByteArray) (ha : Strs w ao la ca sa) (hb : Strs w bo lb cb sb) :
    Calls Tryd.prog 22 #[.slice ao la ca, .slice bo lb cb] w fun e w' => e = .returned (.int .i64 (cmpN sa sb)) ∧ Below w.heap.size w w' := by
  have hla := ha.len
  have hlb := hb.len
  have hmx := ha.row.hmax
  have hca := ha.row.hcap
  have hle := ha.row.hle
  have hcb := hb.row.hcap
  have hleb := hb.row.hle
  go_enter Tryd.func22, Tryd.ntmps22
  go_wp2
  go_loopw [5, 6] (fun i _ wr => ∃ m : Nat, 1 ≤ m ∧ m ≤ la + 1 ∧ m ≤ lb + 1 ∧ i = .int .i64 m ∧ Below w.heap.size w wr ∧ Hid (cmpN sa sb = cmpR (sa.reverse.drop (m - 1)) (sb.reverse.drop (m - 1)))) (fun i _ _ => la + 1 - (intOf i).toNat)
  case atStart => exact ⟨1, Nat.le_refl _, by omega, by omega, rfl, Below.refl _ _, rfl⟩
  case round =>
    obtain ⟨m, hm, hk, hk2, rfl, hbr, hno⟩ := hrel
    by_cases hlt : m ≤ la
    · by_cases hlt2 : m ≤ lb
      · obtain ⟨b1, off1, rfl⟩ := ha.row.addr (k := m - 1) (by omega)
        obtain ⟨b2, off2, rfl⟩ := hb.row.addr (k := m - 1) (by omega)
        have hc1 := (ha.below hbr (Nat.le_refl _)).at (i := la - m) (by omega)
        have hc2 := (hb.below hbr (Nat.le_refl _)).at (i := lb - m) (by omega)
        have hx := ha.get_small (i := la - m) (by omega)
        have hy := hb.get_small (i := lb - m) (by omega)
        have hstep := cmpR_step sa sb m hm (by omega) (by omega)
        obtain ⟨x, hxk⟩ : ∃ x, x = sa[la - m]'(by omega) := ⟨_, rfl⟩
        obtain ⟨y, hyk⟩ : ∃ y, y = sb[lb - m]'(by omega) := ⟨_, rfl⟩
        simp only [hla, hlb] at hstep
        rw [← hxk] at hc1 hx hstep
        rw [← hyk] at hc2 hy hstep
        have HS := Lib.hid hstep
        clear hxk hyk hstep
        have s1 : IntKind.i64.wrap ((la : Int) - (m : Int)) = (la : Int) - (m : Int) := IntWalk.i64_in _ (by omega)
        have s2 : IntKind.i64.wrap ((lb : Int) - (m : Int)) = (lb : Int) - (m : Int) := IntWalk.i64_in _ (by omega)
        have s3 : ((la : Int) - (m : Int)).toNat = la - m := by omega
        have s4 : ((lb : Int) - (m : Int)).toNat = lb - m := by omega
        have s5 : 0 ≤ (la : Int) - (m : Int) := by omega
        have s6 : 0 ≤ (lb : Int) - (m : Int) := by omega
        have s7 : (la : Int) - (m : Int) < (la : Int) := by omega
        have s8 : (lb : Int) - (m : Int) < (lb : Int) := by omega
        have hbd : Below w.heap.size w wr.drew := Below.drew hbr
        by_cases hz : cmpL x y = 0
        · have hq : (Lib.compareBytes (small x).data.toList (small y).data.toList != 0) = false := by simpa [cmpL] using hz
          have HZ := Lib.hid hz; clear hz
          go_wp2_with fail
          go_region_held3 (fun w' => Below w.heap.size w w' ∧ w'.cell? ⟨b1, off1 + (la - m), none⟩ = some (.string x) ∧ w'.cell? ⟨b2, off2 + (lb - m), none⟩ = some (.string y))
            (first | go_keep | (go_split_ands; exact ⟨below_on (by assumption) hb2 (Nat.le_refl _), cell_keep hb2 (by assumption), cell_keep hb2 (by assumption)⟩))
            (first | (go_at_call 39; refine (small_any _ _ (by assumption)).mono ?_; rintro e w2 ⟨rfl, hb2⟩) | (go_at_call 38; refine (Tryd.strings_Compare _ _ _).mono ?_; rintro e w2 ⟨rfl, rfl⟩))
          go_split_ands
          go_wp2
          go_roundw
          case rel =>
            refine ⟨m + 1, by omega, by omega, by omega, by go_num, by assumption, ?_⟩
            rw [Nat.add_sub_cancel]
            exact hno.out.trans (by rw [HS.out, if_pos HZ.out])
          case measure => simp [intOf]; omega
        · have hq : (Lib.compareBytes (small x).data.toList (small y).data.toList != 0) = true := by simpa [cmpL] using hz
          have HZ := Lib.hid hz; clear hz
          go_wp2_with fail
          go_region_held3 (fun w' => Below w.heap.size w w' ∧ w'.cell? ⟨b1, off1 + (la - m), none⟩ = some (.string x) ∧ w'.cell? ⟨b2, off2 + (lb - m), none⟩ = some (.string y))
            (first | go_keep | (go_split_ands; exact ⟨below_on (by assumption) hb2 (Nat.le_refl _), cell_keep hb2 (by assumption), cell_keep hb2 (by assumption)⟩))
            (first | (go_at_call 39; refine (small_any _ _ (by assumption)).mono ?_; rintro e w2 ⟨rfl, hb2⟩) | (go_at_call 38; refine (Tryd.strings_Compare _ _ _).mono ?_; rintro e w2 ⟨rfl, rfl⟩))
          go_split_ands
          go_wp2
          go_ret
          exact ⟨ret_int (by rw [hno.out, HS.out, if_neg HZ.out]; rfl), by assumption⟩
      · have hq : decide ((m : Int) ≤ (lb : Int)) = false := by rw [decide_eq_false_iff_not]; omega
        have HE := Lib.hid (cmpR_nil (sa.reverse.drop (m - 1)) (sb.reverse.drop (m - 1)) (.inr (by simp; omega)))
        go_wp2_with fail
        refine (Tryd.cmp_Compare_int _ _ _).mono ?_
        rintro e w2 ⟨rfl, rfl⟩
        go_wp2
        go_ret
        exact ⟨ret_int (by rw [hno.out, HE.out]; simp [Lib.compareInt]; omega), by assumption⟩
    · have HE := Lib.hid (cmpR_nil (sa.reverse.drop (m - 1)) (sb.reverse.drop (m - 1)) (.inl (by simp; omega)))
      go_wp2_with fail
      refine (Tryd.cmp_Compare_int _ _ _).mono ?_
      rintro e w2 ⟨rfl, rfl⟩
      go_wp2
      go_ret
      exact ⟨ret_int (by rw [hno.out, HE.out]; simp [Lib.compareInt]; omega), by assumption⟩
end Go.Proofs.YtelikppfiaobcaaDoor

/- The contract of name.Parents. -/
import Derived.Test.YtelikppfiaobcaaDoorClone
namespace Go.Proofs.YtelikppfiaobcaaDoor
open Go.ChangeShapes Go.WideShapes Go.ChangeAt Go.RowKit

theorem namesInfo : (Tryd.prog.info? 22).map (fun i => (i.zero, i.size, i.bytes)) = some (some (.slice none 0 0), 1, 24) := by kernel_rfl

/-- what name.Parents hands back: a new slice of names: the name, and all above it -/
def ParentsRes (w : World) (len : Nat) (ss : List ByteArray) (e : Ending) (w' : World) : Prop :=
  ∃ ao cap vs, e = .returned (.slice ao (len + 1) cap) ∧ Row w' ao (len + 1) cap vs ∧ (∀ j (h : j < vs.length), Elem w.heap.size w' vs[j] (ss.drop j)) ∧ Below w.heap.size w w'

theorem parents_step {B k : Nat} {wr w2 w3 : World} {vs : List Value} {x : Value} {ss : List ByteArray} {e : TypeId} (hv : vs.length = k ∧ ∀ j (h : j < vs.length), Elem B wr vs[j] (ss.drop j)) (hb : Below wr.heap.size wr w2) (hx : Elem B w2 x (ss.drop k)) (hg : (w2.alloc (.cells #[x] e)).grownBy w3 (some B)) :
    (vs ++ [x]).length = k + 1 ∧ ∀ j (h : j < (vs ++ [x]).length), Elem B w3 (vs ++ [x])[j] (ss.drop j) := by
  have ha : Below w2.heap.size w2 (w2.alloc (.cells #[x] e)) := (Below.refl _ _).alloc (Nat.le_refl _) _
  refine ⟨by simp [hv.1], fun j h => ?_⟩
  by_cases hj : j < vs.length
  · rw [List.getElem_append_left hj]
    exact (((hv.2 j hj).below hb (Nat.le_refl _)).below ha (Nat.le_refl _)).grown hg
  · have hjk : j = k := by simp at h; omega
    subst hjk
    rw [List.getElem_append_right (by omega)]
    simp only [hv.1, Nat.sub_self, List.getElem_cons_zero]
    exact (hx.below ha (Nat.le_refl _)).grown hg

set_option maxHeartbeats 1000000 in
theorem parents_any (w : World) (ao : Option Addr) (len cap : Nat) (ss : List ByteArray) (hs : Strs w ao len cap ss) (hb : len * 16 ≤ 140737488355328) :
    Calls Tryd.prog 19 #[.slice ao len cap] w (ParentsRes w len ss) := by
  have hl := hs.len
  have hcap := hs.row.hcap
  have hle := hs.row.hle
  obtain ⟨i0, hi, hz0, hz1, hz2⟩ := info_parts namesInfo
  obtain ⟨w1, hmk, hown0, hgr0⟩ := run_make_own (P := Tryd.prog) (w := w) w.heap.size 28 22 i0 _ 1 Tryd.underlying28 hi hz0 hz1 .i64 .i64 (len + 1) (by rw [hz2]; omega) (by unfold maxLen; omega) (Nat.le_refl _)
  rw [show ((len + 1 : Nat) : Int) = (len : Int) + 1 from by omega] at hmk
  have hb1 : Below w.heap.size w w1 := (Below.refl _ _).grown hgr0 (Nat.le_refl _) (by intro k hk; cases hk)
  clear hgr0
  have HI := Lib.hid (And.intro hi hz1)
  clear hi hz0 hz1 hz2
  have HB := Lib.hid hb
  have hb' : len ≤ 8796093022208 := by omega
  clear hb
  have HO := Lib.hid hown0; clear hown0
  go_enter Tryd.func19, Tryd.ntmps19
  go_wp2
  clear hmk
  go_loopw [3, 12, 4] (fun v i _ wr => ∃ (k : Nat) (vs : List Value), k ≤ len + 1 ∧ i = .int .i64 k ∧ v = .slice (some ⟨w.heap.size, 0, none⟩) k (len + 1) ∧ Below w.heap.size w wr ∧ Hid (wr.ownsRow w.heap.size 22 1 (.slice (some ⟨w.heap.size, 0, none⟩) k (len + 1)) k vs) ∧ Hid (vs.length = k ∧ ∀ j (h : j < vs.length), Elem w.heap.size wr vs[j] (ss.drop j))) (fun _ i _ _ => len + 1 - (intOf i).toNat)
  case atStart => exact ⟨0, [], Nat.zero_le _, rfl, rfl, hb1, by simpa [Hid] using HO.out, rfl, fun j h => by cases h⟩
  case round =>
    obtain ⟨k, vs, hk, rfl, rfl, hbr, hown, hvs⟩ := hrel
    clear HO hb1
    by_cases hlt : k ≤ len
    · have hsb := hs.below hbr (Nat.le_refl _)
      by_cases hck : cap = k
      · subst hck
        have hc0 := hsb.cut0 (k := cap) (by omega) rfl
        rw [show len - cap = 0 from by omega] at hc0
        go_wp2_with fail
        refine (clone_any _ _ _ _ _ hc0 (by omega)).mono ?_
        rintro e w2 ⟨ao2, cap2, rfl, hs2, hb2, hf2⟩
        have hlt2 := (hown.out.lt w.heap.size rfl).2
        have hd : (ss.drop cap).length = 0 := by simp [hl]; omega
        have hel : Elem w.heap.size w2 (.slice ao2 (0) cap2) (ss.drop cap) := ⟨ao2, cap2, by rw [hd], hs2, fun a ha => by have := hf2 a ha; omega⟩
        obtain ⟨w3, hrun, hown3, hgr3⟩ := append_one_fits (P := Tryd.prog) w2 w.heap.size 28 28 22 i0 Tryd.underlying28 HI.out.1 HI.out.2 w.heap.size cap (len + 1) vs (owns_keep hown.out hb2) (.slice ao2 (0) cap2) rfl (by omega)
        have R := parents_step hvs.out hb2 hel hgr3
        have hb3 := below_on hbr hb2 (Nat.le_refl _)
        have hb4 : Below w.heap.size w w3 := (hb3.alloc hb3.size _).grown hgr3 (by have := hb3.size; simp; omega) (fun j hj => Nat.le_of_eq (Option.some.inj hj))
        have HR := Lib.hid hrun
        have HO3 := Lib.hid hown3
        have HV := Lib.hid R
        clear hrun hown3 hgr3 R hel hs2 hf2 hb3 hvs hown hb2 hbr hsb hlt2 hd hc0
        go_wp2_with (at_builtin; refine wpList_append_run rfl _ _ _ rfl _ _ rfl rfl HR.out ?_)
        go_roundw
        case rel => exact ⟨cap + 1, _, by omega, by go_num, rfl, hb4, HO3.out, HV.out⟩
        case measure => simp [intOf]; omega
      · go_wp2_with fail
        refine (clone_any _ _ _ _ _ (hsb.cut (k := k) (by omega)) (by have := HB.out; omega)).mono ?_
        rintro e w2 ⟨ao2, cap2, rfl, hs2, hb2, hf2⟩
        have hlt2 := (hown.out.lt w.heap.size rfl).2
        have hd : (ss.drop k).length = len - k := by simp [hl]
        have hel : Elem w.heap.size w2 (.slice ao2 (len - k) cap2) (ss.drop k) := ⟨ao2, cap2, by rw [hd], hs2, fun a ha => by have := hf2 a ha; omega⟩
        obtain ⟨w3, hrun, hown3, hgr3⟩ := append_one_fits (P := Tryd.prog) w2 w.heap.size 28 28 22 i0 Tryd.underlying28 HI.out.1 HI.out.2 w.heap.size k (len + 1) vs (owns_keep hown.out hb2) (.slice ao2 (len - k) cap2) rfl (by omega)
        have R := parents_step hvs.out hb2 hel hgr3
        have hb3 := below_on hbr hb2 (Nat.le_refl _)
        have hb4 : Below w.heap.size w w3 := (hb3.alloc hb3.size _).grown hgr3 (by have := hb3.size; simp; omega) (fun j hj => Nat.le_of_eq (Option.some.inj hj))
        have HR := Lib.hid hrun
        have HO3 := Lib.hid hown3
        have HV := Lib.hid R
        clear hrun hown3 hgr3 R hel hs2 hf2 hb3 hvs hown hb2 hbr hsb hlt2 hd
        go_wp2_with (at_builtin; refine wpList_append_run rfl _ _ _ rfl _ _ rfl rfl HR.out ?_)
        go_roundw
        case rel => exact ⟨k + 1, _, by omega, by go_num, rfl, hb4, HO3.out, HV.out⟩
        case measure => simp [intOf]; omega
    · have hke : k = len + 1 := by omega
      subst hke
      obtain ⟨ao', cap', he, hrow⟩ := row_of_owns hown.out (by have := HB.out; omega)
      cases he
      have HH := Lib.hid hrow
      clear hrow
      go_wp2
      go_ret
      exact ⟨_, _, vs, rfl, HH.out, hvs.out.2, hbr⟩
end Go.Proofs.YtelikppfiaobcaaDoor

/- The contract of slices.Clone at strings. -/
import Derived.Test.YtelikppfiaobcaaDoorLists
import Derived.Test.YtelikppfiaobcaaDoorBase2
namespace Go.Proofs.YtelikppfiaobcaaDoor
open Go.ChangeShapes Go.WideShapes Go.ChangeAt Go.RowKit

theorem clone_any (w : World) (ao : Option Addr) (len cap : Nat) (ss : List ByteArray) (hs : Strs w ao len cap ss) (hb : len * 16 ≤ 140737488355328) :
    Calls Tryd.prog 37 #[.slice ao len cap] w (StrsNew w ss) := by
  have hl := hs.len
  cases ao with
  | none =>
    have hc := hs.row.hnil rfl
    have hm : len = 0 := by have := hs.row.hle; omega
    have hn : ss = [] := List.eq_nil_of_length_eq_zero (by omega)
    have hs0 := Lib.hid hs
    subst hc; subst hm; subst hn
    have hnil : ∀ w : World, (binOp .eql 22 (.slice none 0 0) (.slice none 0 0)).run Tryd.prog w = .ok (.bool true) w := fun w => by kernel_rfl
    go_enter Tryd.func37, Tryd.ntmps37
    go_wp2
    go_ret
    exact ⟨none, 0, rfl, hs0.out, Below.refl _ _, fun a ha => by cases ha⟩
  | some a =>
    obtain ⟨i0, hi, hz0, hz1, hz2⟩ := info_parts strInfo
    have hbel : Below w.heap.size w (w.alloc (.cells #[] 9)) := (Below.refl _ _).alloc (Nat.le_refl _) _
    obtain ⟨v', w1, hrun, hown, hgrow⟩ := append_row (P := Tryd.prog) (w.alloc (.cells #[] 9)) w.heap.size 22 22 9 i0 _ 16 Tryd.underlying22 hi hz0 hz1 hz2 rfl (.slice (some ⟨w.heap.size, 0, none⟩) 0 0) 0 []
      (World.ownsRow_made w #[] 0 (Nat.le_refl _) (by unfold maxLen; omega) rfl) (some a) len cap (ss.map .string) (hs.row.below hbel (Nat.le_refl _)) (strings_oneCell ss) (by omega) (by omega) (by simp)
    have hg := Lib.hid (hbel.grown hgrow (by simp) (by intro k hk; simp [Value.ownBlock] at hk; omega))
    clear hgrow hbel
    rw [List.nil_append, Nat.zero_add] at hown
    obtain ⟨ao', cap', rfl, hs'⟩ := strs_of_owns hown hs.row.hmax hs.small
    have hfr := Lib.hid (owns_fresh hown)
    clear hown hi hz0 hz1 hz2 hb
    have HL := Lib.hid hl; clear hl
    have HR := Lib.hid hrun; clear hrun
    have hnil : ∀ w : World, (binOp .eql 22 (.slice (some a) len cap) (.slice none 0 0)).run Tryd.prog w = .ok (.bool false) w := fun w => Lib.run_eql_slice_nil w 22 9 (some a) len cap 0 0 Tryd.underlying22
    have hbs : ∀ w : World, (Instr.buildSlice 22 0 #[]).run Tryd.prog w = .ok (.slice (some ⟨w.heap.size, 0, none⟩) 0 0) (w.alloc (.cells #[] 9)) := fun _ => by kernel_rfl
    go_enter Tryd.func37, Tryd.ntmps37
    go_wp2_with (at_builtin; refine wpList_append_run rfl _ _ _ rfl _ _ rfl rfl HR.out ?_)
    go_ret
    exact ⟨ao', cap', by rw [HL.out]; rfl, by rw [HL.out]; exact hs', hg.out, hfr.out⟩

end Go.Proofs.YtelikppfiaobcaaDoor

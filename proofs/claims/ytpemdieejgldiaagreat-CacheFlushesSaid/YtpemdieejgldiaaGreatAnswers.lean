/- law14.answers: what a program that does nothing does not answer. -/
import Derived.Test.YtpemdieejgldiaaGreatCput
import Derived.Test.YtpemdieejgldiaaGreatCnew
import Derived.Test.YtpemdieejgldiaaGreatClook
namespace Go.Proofs.YtpemdieejgldiaaGreat
open Go.ChangeShapes Go.WideShapes Go.ChangeAt Go.RowKit

def d0 : DataP := ⟨[1, 2, 3, 4], [], [], [], []⟩
def f0 : FactP := ⟨[], 1, 1, 1, 0, 5, [d0], [], noP⟩
def h0 (X : Nat) : FactH := ⟨none, 0, 0, some ⟨X, 0, none⟩, 1, 1, none, 0, 0, noDH⟩
theorem f0_ok : factB f0 = true := by decide +kernel
theorem f0_put : putB [] f0 1 = true := by decide +kernel
theorem f0_len : FLen f0 := ⟨by decide, by decide, by decide, ⟨by decide, by decide, by decide, by decide⟩, by
  intro d hd
  have : d = d0 := by simpa [f0] using hd
  subst this
  exact ⟨by decide, by decide, by decide, by decide⟩⟩
theorem f0_is (w : World) (X Y : Nat) (hX : Blk w X #[.int .u8 1, .int .u8 2, .int .u8 3, .int .u8 4] 5) (hY : Blk w Y #[.slice (some ⟨X, 0, none⟩) 4 4, .slice none 0 0, .slice none 0 0, .slice none 0 0, .slice none 0 0] 34) : IsFact (tagged fT w) w (h0 Y) f0 := by
  have hz : wfi 0 := by decide
  have hr : Row w none 0 0 [] := Row.empty (by decide) (fun _ => rfl)
  have hs : Strs w none 0 0 [] := ⟨hr, by simp⟩
  have hi : ∀ {S : Nat → Prop}, rowIn S none 0 := fun h => absurd h (by omega)
  refine ⟨hs, hi, by decide, by decide, by decide, by decide, by decide, ⟨rfl, Nat.le_refl _, show (1 : Nat) ≤ _ by decide, (fun h => nomatch h), (fun _ => ⟨Y, 0, rfl, ⟨_, _, hY, by decide⟩, ?_⟩)⟩, hs, hi, ⟨hr, hs, hs, hr, hs, by simp [f0, noP]⟩, ⟨hi, hi, hi, hi, hi⟩⟩
  intro i hi'
  obtain rfl : i = 0 := by simp [f0] at hi'; omega
  refine ⟨⟨some ⟨X, 0, none⟩, 4, 4, none, 0, 0, none, 0, 0, none, 0, 0, none, 0, 0⟩, ?_, ?_, ?_⟩
  · intro q hq
    rw [hY.cell]
    simp [dataK, dataC]
  · refine ⟨⟨rfl, Nat.le_refl _, show (4 : Nat) ≤ _ by decide, show (4 : Nat) ≤ _ by decide, (fun h => nomatch h), (fun _ => ⟨X, 0, rfl, ?_⟩)⟩, hs, hs, hr, hs, by simp [f0, d0]⟩
    intro q hq
    rw [hX.cell]
    have h4 : q < 4 := by simpa [f0, d0] using hq
    obtain rfl | rfl | rfl | rfl : q = 0 ∨ q = 1 ∨ q = 2 ∨ q = 3 := by omega
    all_goals rfl
  · exact ⟨fun _ a e => by cases e; exact ⟨_, _, hX, by decide⟩, hi, hi, hi, hi⟩
theorem two_blk (W : World) (A B : Array Value) (T U : TypeId) : Blk ((W.alloc (.cells A T)).alloc (.cells B U)) W.heap.size A T ∧ Blk ((W.alloc (.cells A T)).alloc (.cells B U)) (W.heap.size + 1) B U ∧ Below W.heap.size W ((W.alloc (.cells A T)).alloc (.cells B U)) := by
  have h1 : Blk (W.alloc (.cells A T)) W.heap.size A T := heap_alloc_new W _
  refine ⟨h1.on ((Below.refl _ _).alloc (Nat.le_refl _) _), ?_, ((Below.refl _ _).alloc (Nat.le_refl _) _).alloc (by simp) _⟩
  have := heap_alloc_new (W.alloc (.cells A T)) (.cells B U)
  simpa [Blk] using this
set_option maxHeartbeats 16000000 in
set_option maxRecDepth 100000 in
theorem answers_any (w : World) : Calls Tryz.prog 6 #[] w fun e w' => e = .returned (.bool true) ∧ Below w.heap.size w w' := by
  have HN := Lib.hid (new_any w w.heap.size (Nat.le_refl _) 2 0 (by decide) (by decide) (by decide))
  go_enter Tryz.func6, Tryz.ntmps6
  go_wp2_with (first | (go_at_call 5; refine HN.out.mono ?_; rintro e W ⟨⟨C, rfl, hC⟩, hb⟩; have HC := Lib.hid (And.intro hC hb); clear hC hb) | (go_at_call 20; have HT := Lib.hid (two_blk W #[.int .u8 1, .int .u8 2, .int .u8 3, .int .u8 4] #[.slice (some ⟨W.heap.size, 0, none⟩) 4 4, .slice none 0 0, .slice none 0 0, .slice none 0 0, .slice none 0 0] 5 34); refine (put_any _ (tagged fT _) w.heap.size C 2 0 0 [] (HC.out.1.on HT.out.2.2) (by decide) (by decide) (h0 (W.heap.size + 1)) f0 (f0_is _ W.heap.size (W.heap.size + 1) HT.out.1 HT.out.2.1) f0_len 1 (by decide)).mono ?_; rintro e W2 ⟨he, hl, hp⟩; rw [f0_put] at he; subst he; have HP := Lib.hid (And.intro hl hp); clear hl hp) | (go_at_call 15; obtain ⟨b, kk, hI⟩ := HP.out.2.yes f0_put; refine (len_any _ _ C 2 0 _ _ hI).mono ?_; rintro e W3 ⟨rfl, rfl⟩))
  go_ret
  exact ⟨rfl, HC.out.2.trans ((HT.out.2.2.mono HC.out.2.size).trans HP.out.1.bel)⟩
end Go.Proofs.YtpemdieejgldiaaGreat

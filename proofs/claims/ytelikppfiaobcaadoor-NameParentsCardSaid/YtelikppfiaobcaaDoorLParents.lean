/- The law NameParents returns true for every input and leaves its arguments as they were; no condition, the package-level tables that it reads tied to the program's text. -/
import Derived.Test.YtelikppfiaobcaaDoorAns02
import Derived.Test.YtelikppfiaobcaaDoorParents
import Derived.Test.YtelikppfiaobcaaDoorLists
import Derived.Test.YtelikppfiaobcaaDoorOpen
import Derived.Test.YtelikppfiaobcaaDoorRows
import Derived.Test.YtelikppfiaobcaaDoorCards
import Derived.Test.YtelikppfiaobcaaDoorTie
import Derived.SevenTiedAt
import Derived.LaidMore
import Derived.Stop.Joined
import Derived.Stop.LaidErr
import Derived.Lib.LaidTab
import Derived.MakeChecks
import Derived.Lay
import Derived.WalkKit
import Derived.ProofKit
import Derived.OpenShut
import Derived.Below
namespace Go.Proofs.YtelikppfiaobcaaDoor.nameParents
open Go.ChangeShapes Go.WideShapes Go.ChangeAt Go.RowKit
open Go.ChangeMaps (open_string shut_string)
set_option linter.unusedVariables false

/-- the table that the walk reads -/
theorem tab_of {W : World} (hL : laidMetH Tryd.prog Rows.nameParentsRow.laid W) : Tab W := by
  rw [MakeChecks.laidMetH_plain _ _ _ (by kernel_rfl)] at hL
  exact Lib.tabIs_of_head (g := 3) (by kernel_rfl) (by kernel_rfl) Tryd.underlying108 Tryd.underlying62 (by kernel_rfl) (by kernel_rfl) hL.tail.tail
/-- as StrsRes, the length given -/
def StrsLen (w : World) (len : Nat) (ss : List ByteArray) (e : Ending) (w' : World) : Prop :=
  ∃ ao cap, e = .returned (.slice ao len cap) ∧ Strs w' ao len cap ss ∧ Below w.heap.size w w'
theorem own_len (w : World) (ao : Option Addr) (len cap : Nat) (ss : List ByteArray) (hs : Strs w ao len cap ss) (hb : len * 16 ≤ 140737488355328) :
    Calls Tryd.prog 13 #[.slice ao len cap] w (StrsLen w len ss) :=
  (own_any w ao len cap ss hs hb).mono fun e w' ⟨p, q, h1, h2, h3⟩ => ⟨p, q, by rw [h1, hs.len], by rw [hs.len] at h2; exact h2, h3⟩
theorem exactB_refl (a : List ByteArray) : exactB a a = true := by simp [exactB]
theorem underB_drop (a : List ByteArray) (k : Nat) (h : k ≤ a.length) : underB a (a.drop k) = true := by
  have : a.length - (a.length - k) = k := by omega
  simp [underB, eqB, this]
theorem underB_short (a : List ByteArray) (k : Nat) (h : k ≤ a.length) (h0 : 0 < k) : underB (a.drop k) (a.drop (k - 1)) = false := by
  have : ¬ a.length - (k - 1) ≤ a.length - k := by omega
  simp [underB, this]
/-- what the loop keeps: the slice of names -/
structure Keep (B : Nat) (w0 w : World) (lo : Option Addr) (n cap : Nat) (vs : List Value) (ss : List ByteArray) : Prop where
  row : Row w lo n cap vs
  len : vs.length = n
  el : ∀ j (h : j < vs.length), Elem B w vs[j] (ss.drop j)
  bel : Below w0.heap.size w0 w
theorem Keep.on {B : Nat} {w0 w w' : World} {lo : Option Addr} {n cap : Nat} {vs : List Value} {ss : List ByteArray} (h : Keep B w0 w lo n cap vs ss) (hb : Below w.heap.size w w') : Keep B w0 w' lo n cap vs ss :=
  ⟨h.row.below hb (Nat.le_refl _), h.len, fun j hj => (h.el j hj).below hb (Nat.le_refl _), below_on h.bel hb (Nat.le_refl _)⟩
theorem Keep.start {w0 w1 w2 : World} {lo : Option Addr} {n cap : Nat} {vs : List Value} {ss : List ByteArray} (h1 : Below w0.heap.size w0 w1) (hr : Row w2 lo n cap vs) (he : ∀ j (h : j < vs.length), Elem w1.heap.size w2 vs[j] (ss.drop j)) (hb : Below w1.heap.size w1 w2) : Keep w1.heap.size w0 w2 lo n cap vs ss :=
  ⟨hr, hr.hlen, he, below_on h1 hb (Nat.le_refl _)⟩
theorem wpAny_act {P : Program} {md : Region.Mode} {ops : Array Oper} {Q : Exit → Act → World → Prop} {n : Nat} {l : Array Bool} {a a' : Act} {w : World} (e : a = a') (h : wpAny P md ops Q n l a' w) : wpAny P md ops Q n l a w := by
  rw [e]; exact h
set_option maxHeartbeats 32000000 in
set_option maxRecDepth 100000 in
theorem walk (a0 : Option Addr) (l0 c0 : Nat) (s0 : List ByteArray) (W : World) (w0 : Strs W a0 l0 c0 s0) (b0 : c0 * 16 ≤ 140737488355328) (hL : laidMetH Tryd.prog Rows.nameParentsRow.laid W) :
    Calls Tryd.prog 4 #[.slice a0 l0 c0] W fun e w' => e = .returned (.bool true) ∧ Below W.heap.size W w' := by
  have HT := Lib.hid (tab_of hL)
  clear hL
  have hm0 := w0.row.hle
  have hl0 : l0 * 16 ≤ 140737488355328 := by omega
  have L0 := Lib.hid (fun w' (h : Below W.heap.size W w') => light_any w' a0 l0 c0 s0 (w0.below h (Nat.le_refl _)) hl0)
  have O0 := Lib.hid (fun w' (h : Below W.heap.size W w') => own_len w' a0 l0 c0 s0 (w0.below h (Nat.le_refl _)) hl0)
  have P0 := Lib.hid (fun w' (h : Below W.heap.size W w') => w0.below h (Nat.le_refl _))
  clear hm0 b0 hl0
  have HW := Lib.hid w0
  have HL := Lib.hid w0.len
  cases g0 : lightB s0
  · go_enter Tryd.func4, Tryd.ntmps4
    go_wp2_with fail
    refine (answers_any _ HT.out).mono ?_
    rintro e x1 ⟨rfl, hc1⟩
    have hb1 := hc1
    go_wp2_with fail
    refine (L0.out _ hb1).mono ?_
    rintro e y2 ⟨rfl, rfl⟩
    go_wp2_with fail
    refine (answers_any _ (tab_on HT.out hb1)).mono ?_
    rintro e x3 ⟨rfl, hc3⟩
    have hb3 := below_on hb1 hc3 (Nat.le_refl _)
    go_wp2
    go_ret
    exact ⟨rfl, hb3⟩
  by_cases hs : 130 < l0
  · go_enter Tryd.func4, Tryd.ntmps4
    go_wp2_with fail
    refine (answers_any _ HT.out).mono ?_
    rintro e x1 ⟨rfl, hc1⟩
    have hb1 := hc1
    go_wp2_with fail
    refine (L0.out _ hb1).mono ?_
    rintro e y2 ⟨rfl, rfl⟩
    go_wp2_with fail
    refine (answers_any _ (tab_on HT.out hb1)).mono ?_
    rintro e x3 ⟨rfl, hc3⟩
    have hb3 := below_on hb1 hc3 (Nat.le_refl _)
    go_wp2
    go_ret
    exact ⟨rfl, hb3⟩
  have hs' : l0 ≤ 130 := by omega
  clear hs
  have hq : decide ((130 : Int) < (l0 : Int)) = false := by rw [decide_eq_false_iff_not]; omega
  go_enter Tryd.func4, Tryd.ntmps4
  go_wp2_with fail
  refine (answers_any _ HT.out).mono ?_
  rintro e x1 ⟨rfl, hc1⟩
  have hb1 := hc1
  go_wp2_with fail
  refine (L0.out _ hb1).mono ?_
  rintro e y2 ⟨rfl, rfl⟩
  go_wp2_with fail
  refine (O0.out _ hb1).mono ?_
  rintro e x3 ⟨p3, q3, rfl, t3, hc3⟩
  have hb3 := below_on hb1 hc3 (Nat.le_refl _)
  go_wp2_with fail
  refine (parents_any _ _ _ _ _ t3 (by omega)).mono ?_
  rintro e xP ⟨lo, lc, vs, rfl, hrow, hel, hbP⟩
  have hK := Keep.start hb3 hrow hel hbP
  have HK := Lib.hid hK
  clear hK hrow hel hbP
  have HLB := Lib.hid (show l0 * 16 ≤ 140737488355328 by omega)
  have hne : (((l0 : Int) + 1) != (l0 : Int) + 1) = false := by rw [bne_eq_false_iff_eq]
  go_wp2
  go_loopw [4] (fun i wr => ∃ k : Nat, k ≤ l0 + 1 ∧ i = .int .i64 k ∧ Hid (Keep x3.heap.size W wr lo (l0 + 1) lc vs s0)) (fun i _ => l0 + 1 - (intOf i).toNat)
  case atStart => exact ⟨0, Nat.zero_le _, rfl, HK.out⟩
  case round =>
    obtain ⟨k, hk, rfl, hkp⟩ := hrel
    clear HK
    by_cases hlt : k ≤ l0
    · by_cases hck : k = c0
      · subst hck
        by_cases hk0 : 0 < k
        ·
          obtain ⟨ak, ck, ek, sk, fk⟩ := hkp.out.el k (by rw [hkp.out.len]; omega)
          have dk : (s0.drop k).length = l0 - k := by simp [HL.out]
          rw [dk] at ek sk
          obtain ⟨lb, lof, rfl⟩ := hkp.out.row.addr (k := k) (by omega)
          have cell1 := hkp.out.row.at (i := k) (by omega)
          rw [ek] at cell1
          obtain ⟨aj, cj, ej, sj, fj⟩ := hkp.out.el (k - 1) (by rw [hkp.out.len]; omega)
          have dj : (s0.drop (k - 1)).length = l0 - (k - 1) := by simp [HL.out]
          rw [dj] at ej sj
          have cell2 := hkp.out.row.at (i := k - 1) (by omega)
          rw [ej] at cell2
          have HC2 := Lib.hid (show ∀ w', Below wr.heap.size wr w' → w'.cell? ⟨lb, lof + (k - 1), none⟩ = some (.slice aj (l0 - (k - 1)) cj) from fun w' h => cell_keep h cell2)
          have HS2 := Lib.hid (show ∀ w', Below wr.heap.size wr w' → Strs w' aj (l0 - (k - 1)) cj (s0.drop (k - 1)) from fun w' h => sj.below h (Nat.le_refl _))
          have HV1 := Lib.hid (underB_short s0 k (by have := HL.out; omega) (by omega))
          have hq0 : decide ((0 : Int) < (k : Int)) = true := by rw [decide_eq_true_iff]; omega
          have hq1 : decide (0 < k) = true := decide_eq_true hk0
          have m1 : IntKind.i64.wrap ((k : Int) - 1) = (k : Int) - 1 := IntWalk.i64_in _ (by omega)
          have m2 : ((k : Int) - 1).toNat = k - 1 := by omega
          have m3 : 0 ≤ (k : Int) - 1 := by omega
          have m5 : (1 : Int) ≤ (k : Int) := by omega
          have m4 : (k : Int) - 1 < (l0 : Int) + 1 := by omega
          clear cell2 ej sj fj dj
          have HC1 := Lib.hid (show ∀ w', Below wr.heap.size wr w' → w'.cell? ⟨lb, lof + k, none⟩ = some (.slice ak (l0 - k) ck) from fun w' h => cell_keep h cell1)
          have HS1 := Lib.hid (show ∀ w', Below wr.heap.size wr w' → Strs w' ak (l0 - k) ck (s0.drop k) from fun w' h => sk.below h (Nat.le_refl _))
          have HSn := Lib.hid (show ∀ w', Below wr.heap.size wr w' → Strs w' a0 (l0 - k) 0 (s0.drop k) from fun w' h => ((w0.below hkp.out.bel (Nat.le_refl _)).below h (Nat.le_refl _)).cut0 (k := k) (by omega) rfl)
          have HSw := Lib.hid (show ∀ w', Below wr.heap.size wr w' → Strs w' a0 l0 k s0 from fun w' h => (w0.below hkp.out.bel (Nat.le_refl _)).below h (Nat.le_refl _))
          have HE1 := Lib.hid (exactB_refl (s0.drop k))
          have HU1 := Lib.hid (underB_drop s0 k (by have := HL.out; omega))
          have hkz : (0 : Int) ≤ (k : Int) := Int.natCast_nonneg _
          have hkl : (k : Int) < (l0 : Int) + 1 := by omega
          have hkm : (k : Int) ≤ (l0 : Int) := by omega
          have hbd : Below wr.heap.size wr wr.drew := Below.drew (Below.refl _ _)
          have HKP := Lib.hid (show ∀ w', Below wr.heap.size wr w' → Keep x3.heap.size W w' (some ⟨lb, lof, none⟩) (l0 + 1) lc vs s0 from fun w' h => hkp.out.on h)
          clear ek sk fk dk hkp cell1
          have cell1 := HC1.out _ hbd
          have cell2 := HC2.out _ hbd
          go_wp2_with fail
          refine wp_region_any (by kernel_rfl) ?_
          try (change wpAny _ _ _ _ _ _ _ (World.drew _))
          refine wpAny_take (i := 0) (v := ?_) rfl (by kernel_rfl) (by kernel_rfl) (by kernel_rfl) (fun _ _ _ h => h) (Or.inl ⟨?_, ?_⟩) ?_
          rotate_left
          · rfl
          · intro w; go_simp; try with_reducible rfl
          refine wpAny_act (a' := ?_) ?_ ?_
          rotate_left
          · simp only [Act.put, List.getElem_toArray, List.getElem_cons_zero, List.setIfInBounds_toArray, List.set_cons_succ, List.set_cons_zero]; rfl
          refine wpAny_take (i := 1) (v := ?_) rfl (by kernel_rfl) (by kernel_rfl) (by kernel_rfl) (fun _ _ _ h => h) (Or.inl ⟨?_, ?_⟩) ?_
          rotate_left
          · rfl
          · intro w; go_simp; try with_reducible rfl
          refine wpAny_act (a' := ?_) ?_ ?_
          rotate_left
          · simp only [Act.put, List.getElem_toArray, List.getElem_cons_succ, List.getElem_cons_zero, List.setIfInBounds_toArray, List.set_cons_succ, List.set_cons_zero]; rfl
          refine wpAny_take (i := 2) (v := ?_) rfl (by kernel_rfl) (by kernel_rfl) (by kernel_rfl) (fun _ _ _ h => h) (Or.inl ⟨?_, ?_⟩) ?_
          rotate_left
          · rfl
          · intro w; go_simp; try with_reducible rfl
          refine wpAny_act (a' := ?_) ?_ ?_
          rotate_left
          · simp only [Act.put, List.getElem_toArray, List.getElem_cons_succ, List.getElem_cons_zero, List.setIfInBounds_toArray, List.set_cons_succ, List.set_cons_zero]; rfl
          refine wpAny_take (i := 4) (v := ?_) rfl (by kernel_rfl) (by kernel_rfl) (by kernel_rfl) (fun _ _ _ h => h) (Or.inl ⟨?_, ?_⟩) ?_
          rotate_left
          · rfl
          · intro w; go_simp; try with_reducible rfl
          refine wpAny_act (a' := ?_) ?_ ?_
          rotate_left
          · simp only [Act.put, List.getElem_toArray, List.getElem_cons_succ, List.getElem_cons_zero, List.setIfInBounds_toArray, List.set_cons_succ, List.set_cons_zero]; rfl
          refine wpAny_take (i := 5) (v := ?_) rfl (by kernel_rfl) (by kernel_rfl) (by kernel_rfl) (fun _ _ _ h => h) (Or.inl ⟨?_, ?_⟩) ?_
          rotate_left
          · rfl
          · intro w; go_simp; try with_reducible rfl
          refine wpAny_act (a' := ?_) ?_ ?_
          rotate_left
          · simp only [Act.put, List.getElem_toArray, List.getElem_cons_succ, List.getElem_cons_zero, List.setIfInBounds_toArray, List.set_cons_succ, List.set_cons_zero]; rfl
          refine wpAny_take (i := 6) (v := ?_) rfl (by kernel_rfl) (by kernel_rfl) (by kernel_rfl) (fun _ _ _ h => h) (Or.inl ⟨?_, ?_⟩) ?_
          rotate_left
          · rfl
          · intro w; go_simp; try with_reducible rfl
          refine wpAny_act (a' := ?_) ?_ ?_
          rotate_left
          · simp only [Act.put, List.getElem_toArray, List.getElem_cons_succ, List.getElem_cons_zero, List.setIfInBounds_toArray, List.set_cons_succ, List.set_cons_zero]; rfl
          refine wpAny_ready (rs := [3]) (by kernel_rfl) (by simp) ?_
          refine AllReady.cons rfl (fun K hK => ?_) AllReady.nil
          go_simp
          refine hK _ _ ?_
          clear hK K
          refine wpAny_ready (rs := [7]) (by kernel_rfl) (by simp) ?_
          refine AllReady.cons rfl (fun K hK => ?_) AllReady.nil
          go_simp
          go_wp2_with (go_at_call 20; refine (exact_any _ _ _ _ _ _ _ _ _ (HS1.out _ hbd) (HSn.out _ hbd)).mono ?_; rw [HE1.out]; rintro e y1 ⟨rfl, g1⟩; have e1 := below_on hbd g1 (Nat.le_refl _); have q1a := HC1.out _ e1)
          refine wpAny_take (i := 8) (v := ?_) rfl (by kernel_rfl) (by kernel_rfl) (by kernel_rfl) (fun _ _ _ h => h) (Or.inl ⟨?_, ?_⟩) ?_
          rotate_left
          · rfl
          · intro w; go_simp; try with_reducible rfl
          refine wpAny_act (a' := ?_) ?_ ?_
          rotate_left
          · simp only [Act.put, List.getElem_toArray, List.getElem_cons_succ, List.getElem_cons_zero, List.setIfInBounds_toArray, List.set_cons_succ, List.set_cons_zero]; rfl
          refine wpAny_take (i := 9) (v := ?_) rfl (by kernel_rfl) (by kernel_rfl) (by kernel_rfl) (fun _ _ _ h => h) (Or.inl ⟨?_, ?_⟩) ?_
          rotate_left
          · rfl
          · intro w; go_simp; try with_reducible rfl
          refine wpAny_act (a' := ?_) ?_ ?_
          rotate_left
          · simp only [Act.put, List.getElem_toArray, List.getElem_cons_succ, List.getElem_cons_zero, List.setIfInBounds_toArray, List.set_cons_succ, List.set_cons_zero]; rfl
          refine wpAny_take (i := 10) (v := ?_) rfl (by kernel_rfl) (by kernel_rfl) (by kernel_rfl) (fun _ _ _ h => h) (Or.inl ⟨?_, ?_⟩) ?_
          rotate_left
          · (first | (go_simp; done) | rfl)
          · intro w; go_simp; try with_reducible rfl
          refine wpAny_act (a' := ?_) ?_ ?_
          rotate_left
          · simp only [Act.put, List.getElem_toArray, List.getElem_cons_succ, List.getElem_cons_zero, List.setIfInBounds_toArray, List.set_cons_succ, List.set_cons_zero]; rfl
          refine wpAny_take (i := 12) (v := ?_) rfl (by kernel_rfl) (by kernel_rfl) (by kernel_rfl) (fun _ _ _ h => h) (Or.inl ⟨?_, ?_⟩) ?_
          rotate_left
          · (first | (go_simp; done) | rfl)
          · intro w; go_simp; try with_reducible rfl
          refine wpAny_act (a' := ?_) ?_ ?_
          rotate_left
          · simp only [Act.put, List.getElem_toArray, List.getElem_cons_succ, List.getElem_cons_zero, List.setIfInBounds_toArray, List.set_cons_succ, List.set_cons_zero]; rfl
          refine wpAny_take (i := 13) (v := ?_) rfl (by kernel_rfl) (by kernel_rfl) (by kernel_rfl) (fun _ _ _ h => h) (Or.inl ⟨?_, ?_⟩) ?_
          rotate_left
          · (first | (go_simp; done) | rfl)
          · intro w; go_simp; try with_reducible rfl
          refine wpAny_act (a' := ?_) ?_ ?_
          rotate_left
          · simp only [Act.put, List.getElem_toArray, List.getElem_cons_succ, List.getElem_cons_zero, List.setIfInBounds_toArray, List.set_cons_succ, List.set_cons_zero]; rfl
          refine wpAny_take (i := 14) (v := ?_) rfl (by kernel_rfl) (by kernel_rfl) (by kernel_rfl) (fun _ _ _ h => h) (Or.inl ⟨?_, ?_⟩) ?_
          rotate_left
          · (first | (go_simp; done) | rfl)
          · intro w; go_simp; try with_reducible rfl
          refine wpAny_act (a' := ?_) ?_ ?_
          rotate_left
          · simp only [Act.put, List.getElem_toArray, List.getElem_cons_succ, List.getElem_cons_zero, List.setIfInBounds_toArray, List.set_cons_succ, List.set_cons_zero]; rfl
          refine wpAny_ready (rs := [11, 15]) (by kernel_rfl) (by simp) ?_
          refine AllReady.cons rfl (fun K hK => ?_) ?_
          ·
            go_simp
            go_wp2_with (go_at_call 13; refine (own_len _ _ _ _ _ (HSw.out _ e1) HLB.out).mono ?_; rintro e y2 ⟨p5, q5, rfl, t5, g2⟩; have e2 := below_on e1 g2 (Nat.le_refl _); have q2a := HC1.out _ e2)
            refine wpAny_ready (rs := [15]) (by kernel_rfl) (by simp) ?_
            refine AllReady.cons rfl (fun K hK => ?_) AllReady.nil
            go_simp
            refine hK _ _ ?_
            clear hK K
            refine wpAny_ready (rs := [16]) (by kernel_rfl) (by simp) ?_
            refine AllReady.cons rfl (fun K hK => ?_) AllReady.nil
            go_simp
            go_wp2_with (go_at_call 21; refine (under_any _ _ _ _ _ _ _ _ _ t5 (HS1.out _ e2)).mono ?_; rw [HU1.out]; rintro e y3 ⟨rfl, g3⟩; have e3 := below_on e2 g3 (Nat.le_refl _); have q3a := HC1.out _ e3; have q3b := HC2.out _ e3)
            refine wpAny_take (i := 17) (v := ?_) rfl (by kernel_rfl) (by kernel_rfl) (by kernel_rfl) (fun _ _ _ h => h) (Or.inl ⟨?_, ?_⟩) ?_
            rotate_left
            · (first | (go_simp; done) | rfl)
            · intro w; go_simp; try with_reducible rfl
            refine wpAny_act (a' := ?_) ?_ ?_
            rotate_left
            · simp only [Act.put, List.getElem_toArray, List.getElem_cons_succ, List.getElem_cons_zero, List.setIfInBounds_toArray, List.set_cons_succ, List.set_cons_zero]; rfl
            refine wpAny_take (i := 18) (v := ?_) rfl (by kernel_rfl) (by kernel_rfl) (by kernel_rfl) (fun _ _ _ h => h) (Or.inl ⟨?_, ?_⟩) ?_
            rotate_left
            · rfl
            · intro w; go_simp; try with_reducible rfl
            refine wpAny_act (a' := ?_) ?_ ?_
            rotate_left
            · simp only [Act.put, List.getElem_toArray, List.getElem_cons_succ, List.getElem_cons_zero, List.setIfInBounds_toArray, List.set_cons_succ, List.set_cons_zero]; rfl
            refine wpAny_take (i := 19) (v := ?_) rfl (by kernel_rfl) (by kernel_rfl) (by kernel_rfl) (fun _ _ _ h => h) (Or.inl ⟨?_, ?_⟩) ?_
            rotate_left
            · rfl
            · intro w; go_simp; try with_reducible rfl
            refine wpAny_act (a' := ?_) ?_ ?_
            rotate_left
            · simp only [Act.put, List.getElem_toArray, List.getElem_cons_succ, List.getElem_cons_zero, List.setIfInBounds_toArray, List.set_cons_succ, List.set_cons_zero]; rfl
            refine wpAny_take (i := 20) (v := ?_) rfl (by kernel_rfl) (by kernel_rfl) (by kernel_rfl) (fun _ _ _ h => h) (Or.inl ⟨?_, ?_⟩) ?_
            rotate_left
            · (first | (go_simp; done) | rfl)
            · intro w; go_simp; try with_reducible rfl
            refine wpAny_act (a' := ?_) ?_ ?_
            rotate_left
            · simp only [Act.put, List.getElem_toArray, List.getElem_cons_succ, List.getElem_cons_zero, List.setIfInBounds_toArray, List.set_cons_succ, List.set_cons_zero]; rfl
            refine wpAny_take (i := 21) (v := ?_) rfl (by kernel_rfl) (by kernel_rfl) (by kernel_rfl) (fun _ _ _ h => h) (Or.inl ⟨?_, ?_⟩) ?_
            rotate_left
            · (first | (go_simp; done) | rfl)
            · intro w; go_simp; try with_reducible rfl
            refine wpAny_act (a' := ?_) ?_ ?_
            rotate_left
            · simp only [Act.put, List.getElem_toArray, List.getElem_cons_succ, List.getElem_cons_zero, List.setIfInBounds_toArray, List.set_cons_succ, List.set_cons_zero]; rfl
            refine wpAny_take (i := 22) (v := ?_) rfl (by kernel_rfl) (by kernel_rfl) (by kernel_rfl) (fun _ _ _ h => h) (Or.inl ⟨?_, ?_⟩) ?_
            rotate_left
            · (first | (go_simp; done) | rfl)
            · intro w; go_simp; try with_reducible rfl
            refine wpAny_act (a' := ?_) ?_ ?_
            rotate_left
            · simp only [Act.put, List.getElem_toArray, List.getElem_cons_succ, List.getElem_cons_zero, List.setIfInBounds_toArray, List.set_cons_succ, List.set_cons_zero]; rfl
            refine wpAny_take (i := 23) (v := ?_) rfl (by kernel_rfl) (by kernel_rfl) (by kernel_rfl) (fun _ _ _ h => h) (Or.inl ⟨?_, ?_⟩) ?_
            rotate_left
            · (first | (go_simp; done) | rfl)
            · intro w; go_simp; try with_reducible rfl
            refine wpAny_act (a' := ?_) ?_ ?_
            rotate_left
            · simp only [Act.put, List.getElem_toArray, List.getElem_cons_succ, List.getElem_cons_zero, List.setIfInBounds_toArray, List.set_cons_succ, List.set_cons_zero]; rfl
            refine wpAny_take (i := 24) (v := ?_) rfl (by kernel_rfl) (by kernel_rfl) (by kernel_rfl) (fun _ _ _ h => h) (Or.inl ⟨?_, ?_⟩) ?_
            rotate_left
            · (first | (go_simp; done) | rfl)
            · intro w; go_simp; try with_reducible rfl
            refine wpAny_act (a' := ?_) ?_ ?_
            rotate_left
            · simp only [Act.put, List.getElem_toArray, List.getElem_cons_succ, List.getElem_cons_zero, List.setIfInBounds_toArray, List.set_cons_succ, List.set_cons_zero]; rfl
            refine wpAny_take (i := 25) (v := ?_) rfl (by kernel_rfl) (by kernel_rfl) (by kernel_rfl) (fun _ _ _ h => h) (Or.inl ⟨?_, ?_⟩) ?_
            rotate_left
            · (first | (go_simp; done) | rfl)
            · intro w; go_simp; try with_reducible rfl
            refine wpAny_act (a' := ?_) ?_ ?_
            rotate_left
            · simp only [Act.put, List.getElem_toArray, List.getElem_cons_succ, List.getElem_cons_zero, List.setIfInBounds_toArray, List.set_cons_succ, List.set_cons_zero]; rfl
            refine wpAny_take (i := 27) (v := ?_) rfl (by kernel_rfl) (by kernel_rfl) (by kernel_rfl) (fun _ _ _ h => h) (Or.inl ⟨?_, ?_⟩) ?_
            rotate_left
            · (first | (go_simp; done) | rfl)
            · intro w; go_simp; try with_reducible rfl
            refine wpAny_act (a' := ?_) ?_ ?_
            rotate_left
            · simp only [Act.put, List.getElem_toArray, List.getElem_cons_succ, List.getElem_cons_zero, List.setIfInBounds_toArray, List.set_cons_succ, List.set_cons_zero]; rfl
            refine wpAny_take (i := 28) (v := ?_) rfl (by kernel_rfl) (by kernel_rfl) (by kernel_rfl) (fun _ _ _ h => h) (Or.inl ⟨?_, ?_⟩) ?_
            rotate_left
            · (first | (go_simp; done) | rfl)
            · intro w; go_simp; try with_reducible rfl
            refine wpAny_act (a' := ?_) ?_ ?_
            rotate_left
            · simp only [Act.put, List.getElem_toArray, List.getElem_cons_succ, List.getElem_cons_zero, List.setIfInBounds_toArray, List.set_cons_succ, List.set_cons_zero]; rfl
            refine wpAny_take (i := 29) (v := ?_) rfl (by kernel_rfl) (by kernel_rfl) (by kernel_rfl) (fun _ _ _ h => h) (Or.inl ⟨?_, ?_⟩) ?_
            rotate_left
            · (first | (go_simp; done) | rfl)
            · intro w; go_simp; try with_reducible rfl
            refine wpAny_act (a' := ?_) ?_ ?_
            rotate_left
            · simp only [Act.put, List.getElem_toArray, List.getElem_cons_succ, List.getElem_cons_zero, List.setIfInBounds_toArray, List.set_cons_succ, List.set_cons_zero]; rfl
            refine wpAny_take (i := 30) (v := ?_) rfl (by kernel_rfl) (by kernel_rfl) (by kernel_rfl) (fun _ _ _ h => h) (Or.inl ⟨?_, ?_⟩) ?_
            rotate_left
            · (first | (go_simp; done) | rfl)
            · intro w; go_simp; try with_reducible rfl
            refine wpAny_act (a' := ?_) ?_ ?_
            rotate_left
            · simp only [Act.put, List.getElem_toArray, List.getElem_cons_succ, List.getElem_cons_zero, List.setIfInBounds_toArray, List.set_cons_succ, List.set_cons_zero]; rfl
            refine wpAny_ready (rs := [26, 31]) (by kernel_rfl) (by simp) ?_
            refine AllReady.cons rfl (fun K hK => ?_) ?_
            ·
              go_simp
              refine hK _ _ ?_
              clear hK K
              refine wpAny_ready (rs := [31]) (by kernel_rfl) (by simp) ?_
              refine AllReady.cons rfl (fun K hK => ?_) AllReady.nil
              go_simp
              refine hK _ _ ?_
              clear hK K
              refine wpAny_ready (rs := [32]) (by kernel_rfl) (by simp) ?_
              refine AllReady.cons rfl (fun K hK => ?_) AllReady.nil
              go_simp
              go_wp2_with (go_at_call 21; refine (under_any _ _ _ _ _ _ _ _ _ (HS1.out _ e3) (HS2.out _ e3)).mono ?_; rw [HV1.out]; rintro e y4 ⟨rfl, g4⟩; have e4 := below_on e3 g4 (Nat.le_refl _))
              refine wpAny_take (i := 33) (v := ?_) rfl (by kernel_rfl) (by kernel_rfl) (by kernel_rfl) (fun _ _ _ h => h) (Or.inl ⟨?_, ?_⟩) ?_
              rotate_left
              · (first | (go_simp; done) | rfl)
              · intro w; go_simp; try with_reducible rfl
              refine wpAny_act (a' := ?_) ?_ ?_
              rotate_left
              · simp only [Act.put, List.getElem_toArray, List.getElem_cons_succ, List.getElem_cons_zero, List.setIfInBounds_toArray, List.set_cons_succ, List.set_cons_zero]; rfl
              refine wpAny_take (i := 34) (v := ?_) rfl (by kernel_rfl) (by kernel_rfl) (by kernel_rfl) (fun _ _ _ h => h) (Or.inl ⟨?_, ?_⟩) ?_
              rotate_left
              · rfl
              · intro w; go_simp; try with_reducible rfl
              refine wpAny_act (a' := ?_) ?_ ?_
              rotate_left
              · simp only [Act.put, List.getElem_toArray, List.getElem_cons_succ, List.getElem_cons_zero, List.setIfInBounds_toArray, List.set_cons_succ, List.set_cons_zero]; rfl
              refine wpAny_done (by kernel_rfl) ?_ _
              go_wp2
              go_roundw
              case rel => exact ⟨k + 1, by omega, by go_num, HKP.out _ e4⟩
              case measure => simp [intOf]; omega
            refine AllReady.cons rfl (fun K hK => ?_) ?_
            ·
              go_simp
              refine hK _ _ ?_
              clear hK K
              refine wpAny_ready (rs := [26]) (by kernel_rfl) (by simp) ?_
              refine AllReady.cons rfl (fun K hK => ?_) AllReady.nil
              go_simp
              refine hK _ _ ?_
              clear hK K
              refine wpAny_ready (rs := [32]) (by kernel_rfl) (by simp) ?_
              refine AllReady.cons rfl (fun K hK => ?_) AllReady.nil
              go_simp
              go_wp2_with (go_at_call 21; refine (under_any _ _ _ _ _ _ _ _ _ (HS1.out _ e3) (HS2.out _ e3)).mono ?_; rw [HV1.out]; rintro e y4 ⟨rfl, g4⟩; have e4 := below_on e3 g4 (Nat.le_refl _))
              refine wpAny_take (i := 33) (v := ?_) rfl (by kernel_rfl) (by kernel_rfl) (by kernel_rfl) (fun _ _ _ h => h) (Or.inl ⟨?_, ?_⟩) ?_
              rotate_left
              · (first | (go_simp; done) | rfl)
              · intro w; go_simp; try with_reducible rfl
              refine wpAny_act (a' := ?_) ?_ ?_
              rotate_left
              · simp only [Act.put, List.getElem_toArray, List.getElem_cons_succ, List.getElem_cons_zero, List.setIfInBounds_toArray, List.set_cons_succ, List.set_cons_zero]; rfl
              refine wpAny_take (i := 34) (v := ?_) rfl (by kernel_rfl) (by kernel_rfl) (by kernel_rfl) (fun _ _ _ h => h) (Or.inl ⟨?_, ?_⟩) ?_
              rotate_left
              · rfl
              · intro w; go_simp; try with_reducible rfl
              refine wpAny_act (a' := ?_) ?_ ?_
              rotate_left
              · simp only [Act.put, List.getElem_toArray, List.getElem_cons_succ, List.getElem_cons_zero, List.setIfInBounds_toArray, List.set_cons_succ, List.set_cons_zero]; rfl
              refine wpAny_done (by kernel_rfl) ?_ _
              go_wp2
              go_roundw
              case rel => exact ⟨k + 1, by omega, by go_num, HKP.out _ e4⟩
              case measure => simp [intOf]; omega
            exact AllReady.nil
          refine AllReady.cons rfl (fun K hK => ?_) ?_
          ·
            go_simp
            refine hK _ _ ?_
            clear hK K
            refine wpAny_ready (rs := [11]) (by kernel_rfl) (by simp) ?_
            refine AllReady.cons rfl (fun K hK => ?_) AllReady.nil
            go_simp
            go_wp2_with (go_at_call 13; refine (own_len _ _ _ _ _ (HSw.out _ e1) HLB.out).mono ?_; rintro e y2 ⟨p5, q5, rfl, t5, g2⟩; have e2 := below_on e1 g2 (Nat.le_refl _); have q2a := HC1.out _ e2)
            refine wpAny_ready (rs := [16]) (by kernel_rfl) (by simp) ?_
            refine AllReady.cons rfl (fun K hK => ?_) AllReady.nil
            go_simp
            go_wp2_with (go_at_call 21; refine (under_any _ _ _ _ _ _ _ _ _ t5 (HS1.out _ e2)).mono ?_; rw [HU1.out]; rintro e y3 ⟨rfl, g3⟩; have e3 := below_on e2 g3 (Nat.le_refl _); have q3a := HC1.out _ e3; have q3b := HC2.out _ e3)
            refine wpAny_take (i := 17) (v := ?_) rfl (by kernel_rfl) (by kernel_rfl) (by kernel_rfl) (fun _ _ _ h => h) (Or.inl ⟨?_, ?_⟩) ?_
            rotate_left
            · (first | (go_simp; done) | rfl)
            · intro w; go_simp; try with_reducible rfl
            refine wpAny_act (a' := ?_) ?_ ?_
            rotate_left
            · simp only [Act.put, List.getElem_toArray, List.getElem_cons_succ, List.getElem_cons_zero, List.setIfInBounds_toArray, List.set_cons_succ, List.set_cons_zero]; rfl
            refine wpAny_take (i := 18) (v := ?_) rfl (by kernel_rfl) (by kernel_rfl) (by kernel_rfl) (fun _ _ _ h => h) (Or.inl ⟨?_, ?_⟩) ?_
            rotate_left
            · rfl
            · intro w; go_simp; try with_reducible rfl
            refine wpAny_act (a' := ?_) ?_ ?_
            rotate_left
            · simp only [Act.put, List.getElem_toArray, List.getElem_cons_succ, List.getElem_cons_zero, List.setIfInBounds_toArray, List.set_cons_succ, List.set_cons_zero]; rfl
            refine wpAny_take (i := 19) (v := ?_) rfl (by kernel_rfl) (by kernel_rfl) (by kernel_rfl) (fun _ _ _ h => h) (Or.inl ⟨?_, ?_⟩) ?_
            rotate_left
            · rfl
            · intro w; go_simp; try with_reducible rfl
            refine wpAny_act (a' := ?_) ?_ ?_
            rotate_left
            · simp only [Act.put, List.getElem_toArray, List.getElem_cons_succ, List.getElem_cons_zero, List.setIfInBounds_toArray, List.set_cons_succ, List.set_cons_zero]; rfl
            refine wpAny_take (i := 20) (v := ?_) rfl (by kernel_rfl) (by kernel_rfl) (by kernel_rfl) (fun _ _ _ h => h) (Or.inl ⟨?_, ?_⟩) ?_
            rotate_left
            · (first | (go_simp; done) | rfl)
            · intro w; go_simp; try with_reducible rfl
            refine wpAny_act (a' := ?_) ?_ ?_
            rotate_left
            · simp only [Act.put, List.getElem_toArray, List.getElem_cons_succ, List.getElem_cons_zero, List.setIfInBounds_toArray, List.set_cons_succ, List.set_cons_zero]; rfl
            refine wpAny_take (i := 21) (v := ?_) rfl (by kernel_rfl) (by kernel_rfl) (by kernel_rfl) (fun _ _ _ h => h) (Or.inl ⟨?_, ?_⟩) ?_
            rotate_left
            · (first | (go_simp; done) | rfl)
            · intro w; go_simp; try with_reducible rfl
            refine wpAny_act (a' := ?_) ?_ ?_
            rotate_left
            · simp only [Act.put, List.getElem_toArray, List.getElem_cons_succ, List.getElem_cons_zero, List.setIfInBounds_toArray, List.set_cons_succ, List.set_cons_zero]; rfl
            refine wpAny_take (i := 22) (v := ?_) rfl (by kernel_rfl) (by kernel_rfl) (by kernel_rfl) (fun _ _ _ h => h) (Or.inl ⟨?_, ?_⟩) ?_
            rotate_left
            · (first | (go_simp; done) | rfl)
            · intro w; go_simp; try with_reducible rfl
            refine wpAny_act (a' := ?_) ?_ ?_
            rotate_left
            · simp only [Act.put, List.getElem_toArray, List.getElem_cons_succ, List.getElem_cons_zero, List.setIfInBounds_toArray, List.set_cons_succ, List.set_cons_zero]; rfl
            refine wpAny_take (i := 23) (v := ?_) rfl (by kernel_rfl) (by kernel_rfl) (by kernel_rfl) (fun _ _ _ h => h) (Or.inl ⟨?_, ?_⟩) ?_
            rotate_left
            · (first | (go_simp; done) | rfl)
            · intro w; go_simp; try with_reducible rfl
            refine wpAny_act (a' := ?_) ?_ ?_
            rotate_left
            · simp only [Act.put, List.getElem_toArray, List.getElem_cons_succ, List.getElem_cons_zero, List.setIfInBounds_toArray, List.set_cons_succ, List.set_cons_zero]; rfl
            refine wpAny_take (i := 24) (v := ?_) rfl (by kernel_rfl) (by kernel_rfl) (by kernel_rfl) (fun _ _ _ h => h) (Or.inl ⟨?_, ?_⟩) ?_
            rotate_left
            · (first | (go_simp; done) | rfl)
            · intro w; go_simp; try with_reducible rfl
            refine wpAny_act (a' := ?_) ?_ ?_
            rotate_left
            · simp only [Act.put, List.getElem_toArray, List.getElem_cons_succ, List.getElem_cons_zero, List.setIfInBounds_toArray, List.set_cons_succ, List.set_cons_zero]; rfl
            refine wpAny_take (i := 25) (v := ?_) rfl (by kernel_rfl) (by kernel_rfl) (by kernel_rfl) (fun _ _ _ h => h) (Or.inl ⟨?_, ?_⟩) ?_
            rotate_left
            · (first | (go_simp; done) | rfl)
            · intro w; go_simp; try with_reducible rfl
            refine wpAny_act (a' := ?_) ?_ ?_
            rotate_left
            · simp only [Act.put, List.getElem_toArray, List.getElem_cons_succ, List.getElem_cons_zero, List.setIfInBounds_toArray, List.set_cons_succ, List.set_cons_zero]; rfl
            refine wpAny_take (i := 27) (v := ?_) rfl (by kernel_rfl) (by kernel_rfl) (by kernel_rfl) (fun _ _ _ h => h) (Or.inl ⟨?_, ?_⟩) ?_
            rotate_left
            · (first | (go_simp; done) | rfl)
            · intro w; go_simp; try with_reducible rfl
            refine wpAny_act (a' := ?_) ?_ ?_
            rotate_left
            · simp only [Act.put, List.getElem_toArray, List.getElem_cons_succ, List.getElem_cons_zero, List.setIfInBounds_toArray, List.set_cons_succ, List.set_cons_zero]; rfl
            refine wpAny_take (i := 28) (v := ?_) rfl (by kernel_rfl) (by kernel_rfl) (by kernel_rfl) (fun _ _ _ h => h) (Or.inl ⟨?_, ?_⟩) ?_
            rotate_left
            · (first | (go_simp; done) | rfl)
            · intro w; go_simp; try with_reducible rfl
            refine wpAny_act (a' := ?_) ?_ ?_
            rotate_left
            · simp only [Act.put, List.getElem_toArray, List.getElem_cons_succ, List.getElem_cons_zero, List.setIfInBounds_toArray, List.set_cons_succ, List.set_cons_zero]; rfl
            refine wpAny_take (i := 29) (v := ?_) rfl (by kernel_rfl) (by kernel_rfl) (by kernel_rfl) (fun _ _ _ h => h) (Or.inl ⟨?_, ?_⟩) ?_
            rotate_left
            · (first | (go_simp; done) | rfl)
            · intro w; go_simp; try with_reducible rfl
            refine wpAny_act (a' := ?_) ?_ ?_
            rotate_left
            · simp only [Act.put, List.getElem_toArray, List.getElem_cons_succ, List.getElem_cons_zero, List.setIfInBounds_toArray, List.set_cons_succ, List.set_cons_zero]; rfl
            refine wpAny_take (i := 30) (v := ?_) rfl (by kernel_rfl) (by kernel_rfl) (by kernel_rfl) (fun _ _ _ h => h) (Or.inl ⟨?_, ?_⟩) ?_
            rotate_left
            · (first | (go_simp; done) | rfl)
            · intro w; go_simp; try with_reducible rfl
            refine wpAny_act (a' := ?_) ?_ ?_
            rotate_left
            · simp only [Act.put, List.getElem_toArray, List.getElem_cons_succ, List.getElem_cons_zero, List.setIfInBounds_toArray, List.set_cons_succ, List.set_cons_zero]; rfl
            refine wpAny_ready (rs := [26, 31]) (by kernel_rfl) (by simp) ?_
            refine AllReady.cons rfl (fun K hK => ?_) ?_
            ·
              go_simp
              refine hK _ _ ?_
              clear hK K
              refine wpAny_ready (rs := [31]) (by kernel_rfl) (by simp) ?_
              refine AllReady.cons rfl (fun K hK => ?_) AllReady.nil
              go_simp
              refine hK _ _ ?_
              clear hK K
              refine wpAny_ready (rs := [32]) (by kernel_rfl) (by simp) ?_
              refine AllReady.cons rfl (fun K hK => ?_) AllReady.nil
              go_simp
              go_wp2_with (go_at_call 21; refine (under_any _ _ _ _ _ _ _ _ _ (HS1.out _ e3) (HS2.out _ e3)).mono ?_; rw [HV1.out]; rintro e y4 ⟨rfl, g4⟩; have e4 := below_on e3 g4 (Nat.le_refl _))
              refine wpAny_take (i := 33) (v := ?_) rfl (by kernel_rfl) (by kernel_rfl) (by kernel_rfl) (fun _ _ _ h => h) (Or.inl ⟨?_, ?_⟩) ?_
              rotate_left
              · (first | (go_simp; done) | rfl)
              · intro w; go_simp; try with_reducible rfl
              refine wpAny_act (a' := ?_) ?_ ?_
              rotate_left
              · simp only [Act.put, List.getElem_toArray, List.getElem_cons_succ, List.getElem_cons_zero, List.setIfInBounds_toArray, List.set_cons_succ, List.set_cons_zero]; rfl
              refine wpAny_take (i := 34) (v := ?_) rfl (by kernel_rfl) (by kernel_rfl) (by kernel_rfl) (fun _ _ _ h => h) (Or.inl ⟨?_, ?_⟩) ?_
              rotate_left
              · rfl
              · intro w; go_simp; try with_reducible rfl
              refine wpAny_act (a' := ?_) ?_ ?_
              rotate_left
              · simp only [Act.put, List.getElem_toArray, List.getElem_cons_succ, List.getElem_cons_zero, List.setIfInBounds_toArray, List.set_cons_succ, List.set_cons_zero]; rfl
              refine wpAny_done (by kernel_rfl) ?_ _
              go_wp2
              go_roundw
              case rel => exact ⟨k + 1, by omega, by go_num, HKP.out _ e4⟩
              case measure => simp [intOf]; omega
            refine AllReady.cons rfl (fun K hK => ?_) ?_
            ·
              go_simp
              refine hK _ _ ?_
              clear hK K
              refine wpAny_ready (rs := [26]) (by kernel_rfl) (by simp) ?_
              refine AllReady.cons rfl (fun K hK => ?_) AllReady.nil
              go_simp
              refine hK _ _ ?_
              clear hK K
              refine wpAny_ready (rs := [32]) (by kernel_rfl) (by simp) ?_
              refine AllReady.cons rfl (fun K hK => ?_) AllReady.nil
              go_simp
              go_wp2_with (go_at_call 21; refine (under_any _ _ _ _ _ _ _ _ _ (HS1.out _ e3) (HS2.out _ e3)).mono ?_; rw [HV1.out]; rintro e y4 ⟨rfl, g4⟩; have e4 := below_on e3 g4 (Nat.le_refl _))
              refine wpAny_take (i := 33) (v := ?_) rfl (by kernel_rfl) (by kernel_rfl) (by kernel_rfl) (fun _ _ _ h => h) (Or.inl ⟨?_, ?_⟩) ?_
              rotate_left
              · (first | (go_simp; done) | rfl)
              · intro w; go_simp; try with_reducible rfl
              refine wpAny_act (a' := ?_) ?_ ?_
              rotate_left
              · simp only [Act.put, List.getElem_toArray, List.getElem_cons_succ, List.getElem_cons_zero, List.setIfInBounds_toArray, List.set_cons_succ, List.set_cons_zero]; rfl
              refine wpAny_take (i := 34) (v := ?_) rfl (by kernel_rfl) (by kernel_rfl) (by kernel_rfl) (fun _ _ _ h => h) (Or.inl ⟨?_, ?_⟩) ?_
              rotate_left
              · rfl
              · intro w; go_simp; try with_reducible rfl
              refine wpAny_act (a' := ?_) ?_ ?_
              rotate_left
              · simp only [Act.put, List.getElem_toArray, List.getElem_cons_succ, List.getElem_cons_zero, List.setIfInBounds_toArray, List.set_cons_succ, List.set_cons_zero]; rfl
              refine wpAny_done (by kernel_rfl) ?_ _
              go_wp2
              go_roundw
              case rel => exact ⟨k + 1, by omega, by go_num, HKP.out _ e4⟩
              case measure => simp [intOf]; omega
            exact AllReady.nil
          exact AllReady.nil
        ·
          obtain ⟨ak, ck, ek, sk, fk⟩ := hkp.out.el k (by rw [hkp.out.len]; omega)
          have dk : (s0.drop k).length = l0 - k := by simp [HL.out]
          rw [dk] at ek sk
          obtain ⟨lb, lof, rfl⟩ := hkp.out.row.addr (k := k) (by omega)
          have cell1 := hkp.out.row.at (i := k) (by omega)
          rw [ek] at cell1
          have hq0 : decide ((0 : Int) < (k : Int)) = false := by rw [decide_eq_false_iff_not]; omega
          have hq1 : decide (0 < k) = false := decide_eq_false hk0
          have HC1 := Lib.hid (show ∀ w', Below wr.heap.size wr w' → w'.cell? ⟨lb, lof + k, none⟩ = some (.slice ak (l0 - k) ck) from fun w' h => cell_keep h cell1)
          have HS1 := Lib.hid (show ∀ w', Below wr.heap.size wr w' → Strs w' ak (l0 - k) ck (s0.drop k) from fun w' h => sk.below h (Nat.le_refl _))
          have HSn := Lib.hid (show ∀ w', Below wr.heap.size wr w' → Strs w' a0 (l0 - k) 0 (s0.drop k) from fun w' h => ((w0.below hkp.out.bel (Nat.le_refl _)).below h (Nat.le_refl _)).cut0 (k := k) (by omega) rfl)
          have HSw := Lib.hid (show ∀ w', Below wr.heap.size wr w' → Strs w' a0 l0 k s0 from fun w' h => (w0.below hkp.out.bel (Nat.le_refl _)).below h (Nat.le_refl _))
          have HE1 := Lib.hid (exactB_refl (s0.drop k))
          have HU1 := Lib.hid (underB_drop s0 k (by have := HL.out; omega))
          have hkz : (0 : Int) ≤ (k : Int) := Int.natCast_nonneg _
          have hkl : (k : Int) < (l0 : Int) + 1 := by omega
          have hkm : (k : Int) ≤ (l0 : Int) := by omega
          have hbd : Below wr.heap.size wr wr.drew := Below.drew (Below.refl _ _)
          have HKP := Lib.hid (show ∀ w', Below wr.heap.size wr w' → Keep x3.heap.size W w' (some ⟨lb, lof, none⟩) (l0 + 1) lc vs s0 from fun w' h => hkp.out.on h)
          clear ek sk fk dk hkp cell1
          have cell1 := HC1.out _ hbd
          go_wp2_with fail
          refine wp_region_any (by kernel_rfl) ?_
          try (change wpAny _ _ _ _ _ _ _ (World.drew _))
          refine wpAny_take (i := 0) (v := ?_) rfl (by kernel_rfl) (by kernel_rfl) (by kernel_rfl) (fun _ _ _ h => h) (Or.inl ⟨?_, ?_⟩) ?_
          rotate_left
          · rfl
          · intro w; go_simp; try with_reducible rfl
          refine wpAny_act (a' := ?_) ?_ ?_
          rotate_left
          · simp only [Act.put, List.getElem_toArray, List.getElem_cons_zero, List.setIfInBounds_toArray, List.set_cons_succ, List.set_cons_zero]; rfl
          refine wpAny_take (i := 1) (v := ?_) rfl (by kernel_rfl) (by kernel_rfl) (by kernel_rfl) (fun _ _ _ h => h) (Or.inl ⟨?_, ?_⟩) ?_
          rotate_left
          · rfl
          · intro w; go_simp; try with_reducible rfl
          refine wpAny_act (a' := ?_) ?_ ?_
          rotate_left
          · simp only [Act.put, List.getElem_toArray, List.getElem_cons_succ, List.getElem_cons_zero, List.setIfInBounds_toArray, List.set_cons_succ, List.set_cons_zero]; rfl
          refine wpAny_take (i := 2) (v := ?_) rfl (by kernel_rfl) (by kernel_rfl) (by kernel_rfl) (fun _ _ _ h => h) (Or.inl ⟨?_, ?_⟩) ?_
          rotate_left
          · rfl
          · intro w; go_simp; try with_reducible rfl
          refine wpAny_act (a' := ?_) ?_ ?_
          rotate_left
          · simp only [Act.put, List.getElem_toArray, List.getElem_cons_succ, List.getElem_cons_zero, List.setIfInBounds_toArray, List.set_cons_succ, List.set_cons_zero]; rfl
          refine wpAny_take (i := 4) (v := ?_) rfl (by kernel_rfl) (by kernel_rfl) (by kernel_rfl) (fun _ _ _ h => h) (Or.inl ⟨?_, ?_⟩) ?_
          rotate_left
          · rfl
          · intro w; go_simp; try with_reducible rfl
          refine wpAny_act (a' := ?_) ?_ ?_
          rotate_left
          · simp only [Act.put, List.getElem_toArray, List.getElem_cons_succ, List.getElem_cons_zero, List.setIfInBounds_toArray, List.set_cons_succ, List.set_cons_zero]; rfl
          refine wpAny_take (i := 5) (v := ?_) rfl (by kernel_rfl) (by kernel_rfl) (by kernel_rfl) (fun _ _ _ h => h) (Or.inl ⟨?_, ?_⟩) ?_
          rotate_left
          · rfl
          · intro w; go_simp; try with_reducible rfl
          refine wpAny_act (a' := ?_) ?_ ?_
          rotate_left
          · simp only [Act.put, List.getElem_toArray, List.getElem_cons_succ, List.getElem_cons_zero, List.setIfInBounds_toArray, List.set_cons_succ, List.set_cons_zero]; rfl
          refine wpAny_take (i := 6) (v := ?_) rfl (by kernel_rfl) (by kernel_rfl) (by kernel_rfl) (fun _ _ _ h => h) (Or.inl ⟨?_, ?_⟩) ?_
          rotate_left
          · rfl
          · intro w; go_simp; try with_reducible rfl
          refine wpAny_act (a' := ?_) ?_ ?_
          rotate_left
          · simp only [Act.put, List.getElem_toArray, List.getElem_cons_succ, List.getElem_cons_zero, List.setIfInBounds_toArray, List.set_cons_succ, List.set_cons_zero]; rfl
          refine wpAny_ready (rs := [3]) (by kernel_rfl) (by simp) ?_
          refine AllReady.cons rfl (fun K hK => ?_) AllReady.nil
          go_simp
          refine hK _ _ ?_
          clear hK K
          refine wpAny_ready (rs := [7]) (by kernel_rfl) (by simp) ?_
          refine AllReady.cons rfl (fun K hK => ?_) AllReady.nil
          go_simp
          go_wp2_with (go_at_call 20; refine (exact_any _ _ _ _ _ _ _ _ _ (HS1.out _ hbd) (HSn.out _ hbd)).mono ?_; rw [HE1.out]; rintro e y1 ⟨rfl, g1⟩; have e1 := below_on hbd g1 (Nat.le_refl _); have q1a := HC1.out _ e1)
          refine wpAny_take (i := 8) (v := ?_) rfl (by kernel_rfl) (by kernel_rfl) (by kernel_rfl) (fun _ _ _ h => h) (Or.inl ⟨?_, ?_⟩) ?_
          rotate_left
          · rfl
          · intro w; go_simp; try with_reducible rfl
          refine wpAny_act (a' := ?_) ?_ ?_
          rotate_left
          · simp only [Act.put, List.getElem_toArray, List.getElem_cons_succ, List.getElem_cons_zero, List.setIfInBounds_toArray, List.set_cons_succ, List.set_cons_zero]; rfl
          refine wpAny_take (i := 9) (v := ?_) rfl (by kernel_rfl) (by kernel_rfl) (by kernel_rfl) (fun _ _ _ h => h) (Or.inl ⟨?_, ?_⟩) ?_
          rotate_left
          · rfl
          · intro w; go_simp; try with_reducible rfl
          refine wpAny_act (a' := ?_) ?_ ?_
          rotate_left
          · simp only [Act.put, List.getElem_toArray, List.getElem_cons_succ, List.getElem_cons_zero, List.setIfInBounds_toArray, List.set_cons_succ, List.set_cons_zero]; rfl
          refine wpAny_take (i := 10) (v := ?_) rfl (by kernel_rfl) (by kernel_rfl) (by kernel_rfl) (fun _ _ _ h => h) (Or.inl ⟨?_, ?_⟩) ?_
          rotate_left
          · (first | (go_simp; done) | rfl)
          · intro w; go_simp; try with_reducible rfl
          refine wpAny_act (a' := ?_) ?_ ?_
          rotate_left
          · simp only [Act.put, List.getElem_toArray, List.getElem_cons_succ, List.getElem_cons_zero, List.setIfInBounds_toArray, List.set_cons_succ, List.set_cons_zero]; rfl
          refine wpAny_take (i := 12) (v := ?_) rfl (by kernel_rfl) (by kernel_rfl) (by kernel_rfl) (fun _ _ _ h => h) (Or.inl ⟨?_, ?_⟩) ?_
          rotate_left
          · (first | (go_simp; done) | rfl)
          · intro w; go_simp; try with_reducible rfl
          refine wpAny_act (a' := ?_) ?_ ?_
          rotate_left
          · simp only [Act.put, List.getElem_toArray, List.getElem_cons_succ, List.getElem_cons_zero, List.setIfInBounds_toArray, List.set_cons_succ, List.set_cons_zero]; rfl
          refine wpAny_take (i := 13) (v := ?_) rfl (by kernel_rfl) (by kernel_rfl) (by kernel_rfl) (fun _ _ _ h => h) (Or.inl ⟨?_, ?_⟩) ?_
          rotate_left
          · (first | (go_simp; done) | rfl)
          · intro w; go_simp; try with_reducible rfl
          refine wpAny_act (a' := ?_) ?_ ?_
          rotate_left
          · simp only [Act.put, List.getElem_toArray, List.getElem_cons_succ, List.getElem_cons_zero, List.setIfInBounds_toArray, List.set_cons_succ, List.set_cons_zero]; rfl
          refine wpAny_take (i := 14) (v := ?_) rfl (by kernel_rfl) (by kernel_rfl) (by kernel_rfl) (fun _ _ _ h => h) (Or.inl ⟨?_, ?_⟩) ?_
          rotate_left
          · (first | (go_simp; done) | rfl)
          · intro w; go_simp; try with_reducible rfl
          refine wpAny_act (a' := ?_) ?_ ?_
          rotate_left
          · simp only [Act.put, List.getElem_toArray, List.getElem_cons_succ, List.getElem_cons_zero, List.setIfInBounds_toArray, List.set_cons_succ, List.set_cons_zero]; rfl
          refine wpAny_ready (rs := [11, 15]) (by kernel_rfl) (by simp) ?_
          refine AllReady.cons rfl (fun K hK => ?_) ?_
          ·
            go_simp
            go_wp2_with (go_at_call 13; refine (own_len _ _ _ _ _ (HSw.out _ e1) HLB.out).mono ?_; rintro e y2 ⟨p5, q5, rfl, t5, g2⟩; have e2 := below_on e1 g2 (Nat.le_refl _); have q2a := HC1.out _ e2)
            refine wpAny_ready (rs := [15]) (by kernel_rfl) (by simp) ?_
            refine AllReady.cons rfl (fun K hK => ?_) AllReady.nil
            go_simp
            refine hK _ _ ?_
            clear hK K
            refine wpAny_ready (rs := [16]) (by kernel_rfl) (by simp) ?_
            refine AllReady.cons rfl (fun K hK => ?_) AllReady.nil
            go_simp
            go_wp2_with (go_at_call 21; refine (under_any _ _ _ _ _ _ _ _ _ t5 (HS1.out _ e2)).mono ?_; rw [HU1.out]; rintro e y3 ⟨rfl, g3⟩; have e3 := below_on e2 g3 (Nat.le_refl _); have q3a := HC1.out _ e3)
            refine wpAny_take (i := 17) (v := ?_) rfl (by kernel_rfl) (by kernel_rfl) (by kernel_rfl) (fun _ _ _ h => h) (Or.inl ⟨?_, ?_⟩) ?_
            rotate_left
            · (first | (go_simp; done) | rfl)
            · intro w; go_simp; try with_reducible rfl
            refine wpAny_act (a' := ?_) ?_ ?_
            rotate_left
            · simp only [Act.put, List.getElem_toArray, List.getElem_cons_succ, List.getElem_cons_zero, List.setIfInBounds_toArray, List.set_cons_succ, List.set_cons_zero]; rfl
            refine wpAny_take (i := 18) (v := ?_) rfl (by kernel_rfl) (by kernel_rfl) (by kernel_rfl) (fun _ _ _ h => h) (Or.inl ⟨?_, ?_⟩) ?_
            rotate_left
            · rfl
            · intro w; go_simp; try with_reducible rfl
            refine wpAny_act (a' := ?_) ?_ ?_
            rotate_left
            · simp only [Act.put, List.getElem_toArray, List.getElem_cons_succ, List.getElem_cons_zero, List.setIfInBounds_toArray, List.set_cons_succ, List.set_cons_zero]; rfl
            refine wpAny_take (i := 19) (v := ?_) rfl (by kernel_rfl) (by kernel_rfl) (by kernel_rfl) (fun _ _ _ h => h) (Or.inl ⟨?_, ?_⟩) ?_
            rotate_left
            · rfl
            · intro w; go_simp; try with_reducible rfl
            refine wpAny_act (a' := ?_) ?_ ?_
            rotate_left
            · simp only [Act.put, List.getElem_toArray, List.getElem_cons_succ, List.getElem_cons_zero, List.setIfInBounds_toArray, List.set_cons_succ, List.set_cons_zero]; rfl
            refine wpAny_take (i := 20) (v := ?_) rfl (by kernel_rfl) (by kernel_rfl) (by kernel_rfl) (fun _ _ _ h => h) (Or.inl ⟨?_, ?_⟩) ?_
            rotate_left
            · (first | (go_simp; done) | rfl)
            · intro w; go_simp; try with_reducible rfl
            refine wpAny_act (a' := ?_) ?_ ?_
            rotate_left
            · simp only [Act.put, List.getElem_toArray, List.getElem_cons_succ, List.getElem_cons_zero, List.setIfInBounds_toArray, List.set_cons_succ, List.set_cons_zero]; rfl
            refine wpAny_take (i := 21) (v := ?_) rfl (by kernel_rfl) (by kernel_rfl) (by kernel_rfl) (fun _ _ _ h => h) (Or.inl ⟨?_, ?_⟩) ?_
            rotate_left
            · (first | (go_simp; done) | rfl)
            · intro w; go_simp; try with_reducible rfl
            refine wpAny_act (a' := ?_) ?_ ?_
            rotate_left
            · simp only [Act.put, List.getElem_toArray, List.getElem_cons_succ, List.getElem_cons_zero, List.setIfInBounds_toArray, List.set_cons_succ, List.set_cons_zero]; rfl
            refine wpAny_take (i := 22) (v := ?_) rfl (by kernel_rfl) (by kernel_rfl) (by kernel_rfl) (fun _ _ _ h => h) (Or.inl ⟨?_, ?_⟩) ?_
            rotate_left
            · (first | (go_simp; done) | rfl)
            · intro w; go_simp; try with_reducible rfl
            refine wpAny_act (a' := ?_) ?_ ?_
            rotate_left
            · simp only [Act.put, List.getElem_toArray, List.getElem_cons_succ, List.getElem_cons_zero, List.setIfInBounds_toArray, List.set_cons_succ, List.set_cons_zero]; rfl
            refine wpAny_take (i := 23) (v := undef) rfl (by kernel_rfl) (by kernel_rfl) (by kernel_rfl) (fun _ _ _ h => h) (Or.inr ⟨?_, rfl⟩) ?_
            · (first | (go_simp; done) | rfl)
            refine wpAny_act (a' := ?_) ?_ ?_
            rotate_left
            · simp only [Act.put, List.getElem_toArray, List.getElem_cons_succ, List.getElem_cons_zero, List.setIfInBounds_toArray, List.set_cons_succ, List.set_cons_zero]; rfl
            refine wpAny_take (i := 24) (v := undef) rfl (by kernel_rfl) (by kernel_rfl) (by kernel_rfl) (fun _ _ _ h => h) (Or.inr ⟨?_, rfl⟩) ?_
            · (first | (go_simp; done) | rfl)
            refine wpAny_act (a' := ?_) ?_ ?_
            rotate_left
            · simp only [Act.put, List.getElem_toArray, List.getElem_cons_succ, List.getElem_cons_zero, List.setIfInBounds_toArray, List.set_cons_succ, List.set_cons_zero]; rfl
            refine wpAny_take (i := 25) (v := undef) rfl (by kernel_rfl) (by kernel_rfl) (by kernel_rfl) (fun _ _ _ h => h) (Or.inr ⟨?_, rfl⟩) ?_
            · (first | (go_simp; done) | rfl)
            refine wpAny_act (a' := ?_) ?_ ?_
            rotate_left
            · simp only [Act.put, List.getElem_toArray, List.getElem_cons_succ, List.getElem_cons_zero, List.setIfInBounds_toArray, List.set_cons_succ, List.set_cons_zero]; rfl
            refine wpAny_take (i := 26) (v := undef) rfl (by kernel_rfl) (by kernel_rfl) (by kernel_rfl) (fun _ _ _ h => h) (Or.inr ⟨?_, rfl⟩) ?_
            · (first | (go_simp; done) | rfl)
            refine wpAny_act (a' := ?_) ?_ ?_
            rotate_left
            · simp only [Act.put, List.getElem_toArray, List.getElem_cons_succ, List.getElem_cons_zero, List.setIfInBounds_toArray, List.set_cons_succ, List.set_cons_zero]; rfl
            refine wpAny_take (i := 27) (v := undef) rfl (by kernel_rfl) (by kernel_rfl) (by kernel_rfl) (fun _ _ _ h => h) (Or.inr ⟨?_, rfl⟩) ?_
            · (first | (go_simp; done) | rfl)
            refine wpAny_act (a' := ?_) ?_ ?_
            rotate_left
            · simp only [Act.put, List.getElem_toArray, List.getElem_cons_succ, List.getElem_cons_zero, List.setIfInBounds_toArray, List.set_cons_succ, List.set_cons_zero]; rfl
            refine wpAny_take (i := 28) (v := undef) rfl (by kernel_rfl) (by kernel_rfl) (by kernel_rfl) (fun _ _ _ h => h) (Or.inr ⟨?_, rfl⟩) ?_
            · (first | (go_simp; done) | rfl)
            refine wpAny_act (a' := ?_) ?_ ?_
            rotate_left
            · simp only [Act.put, List.getElem_toArray, List.getElem_cons_succ, List.getElem_cons_zero, List.setIfInBounds_toArray, List.set_cons_succ, List.set_cons_zero]; rfl
            refine wpAny_take (i := 29) (v := undef) rfl (by kernel_rfl) (by kernel_rfl) (by kernel_rfl) (fun _ _ _ h => h) (Or.inr ⟨?_, rfl⟩) ?_
            · (first | (go_simp; done) | rfl)
            refine wpAny_act (a' := ?_) ?_ ?_
            rotate_left
            · simp only [Act.put, List.getElem_toArray, List.getElem_cons_succ, List.getElem_cons_zero, List.setIfInBounds_toArray, List.set_cons_succ, List.set_cons_zero]; rfl
            refine wpAny_take (i := 30) (v := undef) rfl (by kernel_rfl) (by kernel_rfl) (by kernel_rfl) (fun _ _ _ h => h) (Or.inr ⟨?_, rfl⟩) ?_
            · (first | (go_simp; done) | rfl)
            refine wpAny_act (a' := ?_) ?_ ?_
            rotate_left
            · simp only [Act.put, List.getElem_toArray, List.getElem_cons_succ, List.getElem_cons_zero, List.setIfInBounds_toArray, List.set_cons_succ, List.set_cons_zero]; rfl
            refine wpAny_take (i := 31) (v := undef) rfl (by kernel_rfl) (by kernel_rfl) (by kernel_rfl) (fun _ _ _ h => h) (Or.inr ⟨?_, rfl⟩) ?_
            · (first | (go_simp; done) | rfl)
            refine wpAny_act (a' := ?_) ?_ ?_
            rotate_left
            · simp only [Act.put, List.getElem_toArray, List.getElem_cons_succ, List.getElem_cons_zero, List.setIfInBounds_toArray, List.set_cons_succ, List.set_cons_zero]; rfl
            refine wpAny_take (i := 32) (v := undef) rfl (by kernel_rfl) (by kernel_rfl) (by kernel_rfl) (fun _ _ _ h => h) (Or.inr ⟨?_, rfl⟩) ?_
            · (first | (go_simp; done) | rfl)
            refine wpAny_act (a' := ?_) ?_ ?_
            rotate_left
            · simp only [Act.put, List.getElem_toArray, List.getElem_cons_succ, List.getElem_cons_zero, List.setIfInBounds_toArray, List.set_cons_succ, List.set_cons_zero]; rfl
            refine wpAny_take (i := 33) (v := ?_) rfl (by kernel_rfl) (by kernel_rfl) (by kernel_rfl) (fun _ _ _ h => h) (Or.inl ⟨?_, ?_⟩) ?_
            rotate_left
            · (first | (go_simp; done) | rfl)
            · intro w; go_simp; try with_reducible rfl
            refine wpAny_act (a' := ?_) ?_ ?_
            rotate_left
            · simp only [Act.put, List.getElem_toArray, List.getElem_cons_succ, List.getElem_cons_zero, List.setIfInBounds_toArray, List.set_cons_succ, List.set_cons_zero]; rfl
            refine wpAny_take (i := 34) (v := ?_) rfl (by kernel_rfl) (by kernel_rfl) (by kernel_rfl) (fun _ _ _ h => h) (Or.inl ⟨?_, ?_⟩) ?_
            rotate_left
            · rfl
            · intro w; go_simp; try with_reducible rfl
            refine wpAny_act (a' := ?_) ?_ ?_
            rotate_left
            · simp only [Act.put, List.getElem_toArray, List.getElem_cons_succ, List.getElem_cons_zero, List.setIfInBounds_toArray, List.set_cons_succ, List.set_cons_zero]; rfl
            refine wpAny_done (by kernel_rfl) ?_ _
            go_wp2
            go_roundw
            case rel => exact ⟨k + 1, by omega, by go_num, HKP.out _ e3⟩
            case measure => simp [intOf]; omega
          refine AllReady.cons rfl (fun K hK => ?_) ?_
          ·
            go_simp
            refine hK _ _ ?_
            clear hK K
            refine wpAny_ready (rs := [11]) (by kernel_rfl) (by simp) ?_
            refine AllReady.cons rfl (fun K hK => ?_) AllReady.nil
            go_simp
            go_wp2_with (go_at_call 13; refine (own_len _ _ _ _ _ (HSw.out _ e1) HLB.out).mono ?_; rintro e y2 ⟨p5, q5, rfl, t5, g2⟩; have e2 := below_on e1 g2 (Nat.le_refl _); have q2a := HC1.out _ e2)
            refine wpAny_ready (rs := [16]) (by kernel_rfl) (by simp) ?_
            refine AllReady.cons rfl (fun K hK => ?_) AllReady.nil
            go_simp
            go_wp2_with (go_at_call 21; refine (under_any _ _ _ _ _ _ _ _ _ t5 (HS1.out _ e2)).mono ?_; rw [HU1.out]; rintro e y3 ⟨rfl, g3⟩; have e3 := below_on e2 g3 (Nat.le_refl _); have q3a := HC1.out _ e3)
            refine wpAny_take (i := 17) (v := ?_) rfl (by kernel_rfl) (by kernel_rfl) (by kernel_rfl) (fun _ _ _ h => h) (Or.inl ⟨?_, ?_⟩) ?_
            rotate_left
            · (first | (go_simp; done) | rfl)
            · intro w; go_simp; try with_reducible rfl
            refine wpAny_act (a' := ?_) ?_ ?_
            rotate_left
            · simp only [Act.put, List.getElem_toArray, List.getElem_cons_succ, List.getElem_cons_zero, List.setIfInBounds_toArray, List.set_cons_succ, List.set_cons_zero]; rfl
            refine wpAny_take (i := 18) (v := ?_) rfl (by kernel_rfl) (by kernel_rfl) (by kernel_rfl) (fun _ _ _ h => h) (Or.inl ⟨?_, ?_⟩) ?_
            rotate_left
            · rfl
            · intro w; go_simp; try with_reducible rfl
            refine wpAny_act (a' := ?_) ?_ ?_
            rotate_left
            · simp only [Act.put, List.getElem_toArray, List.getElem_cons_succ, List.getElem_cons_zero, List.setIfInBounds_toArray, List.set_cons_succ, List.set_cons_zero]; rfl
            refine wpAny_take (i := 19) (v := ?_) rfl (by kernel_rfl) (by kernel_rfl) (by kernel_rfl) (fun _ _ _ h => h) (Or.inl ⟨?_, ?_⟩) ?_
            rotate_left
            · rfl
            · intro w; go_simp; try with_reducible rfl
            refine wpAny_act (a' := ?_) ?_ ?_
            rotate_left
            · simp only [Act.put, List.getElem_toArray, List.getElem_cons_succ, List.getElem_cons_zero, List.setIfInBounds_toArray, List.set_cons_succ, List.set_cons_zero]; rfl
            refine wpAny_take (i := 20) (v := ?_) rfl (by kernel_rfl) (by kernel_rfl) (by kernel_rfl) (fun _ _ _ h => h) (Or.inl ⟨?_, ?_⟩) ?_
            rotate_left
            · (first | (go_simp; done) | rfl)
            · intro w; go_simp; try with_reducible rfl
            refine wpAny_act (a' := ?_) ?_ ?_
            rotate_left
            · simp only [Act.put, List.getElem_toArray, List.getElem_cons_succ, List.getElem_cons_zero, List.setIfInBounds_toArray, List.set_cons_succ, List.set_cons_zero]; rfl
            refine wpAny_take (i := 21) (v := ?_) rfl (by kernel_rfl) (by kernel_rfl) (by kernel_rfl) (fun _ _ _ h => h) (Or.inl ⟨?_, ?_⟩) ?_
            rotate_left
            · (first | (go_simp; done) | rfl)
            · intro w; go_simp; try with_reducible rfl
            refine wpAny_act (a' := ?_) ?_ ?_
            rotate_left
            · simp only [Act.put, List.getElem_toArray, List.getElem_cons_succ, List.getElem_cons_zero, List.setIfInBounds_toArray, List.set_cons_succ, List.set_cons_zero]; rfl
            refine wpAny_take (i := 22) (v := ?_) rfl (by kernel_rfl) (by kernel_rfl) (by kernel_rfl) (fun _ _ _ h => h) (Or.inl ⟨?_, ?_⟩) ?_
            rotate_left
            · (first | (go_simp; done) | rfl)
            · intro w; go_simp; try with_reducible rfl
            refine wpAny_act (a' := ?_) ?_ ?_
            rotate_left
            · simp only [Act.put, List.getElem_toArray, List.getElem_cons_succ, List.getElem_cons_zero, List.setIfInBounds_toArray, List.set_cons_succ, List.set_cons_zero]; rfl
            refine wpAny_take (i := 23) (v := undef) rfl (by kernel_rfl) (by kernel_rfl) (by kernel_rfl) (fun _ _ _ h => h) (Or.inr ⟨?_, rfl⟩) ?_
            · (first | (go_simp; done) | rfl)
            refine wpAny_act (a' := ?_) ?_ ?_
            rotate_left
            · simp only [Act.put, List.getElem_toArray, List.getElem_cons_succ, List.getElem_cons_zero, List.setIfInBounds_toArray, List.set_cons_succ, List.set_cons_zero]; rfl
            refine wpAny_take (i := 24) (v := undef) rfl (by kernel_rfl) (by kernel_rfl) (by kernel_rfl) (fun _ _ _ h => h) (Or.inr ⟨?_, rfl⟩) ?_
            · (first | (go_simp; done) | rfl)
            refine wpAny_act (a' := ?_) ?_ ?_
            rotate_left
            · simp only [Act.put, List.getElem_toArray, List.getElem_cons_succ, List.getElem_cons_zero, List.setIfInBounds_toArray, List.set_cons_succ, List.set_cons_zero]; rfl
            refine wpAny_take (i := 25) (v := undef) rfl (by kernel_rfl) (by kernel_rfl) (by kernel_rfl) (fun _ _ _ h => h) (Or.inr ⟨?_, rfl⟩) ?_
            · (first | (go_simp; done) | rfl)
            refine wpAny_act (a' := ?_) ?_ ?_
            rotate_left
            · simp only [Act.put, List.getElem_toArray, List.getElem_cons_succ, List.getElem_cons_zero, List.setIfInBounds_toArray, List.set_cons_succ, List.set_cons_zero]; rfl
            refine wpAny_take (i := 26) (v := undef) rfl (by kernel_rfl) (by kernel_rfl) (by kernel_rfl) (fun _ _ _ h => h) (Or.inr ⟨?_, rfl⟩) ?_
            · (first | (go_simp; done) | rfl)
            refine wpAny_act (a' := ?_) ?_ ?_
            rotate_left
            · simp only [Act.put, List.getElem_toArray, List.getElem_cons_succ, List.getElem_cons_zero, List.setIfInBounds_toArray, List.set_cons_succ, List.set_cons_zero]; rfl
            refine wpAny_take (i := 27) (v := undef) rfl (by kernel_rfl) (by kernel_rfl) (by kernel_rfl) (fun _ _ _ h => h) (Or.inr ⟨?_, rfl⟩) ?_
            · (first | (go_simp; done) | rfl)
            refine wpAny_act (a' := ?_) ?_ ?_
            rotate_left
            · simp only [Act.put, List.getElem_toArray, List.getElem_cons_succ, List.getElem_cons_zero, List.setIfInBounds_toArray, List.set_cons_succ, List.set_cons_zero]; rfl
            refine wpAny_take (i := 28) (v := undef) rfl (by kernel_rfl) (by kernel_rfl) (by kernel_rfl) (fun _ _ _ h => h) (Or.inr ⟨?_, rfl⟩) ?_
            · (first | (go_simp; done) | rfl)
            refine wpAny_act (a' := ?_) ?_ ?_
            rotate_left
            · simp only [Act.put, List.getElem_toArray, List.getElem_cons_succ, List.getElem_cons_zero, List.setIfInBounds_toArray, List.set_cons_succ, List.set_cons_zero]; rfl
            refine wpAny_take (i := 29) (v := undef) rfl (by kernel_rfl) (by kernel_rfl) (by kernel_rfl) (fun _ _ _ h => h) (Or.inr ⟨?_, rfl⟩) ?_
            · (first | (go_simp; done) | rfl)
            refine wpAny_act (a' := ?_) ?_ ?_
            rotate_left
            · simp only [Act.put, List.getElem_toArray, List.getElem_cons_succ, List.getElem_cons_zero, List.setIfInBounds_toArray, List.set_cons_succ, List.set_cons_zero]; rfl
            refine wpAny_take (i := 30) (v := undef) rfl (by kernel_rfl) (by kernel_rfl) (by kernel_rfl) (fun _ _ _ h => h) (Or.inr ⟨?_, rfl⟩) ?_
            · (first | (go_simp; done) | rfl)
            refine wpAny_act (a' := ?_) ?_ ?_
            rotate_left
            · simp only [Act.put, List.getElem_toArray, List.getElem_cons_succ, List.getElem_cons_zero, List.setIfInBounds_toArray, List.set_cons_succ, List.set_cons_zero]; rfl
            refine wpAny_take (i := 31) (v := undef) rfl (by kernel_rfl) (by kernel_rfl) (by kernel_rfl) (fun _ _ _ h => h) (Or.inr ⟨?_, rfl⟩) ?_
            · (first | (go_simp; done) | rfl)
            refine wpAny_act (a' := ?_) ?_ ?_
            rotate_left
            · simp only [Act.put, List.getElem_toArray, List.getElem_cons_succ, List.getElem_cons_zero, List.setIfInBounds_toArray, List.set_cons_succ, List.set_cons_zero]; rfl
            refine wpAny_take (i := 32) (v := undef) rfl (by kernel_rfl) (by kernel_rfl) (by kernel_rfl) (fun _ _ _ h => h) (Or.inr ⟨?_, rfl⟩) ?_
            · (first | (go_simp; done) | rfl)
            refine wpAny_act (a' := ?_) ?_ ?_
            rotate_left
            · simp only [Act.put, List.getElem_toArray, List.getElem_cons_succ, List.getElem_cons_zero, List.setIfInBounds_toArray, List.set_cons_succ, List.set_cons_zero]; rfl
            refine wpAny_take (i := 33) (v := ?_) rfl (by kernel_rfl) (by kernel_rfl) (by kernel_rfl) (fun _ _ _ h => h) (Or.inl ⟨?_, ?_⟩) ?_
            rotate_left
            · (first | (go_simp; done) | rfl)
            · intro w; go_simp; try with_reducible rfl
            refine wpAny_act (a' := ?_) ?_ ?_
            rotate_left
            · simp only [Act.put, List.getElem_toArray, List.getElem_cons_succ, List.getElem_cons_zero, List.setIfInBounds_toArray, List.set_cons_succ, List.set_cons_zero]; rfl
            refine wpAny_take (i := 34) (v := ?_) rfl (by kernel_rfl) (by kernel_rfl) (by kernel_rfl) (fun _ _ _ h => h) (Or.inl ⟨?_, ?_⟩) ?_
            rotate_left
            · rfl
            · intro w; go_simp; try with_reducible rfl
            refine wpAny_act (a' := ?_) ?_ ?_
            rotate_left
            · simp only [Act.put, List.getElem_toArray, List.getElem_cons_succ, List.getElem_cons_zero, List.setIfInBounds_toArray, List.set_cons_succ, List.set_cons_zero]; rfl
            refine wpAny_done (by kernel_rfl) ?_ _
            go_wp2
            go_roundw
            case rel => exact ⟨k + 1, by omega, by go_num, HKP.out _ e3⟩
            case measure => simp [intOf]; omega
          exact AllReady.nil
      · have hck2 : ¬ c0 = k := fun e => hck e.symm
        clear hck
        by_cases hk0 : 0 < k
        ·
          obtain ⟨ak, ck, ek, sk, fk⟩ := hkp.out.el k (by rw [hkp.out.len]; omega)
          have dk : (s0.drop k).length = l0 - k := by simp [HL.out]
          rw [dk] at ek sk
          obtain ⟨lb, lof, rfl⟩ := hkp.out.row.addr (k := k) (by omega)
          have cell1 := hkp.out.row.at (i := k) (by omega)
          rw [ek] at cell1
          obtain ⟨aj, cj, ej, sj, fj⟩ := hkp.out.el (k - 1) (by rw [hkp.out.len]; omega)
          have dj : (s0.drop (k - 1)).length = l0 - (k - 1) := by simp [HL.out]
          rw [dj] at ej sj
          have cell2 := hkp.out.row.at (i := k - 1) (by omega)
          rw [ej] at cell2
          have HC2 := Lib.hid (show ∀ w', Below wr.heap.size wr w' → w'.cell? ⟨lb, lof + (k - 1), none⟩ = some (.slice aj (l0 - (k - 1)) cj) from fun w' h => cell_keep h cell2)
          have HS2 := Lib.hid (show ∀ w', Below wr.heap.size wr w' → Strs w' aj (l0 - (k - 1)) cj (s0.drop (k - 1)) from fun w' h => sj.below h (Nat.le_refl _))
          have HV1 := Lib.hid (underB_short s0 k (by have := HL.out; omega) (by omega))
          have hq0 : decide ((0 : Int) < (k : Int)) = true := by rw [decide_eq_true_iff]; omega
          have hq1 : decide (0 < k) = true := decide_eq_true hk0
          have m1 : IntKind.i64.wrap ((k : Int) - 1) = (k : Int) - 1 := IntWalk.i64_in _ (by omega)
          have m2 : ((k : Int) - 1).toNat = k - 1 := by omega
          have m3 : 0 ≤ (k : Int) - 1 := by omega
          have m5 : (1 : Int) ≤ (k : Int) := by omega
          have m4 : (k : Int) - 1 < (l0 : Int) + 1 := by omega
          clear cell2 ej sj fj dj
          have HC1 := Lib.hid (show ∀ w', Below wr.heap.size wr w' → w'.cell? ⟨lb, lof + k, none⟩ = some (.slice ak (l0 - k) ck) from fun w' h => cell_keep h cell1)
          have HS1 := Lib.hid (show ∀ w', Below wr.heap.size wr w' → Strs w' ak (l0 - k) ck (s0.drop k) from fun w' h => sk.below h (Nat.le_refl _))
          have HSn := Lib.hid (show ∀ w', Below wr.heap.size wr w' → Strs w' (Option.map (fun x => x.add k) a0) (l0 - k) (c0 - k) (s0.drop k) from fun w' h => ((w0.below hkp.out.bel (Nat.le_refl _)).below h (Nat.le_refl _)).cut (k := k) (by omega))
          have HSw := Lib.hid (show ∀ w', Below wr.heap.size wr w' → Strs w' a0 l0 c0 s0 from fun w' h => (w0.below hkp.out.bel (Nat.le_refl _)).below h (Nat.le_refl _))
          have HE1 := Lib.hid (exactB_refl (s0.drop k))
          have HU1 := Lib.hid (underB_drop s0 k (by have := HL.out; omega))
          have hkz : (0 : Int) ≤ (k : Int) := Int.natCast_nonneg _
          have hkl : (k : Int) < (l0 : Int) + 1 := by omega
          have hkm : (k : Int) ≤ (l0 : Int) := by omega
          have hbd : Below wr.heap.size wr wr.drew := Below.drew (Below.refl _ _)
          have HKP := Lib.hid (show ∀ w', Below wr.heap.size wr w' → Keep x3.heap.size W w' (some ⟨lb, lof, none⟩) (l0 + 1) lc vs s0 from fun w' h => hkp.out.on h)
          clear ek sk fk dk hkp cell1
          have cell1 := HC1.out _ hbd
          have cell2 := HC2.out _ hbd
          go_wp2_with fail
          refine wp_region_any (by kernel_rfl) ?_
          try (change wpAny _ _ _ _ _ _ _ (World.drew _))
          refine wpAny_take (i := 0) (v := ?_) rfl (by kernel_rfl) (by kernel_rfl) (by kernel_rfl) (fun _ _ _ h => h) (Or.inl ⟨?_, ?_⟩) ?_
          rotate_left
          · rfl
          · intro w; go_simp; try with_reducible rfl
          refine wpAny_act (a' := ?_) ?_ ?_
          rotate_left
          · simp only [Act.put, List.getElem_toArray, List.getElem_cons_zero, List.setIfInBounds_toArray, List.set_cons_succ, List.set_cons_zero]; rfl
          refine wpAny_take (i := 1) (v := ?_) rfl (by kernel_rfl) (by kernel_rfl) (by kernel_rfl) (fun _ _ _ h => h) (Or.inl ⟨?_, ?_⟩) ?_
          rotate_left
          · rfl
          · intro w; go_simp; try with_reducible rfl
          refine wpAny_act (a' := ?_) ?_ ?_
          rotate_left
          · simp only [Act.put, List.getElem_toArray, List.getElem_cons_succ, List.getElem_cons_zero, List.setIfInBounds_toArray, List.set_cons_succ, List.set_cons_zero]; rfl
          refine wpAny_take (i := 2) (v := ?_) rfl (by kernel_rfl) (by kernel_rfl) (by kernel_rfl) (fun _ _ _ h => h) (Or.inl ⟨?_, ?_⟩) ?_
          rotate_left
          · rfl
          · intro w; go_simp; try with_reducible rfl
          refine wpAny_act (a' := ?_) ?_ ?_
          rotate_left
          · simp only [Act.put, List.getElem_toArray, List.getElem_cons_succ, List.getElem_cons_zero, List.setIfInBounds_toArray, List.set_cons_succ, List.set_cons_zero]; rfl
          refine wpAny_take (i := 4) (v := ?_) rfl (by kernel_rfl) (by kernel_rfl) (by kernel_rfl) (fun _ _ _ h => h) (Or.inl ⟨?_, ?_⟩) ?_
          rotate_left
          · rfl
          · intro w; go_simp; try with_reducible rfl
          refine wpAny_act (a' := ?_) ?_ ?_
          rotate_left
          · simp only [Act.put, List.getElem_toArray, List.getElem_cons_succ, List.getElem_cons_zero, List.setIfInBounds_toArray, List.set_cons_succ, List.set_cons_zero]; rfl
          refine wpAny_take (i := 5) (v := ?_) rfl (by kernel_rfl) (by kernel_rfl) (by kernel_rfl) (fun _ _ _ h => h) (Or.inl ⟨?_, ?_⟩) ?_
          rotate_left
          · rfl
          · intro w; go_simp; try with_reducible rfl
          refine wpAny_act (a' := ?_) ?_ ?_
          rotate_left
          · simp only [Act.put, List.getElem_toArray, List.getElem_cons_succ, List.getElem_cons_zero, List.setIfInBounds_toArray, List.set_cons_succ, List.set_cons_zero]; rfl
          refine wpAny_take (i := 6) (v := ?_) rfl (by kernel_rfl) (by kernel_rfl) (by kernel_rfl) (fun _ _ _ h => h) (Or.inl ⟨?_, ?_⟩) ?_
          rotate_left
          · rfl
          · intro w; go_simp; try with_reducible rfl
          refine wpAny_act (a' := ?_) ?_ ?_
          rotate_left
          · simp only [Act.put, List.getElem_toArray, List.getElem_cons_succ, List.getElem_cons_zero, List.setIfInBounds_toArray, List.set_cons_succ, List.set_cons_zero]; rfl
          refine wpAny_ready (rs := [3]) (by kernel_rfl) (by simp) ?_
          refine AllReady.cons rfl (fun K hK => ?_) AllReady.nil
          go_simp
          refine hK _ _ ?_
          clear hK K
          refine wpAny_ready (rs := [7]) (by kernel_rfl) (by simp) ?_
          refine AllReady.cons rfl (fun K hK => ?_) AllReady.nil
          go_simp
          go_wp2_with (go_at_call 20; refine (exact_any _ _ _ _ _ _ _ _ _ (HS1.out _ hbd) (HSn.out _ hbd)).mono ?_; rw [HE1.out]; rintro e y1 ⟨rfl, g1⟩; have e1 := below_on hbd g1 (Nat.le_refl _); have q1a := HC1.out _ e1)
          refine wpAny_take (i := 8) (v := ?_) rfl (by kernel_rfl) (by kernel_rfl) (by kernel_rfl) (fun _ _ _ h => h) (Or.inl ⟨?_, ?_⟩) ?_
          rotate_left
          · rfl
          · intro w; go_simp; try with_reducible rfl
          refine wpAny_act (a' := ?_) ?_ ?_
          rotate_left
          · simp only [Act.put, List.getElem_toArray, List.getElem_cons_succ, List.getElem_cons_zero, List.setIfInBounds_toArray, List.set_cons_succ, List.set_cons_zero]; rfl
          refine wpAny_take (i := 9) (v := ?_) rfl (by kernel_rfl) (by kernel_rfl) (by kernel_rfl) (fun _ _ _ h => h) (Or.inl ⟨?_, ?_⟩) ?_
          rotate_left
          · rfl
          · intro w; go_simp; try with_reducible rfl
          refine wpAny_act (a' := ?_) ?_ ?_
          rotate_left
          · simp only [Act.put, List.getElem_toArray, List.getElem_cons_succ, List.getElem_cons_zero, List.setIfInBounds_toArray, List.set_cons_succ, List.set_cons_zero]; rfl
          refine wpAny_take (i := 10) (v := ?_) rfl (by kernel_rfl) (by kernel_rfl) (by kernel_rfl) (fun _ _ _ h => h) (Or.inl ⟨?_, ?_⟩) ?_
          rotate_left
          · (first | (go_simp; done) | rfl)
          · intro w; go_simp; try with_reducible rfl
          refine wpAny_act (a' := ?_) ?_ ?_
          rotate_left
          · simp only [Act.put, List.getElem_toArray, List.getElem_cons_succ, List.getElem_cons_zero, List.setIfInBounds_toArray, List.set_cons_succ, List.set_cons_zero]; rfl
          refine wpAny_take (i := 12) (v := ?_) rfl (by kernel_rfl) (by kernel_rfl) (by kernel_rfl) (fun _ _ _ h => h) (Or.inl ⟨?_, ?_⟩) ?_
          rotate_left
          · (first | (go_simp; done) | rfl)
          · intro w; go_simp; try with_reducible rfl
          refine wpAny_act (a' := ?_) ?_ ?_
          rotate_left
          · simp only [Act.put, List.getElem_toArray, List.getElem_cons_succ, List.getElem_cons_zero, List.setIfInBounds_toArray, List.set_cons_succ, List.set_cons_zero]; rfl
          refine wpAny_take (i := 13) (v := ?_) rfl (by kernel_rfl) (by kernel_rfl) (by kernel_rfl) (fun _ _ _ h => h) (Or.inl ⟨?_, ?_⟩) ?_
          rotate_left
          · (first | (go_simp; done) | rfl)
          · intro w; go_simp; try with_reducible rfl
          refine wpAny_act (a' := ?_) ?_ ?_
          rotate_left
          · simp only [Act.put, List.getElem_toArray, List.getElem_cons_succ, List.getElem_cons_zero, List.setIfInBounds_toArray, List.set_cons_succ, List.set_cons_zero]; rfl
          refine wpAny_take (i := 14) (v := ?_) rfl (by kernel_rfl) (by kernel_rfl) (by kernel_rfl) (fun _ _ _ h => h) (Or.inl ⟨?_, ?_⟩) ?_
          rotate_left
          · (first | (go_simp; done) | rfl)
          · intro w; go_simp; try with_reducible rfl
          refine wpAny_act (a' := ?_) ?_ ?_
          rotate_left
          · simp only [Act.put, List.getElem_toArray, List.getElem_cons_succ, List.getElem_cons_zero, List.setIfInBounds_toArray, List.set_cons_succ, List.set_cons_zero]; rfl
          refine wpAny_ready (rs := [11, 15]) (by kernel_rfl) (by simp) ?_
          refine AllReady.cons rfl (fun K hK => ?_) ?_
          ·
            go_simp
            go_wp2_with (go_at_call 13; refine (own_len _ _ _ _ _ (HSw.out _ e1) HLB.out).mono ?_; rintro e y2 ⟨p5, q5, rfl, t5, g2⟩; have e2 := below_on e1 g2 (Nat.le_refl _); have q2a := HC1.out _ e2)
            refine wpAny_ready (rs := [15]) (by kernel_rfl) (by simp) ?_
            refine AllReady.cons rfl (fun K hK => ?_) AllReady.nil
            go_simp
            refine hK _ _ ?_
            clear hK K
            refine wpAny_ready (rs := [16]) (by kernel_rfl) (by simp) ?_
            refine AllReady.cons rfl (fun K hK => ?_) AllReady.nil
            go_simp
            go_wp2_with (go_at_call 21; refine (under_any _ _ _ _ _ _ _ _ _ t5 (HS1.out _ e2)).mono ?_; rw [HU1.out]; rintro e y3 ⟨rfl, g3⟩; have e3 := below_on e2 g3 (Nat.le_refl _); have q3a := HC1.out _ e3; have q3b := HC2.out _ e3)
            refine wpAny_take (i := 17) (v := ?_) rfl (by kernel_rfl) (by kernel_rfl) (by kernel_rfl) (fun _ _ _ h => h) (Or.inl ⟨?_, ?_⟩) ?_
            rotate_left
            · (first | (go_simp; done) | rfl)
            · intro w; go_simp; try with_reducible rfl
            refine wpAny_act (a' := ?_) ?_ ?_
            rotate_left
            · simp only [Act.put, List.getElem_toArray, List.getElem_cons_succ, List.getElem_cons_zero, List.setIfInBounds_toArray, List.set_cons_succ, List.set_cons_zero]; rfl
            refine wpAny_take (i := 18) (v := ?_) rfl (by kernel_rfl) (by kernel_rfl) (by kernel_rfl) (fun _ _ _ h => h) (Or.inl ⟨?_, ?_⟩) ?_
            rotate_left
            · rfl
            · intro w; go_simp; try with_reducible rfl
            refine wpAny_act (a' := ?_) ?_ ?_
            rotate_left
            · simp only [Act.put, List.getElem_toArray, List.getElem_cons_succ, List.getElem_cons_zero, List.setIfInBounds_toArray, List.set_cons_succ, List.set_cons_zero]; rfl
            refine wpAny_take (i := 19) (v := ?_) rfl (by kernel_rfl) (by kernel_rfl) (by kernel_rfl) (fun _ _ _ h => h) (Or.inl ⟨?_, ?_⟩) ?_
            rotate_left
            · rfl
            · intro w; go_simp; try with_reducible rfl
            refine wpAny_act (a' := ?_) ?_ ?_
            rotate_left
            · simp only [Act.put, List.getElem_toArray, List.getElem_cons_succ, List.getElem_cons_zero, List.setIfInBounds_toArray, List.set_cons_succ, List.set_cons_zero]; rfl
            refine wpAny_take (i := 20) (v := ?_) rfl (by kernel_rfl) (by kernel_rfl) (by kernel_rfl) (fun _ _ _ h => h) (Or.inl ⟨?_, ?_⟩) ?_
            rotate_left
            · (first | (go_simp; done) | rfl)
            · intro w; go_simp; try with_reducible rfl
            refine wpAny_act (a' := ?_) ?_ ?_
            rotate_left
            · simp only [Act.put, List.getElem_toArray, List.getElem_cons_succ, List.getElem_cons_zero, List.setIfInBounds_toArray, List.set_cons_succ, List.set_cons_zero]; rfl
            refine wpAny_take (i := 21) (v := ?_) rfl (by kernel_rfl) (by kernel_rfl) (by kernel_rfl) (fun _ _ _ h => h) (Or.inl ⟨?_, ?_⟩) ?_
            rotate_left
            · (first | (go_simp; done) | rfl)
            · intro w; go_simp; try with_reducible rfl
            refine wpAny_act (a' := ?_) ?_ ?_
            rotate_left
            · simp only [Act.put, List.getElem_toArray, List.getElem_cons_succ, List.getElem_cons_zero, List.setIfInBounds_toArray, List.set_cons_succ, List.set_cons_zero]; rfl
            refine wpAny_take (i := 22) (v := ?_) rfl (by kernel_rfl) (by kernel_rfl) (by kernel_rfl) (fun _ _ _ h => h) (Or.inl ⟨?_, ?_⟩) ?_
            rotate_left
            · (first | (go_simp; done) | rfl)
            · intro w; go_simp; try with_reducible rfl
            refine wpAny_act (a' := ?_) ?_ ?_
            rotate_left
            · simp only [Act.put, List.getElem_toArray, List.getElem_cons_succ, List.getElem_cons_zero, List.setIfInBounds_toArray, List.set_cons_succ, List.set_cons_zero]; rfl
            refine wpAny_take (i := 23) (v := ?_) rfl (by kernel_rfl) (by kernel_rfl) (by kernel_rfl) (fun _ _ _ h => h) (Or.inl ⟨?_, ?_⟩) ?_
            rotate_left
            · (first | (go_simp; done) | rfl)
            · intro w; go_simp; try with_reducible rfl
            refine wpAny_act (a' := ?_) ?_ ?_
            rotate_left
            · simp only [Act.put, List.getElem_toArray, List.getElem_cons_succ, List.getElem_cons_zero, List.setIfInBounds_toArray, List.set_cons_succ, List.set_cons_zero]; rfl
            refine wpAny_take (i := 24) (v := ?_) rfl (by kernel_rfl) (by kernel_rfl) (by kernel_rfl) (fun _ _ _ h => h) (Or.inl ⟨?_, ?_⟩) ?_
            rotate_left
            · (first | (go_simp; done) | rfl)
            · intro w; go_simp; try with_reducible rfl
            refine wpAny_act (a' := ?_) ?_ ?_
            rotate_left
            · simp only [Act.put, List.getElem_toArray, List.getElem_cons_succ, List.getElem_cons_zero, List.setIfInBounds_toArray, List.set_cons_succ, List.set_cons_zero]; rfl
            refine wpAny_take (i := 25) (v := ?_) rfl (by kernel_rfl) (by kernel_rfl) (by kernel_rfl) (fun _ _ _ h => h) (Or.inl ⟨?_, ?_⟩) ?_
            rotate_left
            · (first | (go_simp; done) | rfl)
            · intro w; go_simp; try with_reducible rfl
            refine wpAny_act (a' := ?_) ?_ ?_
            rotate_left
            · simp only [Act.put, List.getElem_toArray, List.getElem_cons_succ, List.getElem_cons_zero, List.setIfInBounds_toArray, List.set_cons_succ, List.set_cons_zero]; rfl
            refine wpAny_take (i := 27) (v := ?_) rfl (by kernel_rfl) (by kernel_rfl) (by kernel_rfl) (fun _ _ _ h => h) (Or.inl ⟨?_, ?_⟩) ?_
            rotate_left
            · (first | (go_simp; done) | rfl)
            · intro w; go_simp; try with_reducible rfl
            refine wpAny_act (a' := ?_) ?_ ?_
            rotate_left
            · simp only [Act.put, List.getElem_toArray, List.getElem_cons_succ, List.getElem_cons_zero, List.setIfInBounds_toArray, List.set_cons_succ, List.set_cons_zero]; rfl
            refine wpAny_take (i := 28) (v := ?_) rfl (by kernel_rfl) (by kernel_rfl) (by kernel_rfl) (fun _ _ _ h => h) (Or.inl ⟨?_, ?_⟩) ?_
            rotate_left
            · (first | (go_simp; done) | rfl)
            · intro w; go_simp; try with_reducible rfl
            refine wpAny_act (a' := ?_) ?_ ?_
            rotate_left
            · simp only [Act.put, List.getElem_toArray, List.getElem_cons_succ, List.getElem_cons_zero, List.setIfInBounds_toArray, List.set_cons_succ, List.set_cons_zero]; rfl
            refine wpAny_take (i := 29) (v := ?_) rfl (by kernel_rfl) (by kernel_rfl) (by kernel_rfl) (fun _ _ _ h => h) (Or.inl ⟨?_, ?_⟩) ?_
            rotate_left
            · (first | (go_simp; done) | rfl)
            · intro w; go_simp; try with_reducible rfl
            refine wpAny_act (a' := ?_) ?_ ?_
            rotate_left
            · simp only [Act.put, List.getElem_toArray, List.getElem_cons_succ, List.getElem_cons_zero, List.setIfInBounds_toArray, List.set_cons_succ, List.set_cons_zero]; rfl
            refine wpAny_take (i := 30) (v := ?_) rfl (by kernel_rfl) (by kernel_rfl) (by kernel_rfl) (fun _ _ _ h => h) (Or.inl ⟨?_, ?_⟩) ?_
            rotate_left
            · (first | (go_simp; done) | rfl)
            · intro w; go_simp; try with_reducible rfl
            refine wpAny_act (a' := ?_) ?_ ?_
            rotate_left
            · simp only [Act.put, List.getElem_toArray, List.getElem_cons_succ, List.getElem_cons_zero, List.setIfInBounds_toArray, List.set_cons_succ, List.set_cons_zero]; rfl
            refine wpAny_ready (rs := [26, 31]) (by kernel_rfl) (by simp) ?_
            refine AllReady.cons rfl (fun K hK => ?_) ?_
            ·
              go_simp
              refine hK _ _ ?_
              clear hK K
              refine wpAny_ready (rs := [31]) (by kernel_rfl) (by simp) ?_
              refine AllReady.cons rfl (fun K hK => ?_) AllReady.nil
              go_simp
              refine hK _ _ ?_
              clear hK K
              refine wpAny_ready (rs := [32]) (by kernel_rfl) (by simp) ?_
              refine AllReady.cons rfl (fun K hK => ?_) AllReady.nil
              go_simp
              go_wp2_with (go_at_call 21; refine (under_any _ _ _ _ _ _ _ _ _ (HS1.out _ e3) (HS2.out _ e3)).mono ?_; rw [HV1.out]; rintro e y4 ⟨rfl, g4⟩; have e4 := below_on e3 g4 (Nat.le_refl _))
              refine wpAny_take (i := 33) (v := ?_) rfl (by kernel_rfl) (by kernel_rfl) (by kernel_rfl) (fun _ _ _ h => h) (Or.inl ⟨?_, ?_⟩) ?_
              rotate_left
              · (first | (go_simp; done) | rfl)
              · intro w; go_simp; try with_reducible rfl
              refine wpAny_act (a' := ?_) ?_ ?_
              rotate_left
              · simp only [Act.put, List.getElem_toArray, List.getElem_cons_succ, List.getElem_cons_zero, List.setIfInBounds_toArray, List.set_cons_succ, List.set_cons_zero]; rfl
              refine wpAny_take (i := 34) (v := ?_) rfl (by kernel_rfl) (by kernel_rfl) (by kernel_rfl) (fun _ _ _ h => h) (Or.inl ⟨?_, ?_⟩) ?_
              rotate_left
              · rfl
              · intro w; go_simp; try with_reducible rfl
              refine wpAny_act (a' := ?_) ?_ ?_
              rotate_left
              · simp only [Act.put, List.getElem_toArray, List.getElem_cons_succ, List.getElem_cons_zero, List.setIfInBounds_toArray, List.set_cons_succ, List.set_cons_zero]; rfl
              refine wpAny_done (by kernel_rfl) ?_ _
              go_wp2
              go_roundw
              case rel => exact ⟨k + 1, by omega, by go_num, HKP.out _ e4⟩
              case measure => simp [intOf]; omega
            refine AllReady.cons rfl (fun K hK => ?_) ?_
            ·
              go_simp
              refine hK _ _ ?_
              clear hK K
              refine wpAny_ready (rs := [26]) (by kernel_rfl) (by simp) ?_
              refine AllReady.cons rfl (fun K hK => ?_) AllReady.nil
              go_simp
              refine hK _ _ ?_
              clear hK K
              refine wpAny_ready (rs := [32]) (by kernel_rfl) (by simp) ?_
              refine AllReady.cons rfl (fun K hK => ?_) AllReady.nil
              go_simp
              go_wp2_with (go_at_call 21; refine (under_any _ _ _ _ _ _ _ _ _ (HS1.out _ e3) (HS2.out _ e3)).mono ?_; rw [HV1.out]; rintro e y4 ⟨rfl, g4⟩; have e4 := below_on e3 g4 (Nat.le_refl _))
              refine wpAny_take (i := 33) (v := ?_) rfl (by kernel_rfl) (by kernel_rfl) (by kernel_rfl) (fun _ _ _ h => h) (Or.inl ⟨?_, ?_⟩) ?_
              rotate_left
              · (first | (go_simp; done) | rfl)
              · intro w; go_simp; try with_reducible rfl
              refine wpAny_act (a' := ?_) ?_ ?_
              rotate_left
              · simp only [Act.put, List.getElem_toArray, List.getElem_cons_succ, List.getElem_cons_zero, List.setIfInBounds_toArray, List.set_cons_succ, List.set_cons_zero]; rfl
              refine wpAny_take (i := 34) (v := ?_) rfl (by kernel_rfl) (by kernel_rfl) (by kernel_rfl) (fun _ _ _ h => h) (Or.inl ⟨?_, ?_⟩) ?_
              rotate_left
              · rfl
              · intro w; go_simp; try with_reducible rfl
              refine wpAny_act (a' := ?_) ?_ ?_
              rotate_left
              · simp only [Act.put, List.getElem_toArray, List.getElem_cons_succ, List.getElem_cons_zero, List.setIfInBounds_toArray, List.set_cons_succ, List.set_cons_zero]; rfl
              refine wpAny_done (by kernel_rfl) ?_ _
              go_wp2
              go_roundw
              case rel => exact ⟨k + 1, by omega, by go_num, HKP.out _ e4⟩
              case measure => simp [intOf]; omega
            exact AllReady.nil
          refine AllReady.cons rfl (fun K hK => ?_) ?_
          ·
            go_simp
            refine hK _ _ ?_
            clear hK K
            refine wpAny_ready (rs := [11]) (by kernel_rfl) (by simp) ?_
            refine AllReady.cons rfl (fun K hK => ?_) AllReady.nil
            go_simp
            go_wp2_with (go_at_call 13; refine (own_len _ _ _ _ _ (HSw.out _ e1) HLB.out).mono ?_; rintro e y2 ⟨p5, q5, rfl, t5, g2⟩; have e2 := below_on e1 g2 (Nat.le_refl _); have q2a := HC1.out _ e2)
            refine wpAny_ready (rs := [16]) (by kernel_rfl) (by simp) ?_
            refine AllReady.cons rfl (fun K hK => ?_) AllReady.nil
            go_simp
            go_wp2_with (go_at_call 21; refine (under_any _ _ _ _ _ _ _ _ _ t5 (HS1.out _ e2)).mono ?_; rw [HU1.out]; rintro e y3 ⟨rfl, g3⟩; have e3 := below_on e2 g3 (Nat.le_refl _); have q3a := HC1.out _ e3; have q3b := HC2.out _ e3)
            refine wpAny_take (i := 17) (v := ?_) rfl (by kernel_rfl) (by kernel_rfl) (by kernel_rfl) (fun _ _ _ h => h) (Or.inl ⟨?_, ?_⟩) ?_
            rotate_left
            · (first | (go_simp; done) | rfl)
            · intro w; go_simp; try with_reducible rfl
            refine wpAny_act (a' := ?_) ?_ ?_
            rotate_left
            · simp only [Act.put, List.getElem_toArray, List.getElem_cons_succ, List.getElem_cons_zero, List.setIfInBounds_toArray, List.set_cons_succ, List.set_cons_zero]; rfl
            refine wpAny_take (i := 18) (v := ?_) rfl (by kernel_rfl) (by kernel_rfl) (by kernel_rfl) (fun _ _ _ h => h) (Or.inl ⟨?_, ?_⟩) ?_
            rotate_left
            · rfl
            · intro w; go_simp; try with_reducible rfl
            refine wpAny_act (a' := ?_) ?_ ?_
            rotate_left
            · simp only [Act.put, List.getElem_toArray, List.getElem_cons_succ, List.getElem_cons_zero, List.setIfInBounds_toArray, List.set_cons_succ, List.set_cons_zero]; rfl
            refine wpAny_take (i := 19) (v := ?_) rfl (by kernel_rfl) (by kernel_rfl) (by kernel_rfl) (fun _ _ _ h => h) (Or.inl ⟨?_, ?_⟩) ?_
            rotate_left
            · rfl
            · intro w; go_simp; try with_reducible rfl
            refine wpAny_act (a' := ?_) ?_ ?_
            rotate_left
            · simp only [Act.put, List.getElem_toArray, List.getElem_cons_succ, List.getElem_cons_zero, List.setIfInBounds_toArray, List.set_cons_succ, List.set_cons_zero]; rfl
            refine wpAny_take (i := 20) (v := ?_) rfl (by kernel_rfl) (by kernel_rfl) (by kernel_rfl) (fun _ _ _ h => h) (Or.inl ⟨?_, ?_⟩) ?_
            rotate_left
            · (first | (go_simp; done) | rfl)
            · intro w; go_simp; try with_reducible rfl
            refine wpAny_act (a' := ?_) ?_ ?_
            rotate_left
            · simp only [Act.put, List.getElem_toArray, List.getElem_cons_succ, List.getElem_cons_zero, List.setIfInBounds_toArray, List.set_cons_succ, List.set_cons_zero]; rfl
            refine wpAny_take (i := 21) (v := ?_) rfl (by kernel_rfl) (by kernel_rfl) (by kernel_rfl) (fun _ _ _ h => h) (Or.inl ⟨?_, ?_⟩) ?_
            rotate_left
            · (first | (go_simp; done) | rfl)
            · intro w; go_simp; try with_reducible rfl
            refine wpAny_act (a' := ?_) ?_ ?_
            rotate_left
            · simp only [Act.put, List.getElem_toArray, List.getElem_cons_succ, List.getElem_cons_zero, List.setIfInBounds_toArray, List.set_cons_succ, List.set_cons_zero]; rfl
            refine wpAny_take (i := 22) (v := ?_) rfl (by kernel_rfl) (by kernel_rfl) (by kernel_rfl) (fun _ _ _ h => h) (Or.inl ⟨?_, ?_⟩) ?_
            rotate_left
            · (first | (go_simp; done) | rfl)
            · intro w; go_simp; try with_reducible rfl
            refine wpAny_act (a' := ?_) ?_ ?_
            rotate_left
            · simp only [Act.put, List.getElem_toArray, List.getElem_cons_succ, List.getElem_cons_zero, List.setIfInBounds_toArray, List.set_cons_succ, List.set_cons_zero]; rfl
            refine wpAny_take (i := 23) (v := ?_) rfl (by kernel_rfl) (by kernel_rfl) (by kernel_rfl) (fun _ _ _ h => h) (Or.inl ⟨?_, ?_⟩) ?_
            rotate_left
            · (first | (go_simp; done) | rfl)
            · intro w; go_simp; try with_reducible rfl
            refine wpAny_act (a' := ?_) ?_ ?_
            rotate_left
            · simp only [Act.put, List.getElem_toArray, List.getElem_cons_succ, List.getElem_cons_zero, List.setIfInBounds_toArray, List.set_cons_succ, List.set_cons_zero]; rfl
            refine wpAny_take (i := 24) (v := ?_) rfl (by kernel_rfl) (by kernel_rfl) (by kernel_rfl) (fun _ _ _ h => h) (Or.inl ⟨?_, ?_⟩) ?_
            rotate_left
            · (first | (go_simp; done) | rfl)
            · intro w; go_simp; try with_reducible rfl
            refine wpAny_act (a' := ?_) ?_ ?_
            rotate_left
            · simp only [Act.put, List.getElem_toArray, List.getElem_cons_succ, List.getElem_cons_zero, List.setIfInBounds_toArray, List.set_cons_succ, List.set_cons_zero]; rfl
            refine wpAny_take (i := 25) (v := ?_) rfl (by kernel_rfl) (by kernel_rfl) (by kernel_rfl) (fun _ _ _ h => h) (Or.inl ⟨?_, ?_⟩) ?_
            rotate_left
            · (first | (go_simp; done) | rfl)
            · intro w; go_simp; try with_reducible rfl
            refine wpAny_act (a' := ?_) ?_ ?_
            rotate_left
            · simp only [Act.put, List.getElem_toArray, List.getElem_cons_succ, List.getElem_cons_zero, List.setIfInBounds_toArray, List.set_cons_succ, List.set_cons_zero]; rfl
            refine wpAny_take (i := 27) (v := ?_) rfl (by kernel_rfl) (by kernel_rfl) (by kernel_rfl) (fun _ _ _ h => h) (Or.inl ⟨?_, ?_⟩) ?_
            rotate_left
            · (first | (go_simp; done) | rfl)
            · intro w; go_simp; try with_reducible rfl
            refine wpAny_act (a' := ?_) ?_ ?_
            rotate_left
            · simp only [Act.put, List.getElem_toArray, List.getElem_cons_succ, List.getElem_cons_zero, List.setIfInBounds_toArray, List.set_cons_succ, List.set_cons_zero]; rfl
            refine wpAny_take (i := 28) (v := ?_) rfl (by kernel_rfl) (by kernel_rfl) (by kernel_rfl) (fun _ _ _ h => h) (Or.inl ⟨?_, ?_⟩) ?_
            rotate_left
            · (first | (go_simp; done) | rfl)
            · intro w; go_simp; try with_reducible rfl
            refine wpAny_act (a' := ?_) ?_ ?_
            rotate_left
            · simp only [Act.put, List.getElem_toArray, List.getElem_cons_succ, List.getElem_cons_zero, List.setIfInBounds_toArray, List.set_cons_succ, List.set_cons_zero]; rfl
            refine wpAny_take (i := 29) (v := ?_) rfl (by kernel_rfl) (by kernel_rfl) (by kernel_rfl) (fun _ _ _ h => h) (Or.inl ⟨?_, ?_⟩) ?_
            rotate_left
            · (first | (go_simp; done) | rfl)
            · intro w; go_simp; try with_reducible rfl
            refine wpAny_act (a' := ?_) ?_ ?_
            rotate_left
            · simp only [Act.put, List.getElem_toArray, List.getElem_cons_succ, List.getElem_cons_zero, List.setIfInBounds_toArray, List.set_cons_succ, List.set_cons_zero]; rfl
            refine wpAny_take (i := 30) (v := ?_) rfl (by kernel_rfl) (by kernel_rfl) (by kernel_rfl) (fun _ _ _ h => h) (Or.inl ⟨?_, ?_⟩) ?_
            rotate_left
            · (first | (go_simp; done) | rfl)
            · intro w; go_simp; try with_reducible rfl
            refine wpAny_act (a' := ?_) ?_ ?_
            rotate_left
            · simp only [Act.put, List.getElem_toArray, List.getElem_cons_succ, List.getElem_cons_zero, List.setIfInBounds_toArray, List.set_cons_succ, List.set_cons_zero]; rfl
            refine wpAny_ready (rs := [26, 31]) (by kernel_rfl) (by simp) ?_
            refine AllReady.cons rfl (fun K hK => ?_) ?_
            ·
              go_simp
              refine hK _ _ ?_
              clear hK K
              refine wpAny_ready (rs := [31]) (by kernel_rfl) (by simp) ?_
              refine AllReady.cons rfl (fun K hK => ?_) AllReady.nil
              go_simp
              refine hK _ _ ?_
              clear hK K
              refine wpAny_ready (rs := [32]) (by kernel_rfl) (by simp) ?_
              refine AllReady.cons rfl (fun K hK => ?_) AllReady.nil
              go_simp
              go_wp2_with (go_at_call 21; refine (under_any _ _ _ _ _ _ _ _ _ (HS1.out _ e3) (HS2.out _ e3)).mono ?_; rw [HV1.out]; rintro e y4 ⟨rfl, g4⟩; have e4 := below_on e3 g4 (Nat.le_refl _))
              refine wpAny_take (i := 33) (v := ?_) rfl (by kernel_rfl) (by kernel_rfl) (by kernel_rfl) (fun _ _ _ h => h) (Or.inl ⟨?_, ?_⟩) ?_
              rotate_left
              · (first | (go_simp; done) | rfl)
              · intro w; go_simp; try with_reducible rfl
              refine wpAny_act (a' := ?_) ?_ ?_
              rotate_left
              · simp only [Act.put, List.getElem_toArray, List.getElem_cons_succ, List.getElem_cons_zero, List.setIfInBounds_toArray, List.set_cons_succ, List.set_cons_zero]; rfl
              refine wpAny_take (i := 34) (v := ?_) rfl (by kernel_rfl) (by kernel_rfl) (by kernel_rfl) (fun _ _ _ h => h) (Or.inl ⟨?_, ?_⟩) ?_
              rotate_left
              · rfl
              · intro w; go_simp; try with_reducible rfl
              refine wpAny_act (a' := ?_) ?_ ?_
              rotate_left
              · simp only [Act.put, List.getElem_toArray, List.getElem_cons_succ, List.getElem_cons_zero, List.setIfInBounds_toArray, List.set_cons_succ, List.set_cons_zero]; rfl
              refine wpAny_done (by kernel_rfl) ?_ _
              go_wp2
              go_roundw
              case rel => exact ⟨k + 1, by omega, by go_num, HKP.out _ e4⟩
              case measure => simp [intOf]; omega
            refine AllReady.cons rfl (fun K hK => ?_) ?_
            ·
              go_simp
              refine hK _ _ ?_
              clear hK K
              refine wpAny_ready (rs := [26]) (by kernel_rfl) (by simp) ?_
              refine AllReady.cons rfl (fun K hK => ?_) AllReady.nil
              go_simp
              refine hK _ _ ?_
              clear hK K
              refine wpAny_ready (rs := [32]) (by kernel_rfl) (by simp) ?_
              refine AllReady.cons rfl (fun K hK => ?_) AllReady.nil
              go_simp
              go_wp2_with (go_at_call 21; refine (under_any _ _ _ _ _ _ _ _ _ (HS1.out _ e3) (HS2.out _ e3)).mono ?_; rw [HV1.out]; rintro e y4 ⟨rfl, g4⟩; have e4 := below_on e3 g4 (Nat.le_refl _))
              refine wpAny_take (i := 33) (v := ?_) rfl (by kernel_rfl) (by kernel_rfl) (by kernel_rfl) (fun _ _ _ h => h) (Or.inl ⟨?_, ?_⟩) ?_
              rotate_left
              · (first | (go_simp; done) | rfl)
              · intro w; go_simp; try with_reducible rfl
              refine wpAny_act (a' := ?_) ?_ ?_
              rotate_left
              · simp only [Act.put, List.getElem_toArray, List.getElem_cons_succ, List.getElem_cons_zero, List.setIfInBounds_toArray, List.set_cons_succ, List.set_cons_zero]; rfl
              refine wpAny_take (i := 34) (v := ?_) rfl (by kernel_rfl) (by kernel_rfl) (by kernel_rfl) (fun _ _ _ h => h) (Or.inl ⟨?_, ?_⟩) ?_
              rotate_left
              · rfl
              · intro w; go_simp; try with_reducible rfl
              refine wpAny_act (a' := ?_) ?_ ?_
              rotate_left
              · simp only [Act.put, List.getElem_toArray, List.getElem_cons_succ, List.getElem_cons_zero, List.setIfInBounds_toArray, List.set_cons_succ, List.set_cons_zero]; rfl
              refine wpAny_done (by kernel_rfl) ?_ _
              go_wp2
              go_roundw
              case rel => exact ⟨k + 1, by omega, by go_num, HKP.out _ e4⟩
              case measure => simp [intOf]; omega
            exact AllReady.nil
          exact AllReady.nil
        ·
          obtain ⟨ak, ck, ek, sk, fk⟩ := hkp.out.el k (by rw [hkp.out.len]; omega)
          have dk : (s0.drop k).length = l0 - k := by simp [HL.out]
          rw [dk] at ek sk
          obtain ⟨lb, lof, rfl⟩ := hkp.out.row.addr (k := k) (by omega)
          have cell1 := hkp.out.row.at (i := k) (by omega)
          rw [ek] at cell1
          have hq0 : decide ((0 : Int) < (k : Int)) = false := by rw [decide_eq_false_iff_not]; omega
          have hq1 : decide (0 < k) = false := decide_eq_false hk0
          have HC1 := Lib.hid (show ∀ w', Below wr.heap.size wr w' → w'.cell? ⟨lb, lof + k, none⟩ = some (.slice ak (l0 - k) ck) from fun w' h => cell_keep h cell1)
          have HS1 := Lib.hid (show ∀ w', Below wr.heap.size wr w' → Strs w' ak (l0 - k) ck (s0.drop k) from fun w' h => sk.below h (Nat.le_refl _))
          have HSn := Lib.hid (show ∀ w', Below wr.heap.size wr w' → Strs w' (Option.map (fun x => x.add k) a0) (l0 - k) (c0 - k) (s0.drop k) from fun w' h => ((w0.below hkp.out.bel (Nat.le_refl _)).below h (Nat.le_refl _)).cut (k := k) (by omega))
          have HSw := Lib.hid (show ∀ w', Below wr.heap.size wr w' → Strs w' a0 l0 c0 s0 from fun w' h => (w0.below hkp.out.bel (Nat.le_refl _)).below h (Nat.le_refl _))
          have HE1 := Lib.hid (exactB_refl (s0.drop k))
          have HU1 := Lib.hid (underB_drop s0 k (by have := HL.out; omega))
          have hkz : (0 : Int) ≤ (k : Int) := Int.natCast_nonneg _
          have hkl : (k : Int) < (l0 : Int) + 1 := by omega
          have hkm : (k : Int) ≤ (l0 : Int) := by omega
          have hbd : Below wr.heap.size wr wr.drew := Below.drew (Below.refl _ _)
          have HKP := Lib.hid (show ∀ w', Below wr.heap.size wr w' → Keep x3.heap.size W w' (some ⟨lb, lof, none⟩) (l0 + 1) lc vs s0 from fun w' h => hkp.out.on h)
          clear ek sk fk dk hkp cell1
          have cell1 := HC1.out _ hbd
          go_wp2_with fail
          refine wp_region_any (by kernel_rfl) ?_
          try (change wpAny _ _ _ _ _ _ _ (World.drew _))
          refine wpAny_take (i := 0) (v := ?_) rfl (by kernel_rfl) (by kernel_rfl) (by kernel_rfl) (fun _ _ _ h => h) (Or.inl ⟨?_, ?_⟩) ?_
          rotate_left
          · rfl
          · intro w; go_simp; try with_reducible rfl
          refine wpAny_act (a' := ?_) ?_ ?_
          rotate_left
          · simp only [Act.put, List.getElem_toArray, List.getElem_cons_zero, List.setIfInBounds_toArray, List.set_cons_succ, List.set_cons_zero]; rfl
          refine wpAny_take (i := 1) (v := ?_) rfl (by kernel_rfl) (by kernel_rfl) (by kernel_rfl) (fun _ _ _ h => h) (Or.inl ⟨?_, ?_⟩) ?_
          rotate_left
          · rfl
          · intro w; go_simp; try with_reducible rfl
          refine wpAny_act (a' := ?_) ?_ ?_
          rotate_left
          · simp only [Act.put, List.getElem_toArray, List.getElem_cons_succ, List.getElem_cons_zero, List.setIfInBounds_toArray, List.set_cons_succ, List.set_cons_zero]; rfl
          refine wpAny_take (i := 2) (v := ?_) rfl (by kernel_rfl) (by kernel_rfl) (by kernel_rfl) (fun _ _ _ h => h) (Or.inl ⟨?_, ?_⟩) ?_
          rotate_left
          · rfl
          · intro w; go_simp; try with_reducible rfl
          refine wpAny_act (a' := ?_) ?_ ?_
          rotate_left
          · simp only [Act.put, List.getElem_toArray, List.getElem_cons_succ, List.getElem_cons_zero, List.setIfInBounds_toArray, List.set_cons_succ, List.set_cons_zero]; rfl
          refine wpAny_take (i := 4) (v := ?_) rfl (by kernel_rfl) (by kernel_rfl) (by kernel_rfl) (fun _ _ _ h => h) (Or.inl ⟨?_, ?_⟩) ?_
          rotate_left
          · rfl
          · intro w; go_simp; try with_reducible rfl
          refine wpAny_act (a' := ?_) ?_ ?_
          rotate_left
          · simp only [Act.put, List.getElem_toArray, List.getElem_cons_succ, List.getElem_cons_zero, List.setIfInBounds_toArray, List.set_cons_succ, List.set_cons_zero]; rfl
          refine wpAny_take (i := 5) (v := ?_) rfl (by kernel_rfl) (by kernel_rfl) (by kernel_rfl) (fun _ _ _ h => h) (Or.inl ⟨?_, ?_⟩) ?_
          rotate_left
          · rfl
          · intro w; go_simp; try with_reducible rfl
          refine wpAny_act (a' := ?_) ?_ ?_
          rotate_left
          · simp only [Act.put, List.getElem_toArray, List.getElem_cons_succ, List.getElem_cons_zero, List.setIfInBounds_toArray, List.set_cons_succ, List.set_cons_zero]; rfl
          refine wpAny_take (i := 6) (v := ?_) rfl (by kernel_rfl) (by kernel_rfl) (by kernel_rfl) (fun _ _ _ h => h) (Or.inl ⟨?_, ?_⟩) ?_
          rotate_left
          · rfl
          · intro w; go_simp; try with_reducible rfl
          refine wpAny_act (a' := ?_) ?_ ?_
          rotate_left
          · simp only [Act.put, List.getElem_toArray, List.getElem_cons_succ, List.getElem_cons_zero, List.setIfInBounds_toArray, List.set_cons_succ, List.set_cons_zero]; rfl
          refine wpAny_ready (rs := [3]) (by kernel_rfl) (by simp) ?_
          refine AllReady.cons rfl (fun K hK => ?_) AllReady.nil
          go_simp
          refine hK _ _ ?_
          clear hK K
          refine wpAny_ready (rs := [7]) (by kernel_rfl) (by simp) ?_
          refine AllReady.cons rfl (fun K hK => ?_) AllReady.nil
          go_simp
          go_wp2_with (go_at_call 20; refine (exact_any _ _ _ _ _ _ _ _ _ (HS1.out _ hbd) (HSn.out _ hbd)).mono ?_; rw [HE1.out]; rintro e y1 ⟨rfl, g1⟩; have e1 := below_on hbd g1 (Nat.le_refl _); have q1a := HC1.out _ e1)
          refine wpAny_take (i := 8) (v := ?_) rfl (by kernel_rfl) (by kernel_rfl) (by kernel_rfl) (fun _ _ _ h => h) (Or.inl ⟨?_, ?_⟩) ?_
          rotate_left
          · rfl
          · intro w; go_simp; try with_reducible rfl
          refine wpAny_act (a' := ?_) ?_ ?_
          rotate_left
          · simp only [Act.put, List.getElem_toArray, List.getElem_cons_succ, List.getElem_cons_zero, List.setIfInBounds_toArray, List.set_cons_succ, List.set_cons_zero]; rfl
          refine wpAny_take (i := 9) (v := ?_) rfl (by kernel_rfl) (by kernel_rfl) (by kernel_rfl) (fun _ _ _ h => h) (Or.inl ⟨?_, ?_⟩) ?_
          rotate_left
          · rfl
          · intro w; go_simp; try with_reducible rfl
          refine wpAny_act (a' := ?_) ?_ ?_
          rotate_left
          · simp only [Act.put, List.getElem_toArray, List.getElem_cons_succ, List.getElem_cons_zero, List.setIfInBounds_toArray, List.set_cons_succ, List.set_cons_zero]; rfl
          refine wpAny_take (i := 10) (v := ?_) rfl (by kernel_rfl) (by kernel_rfl) (by kernel_rfl) (fun _ _ _ h => h) (Or.inl ⟨?_, ?_⟩) ?_
          rotate_left
          · (first | (go_simp; done) | rfl)
          · intro w; go_simp; try with_reducible rfl
          refine wpAny_act (a' := ?_) ?_ ?_
          rotate_left
          · simp only [Act.put, List.getElem_toArray, List.getElem_cons_succ, List.getElem_cons_zero, List.setIfInBounds_toArray, List.set_cons_succ, List.set_cons_zero]; rfl
          refine wpAny_take (i := 12) (v := ?_) rfl (by kernel_rfl) (by kernel_rfl) (by kernel_rfl) (fun _ _ _ h => h) (Or.inl ⟨?_, ?_⟩) ?_
          rotate_left
          · (first | (go_simp; done) | rfl)
          · intro w; go_simp; try with_reducible rfl
          refine wpAny_act (a' := ?_) ?_ ?_
          rotate_left
          · simp only [Act.put, List.getElem_toArray, List.getElem_cons_succ, List.getElem_cons_zero, List.setIfInBounds_toArray, List.set_cons_succ, List.set_cons_zero]; rfl
          refine wpAny_take (i := 13) (v := ?_) rfl (by kernel_rfl) (by kernel_rfl) (by kernel_rfl) (fun _ _ _ h => h) (Or.inl ⟨?_, ?_⟩) ?_
          rotate_left
          · (first | (go_simp; done) | rfl)
          · intro w; go_simp; try with_reducible rfl
          refine wpAny_act (a' := ?_) ?_ ?_
          rotate_left
          · simp only [Act.put, List.getElem_toArray, List.getElem_cons_succ, List.getElem_cons_zero, List.setIfInBounds_toArray, List.set_cons_succ, List.set_cons_zero]; rfl
          refine wpAny_take (i := 14) (v := ?_) rfl (by kernel_rfl) (by kernel_rfl) (by kernel_rfl) (fun _ _ _ h => h) (Or.inl ⟨?_, ?_⟩) ?_
          rotate_left
          · (first | (go_simp; done) | rfl)
          · intro w; go_simp; try with_reducible rfl
          refine wpAny_act (a' := ?_) ?_ ?_
          rotate_left
          · simp only [Act.put, List.getElem_toArray, List.getElem_cons_succ, List.getElem_cons_zero, List.setIfInBounds_toArray, List.set_cons_succ, List.set_cons_zero]; rfl
          refine wpAny_ready (rs := [11, 15]) (by kernel_rfl) (by simp) ?_
          refine AllReady.cons rfl (fun K hK => ?_) ?_
          ·
            go_simp
            go_wp2_with (go_at_call 13; refine (own_len _ _ _ _ _ (HSw.out _ e1) HLB.out).mono ?_; rintro e y2 ⟨p5, q5, rfl, t5, g2⟩; have e2 := below_on e1 g2 (Nat.le_refl _); have q2a := HC1.out _ e2)
            refine wpAny_ready (rs := [15]) (by kernel_rfl) (by simp) ?_
            refine AllReady.cons rfl (fun K hK => ?_) AllReady.nil
            go_simp
            refine hK _ _ ?_
            clear hK K
            refine wpAny_ready (rs := [16]) (by kernel_rfl) (by simp) ?_
            refine AllReady.cons rfl (fun K hK => ?_) AllReady.nil
            go_simp
            go_wp2_with (go_at_call 21; refine (under_any _ _ _ _ _ _ _ _ _ t5 (HS1.out _ e2)).mono ?_; rw [HU1.out]; rintro e y3 ⟨rfl, g3⟩; have e3 := below_on e2 g3 (Nat.le_refl _); have q3a := HC1.out _ e3)
            refine wpAny_take (i := 17) (v := ?_) rfl (by kernel_rfl) (by kernel_rfl) (by kernel_rfl) (fun _ _ _ h => h) (Or.inl ⟨?_, ?_⟩) ?_
            rotate_left
            · (first | (go_simp; done) | rfl)
            · intro w; go_simp; try with_reducible rfl
            refine wpAny_act (a' := ?_) ?_ ?_
            rotate_left
            · simp only [Act.put, List.getElem_toArray, List.getElem_cons_succ, List.getElem_cons_zero, List.setIfInBounds_toArray, List.set_cons_succ, List.set_cons_zero]; rfl
            refine wpAny_take (i := 18) (v := ?_) rfl (by kernel_rfl) (by kernel_rfl) (by kernel_rfl) (fun _ _ _ h => h) (Or.inl ⟨?_, ?_⟩) ?_
            rotate_left
            · rfl
            · intro w; go_simp; try with_reducible rfl
            refine wpAny_act (a' := ?_) ?_ ?_
            rotate_left
            · simp only [Act.put, List.getElem_toArray, List.getElem_cons_succ, List.getElem_cons_zero, List.setIfInBounds_toArray, List.set_cons_succ, List.set_cons_zero]; rfl
            refine wpAny_take (i := 19) (v := ?_) rfl (by kernel_rfl) (by kernel_rfl) (by kernel_rfl) (fun _ _ _ h => h) (Or.inl ⟨?_, ?_⟩) ?_
            rotate_left
            · rfl
            · intro w; go_simp; try with_reducible rfl
            refine wpAny_act (a' := ?_) ?_ ?_
            rotate_left
            · simp only [Act.put, List.getElem_toArray, List.getElem_cons_succ, List.getElem_cons_zero, List.setIfInBounds_toArray, List.set_cons_succ, List.set_cons_zero]; rfl
            refine wpAny_take (i := 20) (v := ?_) rfl (by kernel_rfl) (by kernel_rfl) (by kernel_rfl) (fun _ _ _ h => h) (Or.inl ⟨?_, ?_⟩) ?_
            rotate_left
            · (first | (go_simp; done) | rfl)
            · intro w; go_simp; try with_reducible rfl
            refine wpAny_act (a' := ?_) ?_ ?_
            rotate_left
            · simp only [Act.put, List.getElem_toArray, List.getElem_cons_succ, List.getElem_cons_zero, List.setIfInBounds_toArray, List.set_cons_succ, List.set_cons_zero]; rfl
            refine wpAny_take (i := 21) (v := ?_) rfl (by kernel_rfl) (by kernel_rfl) (by kernel_rfl) (fun _ _ _ h => h) (Or.inl ⟨?_, ?_⟩) ?_
            rotate_left
            · (first | (go_simp; done) | rfl)
            · intro w; go_simp; try with_reducible rfl
            refine wpAny_act (a' := ?_) ?_ ?_
            rotate_left
            · simp only [Act.put, List.getElem_toArray, List.getElem_cons_succ, List.getElem_cons_zero, List.setIfInBounds_toArray, List.set_cons_succ, List.set_cons_zero]; rfl
            refine wpAny_take (i := 22) (v := ?_) rfl (by kernel_rfl) (by kernel_rfl) (by kernel_rfl) (fun _ _ _ h => h) (Or.inl ⟨?_, ?_⟩) ?_
            rotate_left
            · (first | (go_simp; done) | rfl)
            · intro w; go_simp; try with_reducible rfl
            refine wpAny_act (a' := ?_) ?_ ?_
            rotate_left
            · simp only [Act.put, List.getElem_toArray, List.getElem_cons_succ, List.getElem_cons_zero, List.setIfInBounds_toArray, List.set_cons_succ, List.set_cons_zero]; rfl
            refine wpAny_take (i := 23) (v := undef) rfl (by kernel_rfl) (by kernel_rfl) (by kernel_rfl) (fun _ _ _ h => h) (Or.inr ⟨?_, rfl⟩) ?_
            · (first | (go_simp; done) | rfl)
            refine wpAny_act (a' := ?_) ?_ ?_
            rotate_left
            · simp only [Act.put, List.getElem_toArray, List.getElem_cons_succ, List.getElem_cons_zero, List.setIfInBounds_toArray, List.set_cons_succ, List.set_cons_zero]; rfl
            refine wpAny_take (i := 24) (v := undef) rfl (by kernel_rfl) (by kernel_rfl) (by kernel_rfl) (fun _ _ _ h => h) (Or.inr ⟨?_, rfl⟩) ?_
            · (first | (go_simp; done) | rfl)
            refine wpAny_act (a' := ?_) ?_ ?_
            rotate_left
            · simp only [Act.put, List.getElem_toArray, List.getElem_cons_succ, List.getElem_cons_zero, List.setIfInBounds_toArray, List.set_cons_succ, List.set_cons_zero]; rfl
            refine wpAny_take (i := 25) (v := undef) rfl (by kernel_rfl) (by kernel_rfl) (by kernel_rfl) (fun _ _ _ h => h) (Or.inr ⟨?_, rfl⟩) ?_
            · (first | (go_simp; done) | rfl)
            refine wpAny_act (a' := ?_) ?_ ?_
            rotate_left
            · simp only [Act.put, List.getElem_toArray, List.getElem_cons_succ, List.getElem_cons_zero, List.setIfInBounds_toArray, List.set_cons_succ, List.set_cons_zero]; rfl
            refine wpAny_take (i := 26) (v := undef) rfl (by kernel_rfl) (by kernel_rfl) (by kernel_rfl) (fun _ _ _ h => h) (Or.inr ⟨?_, rfl⟩) ?_
            · (first | (go_simp; done) | rfl)
            refine wpAny_act (a' := ?_) ?_ ?_
            rotate_left
            · simp only [Act.put, List.getElem_toArray, List.getElem_cons_succ, List.getElem_cons_zero, List.setIfInBounds_toArray, List.set_cons_succ, List.set_cons_zero]; rfl
            refine wpAny_take (i := 27) (v := undef) rfl (by kernel_rfl) (by kernel_rfl) (by kernel_rfl) (fun _ _ _ h => h) (Or.inr ⟨?_, rfl⟩) ?_
            · (first | (go_simp; done) | rfl)
            refine wpAny_act (a' := ?_) ?_ ?_
            rotate_left
            · simp only [Act.put, List.getElem_toArray, List.getElem_cons_succ, List.getElem_cons_zero, List.setIfInBounds_toArray, List.set_cons_succ, List.set_cons_zero]; rfl
            refine wpAny_take (i := 28) (v := undef) rfl (by kernel_rfl) (by kernel_rfl) (by kernel_rfl) (fun _ _ _ h => h) (Or.inr ⟨?_, rfl⟩) ?_
            · (first | (go_simp; done) | rfl)
            refine wpAny_act (a' := ?_) ?_ ?_
            rotate_left
            · simp only [Act.put, List.getElem_toArray, List.getElem_cons_succ, List.getElem_cons_zero, List.setIfInBounds_toArray, List.set_cons_succ, List.set_cons_zero]; rfl
            refine wpAny_take (i := 29) (v := undef) rfl (by kernel_rfl) (by kernel_rfl) (by kernel_rfl) (fun _ _ _ h => h) (Or.inr ⟨?_, rfl⟩) ?_
            · (first | (go_simp; done) | rfl)
            refine wpAny_act (a' := ?_) ?_ ?_
            rotate_left
            · simp only [Act.put, List.getElem_toArray, List.getElem_cons_succ, List.getElem_cons_zero, List.setIfInBounds_toArray, List.set_cons_succ, List.set_cons_zero]; rfl
            refine wpAny_take (i := 30) (v := undef) rfl (by kernel_rfl) (by kernel_rfl) (by kernel_rfl) (fun _ _ _ h => h) (Or.inr ⟨?_, rfl⟩) ?_
            · (first | (go_simp; done) | rfl)
            refine wpAny_act (a' := ?_) ?_ ?_
            rotate_left
            · simp only [Act.put, List.getElem_toArray, List.getElem_cons_succ, List.getElem_cons_zero, List.setIfInBounds_toArray, List.set_cons_succ, List.set_cons_zero]; rfl
            refine wpAny_take (i := 31) (v := undef) rfl (by kernel_rfl) (by kernel_rfl) (by kernel_rfl) (fun _ _ _ h => h) (Or.inr ⟨?_, rfl⟩) ?_
            · (first | (go_simp; done) | rfl)
            refine wpAny_act (a' := ?_) ?_ ?_
            rotate_left
            · simp only [Act.put, List.getElem_toArray, List.getElem_cons_succ, List.getElem_cons_zero, List.setIfInBounds_toArray, List.set_cons_succ, List.set_cons_zero]; rfl
            refine wpAny_take (i := 32) (v := undef) rfl (by kernel_rfl) (by kernel_rfl) (by kernel_rfl) (fun _ _ _ h => h) (Or.inr ⟨?_, rfl⟩) ?_
            · (first | (go_simp; done) | rfl)
            refine wpAny_act (a' := ?_) ?_ ?_
            rotate_left
            · simp only [Act.put, List.getElem_toArray, List.getElem_cons_succ, List.getElem_cons_zero, List.setIfInBounds_toArray, List.set_cons_succ, List.set_cons_zero]; rfl
            refine wpAny_take (i := 33) (v := ?_) rfl (by kernel_rfl) (by kernel_rfl) (by kernel_rfl) (fun _ _ _ h => h) (Or.inl ⟨?_, ?_⟩) ?_
            rotate_left
            · (first | (go_simp; done) | rfl)
            · intro w; go_simp; try with_reducible rfl
            refine wpAny_act (a' := ?_) ?_ ?_
            rotate_left
            · simp only [Act.put, List.getElem_toArray, List.getElem_cons_succ, List.getElem_cons_zero, List.setIfInBounds_toArray, List.set_cons_succ, List.set_cons_zero]; rfl
            refine wpAny_take (i := 34) (v := ?_) rfl (by kernel_rfl) (by kernel_rfl) (by kernel_rfl) (fun _ _ _ h => h) (Or.inl ⟨?_, ?_⟩) ?_
            rotate_left
            · rfl
            · intro w; go_simp; try with_reducible rfl
            refine wpAny_act (a' := ?_) ?_ ?_
            rotate_left
            · simp only [Act.put, List.getElem_toArray, List.getElem_cons_succ, List.getElem_cons_zero, List.setIfInBounds_toArray, List.set_cons_succ, List.set_cons_zero]; rfl
            refine wpAny_done (by kernel_rfl) ?_ _
            go_wp2
            go_roundw
            case rel => exact ⟨k + 1, by omega, by go_num, HKP.out _ e3⟩
            case measure => simp [intOf]; omega
          refine AllReady.cons rfl (fun K hK => ?_) ?_
          ·
            go_simp
            refine hK _ _ ?_
            clear hK K
            refine wpAny_ready (rs := [11]) (by kernel_rfl) (by simp) ?_
            refine AllReady.cons rfl (fun K hK => ?_) AllReady.nil
            go_simp
            go_wp2_with (go_at_call 13; refine (own_len _ _ _ _ _ (HSw.out _ e1) HLB.out).mono ?_; rintro e y2 ⟨p5, q5, rfl, t5, g2⟩; have e2 := below_on e1 g2 (Nat.le_refl _); have q2a := HC1.out _ e2)
            refine wpAny_ready (rs := [16]) (by kernel_rfl) (by simp) ?_
            refine AllReady.cons rfl (fun K hK => ?_) AllReady.nil
            go_simp
            go_wp2_with (go_at_call 21; refine (under_any _ _ _ _ _ _ _ _ _ t5 (HS1.out _ e2)).mono ?_; rw [HU1.out]; rintro e y3 ⟨rfl, g3⟩; have e3 := below_on e2 g3 (Nat.le_refl _); have q3a := HC1.out _ e3)
            refine wpAny_take (i := 17) (v := ?_) rfl (by kernel_rfl) (by kernel_rfl) (by kernel_rfl) (fun _ _ _ h => h) (Or.inl ⟨?_, ?_⟩) ?_
            rotate_left
            · (first | (go_simp; done) | rfl)
            · intro w; go_simp; try with_reducible rfl
            refine wpAny_act (a' := ?_) ?_ ?_
            rotate_left
            · simp only [Act.put, List.getElem_toArray, List.getElem_cons_succ, List.getElem_cons_zero, List.setIfInBounds_toArray, List.set_cons_succ, List.set_cons_zero]; rfl
            refine wpAny_take (i := 18) (v := ?_) rfl (by kernel_rfl) (by kernel_rfl) (by kernel_rfl) (fun _ _ _ h => h) (Or.inl ⟨?_, ?_⟩) ?_
            rotate_left
            · rfl
            · intro w; go_simp; try with_reducible rfl
            refine wpAny_act (a' := ?_) ?_ ?_
            rotate_left
            · simp only [Act.put, List.getElem_toArray, List.getElem_cons_succ, List.getElem_cons_zero, List.setIfInBounds_toArray, List.set_cons_succ, List.set_cons_zero]; rfl
            refine wpAny_take (i := 19) (v := ?_) rfl (by kernel_rfl) (by kernel_rfl) (by kernel_rfl) (fun _ _ _ h => h) (Or.inl ⟨?_, ?_⟩) ?_
            rotate_left
            · rfl
            · intro w; go_simp; try with_reducible rfl
            refine wpAny_act (a' := ?_) ?_ ?_
            rotate_left
            · simp only [Act.put, List.getElem_toArray, List.getElem_cons_succ, List.getElem_cons_zero, List.setIfInBounds_toArray, List.set_cons_succ, List.set_cons_zero]; rfl
            refine wpAny_take (i := 20) (v := ?_) rfl (by kernel_rfl) (by kernel_rfl) (by kernel_rfl) (fun _ _ _ h => h) (Or.inl ⟨?_, ?_⟩) ?_
            rotate_left
            · (first | (go_simp; done) | rfl)
            · intro w; go_simp; try with_reducible rfl
            refine wpAny_act (a' := ?_) ?_ ?_
            rotate_left
            · simp only [Act.put, List.getElem_toArray, List.getElem_cons_succ, List.getElem_cons_zero, List.setIfInBounds_toArray, List.set_cons_succ, List.set_cons_zero]; rfl
            refine wpAny_take (i := 21) (v := ?_) rfl (by kernel_rfl) (by kernel_rfl) (by kernel_rfl) (fun _ _ _ h => h) (Or.inl ⟨?_, ?_⟩) ?_
            rotate_left
            · (first | (go_simp; done) | rfl)
            · intro w; go_simp; try with_reducible rfl
            refine wpAny_act (a' := ?_) ?_ ?_
            rotate_left
            · simp only [Act.put, List.getElem_toArray, List.getElem_cons_succ, List.getElem_cons_zero, List.setIfInBounds_toArray, List.set_cons_succ, List.set_cons_zero]; rfl
            refine wpAny_take (i := 22) (v := ?_) rfl (by kernel_rfl) (by kernel_rfl) (by kernel_rfl) (fun _ _ _ h => h) (Or.inl ⟨?_, ?_⟩) ?_
            rotate_left
            · (first | (go_simp; done) | rfl)
            · intro w; go_simp; try with_reducible rfl
            refine wpAny_act (a' := ?_) ?_ ?_
            rotate_left
            · simp only [Act.put, List.getElem_toArray, List.getElem_cons_succ, List.getElem_cons_zero, List.setIfInBounds_toArray, List.set_cons_succ, List.set_cons_zero]; rfl
            refine wpAny_take (i := 23) (v := undef) rfl (by kernel_rfl) (by kernel_rfl) (by kernel_rfl) (fun _ _ _ h => h) (Or.inr ⟨?_, rfl⟩) ?_
            · (first | (go_simp; done) | rfl)
            refine wpAny_act (a' := ?_) ?_ ?_
            rotate_left
            · simp only [Act.put, List.getElem_toArray, List.getElem_cons_succ, List.getElem_cons_zero, List.setIfInBounds_toArray, List.set_cons_succ, List.set_cons_zero]; rfl
            refine wpAny_take (i := 24) (v := undef) rfl (by kernel_rfl) (by kernel_rfl) (by kernel_rfl) (fun _ _ _ h => h) (Or.inr ⟨?_, rfl⟩) ?_
            · (first | (go_simp; done) | rfl)
            refine wpAny_act (a' := ?_) ?_ ?_
            rotate_left
            · simp only [Act.put, List.getElem_toArray, List.getElem_cons_succ, List.getElem_cons_zero, List.setIfInBounds_toArray, List.set_cons_succ, List.set_cons_zero]; rfl
            refine wpAny_take (i := 25) (v := undef) rfl (by kernel_rfl) (by kernel_rfl) (by kernel_rfl) (fun _ _ _ h => h) (Or.inr ⟨?_, rfl⟩) ?_
            · (first | (go_simp; done) | rfl)
            refine wpAny_act (a' := ?_) ?_ ?_
            rotate_left
            · simp only [Act.put, List.getElem_toArray, List.getElem_cons_succ, List.getElem_cons_zero, List.setIfInBounds_toArray, List.set_cons_succ, List.set_cons_zero]; rfl
            refine wpAny_take (i := 26) (v := undef) rfl (by kernel_rfl) (by kernel_rfl) (by kernel_rfl) (fun _ _ _ h => h) (Or.inr ⟨?_, rfl⟩) ?_
            · (first | (go_simp; done) | rfl)
            refine wpAny_act (a' := ?_) ?_ ?_
            rotate_left
            · simp only [Act.put, List.getElem_toArray, List.getElem_cons_succ, List.getElem_cons_zero, List.setIfInBounds_toArray, List.set_cons_succ, List.set_cons_zero]; rfl
            refine wpAny_take (i := 27) (v := undef) rfl (by kernel_rfl) (by kernel_rfl) (by kernel_rfl) (fun _ _ _ h => h) (Or.inr ⟨?_, rfl⟩) ?_
            · (first | (go_simp; done) | rfl)
            refine wpAny_act (a' := ?_) ?_ ?_
            rotate_left
            · simp only [Act.put, List.getElem_toArray, List.getElem_cons_succ, List.getElem_cons_zero, List.setIfInBounds_toArray, List.set_cons_succ, List.set_cons_zero]; rfl
            refine wpAny_take (i := 28) (v := undef) rfl (by kernel_rfl) (by kernel_rfl) (by kernel_rfl) (fun _ _ _ h => h) (Or.inr ⟨?_, rfl⟩) ?_
            · (first | (go_simp; done) | rfl)
            refine wpAny_act (a' := ?_) ?_ ?_
            rotate_left
            · simp only [Act.put, List.getElem_toArray, List.getElem_cons_succ, List.getElem_cons_zero, List.setIfInBounds_toArray, List.set_cons_succ, List.set_cons_zero]; rfl
            refine wpAny_take (i := 29) (v := undef) rfl (by kernel_rfl) (by kernel_rfl) (by kernel_rfl) (fun _ _ _ h => h) (Or.inr ⟨?_, rfl⟩) ?_
            · (first | (go_simp; done) | rfl)
            refine wpAny_act (a' := ?_) ?_ ?_
            rotate_left
            · simp only [Act.put, List.getElem_toArray, List.getElem_cons_succ, List.getElem_cons_zero, List.setIfInBounds_toArray, List.set_cons_succ, List.set_cons_zero]; rfl
            refine wpAny_take (i := 30) (v := undef) rfl (by kernel_rfl) (by kernel_rfl) (by kernel_rfl) (fun _ _ _ h => h) (Or.inr ⟨?_, rfl⟩) ?_
            · (first | (go_simp; done) | rfl)
            refine wpAny_act (a' := ?_) ?_ ?_
            rotate_left
            · simp only [Act.put, List.getElem_toArray, List.getElem_cons_succ, List.getElem_cons_zero, List.setIfInBounds_toArray, List.set_cons_succ, List.set_cons_zero]; rfl
            refine wpAny_take (i := 31) (v := undef) rfl (by kernel_rfl) (by kernel_rfl) (by kernel_rfl) (fun _ _ _ h => h) (Or.inr ⟨?_, rfl⟩) ?_
            · (first | (go_simp; done) | rfl)
            refine wpAny_act (a' := ?_) ?_ ?_
            rotate_left
            · simp only [Act.put, List.getElem_toArray, List.getElem_cons_succ, List.getElem_cons_zero, List.setIfInBounds_toArray, List.set_cons_succ, List.set_cons_zero]; rfl
            refine wpAny_take (i := 32) (v := undef) rfl (by kernel_rfl) (by kernel_rfl) (by kernel_rfl) (fun _ _ _ h => h) (Or.inr ⟨?_, rfl⟩) ?_
            · (first | (go_simp; done) | rfl)
            refine wpAny_act (a' := ?_) ?_ ?_
            rotate_left
            · simp only [Act.put, List.getElem_toArray, List.getElem_cons_succ, List.getElem_cons_zero, List.setIfInBounds_toArray, List.set_cons_succ, List.set_cons_zero]; rfl
            refine wpAny_take (i := 33) (v := ?_) rfl (by kernel_rfl) (by kernel_rfl) (by kernel_rfl) (fun _ _ _ h => h) (Or.inl ⟨?_, ?_⟩) ?_
            rotate_left
            · (first | (go_simp; done) | rfl)
            · intro w; go_simp; try with_reducible rfl
            refine wpAny_act (a' := ?_) ?_ ?_
            rotate_left
            · simp only [Act.put, List.getElem_toArray, List.getElem_cons_succ, List.getElem_cons_zero, List.setIfInBounds_toArray, List.set_cons_succ, List.set_cons_zero]; rfl
            refine wpAny_take (i := 34) (v := ?_) rfl (by kernel_rfl) (by kernel_rfl) (by kernel_rfl) (fun _ _ _ h => h) (Or.inl ⟨?_, ?_⟩) ?_
            rotate_left
            · rfl
            · intro w; go_simp; try with_reducible rfl
            refine wpAny_act (a' := ?_) ?_ ?_
            rotate_left
            · simp only [Act.put, List.getElem_toArray, List.getElem_cons_succ, List.getElem_cons_zero, List.setIfInBounds_toArray, List.set_cons_succ, List.set_cons_zero]; rfl
            refine wpAny_done (by kernel_rfl) ?_ _
            go_wp2
            go_roundw
            case rel => exact ⟨k + 1, by omega, by go_num, HKP.out _ e3⟩
            case measure => simp [intOf]; omega
          exact AllReady.nil
    · go_wp2
      go_ret
      exact ⟨rfl, hkp.out.bel⟩

theorem door_met (os : Os) (args : Array Value) : laidMetH Tryd.prog Rows.nameParentsRow.laid ((World.laidAll Tryd.prog os Rows.nameParentsRow.laid).forCall (fun _ _ => 0) ⟨#[], args, []⟩).memory := by
  rw [MakeChecks.laidMetH_plain _ _ _ (by kernel_rfl)]
  exact laidMet_laidAll _ (by kernel_rfl) (by kernel_rfl)

set_option maxHeartbeats 1000000 in
set_option maxRecDepth 100000 in
theorem lifted (os : Os) (started : os.Started) (H : Type) (enc : TypeId × Value → H) :
    ReturnsInHanded {} Tryd.checked os 4 .any (fun w args => (Rows.nameParentsSpec.pre enc Tryd.prog Tryd.f4 [] false w args ∧ laidMetH Tryd.prog Rows.nameParentsRow.laid w) ∧ sizedMet enc Tryd.prog Tryd.f4 (OpenSpec.ofChange Rows.nameParentsSpec) false w args) (Rows.nameParentsSpec.post enc Tryd.prog Tryd.f4 false true false false) := by
  refine returnsInHanded_of_change_and (C := Tryd.checked) (X := fun w _ => laidMetH Tryd.prog Rows.nameParentsRow.laid w) (fun _ _ _ hh h => h.of_heap hh) own started (by kernel_rfl) Tryd.func4
    (ChangeSpec.witness_shaped (enc := enc) (C := Tryd.checked) (os := os) (X := fun w _ => laidMetH Tryd.prog Rows.nameParentsRow.laid w) false (World.laidAll Tryd.prog os Rows.nameParentsRow.laid) #[.slice none 0 0] 8 (World.laidAll_os _ _ _) (World.shaped_of_ZipB (by kernel_rfl) (by kernel_rfl)) (by kernel_rfl) (by kernel_rfl) (by kernel_rfl) (door_met os _)) ?_
  intro W base args ds gs before hval0 hW hcnd hsz0 hL _
  have hval : ∀ (j : Nat) t v, Tryd.f4.params[j]? = some t → args[j]? = some v → Value.okWide Tryd.prog W .any base t v := hval0
  have hW' := hW
  obtain ⟨p, q, hA0, hV, rfl, hfz, hnd⟩ := hW
  have hA : DataW.TrodAll enc Tryd.prog W 0 (fun _ => true) true Tryd.f4.params.toList args.toList ds p := hA0
  have hsz : (DataW.weightsEach Tryd.prog (Tryd.f4.params.toList ++ Rows.nameParentsSpec.plain.varTypes Tryd.prog) (ds ++ gs)).all (· ≤ reachBytes) = true := hsz0
  rw [Tryd.params4] at hA hval hsz
  obtain ⟨v0, vs0, d0, ds0, p0, q0, hargs, rfl, rfl, h0, r0⟩ := trodAll_cons hA
  obtain ⟨rfl, rfl, rfl⟩ := trodAll_nil r0
  obtain rfl : args = #[v0] := by cases args; simp_all
  obtain ⟨rfl, rfl⟩ := trodVars_none hV
  have k0 := h0
  have lt0 : ∀ x ∈ p0, x.block < W.heap.size := by obtain ⟨m, hm⟩ := k0; exact DataW.trod_lt m _ _ _ hm
  obtain ⟨x0, y0, z0, hsl0⟩ := okWide_slice Tryd.underlying22 (hval 0 22 v0 rfl rfl)
  obtain ⟨a0, l0, c0, s0, hv0, w0, b0⟩ := open_strs_arg Tryd.underlying22 h0 hsz (j := 0) rfl rfl ⟨_, _, _, hsl0⟩
  clear hA0 hval0
  subst hv0
  refine (walk a0 l0 c0 s0 W w0 b0 hL).mono fun e W' ⟨he, bel⟩ => ?_
  subst he
  exact ⟨_, rfl, _, _, _, [], _, [], hW', trodAll_mk1 (shut_bool Tryd.underlying4 _), (trodAll_cons_mk (Below.trod laidOut (by kernel_rfl) (of_decide_eq_true (by kernel_rfl)) k0 bel lt0) trodAll_mk0), rfl, bel.frame _, fun h => by cases h⟩

theorem over : Rows.nameParentsRow.holds Tryd.pinned (OpenSpec.ofChange Rows.nameParentsSpec) :=
  OpenClaim.holds_of_wide 4 Tryd.f4 rfl rfl rfl rfl rfl rfl rfl ⟨rfl, rfl, rfl, rfl, rfl⟩ rfl rfl rfl rfl rfl (by kernel_rfl) Tryd.func4 (by kernel_rfl)
    (of_decide_eq_true (by kernel_rfl)) (by unfold Func.isWrapper; first | (rw [if_pos (by decide +kernel)]; kernel_rfl) | (rw [if_neg (by decide +kernel)]; exact ⟨rfl, rfl⟩))
    (fun os started H enc _ => lifted os started H enc)

theorem proved : Rows.NameParentsCardSaid :=
  Claim7.holds_tied_plain_at .later [] [.data, .data, .data] true (true, "4ec24589f0f5f26137b02521d2e0afadc07f64e7626361e1c896d6f108f38193") true
    over (fun _ h => by cases h) (by kernel_rfl) (fun _ h => by cases h) nameParents_row_tie rfl ⟨rfl, rfl⟩ (by kernel_rfl) rfl
    (fun f fn hf hfn => by
      obtain rfl : f = 4 := Option.some.inj ((show Tryd.prog.funcNamed "gazetteer/gazetteerlaw02.NameParents" = some 4 by kernel_rfl).symm.trans hf) |>.symm
      obtain rfl : fn = Tryd.f4 := (Option.some.inj (Tryd.func4.symm.trans hfn)).symm
      exact ⟨by kernel_rfl, fun j t ht => by
        rw [Tryd.params4] at ht
        have hm : t ∈ [22] := by simpa using Array.mem_of_getElem? ht
        have hall : ([22].all fun u => !Tryd.prog.wantsStandIn u) = true := by kernel_rfl
        exact (show Tryd.prog.wantsStandIn t = false by simpa using List.all_eq_true.1 hall t hm)⟩)
    (by kernel_rfl)
end Go.Proofs.YtelikppfiaobcaaDoor.nameParents

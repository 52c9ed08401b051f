/- The walk of law14.CacheStale. -/
import Derived.Test.YtpemdieejgldiaaCtold
import Derived.Test.YtpemdieejgldiaaAnswers
import Derived.Test.YtpemdieejgldiaaRfsame
import Derived.Test.YtpemdieejgldiaaRowndata
namespace Go.Proofs.Ytpemdieejgldiaa
open Go.ChangeShapes Go.WideShapes Go.ChangeAt Go.RowKit

def p5 : DataP := ⟨[], [], [], [1, 2, 3, 4, 5], []⟩
def fStale (neg : Bool) (n : List ByteArray) (ttl : Int) : FactP := match neg with | false => ⟨n, 1, 1, 3, 10, ttl, [d0], [], noP⟩ | true => ⟨n, 0, 3, 3, 10, ttl, [], [], p5⟩
def hStale (neg : Bool) (a : Addr) (nl c Y : Nat) : FactH := match neg with | false => ⟨some a, nl, c, some ⟨Y + 1, 0, none⟩, 1, 1, none, 0, 0, noDH⟩ | true => ⟨some a, nl, c, none, 0, 0, none, 0, 0, ⟨none, 0, 0, none, 0, 0, none, 0, 0, some ⟨Y + 1 + 1 + 1, 0, none⟩, 5, 5, none, 0, 0⟩⟩
theorem fStale_ok {neg : Bool} {n : List ByteArray} {ttl : Int} (h : soundB n = true) (h0 : 0 ≤ ttl) (h1 : ttl < 60) : factB (fStale neg n ttl) = true := by
  have hd : distinctB 1 [] [d0] = true := by decide +kernel
  have hs : soundB [] = true := by decide +kernel
  have h6 : dataB 6 p5 = true := by decide +kernel
  cases neg with
  | false => simp [factB, headB, hasB, fStale, h, hd, typedB, noneB, noP, timeB, h0]; exact decide_eq_true (by omega)
  | true => simp [factB, headB, negB, fStale, h, hs, h6, underB, timeB, h0]; exact ⟨decide_eq_true (by omega), decide_eq_true (by omega), eqB_refl _⟩
theorem fStale_len {neg : Bool} {n : List ByteArray} {ttl : Int} (h : soundB n = true) : FLen (fStale neg n ttl) := by
  have hn : n.length ≤ 1000000 := by
    simp only [soundB, Bool.and_eq_true, decide_eq_true_eq] at h
    omega
  cases neg with
  | false => exact ⟨hn, by simp [fStale], by simp [fStale], f0_len.soa, f0_len.all⟩
  | true => exact ⟨hn, by simp [fStale], by simp [fStale], ⟨by simp [fStale, p5], by simp [fStale, p5], by simp [fStale, p5], by simp [fStale, p5]⟩, fun d hd => by cases hd⟩
theorem fStale_key (neg : Bool) (n : List ByteArray) (ttl : Int) : keyF (fStale neg n ttl) = keyP n 1 ∨ keyF (fStale neg n ttl) = keyP n 0 := by
  cases neg
  · exact .inl rfl
  · exact .inr rfl
theorem find_one {s : Slot} {n : List ByteArray} {p : Slot → Bool} (h : keyF s.f = keyP n 1 ∨ keyF s.f = keyP n 0) : findL [s] n 1 p = if p s = true then some s else none := by
  have h10 : keyP n 1 ≠ keyP n 0 := fun e => by have := keyP_typ e; revert this; decide
  have ht : typedB 1 = true := by decide
  rw [findL, if_pos ht]
  rcases h with h | h
  · have e1 : atL [s] (keyP n 1) = some s := by simp [atL, h]
    have e0 : atL [s] (keyP n 0) = none := by simp [atL, h, h10]
    rw [e1, e0]
    by_cases hp : p s = true <;> simp [fitO, hp]
  · have e1 : atL [s] (keyP n 1) = none := by simp [atL, h]; exact fun e => h10 e.symm
    have e0 : atL [s] (keyP n 0) = some s := by simp [atL, h]
    rw [e1, e0]
    by_cases hp : p s = true <;> simp [fitO, hp]
theorem used_one {s : Slot} {k : Nat} : usedL [s] k (some s) = [⟨s.b, s.h, s.f, k + 1⟩] := by simp [usedL, offL]
/-- what the cache says of such a fact at a time -/
theorem stale_says {neg : Bool} {n : List ByteArray} {ttl now st : Int} {s : Slot} (hf : s.f = fStale neg n ttl) (h0 : 0 ≤ ttl) (h1 : ttl < 60) (n0 : 0 ≤ now) (n1 : now < 140) (s0 : 0 ≤ st) (s1 : st < 60) :
    (fitsF now s = true ↔ now < 10 + ttl ∧ 0 < ttl) ∧ (fitsS now st s = true ↔ (10 + ttl ≤ now ∨ ttl = 0) ∧ now < 10 + ttl + st) := by
  have hg : s.f.got = 10 := by rw [hf]; cases neg <;> rfl
  have ht : s.f.ttl = ttl := by rw [hf]; cases neg <;> rfl
  have b0 : timeB 10 = true := by decide
  have b1 : timeB ttl = true := timeB_yes h0 (by omega)
  have b2 : timeB now = true := timeB_yes n0 (by omega)
  have b3 : timeB st = true := timeB_yes s0 (by omega)
  have hl := leftZ_yes b0 b1 b2
  simp only [fitsF, fitsS, staleB, hg, ht, b0, b1, b2, b3, hl, Bool.true_and, Bool.and_eq_true, decide_eq_true_eq]
  omega
theorem iff_false {b : Bool} {p : Prop} (h : b = true ↔ p) (hp : ¬ p) : b = false := by cases b <;> simp_all
/-- the fact in memory -/
theorem stale_is {W4 : World} {a' : Addr} {nl c' g : Nat} {nm : List ByteArray} {ttl : Int} (hrow : Own1 [9] g W4 (some a') nl c' (nm.map .string)) (hsm : ∀ s ∈ nm, s.size ≤ 9223372036854775807) (h0 : 0 ≤ ttl) (h1 : ttl < 60) :
    IsFact (tagged fT (((W4.alloc (.cells #[.int .u8 1, .int .u8 2, .int .u8 3, .int .u8 4] 5)).alloc (.cells #[.slice (some ⟨W4.heap.size, 0, none⟩) 4 4, .slice none 0 0, .slice none 0 0, .slice none 0 0, .slice none 0 0] 34)).alloc (.cells (factC (hStale false a' nl c' W4.heap.size) (fStale false nm ttl)) 36)))
      (((W4.alloc (.cells #[.int .u8 1, .int .u8 2, .int .u8 3, .int .u8 4] 5)).alloc (.cells #[.slice (some ⟨W4.heap.size, 0, none⟩) 4 4, .slice none 0 0, .slice none 0 0, .slice none 0 0, .slice none 0 0] 34)).alloc (.cells (factC (hStale false a' nl c' W4.heap.size) (fStale false nm ttl)) 36)) (hStale false a' nl c' W4.heap.size) (fStale false nm ttl) := by
  have h2 := two_blk W4 #[.int .u8 1, .int .u8 2, .int .u8 3, .int .u8 4] #[.slice (some ⟨W4.heap.size, 0, none⟩) 4 4, .slice none 0 0, .slice none 0 0, .slice none 0 0, .slice none 0 0] 5 34
  generalize (W4.alloc (.cells #[.int .u8 1, .int .u8 2, .int .u8 3, .int .u8 4] 5)).alloc (.cells #[.slice (some ⟨W4.heap.size, 0, none⟩) 4 4, .slice none 0 0, .slice none 0 0, .slice none 0 0, .slice none 0 0] 34) = W5 at h2 ⊢
  have hb6 : Below W5.heap.size W5 (W5.alloc (.cells (factC (hStale false a' nl c' W4.heap.size) (fStale false nm ttl)) 36)) := (Below.refl _ _).alloc (Nat.le_refl _) _
  have hi := f0_is _ W4.heap.size (W4.heap.size + 1) (h2.1.on hb6) (h2.2.1.on hb6)
  have hr6 := (hrow.on h2.2.2).on hb6
  exact ⟨⟨hr6.row, hsm⟩, fun p a e => by obtain ⟨⟨cs, t, x, y⟩, _⟩ := hr6.mem p a e; exact ⟨cs, t, x, by revert y; simp only [List.mem_singleton]; rintro rfl; decide⟩, show wfi 1 by decide, show wfi 1 by decide, show wfi 3 by decide, show wfi 10 by decide, by simp only [fStale]; omega, hi.set, hi.zone, hi.zoneIn, hi.soa, hi.soaIn⟩
theorem stale_isN {W4 : World} {a' : Addr} {nl c' g : Nat} {nm : List ByteArray} {ttl : Int} {X : Obj} {Y : Obj} (hrow : Own1 [9] g W4 (some a') nl c' (nm.map .string)) (hsm : ∀ s ∈ nm, s.size ≤ 9223372036854775807) (h0 : 0 ≤ ttl) (h1 : ttl < 60) :
    IsFact (tagged fT ((((W4.alloc X).alloc Y).alloc (.cells (factC (hStale true a' nl c' W4.heap.size) (fStale true nm ttl)) 36)).alloc (.cells #[.int .i64 1, .int .i64 2, .int .i64 3, .int .i64 4, .int .i64 5] 3)))
      ((((W4.alloc X).alloc Y).alloc (.cells (factC (hStale true a' nl c' W4.heap.size) (fStale true nm ttl)) 36)).alloc (.cells #[.int .i64 1, .int .i64 2, .int .i64 3, .int .i64 4, .int .i64 5] 3)) (hStale true a' nl c' W4.heap.size) (fStale true nm ttl) := by
  have b1 : Below W4.heap.size W4 ((W4.alloc X).alloc Y) := ((Below.refl _ _).alloc (Nat.le_refl _) _).alloc (by simp) _
  have hsz : ((W4.alloc X).alloc Y).heap.size = W4.heap.size + 1 + 1 := by simp
  generalize (W4.alloc X).alloc Y = W5 at b1 hsz ⊢
  have b2 : Below W5.heap.size W5 (W5.alloc (.cells (factC (hStale true a' nl c' W4.heap.size) (fStale true nm ttl)) 36)) := (Below.refl _ _).alloc (Nat.le_refl _) _
  have hsz2 : (W5.alloc (.cells (factC (hStale true a' nl c' W4.heap.size) (fStale true nm ttl)) 36)).heap.size = W4.heap.size + 1 + 1 + 1 := by simp [hsz]
  have hr6 := (hrow.on b1).on b2
  generalize W5.alloc (.cells (factC (hStale true a' nl c' W4.heap.size) (fStale true nm ttl)) 36) = W6 at hr6 hsz2 b2 ⊢
  have hr7 := hr6.on ((Below.refl _ _).alloc (Nat.le_refl _) (.cells #[.int .i64 1, .int .i64 2, .int .i64 3, .int .i64 4, .int .i64 5] 3))
  have hX : Blk (W6.alloc (.cells #[.int .i64 1, .int .i64 2, .int .i64 3, .int .i64 4, .int .i64 5] 3)) (W4.heap.size + 1 + 1 + 1) #[.int .i64 1, .int .i64 2, .int .i64 3, .int .i64 4, .int .i64 5] 3 := by rw [← hsz2]; exact heap_alloc_new _ _
  generalize W6.alloc (.cells #[.int .i64 1, .int .i64 2, .int .i64 3, .int .i64 4, .int .i64 5] 3) = W7 at hr7 hX ⊢
  have hr : Row W7 none 0 0 [] := Row.empty (by decide) (fun _ => rfl)
  have hs : Strs W7 none 0 0 [] := ⟨hr, by simp⟩
  have hi : ∀ {S : Nat → Prop}, rowIn S none 0 := fun h => absurd h (by omega)
  refine ⟨⟨hr7.row, hsm⟩, fun p a e => by obtain ⟨⟨cs, t, x, y⟩, _⟩ := hr7.mem p a e; exact ⟨cs, t, x, by revert y; simp only [List.mem_singleton]; rintro rfl; decide⟩, show wfi 0 by decide, show wfi 3 by decide, show wfi 3 by decide, show wfi 10 by decide, by simp only [fStale]; omega, ⟨rfl, Nat.le_refl _, Nat.zero_le _, fun _ => rfl, fun h => absurd h (Nat.lt_irrefl 0)⟩, hs, hi, ⟨hr, hs, hs, ?_, hs, by simp [fStale, p5]; decide⟩, ⟨hi, hi, hi, fun _ a e => by cases e; exact ⟨_, _, hX, by decide⟩, hi⟩⟩
  refine ⟨rfl, Nat.le_refl _, by show (5 : Nat) ≤ _; decide, by show (5 : Nat) ≤ _; decide, (fun h => nomatch h), (fun _ => ⟨W4.heap.size + 1 + 1 + 1, 0, rfl, ?_⟩)⟩
  intro q hq
  rw [hX.cell]
  have h4 : q < 5 := by simpa [fStale, p5] using hq
  obtain rfl | rfl | rfl | rfl | rfl : q = 0 ∨ q = 1 ∨ q = 2 ∨ q = 3 ∨ q = 4 := by omega
  all_goals rfl
/-- what the loop keeps -/
structure SlSt (w wr : World) (C j : Nat) (st : Int) (X : Nat) (h : FactH) (f : FactP) : Prop where
  bel : Below w.heap.size w wr
  ca : ∃ k s, IsCache w.heap.size wr C 5 st k [s] ∧ k ≤ 1 + 2 * j ∧ s.f = f
  blk : Blk wr X (factC h f) 36
  fact : IsFact (tagged fT wr) wr h f
theorem fact_left {B : Nat} {w w' : World} {h : FactH} {f : FactP} (hf : IsFact (tagged fT w) w h f) (hl : Left B w w') : IsFact (tagged fT w') w' h f := hf.step (hl.same.mono (fun _ _ ht => tagged_mono ht fT_gT))
set_option maxHeartbeats 64000000 in
set_option maxRecDepth 100000 in
theorem stale_walk (w : World) (t win : Int) (ht : 0 ≤ t ∧ t ≤ 65535) (hwin : 0 ≤ win ∧ win ≤ 65535) (na : Option Addr) (nl nc : Nat) (nm : List ByteArray) (hn : Strs w na nl nc nm) (hb : nc * 16 ≤ 140737488355328) (neg : Bool) :
    Calls Try.prog 5 #[.int .u16 t, .int .u16 win, .slice na nl nc, .bool neg] w fun e w' => e = .returned (.bool true) ∧ Below w.heap.size w w' := by
  have hs1 : 0 ≤ win % 60 ∧ win % 60 < 60 := by omega
  have ht1 : 0 ≤ t % 60 ∧ t % 60 < 60 := by omega
  have HNW := Lib.hid (new_any w w.heap.size (Nat.le_refl _) 5 (win % 60) (by decide) (by decide) (timeB_yes hs1.1 (by omega)))
  have HRS := Lib.hid (fun w' (p : Below w.heap.size w w') => rsound_any w' na nl nc nm (hn.below p (Nat.le_refl _)))
  have HNM := Lib.hid (And.intro hn hb)
  have HLN := Lib.hid hn.len
  clear hn hb
  cases hsd : soundB nm with
  | false =>
    rw [hsd] at HRS
    go_enter Try.func5, Try.ntmps5
    go_wp2_with (first | (go_at_call 6; go_loud (refine HNW.out.mono ?_; rintro e W ⟨⟨C, rfl, hC⟩, hb⟩; have HW := Lib.hid (And.intro hb hC); clear hC hb)) | (go_at_call 7; refine (answers_any _).mono ?_; rintro e W2 ⟨rfl, hb2⟩; replace HW := Lib.hid (And.intro (below_on HW.out.1 hb2 (Nat.le_refl _)) (HW.out.2.on hb2)); clear hb2) | (go_at_call 16; refine (HRS.out _ HW.out.1).mono ?_; rintro e w' ⟨rfl, rfl⟩))
    go_ret
    exact ⟨rfl, HW.out.1⟩
  | true =>
    rw [hsd] at HRS
    have HSD := Lib.hid hsd
    clear hsd
    have hbs : ∀ w : World, (Instr.buildSlice 29 0 #[]).run Try.prog w = .ok (.slice (some ⟨w.heap.size, 0, none⟩) 0 0) (w.alloc (.cells #[] 9)) := fun _ => by kernel_rfl
    cases neg with
    | false =>
      go_enter Try.func5, Try.ntmps5
      go_wp2_with (first | (go_at_call 6; go_loud (refine HNW.out.mono ?_; rintro e W ⟨⟨C, rfl, hC⟩, hb⟩; have HW := Lib.hid (And.intro hb hC); clear hC hb)) | (go_at_call 7; refine (answers_any _).mono ?_; rintro e W2 ⟨rfl, hb2⟩; replace HW := Lib.hid (And.intro (below_on HW.out.1 hb2 (Nat.le_refl _)) (HW.out.2.on hb2)); clear hb2) | (go_at_call 16; refine (HRS.out _ HW.out.1).mono ?_; rintro e w' ⟨rfl, rfl⟩) | (at_builtin; go_loud (have hb3 : Below w.heap.size w (W2.alloc (.cells #[] 9)) := (HW.out.1).alloc HW.out.1.size _; obtain ⟨i0, hi, hz0, hz1, hz2⟩ := info_parts strInfo; obtain ⟨a', c', W4, hrun, hrow, hb4⟩ := append_own1 (P := Try.prog) (W2.alloc (.cells #[] 9)) 29 29 9 i0 _ 16 Try.underlying29 hi hz0 hz1 hz2 W2.heap.size (by simp) na nl nc _ (HNM.out.1.row.below hb3 (Nat.le_refl _)) (by have := HNM.out.1.row.hle; have := HNM.out.2; omega); refine wpList_append_run rfl _ _ _ rfl _ _ rfl rfl hrun ?_; have HA := Lib.hid (And.intro hrow (And.intro (below_on hb3 hb4 (Nat.le_refl _)) ((HW.out.2.on ((Below.refl _ _).alloc (Nat.le_refl _) _)).on hb4))); clear hb3 hi hz0 hz1 hz2 hrun hrow hb4)))
      go_at_call 10
      obtain ⟨W9, hW9⟩ : ∃ q, q = ((W4.alloc (.cells #[.int .u8 1, .int .u8 2, .int .u8 3, .int .u8 4] 5)).alloc (.cells #[.slice (some ⟨W4.heap.size, 0, none⟩) 4 4, .slice none 0 0, .slice none 0 0, .slice none 0 0, .slice none 0 0] 34)).alloc (.cells (factC (hStale false a' nl c' W4.heap.size) (fStale false nm (t % 60))) 36) := ⟨_, rfl⟩
      have hbA : Below W4.heap.size W4 W9 := by (rw [hW9]; exact ((((Below.refl _ _).alloc (Nat.le_refl _) _).alloc (by simp) _).alloc (by first | (simp <;> done) | (simp <;> omega)) _))
      have hF9 : IsFact (tagged fT W9) W9 (hStale false a' nl c' W4.heap.size) (fStale false nm (t % 60)) := by (rw [hW9]; exact stale_is HA.out.1 HNM.out.1.small ht1.1 ht1.2)
      have hX9 : Blk W9 (W4.heap.size + 1 + 1) (factC (hStale false a' nl c' W4.heap.size) (fStale false nm (t % 60))) 36 := by (rw [hW9]; have := heap_alloc_new ((W4.alloc (.cells #[.int .u8 1, .int .u8 2, .int .u8 3, .int .u8 4] 5)).alloc (.cells #[.slice (some ⟨W4.heap.size, 0, none⟩) 4 4, .slice none 0 0, .slice none 0 0, .slice none 0 0, .slice none 0 0] 34)) (.cells (factC (hStale false a' nl c' W4.heap.size) (fStale false nm (t % 60))) 36); simpa [Blk] using this)
      rw [show (((W4.alloc (.cells #[.int .u8 1, .int .u8 2, .int .u8 3, .int .u8 4] 5)).alloc (.cells #[.slice (some ⟨W4.heap.size, 0, none⟩) 4 4, .slice none 0 0, .slice none 0 0, .slice none 0 0, .slice none 0 0] 34)).alloc (.cells (#[.slice (some a') nl c', .int .i64 1, .int .i64 1, .int .i64 3, .int .i64 10, .int .i64 (t % 60), .slice (some ⟨W4.heap.size + 1, 0, none⟩) 1 1, .slice none 0 0, .slice none 0 0, .slice none 0 0, .slice none 0 0, .slice none 0 0, .slice none 0 0]) 36)) = W9 from hW9.symm]
      have hput : putB [] (fStale false nm (t % 60)) 10 = true := (congrArg (· && (timeB 10 && freeB [] (fStale false nm (t % 60)) 10)) (fStale_ok HSD.out ht1.1 ht1.2)).trans rfl
      refine (put_any W9 (tagged fT W9) w.heap.size C 5 (win % 60) 0 [] (HA.out.2.2.on hbA) (by decide) (by decide) (hStale false a' nl c' W4.heap.size) (fStale false nm (t % 60)) hF9 (fStale_len HSD.out) 10 (by simp [offL])).mono ?_
      rintro e Z ⟨he, hl, hp⟩
      rw [hput] at he
      subst he
      obtain ⟨bz, kz, hca⟩ := hp.yes hput
      have HZ : Hid (SlSt w Z C 0 (win % 60) (W4.heap.size + 1 + 1) (hStale false a' nl c' W4.heap.size) (fStale false nm (t % 60))) := Lib.hid ⟨(below_on HA.out.2.1 hbA (Nat.le_refl _)).trans hl.bel, ⟨1, _, hca, by omega, rfl⟩, blk_left hX9 hl (by decide), fact_left hF9 hl⟩
      clear hl hp hca hF9 hX9 hbA hput hW9
      go_wp2_with fail
      have HSZ := Lib.hid (show sizeN nm ≤ 1099511627776 by have := sound_small HSD.out; omega)
      go_loopw [14] (fun i wr => ∃ j : Nat, j ≤ 140 ∧ i = .int .i64 j ∧ Hid (SlSt w wr C j (win % 60) (W4.heap.size + 1 + 1) (hStale false a' nl c' W4.heap.size) (fStale false nm (t % 60)))) (fun i _ => 140 - (intOf i).toNat)
      case atStart => exact ⟨0, by omega, rfl, HZ⟩
      case round =>
        obtain ⟨j, hj, rfl, hinv⟩ := hrel
        by_cases hlt : j < 140
        · obtain ⟨k, s, hca, hk, hsf⟩ := hinv.out.ca
          have hsays := stale_says hsf ht1.1 ht1.2 (Int.natCast_nonneg j) (by omega) hs1.1 hs1.2
          have hkey : keyF s.f = keyP nm 1 ∨ keyF s.f = keyP nm 0 := by rw [hsf]; exact fStale_key _ _ _
          have HCA := Lib.hid (And.intro hca (And.intro hk hsf))
          have HFF := Lib.hid (find_one (p := fitsF (j : Int)) hkey)
          have HFS := Lib.hid (find_one (p := fitsS (j : Int) (win % 60)) hkey)
          have HKEY := Lib.hid hkey
          clear hca hk hsf hkey
          by_cases h1 : (j : Int) < 10 + t % 60
          · by_cases h2 : 0 < t % 60
            · as_aux_lemma =>
                have e1 : decide ((j : Int) < 10 + t % 60) = true := decide_eq_true h1
                have e2 : decide (0 < t % 60) = true := decide_eq_true h2
                have e3 : (t % 60 == 0) = false := beq_false_of_ne (by omega)
                have e4 : decide (10 + t % 60 ≤ (j : Int)) = false := decide_eq_false (by omega)
                have e5 : decide ((j : Int) < 10 + t % 60 + win % 60) = true := decide_eq_true (by omega)
                have hF : fitsF (j : Int) s = true := hsays.1.2 ⟨h1, h2⟩
                have hS : fitsS (j : Int) (win % 60) s = false := iff_false hsays.2 (by omega)
                clear hsays h1 h2
                go_wp2_with fail
                go_at_call 15
                refine (get_any wr w.heap.size C 5 (win % 60) k [s] HCA.out.1 (by have := HCA.out.2.1; omega) na nl nc nm 1 (HNM.out.1.below hinv.out.bel (Nat.le_refl _)) HSZ.out (j : Int)).mono ?_
                rw [HFF.out, if_pos hF]
                rintro e Y ⟨⟨xh, rfl, hox⟩, hca, hleft⟩
                rw [used_one] at hca
                have HOX := Lib.hid hox
                clear hox
                simp only [factO, Option.map_some, Option.getD_some, Option.isSome_some, factC]
                have hbY : Below Y.heap.size Y (Y.alloc (.cells (factC xh s.f) 36)) := (Below.refl _ _).alloc (Nat.le_refl _) _
                have HY := Lib.hid (And.intro hca (And.intro hleft hbY))
                clear hca hleft hbY
                go_wp2_with fail
                go_at_call 17
                refine (old_any (Y.alloc (.cells (factC xh s.f) 36)) w.heap.size C 5 (win % 60) (k + 1) [(⟨s.b, s.h, s.f, k + 1⟩ : Slot)] (HY.out.1.on HY.out.2.2) (by have := HCA.out.2.1; omega) na nl nc nm 1 (HNM.out.1.below ((hinv.out.bel.trans HY.out.2.1.bel).trans (HY.out.2.2.mono (by have := hinv.out.bel.size; have := HY.out.2.1.bel.size; omega))) (Nat.le_refl _)) HSZ.out (j : Int)).mono ?_
                rw [show oldO [(⟨s.b, s.h, s.f, k + 1⟩ : Slot)] nm 1 (j : Int) (win % 60) = none by rw [oldO, find_one (p := fitsF (j : Int)) (s := (⟨s.b, s.h, s.f, k + 1⟩ : Slot)) HKEY.out, if_pos (show fitsF (j : Int) (⟨s.b, s.h, s.f, k + 1⟩ : Slot) = true from hF)]]
                rintro e Y2 ⟨⟨yh, rfl, hoy⟩, hca2, hleft2⟩
                have HOY := Lib.hid hoy
                clear hoy
                have hbY2 : Below Y2.heap.size Y2 (Y2.alloc (.cells (factC yh zF) 36)) := (Below.refl _ _).alloc (Nat.le_refl _) _
                have HLT := Lib.hid (((HY.out.2.1.trans (Left.below HY.out.2.2 (by have := hinv.out.bel.size; have := HY.out.2.1.bel.size; omega))).trans hleft2).trans (Left.below hbY2 (by have := hinv.out.bel.size; have := HY.out.2.1.bel.size; have := HY.out.2.2.size; have := hleft2.bel.size; omega)))
                have HC3 := Lib.hid (hca2.on hbY2)
                have hBX := (blk_left (heap_alloc_new Y (.cells (factC xh s.f) 36)) hleft2 (by decide)).on hbY2
                have HFX := Lib.hid ((fact_left ((HOX.out.mono (fun _ _ ht => ht.1)).step (Same.below HY.out.2.2 _)) hleft2).step (Same.below hbY2 _))
                have hBF := blk_left hinv.out.blk HLT.out (by decide)
                have m0 : (Y2.alloc (.cells (factC yh zF) 36)).cell? ⟨Y.heap.size, 0, none⟩ = some (.slice xh.na xh.nl xh.nc) := hBX.cell 0
                have m1 : (Y2.alloc (.cells (factC yh zF) 36)).cell? ⟨Y.heap.size, 1, none⟩ = some (.int .i64 s.f.typ) := hBX.cell 1
                have m2 : (Y2.alloc (.cells (factC yh zF) 36)).cell? ⟨Y.heap.size, 2, none⟩ = some (.int .i64 s.f.kind) := hBX.cell 2
                have m3 : (Y2.alloc (.cells (factC yh zF) 36)).cell? ⟨Y.heap.size, 3, none⟩ = some (.int .i64 s.f.rank) := hBX.cell 3
                have m4 : (Y2.alloc (.cells (factC yh zF) 36)).cell? ⟨Y.heap.size, 4, none⟩ = some (.int .i64 s.f.got) := hBX.cell 4
                have m5 : (Y2.alloc (.cells (factC yh zF) 36)).cell? ⟨Y.heap.size, 5, none⟩ = some (.int .i64 s.f.ttl) := hBX.cell 5
                have m6 : (Y2.alloc (.cells (factC yh zF) 36)).cell? ⟨Y.heap.size, 6, none⟩ = some (.slice xh.sa xh.sl xh.sc) := hBX.cell 6
                have m7 : (Y2.alloc (.cells (factC yh zF) 36)).cell? ⟨Y.heap.size, 7, none⟩ = some (.slice xh.za xh.zl xh.zc) := hBX.cell 7
                have m8 : (Y2.alloc (.cells (factC yh zF) 36)).cell? ⟨Y.heap.size, 8, none⟩ = some (.slice xh.d.ba xh.d.bl xh.d.bc) := hBX.cell 8
                have m9 : (Y2.alloc (.cells (factC yh zF) 36)).cell? ⟨Y.heap.size, 9, none⟩ = some (.slice xh.d.ha xh.d.hl xh.d.hc) := hBX.cell 9
                have m10 : (Y2.alloc (.cells (factC yh zF) 36)).cell? ⟨Y.heap.size, 10, none⟩ = some (.slice xh.d.ma xh.d.ml xh.d.mc) := hBX.cell 10
                have m11 : (Y2.alloc (.cells (factC yh zF) 36)).cell? ⟨Y.heap.size, 11, none⟩ = some (.slice xh.d.na xh.d.nl xh.d.nc) := hBX.cell 11
                have m12 : (Y2.alloc (.cells (factC yh zF) 36)).cell? ⟨Y.heap.size, 12, none⟩ = some (.slice xh.d.ta xh.d.tl xh.d.tc) := hBX.cell 12
                have n0 : (Y2.alloc (.cells (factC yh zF) 36)).cell? ⟨W4.heap.size + 1 + 1, 0, none⟩ = some ((factC (hStale false a' nl c' W4.heap.size) (fStale false nm (t % 60)))[0]'(by simp [factC])) := hBF.cell 0
                have n1 : (Y2.alloc (.cells (factC yh zF) 36)).cell? ⟨W4.heap.size + 1 + 1, 1, none⟩ = some ((factC (hStale false a' nl c' W4.heap.size) (fStale false nm (t % 60)))[1]'(by simp [factC])) := hBF.cell 1
                have n2 : (Y2.alloc (.cells (factC yh zF) 36)).cell? ⟨W4.heap.size + 1 + 1, 2, none⟩ = some ((factC (hStale false a' nl c' W4.heap.size) (fStale false nm (t % 60)))[2]'(by simp [factC])) := hBF.cell 2
                have n3 : (Y2.alloc (.cells (factC yh zF) 36)).cell? ⟨W4.heap.size + 1 + 1, 3, none⟩ = some ((factC (hStale false a' nl c' W4.heap.size) (fStale false nm (t % 60)))[3]'(by simp [factC])) := hBF.cell 3
                have n4 : (Y2.alloc (.cells (factC yh zF) 36)).cell? ⟨W4.heap.size + 1 + 1, 4, none⟩ = some ((factC (hStale false a' nl c' W4.heap.size) (fStale false nm (t % 60)))[4]'(by simp [factC])) := hBF.cell 4
                have n5 : (Y2.alloc (.cells (factC yh zF) 36)).cell? ⟨W4.heap.size + 1 + 1, 5, none⟩ = some ((factC (hStale false a' nl c' W4.heap.size) (fStale false nm (t % 60)))[5]'(by simp [factC])) := hBF.cell 5
                have n6 : (Y2.alloc (.cells (factC yh zF) 36)).cell? ⟨W4.heap.size + 1 + 1, 6, none⟩ = some ((factC (hStale false a' nl c' W4.heap.size) (fStale false nm (t % 60)))[6]'(by simp [factC])) := hBF.cell 6
                have n7 : (Y2.alloc (.cells (factC yh zF) 36)).cell? ⟨W4.heap.size + 1 + 1, 7, none⟩ = some ((factC (hStale false a' nl c' W4.heap.size) (fStale false nm (t % 60)))[7]'(by simp [factC])) := hBF.cell 7
                have n8 : (Y2.alloc (.cells (factC yh zF) 36)).cell? ⟨W4.heap.size + 1 + 1, 8, none⟩ = some ((factC (hStale false a' nl c' W4.heap.size) (fStale false nm (t % 60)))[8]'(by simp [factC])) := hBF.cell 8
                have n9 : (Y2.alloc (.cells (factC yh zF) 36)).cell? ⟨W4.heap.size + 1 + 1, 9, none⟩ = some ((factC (hStale false a' nl c' W4.heap.size) (fStale false nm (t % 60)))[9]'(by simp [factC])) := hBF.cell 9
                have n10 : (Y2.alloc (.cells (factC yh zF) 36)).cell? ⟨W4.heap.size + 1 + 1, 10, none⟩ = some ((factC (hStale false a' nl c' W4.heap.size) (fStale false nm (t % 60)))[10]'(by simp [factC])) := hBF.cell 10
                have n11 : (Y2.alloc (.cells (factC yh zF) 36)).cell? ⟨W4.heap.size + 1 + 1, 11, none⟩ = some ((factC (hStale false a' nl c' W4.heap.size) (fStale false nm (t % 60)))[11]'(by simp [factC])) := hBF.cell 11
                have n12 : (Y2.alloc (.cells (factC yh zF) 36)).cell? ⟨W4.heap.size + 1 + 1, 12, none⟩ = some ((factC (hStale false a' nl c' W4.heap.size) (fStale false nm (t % 60)))[12]'(by simp [factC])) := hBF.cell 12
                simp only [factC, hStale, fStale, noDH, List.getElem_toArray, List.getElem_cons_zero, List.getElem_cons_succ] at m0 n0 m1 n1 m2 n2 m3 n3 m4 n4 m5 n5 m6 n6 m7 n7 m8 n8 m9 n9 m10 n10 m11 n11 m12 n12
                have HSM := Lib.hid (rsame12_any (Y2.alloc (.cells (factC yh zF) 36)) _ _ xh (hStale false a' nl c' W4.heap.size) s.f (fStale false nm (t % 60)) HFX.out (fact_left hinv.out.fact HLT.out))
                rw [show sameF s.f (fStale false nm (t % 60)) = true by rw [HCA.out.2.2]; exact sameF_refl (fStale_ok HSD.out ht1.1 ht1.2)] at HSM
                simp only [factC, hStale, fStale, noDH] at HSM
                clear hBX hBF
                clear hbY2 hca2 hleft2 hF hS
                simp only [factO, Option.map_none, Option.getD_none, Option.isSome_none, factC]
                go_wp2_with (go_at_call 13; go_loud (refine HSM.out.mono ?_; rintro e W5 ⟨rfl, hb5⟩; have HB5 := Lib.hid hb5; clear hb5))
                go_roundw
                case rel =>
                  have hl5 := HLT.out.trans (Left.below HB5.out (by have := hinv.out.bel.size; have := HLT.out.bel.size; omega))
                  exact ⟨j + 1, by omega, by go_num, Lib.hid ⟨hinv.out.bel.trans hl5.bel, ⟨_, _, HC3.out.on HB5.out, by simp only [usedK]; have := HCA.out.2.1; omega, HCA.out.2.2⟩, blk_left hinv.out.blk hl5 (by decide), fact_left hinv.out.fact hl5⟩⟩
                case measure => simp [intOf]; omega
            · by_cases h3 : (j : Int) < 10 + t % 60 + win % 60
              · as_aux_lemma =>
                  have e1 : decide ((j : Int) < 10 + t % 60) = true := decide_eq_true h1
                  have e2 : decide (0 < t % 60) = false := decide_eq_false h2
                  have e3 : (t % 60 == 0) = true := by rw [beq_iff_eq]; omega
                  have e4 : decide (10 + t % 60 ≤ (j : Int)) = false := decide_eq_false (by omega)
                  have e5 : decide ((j : Int) < 10 + t % 60 + win % 60) = true := decide_eq_true (by omega)
                  have hF : fitsF (j : Int) s = false := iff_false hsays.1 (by omega)
                  have hS : fitsS (j : Int) (win % 60) s = true := hsays.2.2 ⟨by omega, by omega⟩
                  clear hsays h1 h2 h3
                  go_wp2_with fail
                  go_at_call 15
                  refine (get_any wr w.heap.size C 5 (win % 60) k [s] HCA.out.1 (by have := HCA.out.2.1; omega) na nl nc nm 1 (HNM.out.1.below hinv.out.bel (Nat.le_refl _)) HSZ.out (j : Int)).mono ?_
                  rw [HFF.out, if_neg (by rw [hF]; decide)]
                  rintro e Y ⟨⟨xh, rfl, hox⟩, hca, hleft⟩
                  have HOX := Lib.hid hox
                  clear hox
                  simp only [factO, Option.map_none, Option.getD_none, Option.isSome_none, factC]
                  have hbY : Below Y.heap.size Y (Y.alloc (.cells (factC xh zF) 36)) := (Below.refl _ _).alloc (Nat.le_refl _) _
                  have HY := Lib.hid (And.intro hca (And.intro hleft hbY))
                  clear hca hleft hbY
                  go_wp2_with fail
                  go_at_call 17
                  refine (old_any (Y.alloc (.cells (factC xh zF) 36)) w.heap.size C 5 (win % 60) k [s] (HY.out.1.on HY.out.2.2) (by have := HCA.out.2.1; omega) na nl nc nm 1 (HNM.out.1.below ((hinv.out.bel.trans HY.out.2.1.bel).trans (HY.out.2.2.mono (by have := hinv.out.bel.size; have := HY.out.2.1.bel.size; omega))) (Nat.le_refl _)) HSZ.out (j : Int)).mono ?_
                  rw [show oldO [s] nm 1 (j : Int) (win % 60) = some s by rw [oldO, HFF.out, if_neg (by rw [hF]; decide), HFS.out, if_pos hS]]
                  rintro e Y2 ⟨⟨yh, rfl, hoy⟩, hca2, hleft2⟩
                  rw [used_one] at hca2
                  have HOY := Lib.hid hoy
                  clear hoy
                  have hbY2 : Below Y2.heap.size Y2 (Y2.alloc (.cells (factC yh s.f) 36)) := (Below.refl _ _).alloc (Nat.le_refl _) _
                  have HLT := Lib.hid (((HY.out.2.1.trans (Left.below HY.out.2.2 (by have := hinv.out.bel.size; have := HY.out.2.1.bel.size; omega))).trans hleft2).trans (Left.below hbY2 (by have := hinv.out.bel.size; have := HY.out.2.1.bel.size; have := HY.out.2.2.size; have := hleft2.bel.size; omega)))
                  have HC3 := Lib.hid (hca2.on hbY2)
                  have hBX : Blk (Y2.alloc (.cells (factC yh s.f) 36)) Y2.heap.size (factC yh s.f) 36 := heap_alloc_new Y2 _
                  have HFX := Lib.hid ((HOY.out.mono (fun _ _ ht => ht.1)).step (Same.below hbY2 _))
                  have hBF := blk_left hinv.out.blk HLT.out (by decide)
                  have m0 : (Y2.alloc (.cells (factC yh s.f) 36)).cell? ⟨Y2.heap.size, 0, none⟩ = some (.slice yh.na yh.nl yh.nc) := hBX.cell 0
                  have m1 : (Y2.alloc (.cells (factC yh s.f) 36)).cell? ⟨Y2.heap.size, 1, none⟩ = some (.int .i64 s.f.typ) := hBX.cell 1
                  have m2 : (Y2.alloc (.cells (factC yh s.f) 36)).cell? ⟨Y2.heap.size, 2, none⟩ = some (.int .i64 s.f.kind) := hBX.cell 2
                  have m3 : (Y2.alloc (.cells (factC yh s.f) 36)).cell? ⟨Y2.heap.size, 3, none⟩ = some (.int .i64 s.f.rank) := hBX.cell 3
                  have m4 : (Y2.alloc (.cells (factC yh s.f) 36)).cell? ⟨Y2.heap.size, 4, none⟩ = some (.int .i64 s.f.got) := hBX.cell 4
                  have m5 : (Y2.alloc (.cells (factC yh s.f) 36)).cell? ⟨Y2.heap.size, 5, none⟩ = some (.int .i64 s.f.ttl) := hBX.cell 5
                  have m6 : (Y2.alloc (.cells (factC yh s.f) 36)).cell? ⟨Y2.heap.size, 6, none⟩ = some (.slice yh.sa yh.sl yh.sc) := hBX.cell 6
                  have m7 : (Y2.alloc (.cells (factC yh s.f) 36)).cell? ⟨Y2.heap.size, 7, none⟩ = some (.slice yh.za yh.zl yh.zc) := hBX.cell 7
                  have m8 : (Y2.alloc (.cells (factC yh s.f) 36)).cell? ⟨Y2.heap.size, 8, none⟩ = some (.slice yh.d.ba yh.d.bl yh.d.bc) := hBX.cell 8
                  have m9 : (Y2.alloc (.cells (factC yh s.f) 36)).cell? ⟨Y2.heap.size, 9, none⟩ = some (.slice yh.d.ha yh.d.hl yh.d.hc) := hBX.cell 9
                  have m10 : (Y2.alloc (.cells (factC yh s.f) 36)).cell? ⟨Y2.heap.size, 10, none⟩ = some (.slice yh.d.ma yh.d.ml yh.d.mc) := hBX.cell 10
                  have m11 : (Y2.alloc (.cells (factC yh s.f) 36)).cell? ⟨Y2.heap.size, 11, none⟩ = some (.slice yh.d.na yh.d.nl yh.d.nc) := hBX.cell 11
                  have m12 : (Y2.alloc (.cells (factC yh s.f) 36)).cell? ⟨Y2.heap.size, 12, none⟩ = some (.slice yh.d.ta yh.d.tl yh.d.tc) := hBX.cell 12
                  have n0 : (Y2.alloc (.cells (factC yh s.f) 36)).cell? ⟨W4.heap.size + 1 + 1, 0, none⟩ = some ((factC (hStale false a' nl c' W4.heap.size) (fStale false nm (t % 60)))[0]'(by simp [factC])) := hBF.cell 0
                  have n1 : (Y2.alloc (.cells (factC yh s.f) 36)).cell? ⟨W4.heap.size + 1 + 1, 1, none⟩ = some ((factC (hStale false a' nl c' W4.heap.size) (fStale false nm (t % 60)))[1]'(by simp [factC])) := hBF.cell 1
                  have n2 : (Y2.alloc (.cells (factC yh s.f) 36)).cell? ⟨W4.heap.size + 1 + 1, 2, none⟩ = some ((factC (hStale false a' nl c' W4.heap.size) (fStale false nm (t % 60)))[2]'(by simp [factC])) := hBF.cell 2
                  have n3 : (Y2.alloc (.cells (factC yh s.f) 36)).cell? ⟨W4.heap.size + 1 + 1, 3, none⟩ = some ((factC (hStale false a' nl c' W4.heap.size) (fStale false nm (t % 60)))[3]'(by simp [factC])) := hBF.cell 3
                  have n4 : (Y2.alloc (.cells (factC yh s.f) 36)).cell? ⟨W4.heap.size + 1 + 1, 4, none⟩ = some ((factC (hStale false a' nl c' W4.heap.size) (fStale false nm (t % 60)))[4]'(by simp [factC])) := hBF.cell 4
                  have n5 : (Y2.alloc (.cells (factC yh s.f) 36)).cell? ⟨W4.heap.size + 1 + 1, 5, none⟩ = some ((factC (hStale false a' nl c' W4.heap.size) (fStale false nm (t % 60)))[5]'(by simp [factC])) := hBF.cell 5
                  have n6 : (Y2.alloc (.cells (factC yh s.f) 36)).cell? ⟨W4.heap.size + 1 + 1, 6, none⟩ = some ((factC (hStale false a' nl c' W4.heap.size) (fStale false nm (t % 60)))[6]'(by simp [factC])) := hBF.cell 6
                  have n7 : (Y2.alloc (.cells (factC yh s.f) 36)).cell? ⟨W4.heap.size + 1 + 1, 7, none⟩ = some ((factC (hStale false a' nl c' W4.heap.size) (fStale false nm (t % 60)))[7]'(by simp [factC])) := hBF.cell 7
                  have n8 : (Y2.alloc (.cells (factC yh s.f) 36)).cell? ⟨W4.heap.size + 1 + 1, 8, none⟩ = some ((factC (hStale false a' nl c' W4.heap.size) (fStale false nm (t % 60)))[8]'(by simp [factC])) := hBF.cell 8
                  have n9 : (Y2.alloc (.cells (factC yh s.f) 36)).cell? ⟨W4.heap.size + 1 + 1, 9, none⟩ = some ((factC (hStale false a' nl c' W4.heap.size) (fStale false nm (t % 60)))[9]'(by simp [factC])) := hBF.cell 9
                  have n10 : (Y2.alloc (.cells (factC yh s.f) 36)).cell? ⟨W4.heap.size + 1 + 1, 10, none⟩ = some ((factC (hStale false a' nl c' W4.heap.size) (fStale false nm (t % 60)))[10]'(by simp [factC])) := hBF.cell 10
                  have n11 : (Y2.alloc (.cells (factC yh s.f) 36)).cell? ⟨W4.heap.size + 1 + 1, 11, none⟩ = some ((factC (hStale false a' nl c' W4.heap.size) (fStale false nm (t % 60)))[11]'(by simp [factC])) := hBF.cell 11
                  have n12 : (Y2.alloc (.cells (factC yh s.f) 36)).cell? ⟨W4.heap.size + 1 + 1, 12, none⟩ = some ((factC (hStale false a' nl c' W4.heap.size) (fStale false nm (t % 60)))[12]'(by simp [factC])) := hBF.cell 12
                  simp only [factC, hStale, fStale, noDH, List.getElem_toArray, List.getElem_cons_zero, List.getElem_cons_succ] at m0 n0 m1 n1 m2 n2 m3 n3 m4 n4 m5 n5 m6 n6 m7 n7 m8 n8 m9 n9 m10 n10 m11 n11 m12 n12
                  have HSM := Lib.hid (rsame12_any (Y2.alloc (.cells (factC yh s.f) 36)) _ _ yh (hStale false a' nl c' W4.heap.size) s.f (fStale false nm (t % 60)) HFX.out (fact_left hinv.out.fact HLT.out))
                  rw [show sameF s.f (fStale false nm (t % 60)) = true by rw [HCA.out.2.2]; exact sameF_refl (fStale_ok HSD.out ht1.1 ht1.2)] at HSM
                  simp only [factC, hStale, fStale, noDH] at HSM
                  clear hBX hBF
                  clear hbY2 hca2 hleft2 hF hS
                  simp only [factO, Option.map_some, Option.getD_some, Option.isSome_some, factC]
                  go_wp2_with (go_at_call 13; go_loud (refine HSM.out.mono ?_; rintro e W5 ⟨rfl, hb5⟩; have HB5 := Lib.hid hb5; clear hb5))
                  go_roundw
                  case rel =>
                    have hl5 := HLT.out.trans (Left.below HB5.out (by have := hinv.out.bel.size; have := HLT.out.bel.size; omega))
                    exact ⟨j + 1, by omega, by go_num, Lib.hid ⟨hinv.out.bel.trans hl5.bel, ⟨_, _, HC3.out.on HB5.out, by simp only [usedK]; have := HCA.out.2.1; omega, HCA.out.2.2⟩, blk_left hinv.out.blk hl5 (by decide), fact_left hinv.out.fact hl5⟩⟩
                  case measure => simp [intOf]; omega
              · as_aux_lemma =>
                  have e1 : decide ((j : Int) < 10 + t % 60) = true := decide_eq_true h1
                  have e2 : decide (0 < t % 60) = false := decide_eq_false h2
                  have e3 : (t % 60 == 0) = true := by rw [beq_iff_eq]; omega
                  have e4 : decide (10 + t % 60 ≤ (j : Int)) = false := decide_eq_false (by omega)
                  have e5 : decide ((j : Int) < 10 + t % 60 + win % 60) = false := decide_eq_false h3
                  have hF : fitsF (j : Int) s = false := iff_false hsays.1 (by omega)
                  have hS : fitsS (j : Int) (win % 60) s = false := iff_false hsays.2 (by omega)
                  clear hsays h1 h2 h3
                  go_wp2_with fail
                  go_at_call 15
                  refine (get_any wr w.heap.size C 5 (win % 60) k [s] HCA.out.1 (by have := HCA.out.2.1; omega) na nl nc nm 1 (HNM.out.1.below hinv.out.bel (Nat.le_refl _)) HSZ.out (j : Int)).mono ?_
                  rw [HFF.out, if_neg (by rw [hF]; decide)]
                  rintro e Y ⟨⟨xh, rfl, hox⟩, hca, hleft⟩
                  have HOX := Lib.hid hox
                  clear hox
                  simp only [factO, Option.map_none, Option.getD_none, Option.isSome_none, factC]
                  have hbY : Below Y.heap.size Y (Y.alloc (.cells (factC xh zF) 36)) := (Below.refl _ _).alloc (Nat.le_refl _) _
                  have HY := Lib.hid (And.intro hca (And.intro hleft hbY))
                  clear hca hleft hbY
                  go_wp2_with fail
                  go_at_call 17
                  refine (old_any (Y.alloc (.cells (factC xh zF) 36)) w.heap.size C 5 (win % 60) k [s] (HY.out.1.on HY.out.2.2) (by have := HCA.out.2.1; omega) na nl nc nm 1 (HNM.out.1.below ((hinv.out.bel.trans HY.out.2.1.bel).trans (HY.out.2.2.mono (by have := hinv.out.bel.size; have := HY.out.2.1.bel.size; omega))) (Nat.le_refl _)) HSZ.out (j : Int)).mono ?_
                  rw [show oldO [s] nm 1 (j : Int) (win % 60) = none by rw [oldO, HFF.out, if_neg (by rw [hF]; decide), HFS.out, if_neg (by rw [hS]; decide)]]
                  rintro e Y2 ⟨⟨yh, rfl, hoy⟩, hca2, hleft2⟩
                  have HOY := Lib.hid hoy
                  clear hoy
                  have hbY2 : Below Y2.heap.size Y2 (Y2.alloc (.cells (factC yh zF) 36)) := (Below.refl _ _).alloc (Nat.le_refl _) _
                  have HLT := Lib.hid (((HY.out.2.1.trans (Left.below HY.out.2.2 (by have := hinv.out.bel.size; have := HY.out.2.1.bel.size; omega))).trans hleft2).trans (Left.below hbY2 (by have := hinv.out.bel.size; have := HY.out.2.1.bel.size; have := HY.out.2.2.size; have := hleft2.bel.size; omega)))
                  have HC3 := Lib.hid (hca2.on hbY2)
                  clear hbY2 hca2 hleft2 hF hS
                  simp only [factO, Option.map_none, Option.getD_none, Option.isSome_none, factC]
                  go_wp2_with fail
                  go_roundw
                  case rel => exact ⟨j + 1, by omega, by go_num, Lib.hid ⟨hinv.out.bel.trans HLT.out.bel, ⟨_, _, HC3.out, by simp only [usedK]; have := HCA.out.2.1; omega, HCA.out.2.2⟩, blk_left hinv.out.blk HLT.out (by decide), fact_left hinv.out.fact HLT.out⟩⟩
                  case measure => simp [intOf]; omega
          · by_cases h2 : 0 < t % 60
            · by_cases h3 : (j : Int) < 10 + t % 60 + win % 60
              · as_aux_lemma =>
                  have e1 : decide ((j : Int) < 10 + t % 60) = false := decide_eq_false h1
                  have e2 : decide (0 < t % 60) = true := decide_eq_true h2
                  have e3 : (t % 60 == 0) = false := beq_false_of_ne (by omega)
                  have e4 : decide (10 + t % 60 ≤ (j : Int)) = true := decide_eq_true (by omega)
                  have e5 : decide ((j : Int) < 10 + t % 60 + win % 60) = true := decide_eq_true (by omega)
                  have hF : fitsF (j : Int) s = false := iff_false hsays.1 (by omega)
                  have hS : fitsS (j : Int) (win % 60) s = true := hsays.2.2 ⟨by omega, by omega⟩
                  clear hsays h1 h2 h3
                  go_wp2_with fail
                  go_at_call 15
                  refine (get_any wr w.heap.size C 5 (win % 60) k [s] HCA.out.1 (by have := HCA.out.2.1; omega) na nl nc nm 1 (HNM.out.1.below hinv.out.bel (Nat.le_refl _)) HSZ.out (j : Int)).mono ?_
                  rw [HFF.out, if_neg (by rw [hF]; decide)]
                  rintro e Y ⟨⟨xh, rfl, hox⟩, hca, hleft⟩
                  have HOX := Lib.hid hox
                  clear hox
                  simp only [factO, Option.map_none, Option.getD_none, Option.isSome_none, factC]
                  have hbY : Below Y.heap.size Y (Y.alloc (.cells (factC xh zF) 36)) := (Below.refl _ _).alloc (Nat.le_refl _) _
                  have HY := Lib.hid (And.intro hca (And.intro hleft hbY))
                  clear hca hleft hbY
                  go_wp2_with fail
                  go_at_call 17
                  refine (old_any (Y.alloc (.cells (factC xh zF) 36)) w.heap.size C 5 (win % 60) k [s] (HY.out.1.on HY.out.2.2) (by have := HCA.out.2.1; omega) na nl nc nm 1 (HNM.out.1.below ((hinv.out.bel.trans HY.out.2.1.bel).trans (HY.out.2.2.mono (by have := hinv.out.bel.size; have := HY.out.2.1.bel.size; omega))) (Nat.le_refl _)) HSZ.out (j : Int)).mono ?_
                  rw [show oldO [s] nm 1 (j : Int) (win % 60) = some s by rw [oldO, HFF.out, if_neg (by rw [hF]; decide), HFS.out, if_pos hS]]
                  rintro e Y2 ⟨⟨yh, rfl, hoy⟩, hca2, hleft2⟩
                  rw [used_one] at hca2
                  have HOY := Lib.hid hoy
                  clear hoy
                  have hbY2 : Below Y2.heap.size Y2 (Y2.alloc (.cells (factC yh s.f) 36)) := (Below.refl _ _).alloc (Nat.le_refl _) _
                  have HLT := Lib.hid (((HY.out.2.1.trans (Left.below HY.out.2.2 (by have := hinv.out.bel.size; have := HY.out.2.1.bel.size; omega))).trans hleft2).trans (Left.below hbY2 (by have := hinv.out.bel.size; have := HY.out.2.1.bel.size; have := HY.out.2.2.size; have := hleft2.bel.size; omega)))
                  have HC3 := Lib.hid (hca2.on hbY2)
                  have hBX : Blk (Y2.alloc (.cells (factC yh s.f) 36)) Y2.heap.size (factC yh s.f) 36 := heap_alloc_new Y2 _
                  have HFX := Lib.hid ((HOY.out.mono (fun _ _ ht => ht.1)).step (Same.below hbY2 _))
                  have hBF := blk_left hinv.out.blk HLT.out (by decide)
                  have m0 : (Y2.alloc (.cells (factC yh s.f) 36)).cell? ⟨Y2.heap.size, 0, none⟩ = some (.slice yh.na yh.nl yh.nc) := hBX.cell 0
                  have m1 : (Y2.alloc (.cells (factC yh s.f) 36)).cell? ⟨Y2.heap.size, 1, none⟩ = some (.int .i64 s.f.typ) := hBX.cell 1
                  have m2 : (Y2.alloc (.cells (factC yh s.f) 36)).cell? ⟨Y2.heap.size, 2, none⟩ = some (.int .i64 s.f.kind) := hBX.cell 2
                  have m3 : (Y2.alloc (.cells (factC yh s.f) 36)).cell? ⟨Y2.heap.size, 3, none⟩ = some (.int .i64 s.f.rank) := hBX.cell 3
                  have m4 : (Y2.alloc (.cells (factC yh s.f) 36)).cell? ⟨Y2.heap.size, 4, none⟩ = some (.int .i64 s.f.got) := hBX.cell 4
                  have m5 : (Y2.alloc (.cells (factC yh s.f) 36)).cell? ⟨Y2.heap.size, 5, none⟩ = some (.int .i64 s.f.ttl) := hBX.cell 5
                  have m6 : (Y2.alloc (.cells (factC yh s.f) 36)).cell? ⟨Y2.heap.size, 6, none⟩ = some (.slice yh.sa yh.sl yh.sc) := hBX.cell 6
                  have m7 : (Y2.alloc (.cells (factC yh s.f) 36)).cell? ⟨Y2.heap.size, 7, none⟩ = some (.slice yh.za yh.zl yh.zc) := hBX.cell 7
                  have m8 : (Y2.alloc (.cells (factC yh s.f) 36)).cell? ⟨Y2.heap.size, 8, none⟩ = some (.slice yh.d.ba yh.d.bl yh.d.bc) := hBX.cell 8
                  have m9 : (Y2.alloc (.cells (factC yh s.f) 36)).cell? ⟨Y2.heap.size, 9, none⟩ = some (.slice yh.d.ha yh.d.hl yh.d.hc) := hBX.cell 9
                  have m10 : (Y2.alloc (.cells (factC yh s.f) 36)).cell? ⟨Y2.heap.size, 10, none⟩ = some (.slice yh.d.ma yh.d.ml yh.d.mc) := hBX.cell 10
                  have m11 : (Y2.alloc (.cells (factC yh s.f) 36)).cell? ⟨Y2.heap.size, 11, none⟩ = some (.slice yh.d.na yh.d.nl yh.d.nc) := hBX.cell 11
                  have m12 : (Y2.alloc (.cells (factC yh s.f) 36)).cell? ⟨Y2.heap.size, 12, none⟩ = some (.slice yh.d.ta yh.d.tl yh.d.tc) := hBX.cell 12
                  have n0 : (Y2.alloc (.cells (factC yh s.f) 36)).cell? ⟨W4.heap.size + 1 + 1, 0, none⟩ = some ((factC (hStale false a' nl c' W4.heap.size) (fStale false nm (t % 60)))[0]'(by simp [factC])) := hBF.cell 0
                  have n1 : (Y2.alloc (.cells (factC yh s.f) 36)).cell? ⟨W4.heap.size + 1 + 1, 1, none⟩ = some ((factC (hStale false a' nl c' W4.heap.size) (fStale false nm (t % 60)))[1]'(by simp [factC])) := hBF.cell 1
                  have n2 : (Y2.alloc (.cells (factC yh s.f) 36)).cell? ⟨W4.heap.size + 1 + 1, 2, none⟩ = some ((factC (hStale false a' nl c' W4.heap.size) (fStale false nm (t % 60)))[2]'(by simp [factC])) := hBF.cell 2
                  have n3 : (Y2.alloc (.cells (factC yh s.f) 36)).cell? ⟨W4.heap.size + 1 + 1, 3, none⟩ = some ((factC (hStale false a' nl c' W4.heap.size) (fStale false nm (t % 60)))[3]'(by simp [factC])) := hBF.cell 3
                  have n4 : (Y2.alloc (.cells (factC yh s.f) 36)).cell? ⟨W4.heap.size + 1 + 1, 4, none⟩ = some ((factC (hStale false a' nl c' W4.heap.size) (fStale false nm (t % 60)))[4]'(by simp [factC])) := hBF.cell 4
                  have n5 : (Y2.alloc (.cells (factC yh s.f) 36)).cell? ⟨W4.heap.size + 1 + 1, 5, none⟩ = some ((factC (hStale false a' nl c' W4.heap.size) (fStale false nm (t % 60)))[5]'(by simp [factC])) := hBF.cell 5
                  have n6 : (Y2.alloc (.cells (factC yh s.f) 36)).cell? ⟨W4.heap.size + 1 + 1, 6, none⟩ = some ((factC (hStale false a' nl c' W4.heap.size) (fStale false nm (t % 60)))[6]'(by simp [factC])) := hBF.cell 6
                  have n7 : (Y2.alloc (.cells (factC yh s.f) 36)).cell? ⟨W4.heap.size + 1 + 1, 7, none⟩ = some ((factC (hStale false a' nl c' W4.heap.size) (fStale false nm (t % 60)))[7]'(by simp [factC])) := hBF.cell 7
                  have n8 : (Y2.alloc (.cells (factC yh s.f) 36)).cell? ⟨W4.heap.size + 1 + 1, 8, none⟩ = some ((factC (hStale false a' nl c' W4.heap.size) (fStale false nm (t % 60)))[8]'(by simp [factC])) := hBF.cell 8
                  have n9 : (Y2.alloc (.cells (factC yh s.f) 36)).cell? ⟨W4.heap.size + 1 + 1, 9, none⟩ = some ((factC (hStale false a' nl c' W4.heap.size) (fStale false nm (t % 60)))[9]'(by simp [factC])) := hBF.cell 9
                  have n10 : (Y2.alloc (.cells (factC yh s.f) 36)).cell? ⟨W4.heap.size + 1 + 1, 10, none⟩ = some ((factC (hStale false a' nl c' W4.heap.size) (fStale false nm (t % 60)))[10]'(by simp [factC])) := hBF.cell 10
                  have n11 : (Y2.alloc (.cells (factC yh s.f) 36)).cell? ⟨W4.heap.size + 1 + 1, 11, none⟩ = some ((factC (hStale false a' nl c' W4.heap.size) (fStale false nm (t % 60)))[11]'(by simp [factC])) := hBF.cell 11
                  have n12 : (Y2.alloc (.cells (factC yh s.f) 36)).cell? ⟨W4.heap.size + 1 + 1, 12, none⟩ = some ((factC (hStale false a' nl c' W4.heap.size) (fStale false nm (t % 60)))[12]'(by simp [factC])) := hBF.cell 12
                  simp only [factC, hStale, fStale, noDH, List.getElem_toArray, List.getElem_cons_zero, List.getElem_cons_succ] at m0 n0 m1 n1 m2 n2 m3 n3 m4 n4 m5 n5 m6 n6 m7 n7 m8 n8 m9 n9 m10 n10 m11 n11 m12 n12
                  have HSM := Lib.hid (rsame12_any (Y2.alloc (.cells (factC yh s.f) 36)) _ _ yh (hStale false a' nl c' W4.heap.size) s.f (fStale false nm (t % 60)) HFX.out (fact_left hinv.out.fact HLT.out))
                  rw [show sameF s.f (fStale false nm (t % 60)) = true by rw [HCA.out.2.2]; exact sameF_refl (fStale_ok HSD.out ht1.1 ht1.2)] at HSM
                  simp only [factC, hStale, fStale, noDH] at HSM
                  clear hBX hBF
                  clear hbY2 hca2 hleft2 hF hS
                  simp only [factO, Option.map_some, Option.getD_some, Option.isSome_some, factC]
                  go_wp2_with (go_at_call 13; go_loud (refine HSM.out.mono ?_; rintro e W5 ⟨rfl, hb5⟩; have HB5 := Lib.hid hb5; clear hb5))
                  go_roundw
                  case rel =>
                    have hl5 := HLT.out.trans (Left.below HB5.out (by have := hinv.out.bel.size; have := HLT.out.bel.size; omega))
                    exact ⟨j + 1, by omega, by go_num, Lib.hid ⟨hinv.out.bel.trans hl5.bel, ⟨_, _, HC3.out.on HB5.out, by simp only [usedK]; have := HCA.out.2.1; omega, HCA.out.2.2⟩, blk_left hinv.out.blk hl5 (by decide), fact_left hinv.out.fact hl5⟩⟩
                  case measure => simp [intOf]; omega
              · as_aux_lemma =>
                  have e1 : decide ((j : Int) < 10 + t % 60) = false := decide_eq_false h1
                  have e2 : decide (0 < t % 60) = true := decide_eq_true h2
                  have e3 : (t % 60 == 0) = false := beq_false_of_ne (by omega)
                  have e4 : decide (10 + t % 60 ≤ (j : Int)) = true := decide_eq_true (by omega)
                  have e5 : decide ((j : Int) < 10 + t % 60 + win % 60) = false := decide_eq_false h3
                  have hF : fitsF (j : Int) s = false := iff_false hsays.1 (by omega)
                  have hS : fitsS (j : Int) (win % 60) s = false := iff_false hsays.2 (by omega)
                  clear hsays h1 h2 h3
                  go_wp2_with fail
                  go_at_call 15
                  refine (get_any wr w.heap.size C 5 (win % 60) k [s] HCA.out.1 (by have := HCA.out.2.1; omega) na nl nc nm 1 (HNM.out.1.below hinv.out.bel (Nat.le_refl _)) HSZ.out (j : Int)).mono ?_
                  rw [HFF.out, if_neg (by rw [hF]; decide)]
                  rintro e Y ⟨⟨xh, rfl, hox⟩, hca, hleft⟩
                  have HOX := Lib.hid hox
                  clear hox
                  simp only [factO, Option.map_none, Option.getD_none, Option.isSome_none, factC]
                  have hbY : Below Y.heap.size Y (Y.alloc (.cells (factC xh zF) 36)) := (Below.refl _ _).alloc (Nat.le_refl _) _
                  have HY := Lib.hid (And.intro hca (And.intro hleft hbY))
                  clear hca hleft hbY
                  go_wp2_with fail
                  go_at_call 17
                  refine (old_any (Y.alloc (.cells (factC xh zF) 36)) w.heap.size C 5 (win % 60) k [s] (HY.out.1.on HY.out.2.2) (by have := HCA.out.2.1; omega) na nl nc nm 1 (HNM.out.1.below ((hinv.out.bel.trans HY.out.2.1.bel).trans (HY.out.2.2.mono (by have := hinv.out.bel.size; have := HY.out.2.1.bel.size; omega))) (Nat.le_refl _)) HSZ.out (j : Int)).mono ?_
                  rw [show oldO [s] nm 1 (j : Int) (win % 60) = none by rw [oldO, HFF.out, if_neg (by rw [hF]; decide), HFS.out, if_neg (by rw [hS]; decide)]]
                  rintro e Y2 ⟨⟨yh, rfl, hoy⟩, hca2, hleft2⟩
                  have HOY := Lib.hid hoy
                  clear hoy
                  have hbY2 : Below Y2.heap.size Y2 (Y2.alloc (.cells (factC yh zF) 36)) := (Below.refl _ _).alloc (Nat.le_refl _) _
                  have HLT := Lib.hid (((HY.out.2.1.trans (Left.below HY.out.2.2 (by have := hinv.out.bel.size; have := HY.out.2.1.bel.size; omega))).trans hleft2).trans (Left.below hbY2 (by have := hinv.out.bel.size; have := HY.out.2.1.bel.size; have := HY.out.2.2.size; have := hleft2.bel.size; omega)))
                  have HC3 := Lib.hid (hca2.on hbY2)
                  clear hbY2 hca2 hleft2 hF hS
                  simp only [factO, Option.map_none, Option.getD_none, Option.isSome_none, factC]
                  go_wp2_with fail
                  go_roundw
                  case rel => exact ⟨j + 1, by omega, by go_num, Lib.hid ⟨hinv.out.bel.trans HLT.out.bel, ⟨_, _, HC3.out, by simp only [usedK]; have := HCA.out.2.1; omega, HCA.out.2.2⟩, blk_left hinv.out.blk HLT.out (by decide), fact_left hinv.out.fact HLT.out⟩⟩
                  case measure => simp [intOf]; omega
            · by_cases h3 : (j : Int) < 10 + t % 60 + win % 60
              · as_aux_lemma =>
                  have e1 : decide ((j : Int) < 10 + t % 60) = false := decide_eq_false h1
                  have e2 : decide (0 < t % 60) = false := decide_eq_false h2
                  have e3 : (t % 60 == 0) = true := by rw [beq_iff_eq]; omega
                  have e4 : decide (10 + t % 60 ≤ (j : Int)) = true := decide_eq_true (by omega)
                  have e5 : decide ((j : Int) < 10 + t % 60 + win % 60) = true := decide_eq_true (by omega)
                  have hF : fitsF (j : Int) s = false := iff_false hsays.1 (by omega)
                  have hS : fitsS (j : Int) (win % 60) s = true := hsays.2.2 ⟨by omega, by omega⟩
                  clear hsays h1 h2 h3
                  go_wp2_with fail
                  go_at_call 15
                  refine (get_any wr w.heap.size C 5 (win % 60) k [s] HCA.out.1 (by have := HCA.out.2.1; omega) na nl nc nm 1 (HNM.out.1.below hinv.out.bel (Nat.le_refl _)) HSZ.out (j : Int)).mono ?_
                  rw [HFF.out, if_neg (by rw [hF]; decide)]
                  rintro e Y ⟨⟨xh, rfl, hox⟩, hca, hleft⟩
                  have HOX := Lib.hid hox
                  clear hox
                  simp only [factO, Option.map_none, Option.getD_none, Option.isSome_none, factC]
                  have hbY : Below Y.heap.size Y (Y.alloc (.cells (factC xh zF) 36)) := (Below.refl _ _).alloc (Nat.le_refl _) _
                  have HY := Lib.hid (And.intro hca (And.intro hleft hbY))
                  clear hca hleft hbY
                  go_wp2_with fail
                  go_at_call 17
                  refine (old_any (Y.alloc (.cells (factC xh zF) 36)) w.heap.size C 5 (win % 60) k [s] (HY.out.1.on HY.out.2.2) (by have := HCA.out.2.1; omega) na nl nc nm 1 (HNM.out.1.below ((hinv.out.bel.trans HY.out.2.1.bel).trans (HY.out.2.2.mono (by have := hinv.out.bel.size; have := HY.out.2.1.bel.size; omega))) (Nat.le_refl _)) HSZ.out (j : Int)).mono ?_
                  rw [show oldO [s] nm 1 (j : Int) (win % 60) = some s by rw [oldO, HFF.out, if_neg (by rw [hF]; decide), HFS.out, if_pos hS]]
                  rintro e Y2 ⟨⟨yh, rfl, hoy⟩, hca2, hleft2⟩
                  rw [used_one] at hca2
                  have HOY := Lib.hid hoy
                  clear hoy
                  have hbY2 : Below Y2.heap.size Y2 (Y2.alloc (.cells (factC yh s.f) 36)) := (Below.refl _ _).alloc (Nat.le_refl _) _
                  have HLT := Lib.hid (((HY.out.2.1.trans (Left.below HY.out.2.2 (by have := hinv.out.bel.size; have := HY.out.2.1.bel.size; omega))).trans hleft2).trans (Left.below hbY2 (by have := hinv.out.bel.size; have := HY.out.2.1.bel.size; have := HY.out.2.2.size; have := hleft2.bel.size; omega)))
                  have HC3 := Lib.hid (hca2.on hbY2)
                  have hBX : Blk (Y2.alloc (.cells (factC yh s.f) 36)) Y2.heap.size (factC yh s.f) 36 := heap_alloc_new Y2 _
                  have HFX := Lib.hid ((HOY.out.mono (fun _ _ ht => ht.1)).step (Same.below hbY2 _))
                  have hBF := blk_left hinv.out.blk HLT.out (by decide)
                  have m0 : (Y2.alloc (.cells (factC yh s.f) 36)).cell? ⟨Y2.heap.size, 0, none⟩ = some (.slice yh.na yh.nl yh.nc) := hBX.cell 0
                  have m1 : (Y2.alloc (.cells (factC yh s.f) 36)).cell? ⟨Y2.heap.size, 1, none⟩ = some (.int .i64 s.f.typ) := hBX.cell 1
                  have m2 : (Y2.alloc (.cells (factC yh s.f) 36)).cell? ⟨Y2.heap.size, 2, none⟩ = some (.int .i64 s.f.kind) := hBX.cell 2
                  have m3 : (Y2.alloc (.cells (factC yh s.f) 36)).cell? ⟨Y2.heap.size, 3, none⟩ = some (.int .i64 s.f.rank) := hBX.cell 3
                  have m4 : (Y2.alloc (.cells (factC yh s.f) 36)).cell? ⟨Y2.heap.size, 4, none⟩ = some (.int .i64 s.f.got) := hBX.cell 4
                  have m5 : (Y2.alloc (.cells (factC yh s.f) 36)).cell? ⟨Y2.heap.size, 5, none⟩ = some (.int .i64 s.f.ttl) := hBX.cell 5
                  have m6 : (Y2.alloc (.cells (factC yh s.f) 36)).cell? ⟨Y2.heap.size, 6, none⟩ = some (.slice yh.sa yh.sl yh.sc) := hBX.cell 6
                  have m7 : (Y2.alloc (.cells (factC yh s.f) 36)).cell? ⟨Y2.heap.size, 7, none⟩ = some (.slice yh.za yh.zl yh.zc) := hBX.cell 7
                  have m8 : (Y2.alloc (.cells (factC yh s.f) 36)).cell? ⟨Y2.heap.size, 8, none⟩ = some (.slice yh.d.ba yh.d.bl yh.d.bc) := hBX.cell 8
                  have m9 : (Y2.alloc (.cells (factC yh s.f) 36)).cell? ⟨Y2.heap.size, 9, none⟩ = some (.slice yh.d.ha yh.d.hl yh.d.hc) := hBX.cell 9
                  have m10 : (Y2.alloc (.cells (factC yh s.f) 36)).cell? ⟨Y2.heap.size, 10, none⟩ = some (.slice yh.d.ma yh.d.ml yh.d.mc) := hBX.cell 10
                  have m11 : (Y2.alloc (.cells (factC yh s.f) 36)).cell? ⟨Y2.heap.size, 11, none⟩ = some (.slice yh.d.na yh.d.nl yh.d.nc) := hBX.cell 11
                  have m12 : (Y2.alloc (.cells (factC yh s.f) 36)).cell? ⟨Y2.heap.size, 12, none⟩ = some (.slice yh.d.ta yh.d.tl yh.d.tc) := hBX.cell 12
                  have n0 : (Y2.alloc (.cells (factC yh s.f) 36)).cell? ⟨W4.heap.size + 1 + 1, 0, none⟩ = some ((factC (hStale false a' nl c' W4.heap.size) (fStale false nm (t % 60)))[0]'(by simp [factC])) := hBF.cell 0
                  have n1 : (Y2.alloc (.cells (factC yh s.f) 36)).cell? ⟨W4.heap.size + 1 + 1, 1, none⟩ = some ((factC (hStale false a' nl c' W4.heap.size) (fStale false nm (t % 60)))[1]'(by simp [factC])) := hBF.cell 1
                  have n2 : (Y2.alloc (.cells (factC yh s.f) 36)).cell? ⟨W4.heap.size + 1 + 1, 2, none⟩ = some ((factC (hStale false a' nl c' W4.heap.size) (fStale false nm (t % 60)))[2]'(by simp [factC])) := hBF.cell 2
                  have n3 : (Y2.alloc (.cells (factC yh s.f) 36)).cell? ⟨W4.heap.size + 1 + 1, 3, none⟩ = some ((factC (hStale false a' nl c' W4.heap.size) (fStale false nm (t % 60)))[3]'(by simp [factC])) := hBF.cell 3
                  have n4 : (Y2.alloc (.cells (factC yh s.f) 36)).cell? ⟨W4.heap.size + 1 + 1, 4, none⟩ = some ((factC (hStale false a' nl c' W4.heap.size) (fStale false nm (t % 60)))[4]'(by simp [factC])) := hBF.cell 4
                  have n5 : (Y2.alloc (.cells (factC yh s.f) 36)).cell? ⟨W4.heap.size + 1 + 1, 5, none⟩ = some ((factC (hStale false a' nl c' W4.heap.size) (fStale false nm (t % 60)))[5]'(by simp [factC])) := hBF.cell 5
                  have n6 : (Y2.alloc (.cells (factC yh s.f) 36)).cell? ⟨W4.heap.size + 1 + 1, 6, none⟩ = some ((factC (hStale false a' nl c' W4.heap.size) (fStale false nm (t % 60)))[6]'(by simp [factC])) := hBF.cell 6
                  have n7 : (Y2.alloc (.cells (factC yh s.f) 36)).cell? ⟨W4.heap.size + 1 + 1, 7, none⟩ = some ((factC (hStale false a' nl c' W4.heap.size) (fStale false nm (t % 60)))[7]'(by simp [factC])) := hBF.cell 7
                  have n8 : (Y2.alloc (.cells (factC yh s.f) 36)).cell? ⟨W4.heap.size + 1 + 1, 8, none⟩ = some ((factC (hStale false a' nl c' W4.heap.size) (fStale false nm (t % 60)))[8]'(by simp [factC])) := hBF.cell 8
                  have n9 : (Y2.alloc (.cells (factC yh s.f) 36)).cell? ⟨W4.heap.size + 1 + 1, 9, none⟩ = some ((factC (hStale false a' nl c' W4.heap.size) (fStale false nm (t % 60)))[9]'(by simp [factC])) := hBF.cell 9
                  have n10 : (Y2.alloc (.cells (factC yh s.f) 36)).cell? ⟨W4.heap.size + 1 + 1, 10, none⟩ = some ((factC (hStale false a' nl c' W4.heap.size) (fStale false nm (t % 60)))[10]'(by simp [factC])) := hBF.cell 10
                  have n11 : (Y2.alloc (.cells (factC yh s.f) 36)).cell? ⟨W4.heap.size + 1 + 1, 11, none⟩ = some ((factC (hStale false a' nl c' W4.heap.size) (fStale false nm (t % 60)))[11]'(by simp [factC])) := hBF.cell 11
                  have n12 : (Y2.alloc (.cells (factC yh s.f) 36)).cell? ⟨W4.heap.size + 1 + 1, 12, none⟩ = some ((factC (hStale false a' nl c' W4.heap.size) (fStale false nm (t % 60)))[12]'(by simp [factC])) := hBF.cell 12
                  simp only [factC, hStale, fStale, noDH, List.getElem_toArray, List.getElem_cons_zero, List.getElem_cons_succ] at m0 n0 m1 n1 m2 n2 m3 n3 m4 n4 m5 n5 m6 n6 m7 n7 m8 n8 m9 n9 m10 n10 m11 n11 m12 n12
                  have HSM := Lib.hid (rsame12_any (Y2.alloc (.cells (factC yh s.f) 36)) _ _ yh (hStale false a' nl c' W4.heap.size) s.f (fStale false nm (t % 60)) HFX.out (fact_left hinv.out.fact HLT.out))
                  rw [show sameF s.f (fStale false nm (t % 60)) = true by rw [HCA.out.2.2]; exact sameF_refl (fStale_ok HSD.out ht1.1 ht1.2)] at HSM
                  simp only [factC, hStale, fStale, noDH] at HSM
                  clear hBX hBF
                  clear hbY2 hca2 hleft2 hF hS
                  simp only [factO, Option.map_some, Option.getD_some, Option.isSome_some, factC]
                  go_wp2_with (go_at_call 13; go_loud (refine HSM.out.mono ?_; rintro e W5 ⟨rfl, hb5⟩; have HB5 := Lib.hid hb5; clear hb5))
                  go_roundw
                  case rel =>
                    have hl5 := HLT.out.trans (Left.below HB5.out (by have := hinv.out.bel.size; have := HLT.out.bel.size; omega))
                    exact ⟨j + 1, by omega, by go_num, Lib.hid ⟨hinv.out.bel.trans hl5.bel, ⟨_, _, HC3.out.on HB5.out, by simp only [usedK]; have := HCA.out.2.1; omega, HCA.out.2.2⟩, blk_left hinv.out.blk hl5 (by decide), fact_left hinv.out.fact hl5⟩⟩
                  case measure => simp [intOf]; omega
              · as_aux_lemma =>
                  have e1 : decide ((j : Int) < 10 + t % 60) = false := decide_eq_false h1
                  have e2 : decide (0 < t % 60) = false := decide_eq_false h2
                  have e3 : (t % 60 == 0) = true := by rw [beq_iff_eq]; omega
                  have e4 : decide (10 + t % 60 ≤ (j : Int)) = true := decide_eq_true (by omega)
                  have e5 : decide ((j : Int) < 10 + t % 60 + win % 60) = false := decide_eq_false h3
                  have hF : fitsF (j : Int) s = false := iff_false hsays.1 (by omega)
                  have hS : fitsS (j : Int) (win % 60) s = false := iff_false hsays.2 (by omega)
                  clear hsays h1 h2 h3
                  go_wp2_with fail
                  go_at_call 15
                  refine (get_any wr w.heap.size C 5 (win % 60) k [s] HCA.out.1 (by have := HCA.out.2.1; omega) na nl nc nm 1 (HNM.out.1.below hinv.out.bel (Nat.le_refl _)) HSZ.out (j : Int)).mono ?_
                  rw [HFF.out, if_neg (by rw [hF]; decide)]
                  rintro e Y ⟨⟨xh, rfl, hox⟩, hca, hleft⟩
                  have HOX := Lib.hid hox
                  clear hox
                  simp only [factO, Option.map_none, Option.getD_none, Option.isSome_none, factC]
                  have hbY : Below Y.heap.size Y (Y.alloc (.cells (factC xh zF) 36)) := (Below.refl _ _).alloc (Nat.le_refl _) _
                  have HY := Lib.hid (And.intro hca (And.intro hleft hbY))
                  clear hca hleft hbY
                  go_wp2_with fail
                  go_at_call 17
                  refine (old_any (Y.alloc (.cells (factC xh zF) 36)) w.heap.size C 5 (win % 60) k [s] (HY.out.1.on HY.out.2.2) (by have := HCA.out.2.1; omega) na nl nc nm 1 (HNM.out.1.below ((hinv.out.bel.trans HY.out.2.1.bel).trans (HY.out.2.2.mono (by have := hinv.out.bel.size; have := HY.out.2.1.bel.size; omega))) (Nat.le_refl _)) HSZ.out (j : Int)).mono ?_
                  rw [show oldO [s] nm 1 (j : Int) (win % 60) = none by rw [oldO, HFF.out, if_neg (by rw [hF]; decide), HFS.out, if_neg (by rw [hS]; decide)]]
                  rintro e Y2 ⟨⟨yh, rfl, hoy⟩, hca2, hleft2⟩
                  have HOY := Lib.hid hoy
                  clear hoy
                  have hbY2 : Below Y2.heap.size Y2 (Y2.alloc (.cells (factC yh zF) 36)) := (Below.refl _ _).alloc (Nat.le_refl _) _
                  have HLT := Lib.hid (((HY.out.2.1.trans (Left.below HY.out.2.2 (by have := hinv.out.bel.size; have := HY.out.2.1.bel.size; omega))).trans hleft2).trans (Left.below hbY2 (by have := hinv.out.bel.size; have := HY.out.2.1.bel.size; have := HY.out.2.2.size; have := hleft2.bel.size; omega)))
                  have HC3 := Lib.hid (hca2.on hbY2)
                  clear hbY2 hca2 hleft2 hF hS
                  simp only [factO, Option.map_none, Option.getD_none, Option.isSome_none, factC]
                  go_wp2_with fail
                  go_roundw
                  case rel => exact ⟨j + 1, by omega, by go_num, Lib.hid ⟨hinv.out.bel.trans HLT.out.bel, ⟨_, _, HC3.out, by simp only [usedK]; have := HCA.out.2.1; omega, HCA.out.2.2⟩, blk_left hinv.out.blk HLT.out (by decide), fact_left hinv.out.fact HLT.out⟩⟩
                  case measure => simp [intOf]; omega
        · go_wp2_with fail
          go_ret
          exact ⟨rfl, hinv.out.bel⟩
    | true =>
      go_enter Try.func5, Try.ntmps5
      go_wp2_with (first | (go_at_call 6; go_loud (refine HNW.out.mono ?_; rintro e W ⟨⟨C, rfl, hC⟩, hb⟩; have HW := Lib.hid (And.intro hb hC); clear hC hb)) | (go_at_call 7; refine (answers_any _).mono ?_; rintro e W2 ⟨rfl, hb2⟩; replace HW := Lib.hid (And.intro (below_on HW.out.1 hb2 (Nat.le_refl _)) (HW.out.2.on hb2)); clear hb2) | (go_at_call 16; refine (HRS.out _ HW.out.1).mono ?_; rintro e w' ⟨rfl, rfl⟩) | (at_builtin; go_loud (have hb3 : Below w.heap.size w (W2.alloc (.cells #[] 9)) := (HW.out.1).alloc HW.out.1.size _; obtain ⟨i0, hi, hz0, hz1, hz2⟩ := info_parts strInfo; obtain ⟨a', c', W4, hrun, hrow, hb4⟩ := append_own1 (P := Try.prog) (W2.alloc (.cells #[] 9)) 29 29 9 i0 _ 16 Try.underlying29 hi hz0 hz1 hz2 W2.heap.size (by simp) na nl nc _ (HNM.out.1.row.below hb3 (Nat.le_refl _)) (by have := HNM.out.1.row.hle; have := HNM.out.2; omega); refine wpList_append_run rfl _ _ _ rfl _ _ rfl rfl hrun ?_; have HA := Lib.hid (And.intro hrow (And.intro (below_on hb3 hb4 (Nat.le_refl _)) ((HW.out.2.on ((Below.refl _ _).alloc (Nat.le_refl _) _)).on hb4))); clear hb3 hi hz0 hz1 hz2 hrun hrow hb4)))
      go_at_call 10
      obtain ⟨W9, hW9⟩ : ∃ q, q = (((W4.alloc (.cells #[.int .u8 1, .int .u8 2, .int .u8 3, .int .u8 4] 5)).alloc (.cells #[.slice (some ⟨W4.heap.size, 0, none⟩) 4 4, .slice none 0 0, .slice none 0 0, .slice none 0 0, .slice none 0 0] 34)).alloc (.cells (factC (hStale true a' nl c' W4.heap.size) (fStale true nm (t % 60))) 36)).alloc (.cells #[.int .i64 1, .int .i64 2, .int .i64 3, .int .i64 4, .int .i64 5] 3) := ⟨_, rfl⟩
      have hbA : Below W4.heap.size W4 W9 := by (rw [hW9]; exact ((((Below.refl _ _).alloc (Nat.le_refl _) _).alloc (by simp) _).alloc (by first | (simp <;> done) | (simp <;> omega)) _).alloc (by first | (simp <;> done) | (simp <;> omega)) _)
      have hF9 : IsFact (tagged fT W9) W9 (hStale true a' nl c' W4.heap.size) (fStale true nm (t % 60)) := by (rw [hW9]; exact stale_isN (X := .cells #[.int .u8 1, .int .u8 2, .int .u8 3, .int .u8 4] 5) (Y := .cells #[.slice (some ⟨W4.heap.size, 0, none⟩) 4 4, .slice none 0 0, .slice none 0 0, .slice none 0 0, .slice none 0 0] 34) HA.out.1 HNM.out.1.small ht1.1 ht1.2)
      have hX9 : Blk W9 (W4.heap.size + 1 + 1) (factC (hStale true a' nl c' W4.heap.size) (fStale true nm (t % 60))) 36 := by (rw [hW9]; exact Blk.on (w := ((W4.alloc (.cells #[.int .u8 1, .int .u8 2, .int .u8 3, .int .u8 4] 5)).alloc (.cells #[.slice (some ⟨W4.heap.size, 0, none⟩) 4 4, .slice none 0 0, .slice none 0 0, .slice none 0 0, .slice none 0 0] 34)).alloc (.cells (factC (hStale true a' nl c' W4.heap.size) (fStale true nm (t % 60))) 36)) (by have := heap_alloc_new ((W4.alloc (.cells #[.int .u8 1, .int .u8 2, .int .u8 3, .int .u8 4] 5)).alloc (.cells #[.slice (some ⟨W4.heap.size, 0, none⟩) 4 4, .slice none 0 0, .slice none 0 0, .slice none 0 0, .slice none 0 0] 34)) (.cells (factC (hStale true a' nl c' W4.heap.size) (fStale true nm (t % 60))) 36); simpa [Blk] using this) ((Below.refl _ _).alloc (Nat.le_refl _) _))
      rw [show ((((W4.alloc (.cells #[.int .u8 1, .int .u8 2, .int .u8 3, .int .u8 4] 5)).alloc (.cells #[.slice (some ⟨W4.heap.size, 0, none⟩) 4 4, .slice none 0 0, .slice none 0 0, .slice none 0 0, .slice none 0 0] 34)).alloc (.cells (#[.slice (some a') nl c', .int .i64 0, .int .i64 3, .int .i64 3, .int .i64 10, .int .i64 (t % 60), .slice none 0 0, .slice none 0 0, .slice none 0 0, .slice none 0 0, .slice none 0 0, .slice (some ⟨W4.heap.size + 1 + 1 + 1, 0, none⟩) 5 5, .slice none 0 0]) 36)).alloc (.cells #[.int .i64 1, .int .i64 2, .int .i64 3, .int .i64 4, .int .i64 5] 3)) = W9 from hW9.symm]
      have hput : putB [] (fStale true nm (t % 60)) 10 = true := (congrArg (· && (timeB 10 && freeB [] (fStale true nm (t % 60)) 10)) (fStale_ok HSD.out ht1.1 ht1.2)).trans rfl
      refine (put_any W9 (tagged fT W9) w.heap.size C 5 (win % 60) 0 [] (HA.out.2.2.on hbA) (by decide) (by decide) (hStale true a' nl c' W4.heap.size) (fStale true nm (t % 60)) hF9 (fStale_len HSD.out) 10 (by simp [offL])).mono ?_
      rintro e Z ⟨he, hl, hp⟩
      rw [hput] at he
      subst he
      obtain ⟨bz, kz, hca⟩ := hp.yes hput
      have HZ : Hid (SlSt w Z C 0 (win % 60) (W4.heap.size + 1 + 1) (hStale true a' nl c' W4.heap.size) (fStale true nm (t % 60))) := Lib.hid ⟨(below_on HA.out.2.1 hbA (Nat.le_refl _)).trans hl.bel, ⟨1, _, hca, by omega, rfl⟩, blk_left hX9 hl (by decide), fact_left hF9 hl⟩
      clear hl hp hca hF9 hX9 hbA hput hW9
      go_wp2_with fail
      have HSZ := Lib.hid (show sizeN nm ≤ 1099511627776 by have := sound_small HSD.out; omega)
      go_loopw [14] (fun i wr => ∃ j : Nat, j ≤ 140 ∧ i = .int .i64 j ∧ Hid (SlSt w wr C j (win % 60) (W4.heap.size + 1 + 1) (hStale true a' nl c' W4.heap.size) (fStale true nm (t % 60)))) (fun i _ => 140 - (intOf i).toNat)
      case atStart => exact ⟨0, by omega, rfl, HZ⟩
      case round =>
        obtain ⟨j, hj, rfl, hinv⟩ := hrel
        by_cases hlt : j < 140
        · obtain ⟨k, s, hca, hk, hsf⟩ := hinv.out.ca
          have hsays := stale_says hsf ht1.1 ht1.2 (Int.natCast_nonneg j) (by omega) hs1.1 hs1.2
          have hkey : keyF s.f = keyP nm 1 ∨ keyF s.f = keyP nm 0 := by rw [hsf]; exact fStale_key _ _ _
          have HCA := Lib.hid (And.intro hca (And.intro hk hsf))
          have HFF := Lib.hid (find_one (p := fitsF (j : Int)) hkey)
          have HFS := Lib.hid (find_one (p := fitsS (j : Int) (win % 60)) hkey)
          have HKEY := Lib.hid hkey
          clear hca hk hsf hkey
          by_cases h1 : (j : Int) < 10 + t % 60
          · by_cases h2 : 0 < t % 60
            · as_aux_lemma =>
                have e1 : decide ((j : Int) < 10 + t % 60) = true := decide_eq_true h1
                have e2 : decide (0 < t % 60) = true := decide_eq_true h2
                have e3 : (t % 60 == 0) = false := beq_false_of_ne (by omega)
                have e4 : decide (10 + t % 60 ≤ (j : Int)) = false := decide_eq_false (by omega)
                have e5 : decide ((j : Int) < 10 + t % 60 + win % 60) = true := decide_eq_true (by omega)
                have hF : fitsF (j : Int) s = true := hsays.1.2 ⟨h1, h2⟩
                have hS : fitsS (j : Int) (win % 60) s = false := iff_false hsays.2 (by omega)
                clear hsays h1 h2
                go_wp2_with fail
                go_at_call 15
                refine (get_any wr w.heap.size C 5 (win % 60) k [s] HCA.out.1 (by have := HCA.out.2.1; omega) na nl nc nm 1 (HNM.out.1.below hinv.out.bel (Nat.le_refl _)) HSZ.out (j : Int)).mono ?_
                rw [HFF.out, if_pos hF]
                rintro e Y ⟨⟨xh, rfl, hox⟩, hca, hleft⟩
                rw [used_one] at hca
                have HOX := Lib.hid hox
                clear hox
                simp only [factO, Option.map_some, Option.getD_some, Option.isSome_some, factC]
                have hbY : Below Y.heap.size Y (Y.alloc (.cells (factC xh s.f) 36)) := (Below.refl _ _).alloc (Nat.le_refl _) _
                have HY := Lib.hid (And.intro hca (And.intro hleft hbY))
                clear hca hleft hbY
                go_wp2_with fail
                go_at_call 17
                refine (old_any (Y.alloc (.cells (factC xh s.f) 36)) w.heap.size C 5 (win % 60) (k + 1) [(⟨s.b, s.h, s.f, k + 1⟩ : Slot)] (HY.out.1.on HY.out.2.2) (by have := HCA.out.2.1; omega) na nl nc nm 1 (HNM.out.1.below ((hinv.out.bel.trans HY.out.2.1.bel).trans (HY.out.2.2.mono (by have := hinv.out.bel.size; have := HY.out.2.1.bel.size; omega))) (Nat.le_refl _)) HSZ.out (j : Int)).mono ?_
                rw [show oldO [(⟨s.b, s.h, s.f, k + 1⟩ : Slot)] nm 1 (j : Int) (win % 60) = none by rw [oldO, find_one (p := fitsF (j : Int)) (s := (⟨s.b, s.h, s.f, k + 1⟩ : Slot)) HKEY.out, if_pos (show fitsF (j : Int) (⟨s.b, s.h, s.f, k + 1⟩ : Slot) = true from hF)]]
                rintro e Y2 ⟨⟨yh, rfl, hoy⟩, hca2, hleft2⟩
                have HOY := Lib.hid hoy
                clear hoy
                have hbY2 : Below Y2.heap.size Y2 (Y2.alloc (.cells (factC yh zF) 36)) := (Below.refl _ _).alloc (Nat.le_refl _) _
                have HLT := Lib.hid (((HY.out.2.1.trans (Left.below HY.out.2.2 (by have := hinv.out.bel.size; have := HY.out.2.1.bel.size; omega))).trans hleft2).trans (Left.below hbY2 (by have := hinv.out.bel.size; have := HY.out.2.1.bel.size; have := HY.out.2.2.size; have := hleft2.bel.size; omega)))
                have HC3 := Lib.hid (hca2.on hbY2)
                have hBX := (blk_left (heap_alloc_new Y (.cells (factC xh s.f) 36)) hleft2 (by decide)).on hbY2
                have HFX := Lib.hid ((fact_left ((HOX.out.mono (fun _ _ ht => ht.1)).step (Same.below HY.out.2.2 _)) hleft2).step (Same.below hbY2 _))
                have hBF := blk_left hinv.out.blk HLT.out (by decide)
                have m0 : (Y2.alloc (.cells (factC yh zF) 36)).cell? ⟨Y.heap.size, 0, none⟩ = some (.slice xh.na xh.nl xh.nc) := hBX.cell 0
                have m1 : (Y2.alloc (.cells (factC yh zF) 36)).cell? ⟨Y.heap.size, 1, none⟩ = some (.int .i64 s.f.typ) := hBX.cell 1
                have m2 : (Y2.alloc (.cells (factC yh zF) 36)).cell? ⟨Y.heap.size, 2, none⟩ = some (.int .i64 s.f.kind) := hBX.cell 2
                have m3 : (Y2.alloc (.cells (factC yh zF) 36)).cell? ⟨Y.heap.size, 3, none⟩ = some (.int .i64 s.f.rank) := hBX.cell 3
                have m4 : (Y2.alloc (.cells (factC yh zF) 36)).cell? ⟨Y.heap.size, 4, none⟩ = some (.int .i64 s.f.got) := hBX.cell 4
                have m5 : (Y2.alloc (.cells (factC yh zF) 36)).cell? ⟨Y.heap.size, 5, none⟩ = some (.int .i64 s.f.ttl) := hBX.cell 5
                have m6 : (Y2.alloc (.cells (factC yh zF) 36)).cell? ⟨Y.heap.size, 6, none⟩ = some (.slice xh.sa xh.sl xh.sc) := hBX.cell 6
                have m7 : (Y2.alloc (.cells (factC yh zF) 36)).cell? ⟨Y.heap.size, 7, none⟩ = some (.slice xh.za xh.zl xh.zc) := hBX.cell 7
                have m8 : (Y2.alloc (.cells (factC yh zF) 36)).cell? ⟨Y.heap.size, 8, none⟩ = some (.slice xh.d.ba xh.d.bl xh.d.bc) := hBX.cell 8
                have m9 : (Y2.alloc (.cells (factC yh zF) 36)).cell? ⟨Y.heap.size, 9, none⟩ = some (.slice xh.d.ha xh.d.hl xh.d.hc) := hBX.cell 9
                have m10 : (Y2.alloc (.cells (factC yh zF) 36)).cell? ⟨Y.heap.size, 10, none⟩ = some (.slice xh.d.ma xh.d.ml xh.d.mc) := hBX.cell 10
                have m11 : (Y2.alloc (.cells (factC yh zF) 36)).cell? ⟨Y.heap.size, 11, none⟩ = some (.slice xh.d.na xh.d.nl xh.d.nc) := hBX.cell 11
                have m12 : (Y2.alloc (.cells (factC yh zF) 36)).cell? ⟨Y.heap.size, 12, none⟩ = some (.slice xh.d.ta xh.d.tl xh.d.tc) := hBX.cell 12
                have n0 : (Y2.alloc (.cells (factC yh zF) 36)).cell? ⟨W4.heap.size + 1 + 1, 0, none⟩ = some ((factC (hStale true a' nl c' W4.heap.size) (fStale true nm (t % 60)))[0]'(by simp [factC])) := hBF.cell 0
                have n1 : (Y2.alloc (.cells (factC yh zF) 36)).cell? ⟨W4.heap.size + 1 + 1, 1, none⟩ = some ((factC (hStale true a' nl c' W4.heap.size) (fStale true nm (t % 60)))[1]'(by simp [factC])) := hBF.cell 1
                have n2 : (Y2.alloc (.cells (factC yh zF) 36)).cell? ⟨W4.heap.size + 1 + 1, 2, none⟩ = some ((factC (hStale true a' nl c' W4.heap.size) (fStale true nm (t % 60)))[2]'(by simp [factC])) := hBF.cell 2
                have n3 : (Y2.alloc (.cells (factC yh zF) 36)).cell? ⟨W4.heap.size + 1 + 1, 3, none⟩ = some ((factC (hStale true a' nl c' W4.heap.size) (fStale true nm (t % 60)))[3]'(by simp [factC])) := hBF.cell 3
                have n4 : (Y2.alloc (.cells (factC yh zF) 36)).cell? ⟨W4.heap.size + 1 + 1, 4, none⟩ = some ((factC (hStale true a' nl c' W4.heap.size) (fStale true nm (t % 60)))[4]'(by simp [factC])) := hBF.cell 4
                have n5 : (Y2.alloc (.cells (factC yh zF) 36)).cell? ⟨W4.heap.size + 1 + 1, 5, none⟩ = some ((factC (hStale true a' nl c' W4.heap.size) (fStale true nm (t % 60)))[5]'(by simp [factC])) := hBF.cell 5
                have n6 : (Y2.alloc (.cells (factC yh zF) 36)).cell? ⟨W4.heap.size + 1 + 1, 6, none⟩ = some ((factC (hStale true a' nl c' W4.heap.size) (fStale true nm (t % 60)))[6]'(by simp [factC])) := hBF.cell 6
                have n7 : (Y2.alloc (.cells (factC yh zF) 36)).cell? ⟨W4.heap.size + 1 + 1, 7, none⟩ = some ((factC (hStale true a' nl c' W4.heap.size) (fStale true nm (t % 60)))[7]'(by simp [factC])) := hBF.cell 7
                have n8 : (Y2.alloc (.cells (factC yh zF) 36)).cell? ⟨W4.heap.size + 1 + 1, 8, none⟩ = some ((factC (hStale true a' nl c' W4.heap.size) (fStale true nm (t % 60)))[8]'(by simp [factC])) := hBF.cell 8
                have n9 : (Y2.alloc (.cells (factC yh zF) 36)).cell? ⟨W4.heap.size + 1 + 1, 9, none⟩ = some ((factC (hStale true a' nl c' W4.heap.size) (fStale true nm (t % 60)))[9]'(by simp [factC])) := hBF.cell 9
                have n10 : (Y2.alloc (.cells (factC yh zF) 36)).cell? ⟨W4.heap.size + 1 + 1, 10, none⟩ = some ((factC (hStale true a' nl c' W4.heap.size) (fStale true nm (t % 60)))[10]'(by simp [factC])) := hBF.cell 10
                have n11 : (Y2.alloc (.cells (factC yh zF) 36)).cell? ⟨W4.heap.size + 1 + 1, 11, none⟩ = some ((factC (hStale true a' nl c' W4.heap.size) (fStale true nm (t % 60)))[11]'(by simp [factC])) := hBF.cell 11
                have n12 : (Y2.alloc (.cells (factC yh zF) 36)).cell? ⟨W4.heap.size + 1 + 1, 12, none⟩ = some ((factC (hStale true a' nl c' W4.heap.size) (fStale true nm (t % 60)))[12]'(by simp [factC])) := hBF.cell 12
                simp only [factC, hStale, fStale, List.getElem_toArray, List.getElem_cons_zero, List.getElem_cons_succ] at m0 n0 m1 n1 m2 n2 m3 n3 m4 n4 m5 n5 m6 n6 m7 n7 m8 n8 m9 n9 m10 n10 m11 n11 m12 n12
                have HSM := Lib.hid (rsame12_any (Y2.alloc (.cells (factC yh zF) 36)) _ _ xh (hStale true a' nl c' W4.heap.size) s.f (fStale true nm (t % 60)) HFX.out (fact_left hinv.out.fact HLT.out))
                rw [show sameF s.f (fStale true nm (t % 60)) = true by rw [HCA.out.2.2]; exact sameF_refl (fStale_ok HSD.out ht1.1 ht1.2)] at HSM
                simp only [factC, hStale, fStale] at HSM
                clear hBX hBF
                clear hbY2 hca2 hleft2 hF hS
                simp only [factO, Option.map_none, Option.getD_none, Option.isSome_none, factC]
                go_wp2_with (go_at_call 13; go_loud (refine HSM.out.mono ?_; rintro e W5 ⟨rfl, hb5⟩; have HB5 := Lib.hid hb5; clear hb5))
                go_roundw
                case rel =>
                  have hl5 := HLT.out.trans (Left.below HB5.out (by have := hinv.out.bel.size; have := HLT.out.bel.size; omega))
                  exact ⟨j + 1, by omega, by go_num, Lib.hid ⟨hinv.out.bel.trans hl5.bel, ⟨_, _, HC3.out.on HB5.out, by simp only [usedK]; have := HCA.out.2.1; omega, HCA.out.2.2⟩, blk_left hinv.out.blk hl5 (by decide), fact_left hinv.out.fact hl5⟩⟩
                case measure => simp [intOf]; omega
            · by_cases h3 : (j : Int) < 10 + t % 60 + win % 60
              · as_aux_lemma =>
                  have e1 : decide ((j : Int) < 10 + t % 60) = true := decide_eq_true h1
                  have e2 : decide (0 < t % 60) = false := decide_eq_false h2
                  have e3 : (t % 60 == 0) = true := by rw [beq_iff_eq]; omega
                  have e4 : decide (10 + t % 60 ≤ (j : Int)) = false := decide_eq_false (by omega)
                  have e5 : decide ((j : Int) < 10 + t % 60 + win % 60) = true := decide_eq_true (by omega)
                  have hF : fitsF (j : Int) s = false := iff_false hsays.1 (by omega)
                  have hS : fitsS (j : Int) (win % 60) s = true := hsays.2.2 ⟨by omega, by omega⟩
                  clear hsays h1 h2 h3
                  go_wp2_with fail
                  go_at_call 15
                  refine (get_any wr w.heap.size C 5 (win % 60) k [s] HCA.out.1 (by have := HCA.out.2.1; omega) na nl nc nm 1 (HNM.out.1.below hinv.out.bel (Nat.le_refl _)) HSZ.out (j : Int)).mono ?_
                  rw [HFF.out, if_neg (by rw [hF]; decide)]
                  rintro e Y ⟨⟨xh, rfl, hox⟩, hca, hleft⟩
                  have HOX := Lib.hid hox
                  clear hox
                  simp only [factO, Option.map_none, Option.getD_none, Option.isSome_none, factC]
                  have hbY : Below Y.heap.size Y (Y.alloc (.cells (factC xh zF) 36)) := (Below.refl _ _).alloc (Nat.le_refl _) _
                  have HY := Lib.hid (And.intro hca (And.intro hleft hbY))
                  clear hca hleft hbY
                  go_wp2_with fail
                  go_at_call 17
                  refine (old_any (Y.alloc (.cells (factC xh zF) 36)) w.heap.size C 5 (win % 60) k [s] (HY.out.1.on HY.out.2.2) (by have := HCA.out.2.1; omega) na nl nc nm 1 (HNM.out.1.below ((hinv.out.bel.trans HY.out.2.1.bel).trans (HY.out.2.2.mono (by have := hinv.out.bel.size; have := HY.out.2.1.bel.size; omega))) (Nat.le_refl _)) HSZ.out (j : Int)).mono ?_
                  rw [show oldO [s] nm 1 (j : Int) (win % 60) = some s by rw [oldO, HFF.out, if_neg (by rw [hF]; decide), HFS.out, if_pos hS]]
                  rintro e Y2 ⟨⟨yh, rfl, hoy⟩, hca2, hleft2⟩
                  rw [used_one] at hca2
                  have HOY := Lib.hid hoy
                  clear hoy
                  have hbY2 : Below Y2.heap.size Y2 (Y2.alloc (.cells (factC yh s.f) 36)) := (Below.refl _ _).alloc (Nat.le_refl _) _
                  have HLT := Lib.hid (((HY.out.2.1.trans (Left.below HY.out.2.2 (by have := hinv.out.bel.size; have := HY.out.2.1.bel.size; omega))).trans hleft2).trans (Left.below hbY2 (by have := hinv.out.bel.size; have := HY.out.2.1.bel.size; have := HY.out.2.2.size; have := hleft2.bel.size; omega)))
                  have HC3 := Lib.hid (hca2.on hbY2)
                  have hBX : Blk (Y2.alloc (.cells (factC yh s.f) 36)) Y2.heap.size (factC yh s.f) 36 := heap_alloc_new Y2 _
                  have HFX := Lib.hid ((HOY.out.mono (fun _ _ ht => ht.1)).step (Same.below hbY2 _))
                  have hBF := blk_left hinv.out.blk HLT.out (by decide)
                  have m0 : (Y2.alloc (.cells (factC yh s.f) 36)).cell? ⟨Y2.heap.size, 0, none⟩ = some (.slice yh.na yh.nl yh.nc) := hBX.cell 0
                  have m1 : (Y2.alloc (.cells (factC yh s.f) 36)).cell? ⟨Y2.heap.size, 1, none⟩ = some (.int .i64 s.f.typ) := hBX.cell 1
                  have m2 : (Y2.alloc (.cells (factC yh s.f) 36)).cell? ⟨Y2.heap.size, 2, none⟩ = some (.int .i64 s.f.kind) := hBX.cell 2
                  have m3 : (Y2.alloc (.cells (factC yh s.f) 36)).cell? ⟨Y2.heap.size, 3, none⟩ = some (.int .i64 s.f.rank) := hBX.cell 3
                  have m4 : (Y2.alloc (.cells (factC yh s.f) 36)).cell? ⟨Y2.heap.size, 4, none⟩ = some (.int .i64 s.f.got) := hBX.cell 4
                  have m5 : (Y2.alloc (.cells (factC yh s.f) 36)).cell? ⟨Y2.heap.size, 5, none⟩ = some (.int .i64 s.f.ttl) := hBX.cell 5
                  have m6 : (Y2.alloc (.cells (factC yh s.f) 36)).cell? ⟨Y2.heap.size, 6, none⟩ = some (.slice yh.sa yh.sl yh.sc) := hBX.cell 6
                  have m7 : (Y2.alloc (.cells (factC yh s.f) 36)).cell? ⟨Y2.heap.size, 7, none⟩ = some (.slice yh.za yh.zl yh.zc) := hBX.cell 7
                  have m8 : (Y2.alloc (.cells (factC yh s.f) 36)).cell? ⟨Y2.heap.size, 8, none⟩ = some (.slice yh.d.ba yh.d.bl yh.d.bc) := hBX.cell 8
                  have m9 : (Y2.alloc (.cells (factC yh s.f) 36)).cell? ⟨Y2.heap.size, 9, none⟩ = some (.slice yh.d.ha yh.d.hl yh.d.hc) := hBX.cell 9
                  have m10 : (Y2.alloc (.cells (factC yh s.f) 36)).cell? ⟨Y2.heap.size, 10, none⟩ = some (.slice yh.d.ma yh.d.ml yh.d.mc) := hBX.cell 10
                  have m11 : (Y2.alloc (.cells (factC yh s.f) 36)).cell? ⟨Y2.heap.size, 11, none⟩ = some (.slice yh.d.na yh.d.nl yh.d.nc) := hBX.cell 11
                  have m12 : (Y2.alloc (.cells (factC yh s.f) 36)).cell? ⟨Y2.heap.size, 12, none⟩ = some (.slice yh.d.ta yh.d.tl yh.d.tc) := hBX.cell 12
                  have n0 : (Y2.alloc (.cells (factC yh s.f) 36)).cell? ⟨W4.heap.size + 1 + 1, 0, none⟩ = some ((factC (hStale true a' nl c' W4.heap.size) (fStale true nm (t % 60)))[0]'(by simp [factC])) := hBF.cell 0
                  have n1 : (Y2.alloc (.cells (factC yh s.f) 36)).cell? ⟨W4.heap.size + 1 + 1, 1, none⟩ = some ((factC (hStale true a' nl c' W4.heap.size) (fStale true nm (t % 60)))[1]'(by simp [factC])) := hBF.cell 1
                  have n2 : (Y2.alloc (.cells (factC yh s.f) 36)).cell? ⟨W4.heap.size + 1 + 1, 2, none⟩ = some ((factC (hStale true a' nl c' W4.heap.size) (fStale true nm (t % 60)))[2]'(by simp [factC])) := hBF.cell 2
                  have n3 : (Y2.alloc (.cells (factC yh s.f) 36)).cell? ⟨W4.heap.size + 1 + 1, 3, none⟩ = some ((factC (hStale true a' nl c' W4.heap.size) (fStale true nm (t % 60)))[3]'(by simp [factC])) := hBF.cell 3
                  have n4 : (Y2.alloc (.cells (factC yh s.f) 36)).cell? ⟨W4.heap.size + 1 + 1, 4, none⟩ = some ((factC (hStale true a' nl c' W4.heap.size) (fStale true nm (t % 60)))[4]'(by simp [factC])) := hBF.cell 4
                  have n5 : (Y2.alloc (.cells (factC yh s.f) 36)).cell? ⟨W4.heap.size + 1 + 1, 5, none⟩ = some ((factC (hStale true a' nl c' W4.heap.size) (fStale true nm (t % 60)))[5]'(by simp [factC])) := hBF.cell 5
                  have n6 : (Y2.alloc (.cells (factC yh s.f) 36)).cell? ⟨W4.heap.size + 1 + 1, 6, none⟩ = some ((factC (hStale true a' nl c' W4.heap.size) (fStale true nm (t % 60)))[6]'(by simp [factC])) := hBF.cell 6
                  have n7 : (Y2.alloc (.cells (factC yh s.f) 36)).cell? ⟨W4.heap.size + 1 + 1, 7, none⟩ = some ((factC (hStale true a' nl c' W4.heap.size) (fStale true nm (t % 60)))[7]'(by simp [factC])) := hBF.cell 7
                  have n8 : (Y2.alloc (.cells (factC yh s.f) 36)).cell? ⟨W4.heap.size + 1 + 1, 8, none⟩ = some ((factC (hStale true a' nl c' W4.heap.size) (fStale true nm (t % 60)))[8]'(by simp [factC])) := hBF.cell 8
                  have n9 : (Y2.alloc (.cells (factC yh s.f) 36)).cell? ⟨W4.heap.size + 1 + 1, 9, none⟩ = some ((factC (hStale true a' nl c' W4.heap.size) (fStale true nm (t % 60)))[9]'(by simp [factC])) := hBF.cell 9
                  have n10 : (Y2.alloc (.cells (factC yh s.f) 36)).cell? ⟨W4.heap.size + 1 + 1, 10, none⟩ = some ((factC (hStale true a' nl c' W4.heap.size) (fStale true nm (t % 60)))[10]'(by simp [factC])) := hBF.cell 10
                  have n11 : (Y2.alloc (.cells (factC yh s.f) 36)).cell? ⟨W4.heap.size + 1 + 1, 11, none⟩ = some ((factC (hStale true a' nl c' W4.heap.size) (fStale true nm (t % 60)))[11]'(by simp [factC])) := hBF.cell 11
                  have n12 : (Y2.alloc (.cells (factC yh s.f) 36)).cell? ⟨W4.heap.size + 1 + 1, 12, none⟩ = some ((factC (hStale true a' nl c' W4.heap.size) (fStale true nm (t % 60)))[12]'(by simp [factC])) := hBF.cell 12
                  simp only [factC, hStale, fStale, List.getElem_toArray, List.getElem_cons_zero, List.getElem_cons_succ] at m0 n0 m1 n1 m2 n2 m3 n3 m4 n4 m5 n5 m6 n6 m7 n7 m8 n8 m9 n9 m10 n10 m11 n11 m12 n12
                  have HSM := Lib.hid (rsame12_any (Y2.alloc (.cells (factC yh s.f) 36)) _ _ yh (hStale true a' nl c' W4.heap.size) s.f (fStale true nm (t % 60)) HFX.out (fact_left hinv.out.fact HLT.out))
                  rw [show sameF s.f (fStale true nm (t % 60)) = true by rw [HCA.out.2.2]; exact sameF_refl (fStale_ok HSD.out ht1.1 ht1.2)] at HSM
                  simp only [factC, hStale, fStale] at HSM
                  clear hBX hBF
                  clear hbY2 hca2 hleft2 hF hS
                  simp only [factO, Option.map_some, Option.getD_some, Option.isSome_some, factC]
                  go_wp2_with (go_at_call 13; go_loud (refine HSM.out.mono ?_; rintro e W5 ⟨rfl, hb5⟩; have HB5 := Lib.hid hb5; clear hb5))
                  go_roundw
                  case rel =>
                    have hl5 := HLT.out.trans (Left.below HB5.out (by have := hinv.out.bel.size; have := HLT.out.bel.size; omega))
                    exact ⟨j + 1, by omega, by go_num, Lib.hid ⟨hinv.out.bel.trans hl5.bel, ⟨_, _, HC3.out.on HB5.out, by simp only [usedK]; have := HCA.out.2.1; omega, HCA.out.2.2⟩, blk_left hinv.out.blk hl5 (by decide), fact_left hinv.out.fact hl5⟩⟩
                  case measure => simp [intOf]; omega
              · as_aux_lemma =>
                  have e1 : decide ((j : Int) < 10 + t % 60) = true := decide_eq_true h1
                  have e2 : decide (0 < t % 60) = false := decide_eq_false h2
                  have e3 : (t % 60 == 0) = true := by rw [beq_iff_eq]; omega
                  have e4 : decide (10 + t % 60 ≤ (j : Int)) = false := decide_eq_false (by omega)
                  have e5 : decide ((j : Int) < 10 + t % 60 + win % 60) = false := decide_eq_false h3
                  have hF : fitsF (j : Int) s = false := iff_false hsays.1 (by omega)
                  have hS : fitsS (j : Int) (win % 60) s = false := iff_false hsays.2 (by omega)
                  clear hsays h1 h2 h3
                  go_wp2_with fail
                  go_at_call 15
                  refine (get_any wr w.heap.size C 5 (win % 60) k [s] HCA.out.1 (by have := HCA.out.2.1; omega) na nl nc nm 1 (HNM.out.1.below hinv.out.bel (Nat.le_refl _)) HSZ.out (j : Int)).mono ?_
                  rw [HFF.out, if_neg (by rw [hF]; decide)]
                  rintro e Y ⟨⟨xh, rfl, hox⟩, hca, hleft⟩
                  have HOX := Lib.hid hox
                  clear hox
                  simp only [factO, Option.map_none, Option.getD_none, Option.isSome_none, factC]
                  have hbY : Below Y.heap.size Y (Y.alloc (.cells (factC xh zF) 36)) := (Below.refl _ _).alloc (Nat.le_refl _) _
                  have HY := Lib.hid (And.intro hca (And.intro hleft hbY))
                  clear hca hleft hbY
                  go_wp2_with fail
                  go_at_call 17
                  refine (old_any (Y.alloc (.cells (factC xh zF) 36)) w.heap.size C 5 (win % 60) k [s] (HY.out.1.on HY.out.2.2) (by have := HCA.out.2.1; omega) na nl nc nm 1 (HNM.out.1.below ((hinv.out.bel.trans HY.out.2.1.bel).trans (HY.out.2.2.mono (by have := hinv.out.bel.size; have := HY.out.2.1.bel.size; omega))) (Nat.le_refl _)) HSZ.out (j : Int)).mono ?_
                  rw [show oldO [s] nm 1 (j : Int) (win % 60) = none by rw [oldO, HFF.out, if_neg (by rw [hF]; decide), HFS.out, if_neg (by rw [hS]; decide)]]
                  rintro e Y2 ⟨⟨yh, rfl, hoy⟩, hca2, hleft2⟩
                  have HOY := Lib.hid hoy
                  clear hoy
                  have hbY2 : Below Y2.heap.size Y2 (Y2.alloc (.cells (factC yh zF) 36)) := (Below.refl _ _).alloc (Nat.le_refl _) _
                  have HLT := Lib.hid (((HY.out.2.1.trans (Left.below HY.out.2.2 (by have := hinv.out.bel.size; have := HY.out.2.1.bel.size; omega))).trans hleft2).trans (Left.below hbY2 (by have := hinv.out.bel.size; have := HY.out.2.1.bel.size; have := HY.out.2.2.size; have := hleft2.bel.size; omega)))
                  have HC3 := Lib.hid (hca2.on hbY2)
                  clear hbY2 hca2 hleft2 hF hS
                  simp only [factO, Option.map_none, Option.getD_none, Option.isSome_none, factC]
                  go_wp2_with fail
                  go_roundw
                  case rel => exact ⟨j + 1, by omega, by go_num, Lib.hid ⟨hinv.out.bel.trans HLT.out.bel, ⟨_, _, HC3.out, by simp only [usedK]; have := HCA.out.2.1; omega, HCA.out.2.2⟩, blk_left hinv.out.blk HLT.out (by decide), fact_left hinv.out.fact HLT.out⟩⟩
                  case measure => simp [intOf]; omega
          · by_cases h2 : 0 < t % 60
            · by_cases h3 : (j : Int) < 10 + t % 60 + win % 60
              · as_aux_lemma =>
                  have e1 : decide ((j : Int) < 10 + t % 60) = false := decide_eq_false h1
                  have e2 : decide (0 < t % 60) = true := decide_eq_true h2
                  have e3 : (t % 60 == 0) = false := beq_false_of_ne (by omega)
                  have e4 : decide (10 + t % 60 ≤ (j : Int)) = true := decide_eq_true (by omega)
                  have e5 : decide ((j : Int) < 10 + t % 60 + win % 60) = true := decide_eq_true (by omega)
                  have hF : fitsF (j : Int) s = false := iff_false hsays.1 (by omega)
                  have hS : fitsS (j : Int) (win % 60) s = true := hsays.2.2 ⟨by omega, by omega⟩
                  clear hsays h1 h2 h3
                  go_wp2_with fail
                  go_at_call 15
                  refine (get_any wr w.heap.size C 5 (win % 60) k [s] HCA.out.1 (by have := HCA.out.2.1; omega) na nl nc nm 1 (HNM.out.1.below hinv.out.bel (Nat.le_refl _)) HSZ.out (j : Int)).mono ?_
                  rw [HFF.out, if_neg (by rw [hF]; decide)]
                  rintro e Y ⟨⟨xh, rfl, hox⟩, hca, hleft⟩
                  have HOX := Lib.hid hox
                  clear hox
                  simp only [factO, Option.map_none, Option.getD_none, Option.isSome_none, factC]
                  have hbY : Below Y.heap.size Y (Y.alloc (.cells (factC xh zF) 36)) := (Below.refl _ _).alloc (Nat.le_refl _) _
                  have HY := Lib.hid (And.intro hca (And.intro hleft hbY))
                  clear hca hleft hbY
                  go_wp2_with fail
                  go_at_call 17
                  refine (old_any (Y.alloc (.cells (factC xh zF) 36)) w.heap.size C 5 (win % 60) k [s] (HY.out.1.on HY.out.2.2) (by have := HCA.out.2.1; omega) na nl nc nm 1 (HNM.out.1.below ((hinv.out.bel.trans HY.out.2.1.bel).trans (HY.out.2.2.mono (by have := hinv.out.bel.size; have := HY.out.2.1.bel.size; omega))) (Nat.le_refl _)) HSZ.out (j : Int)).mono ?_
                  rw [show oldO [s] nm 1 (j : Int) (win % 60) = some s by rw [oldO, HFF.out, if_neg (by rw [hF]; decide), HFS.out, if_pos hS]]
                  rintro e Y2 ⟨⟨yh, rfl, hoy⟩, hca2, hleft2⟩
                  rw [used_one] at hca2
                  have HOY := Lib.hid hoy
                  clear hoy
                  have hbY2 : Below Y2.heap.size Y2 (Y2.alloc (.cells (factC yh s.f) 36)) := (Below.refl _ _).alloc (Nat.le_refl _) _
                  have HLT := Lib.hid (((HY.out.2.1.trans (Left.below HY.out.2.2 (by have := hinv.out.bel.size; have := HY.out.2.1.bel.size; omega))).trans hleft2).trans (Left.below hbY2 (by have := hinv.out.bel.size; have := HY.out.2.1.bel.size; have := HY.out.2.2.size; have := hleft2.bel.size; omega)))
                  have HC3 := Lib.hid (hca2.on hbY2)
                  have hBX : Blk (Y2.alloc (.cells (factC yh s.f) 36)) Y2.heap.size (factC yh s.f) 36 := heap_alloc_new Y2 _
                  have HFX := Lib.hid ((HOY.out.mono (fun _ _ ht => ht.1)).step (Same.below hbY2 _))
                  have hBF := blk_left hinv.out.blk HLT.out (by decide)
                  have m0 : (Y2.alloc (.cells (factC yh s.f) 36)).cell? ⟨Y2.heap.size, 0, none⟩ = some (.slice yh.na yh.nl yh.nc) := hBX.cell 0
                  have m1 : (Y2.alloc (.cells (factC yh s.f) 36)).cell? ⟨Y2.heap.size, 1, none⟩ = some (.int .i64 s.f.typ) := hBX.cell 1
                  have m2 : (Y2.alloc (.cells (factC yh s.f) 36)).cell? ⟨Y2.heap.size, 2, none⟩ = some (.int .i64 s.f.kind) := hBX.cell 2
                  have m3 : (Y2.alloc (.cells (factC yh s.f) 36)).cell? ⟨Y2.heap.size, 3, none⟩ = some (.int .i64 s.f.rank) := hBX.cell 3
                  have m4 : (Y2.alloc (.cells (factC yh s.f) 36)).cell? ⟨Y2.heap.size, 4, none⟩ = some (.int .i64 s.f.got) := hBX.cell 4
                  have m5 : (Y2.alloc (.cells (factC yh s.f) 36)).cell? ⟨Y2.heap.size, 5, none⟩ = some (.int .i64 s.f.ttl) := hBX.cell 5
                  have m6 : (Y2.alloc (.cells (factC yh s.f) 36)).cell? ⟨Y2.heap.size, 6, none⟩ = some (.slice yh.sa yh.sl yh.sc) := hBX.cell 6
                  have m7 : (Y2.alloc (.cells (factC yh s.f) 36)).cell? ⟨Y2.heap.size, 7, none⟩ = some (.slice yh.za yh.zl yh.zc) := hBX.cell 7
                  have m8 : (Y2.alloc (.cells (factC yh s.f) 36)).cell? ⟨Y2.heap.size, 8, none⟩ = some (.slice yh.d.ba yh.d.bl yh.d.bc) := hBX.cell 8
                  have m9 : (Y2.alloc (.cells (factC yh s.f) 36)).cell? ⟨Y2.heap.size, 9, none⟩ = some (.slice yh.d.ha yh.d.hl yh.d.hc) := hBX.cell 9
                  have m10 : (Y2.alloc (.cells (factC yh s.f) 36)).cell? ⟨Y2.heap.size, 10, none⟩ = some (.slice yh.d.ma yh.d.ml yh.d.mc) := hBX.cell 10
                  have m11 : (Y2.alloc (.cells (factC yh s.f) 36)).cell? ⟨Y2.heap.size, 11, none⟩ = some (.slice yh.d.na yh.d.nl yh.d.nc) := hBX.cell 11
                  have m12 : (Y2.alloc (.cells (factC yh s.f) 36)).cell? ⟨Y2.heap.size, 12, none⟩ = some (.slice yh.d.ta yh.d.tl yh.d.tc) := hBX.cell 12
                  have n0 : (Y2.alloc (.cells (factC yh s.f) 36)).cell? ⟨W4.heap.size + 1 + 1, 0, none⟩ = some ((factC (hStale true a' nl c' W4.heap.size) (fStale true nm (t % 60)))[0]'(by simp [factC])) := hBF.cell 0
                  have n1 : (Y2.alloc (.cells (factC yh s.f) 36)).cell? ⟨W4.heap.size + 1 + 1, 1, none⟩ = some ((factC (hStale true a' nl c' W4.heap.size) (fStale true nm (t % 60)))[1]'(by simp [factC])) := hBF.cell 1
                  have n2 : (Y2.alloc (.cells (factC yh s.f) 36)).cell? ⟨W4.heap.size + 1 + 1, 2, none⟩ = some ((factC (hStale true a' nl c' W4.heap.size) (fStale true nm (t % 60)))[2]'(by simp [factC])) := hBF.cell 2
                  have n3 : (Y2.alloc (.cells (factC yh s.f) 36)).cell? ⟨W4.heap.size + 1 + 1, 3, none⟩ = some ((factC (hStale true a' nl c' W4.heap.size) (fStale true nm (t % 60)))[3]'(by simp [factC])) := hBF.cell 3
                  have n4 : (Y2.alloc (.cells (factC yh s.f) 36)).cell? ⟨W4.heap.size + 1 + 1, 4, none⟩ = some ((factC (hStale true a' nl c' W4.heap.size) (fStale true nm (t % 60)))[4]'(by simp [factC])) := hBF.cell 4
                  have n5 : (Y2.alloc (.cells (factC yh s.f) 36)).cell? ⟨W4.heap.size + 1 + 1, 5, none⟩ = some ((factC (hStale true a' nl c' W4.heap.size) (fStale true nm (t % 60)))[5]'(by simp [factC])) := hBF.cell 5
                  have n6 : (Y2.alloc (.cells (factC yh s.f) 36)).cell? ⟨W4.heap.size + 1 + 1, 6, none⟩ = some ((factC (hStale true a' nl c' W4.heap.size) (fStale true nm (t % 60)))[6]'(by simp [factC])) := hBF.cell 6
                  have n7 : (Y2.alloc (.cells (factC yh s.f) 36)).cell? ⟨W4.heap.size + 1 + 1, 7, none⟩ = some ((factC (hStale true a' nl c' W4.heap.size) (fStale true nm (t % 60)))[7]'(by simp [factC])) := hBF.cell 7
                  have n8 : (Y2.alloc (.cells (factC yh s.f) 36)).cell? ⟨W4.heap.size + 1 + 1, 8, none⟩ = some ((factC (hStale true a' nl c' W4.heap.size) (fStale true nm (t % 60)))[8]'(by simp [factC])) := hBF.cell 8
                  have n9 : (Y2.alloc (.cells (factC yh s.f) 36)).cell? ⟨W4.heap.size + 1 + 1, 9, none⟩ = some ((factC (hStale true a' nl c' W4.heap.size) (fStale true nm (t % 60)))[9]'(by simp [factC])) := hBF.cell 9
                  have n10 : (Y2.alloc (.cells (factC yh s.f) 36)).cell? ⟨W4.heap.size + 1 + 1, 10, none⟩ = some ((factC (hStale true a' nl c' W4.heap.size) (fStale true nm (t % 60)))[10]'(by simp [factC])) := hBF.cell 10
                  have n11 : (Y2.alloc (.cells (factC yh s.f) 36)).cell? ⟨W4.heap.size + 1 + 1, 11, none⟩ = some ((factC (hStale true a' nl c' W4.heap.size) (fStale true nm (t % 60)))[11]'(by simp [factC])) := hBF.cell 11
                  have n12 : (Y2.alloc (.cells (factC yh s.f) 36)).cell? ⟨W4.heap.size + 1 + 1, 12, none⟩ = some ((factC (hStale true a' nl c' W4.heap.size) (fStale true nm (t % 60)))[12]'(by simp [factC])) := hBF.cell 12
                  simp only [factC, hStale, fStale, List.getElem_toArray, List.getElem_cons_zero, List.getElem_cons_succ] at m0 n0 m1 n1 m2 n2 m3 n3 m4 n4 m5 n5 m6 n6 m7 n7 m8 n8 m9 n9 m10 n10 m11 n11 m12 n12
                  have HSM := Lib.hid (rsame12_any (Y2.alloc (.cells (factC yh s.f) 36)) _ _ yh (hStale true a' nl c' W4.heap.size) s.f (fStale true nm (t % 60)) HFX.out (fact_left hinv.out.fact HLT.out))
                  rw [show sameF s.f (fStale true nm (t % 60)) = true by rw [HCA.out.2.2]; exact sameF_refl (fStale_ok HSD.out ht1.1 ht1.2)] at HSM
                  simp only [factC, hStale, fStale] at HSM
                  clear hBX hBF
                  clear hbY2 hca2 hleft2 hF hS
                  simp only [factO, Option.map_some, Option.getD_some, Option.isSome_some, factC]
                  go_wp2_with (go_at_call 13; go_loud (refine HSM.out.mono ?_; rintro e W5 ⟨rfl, hb5⟩; have HB5 := Lib.hid hb5; clear hb5))
                  go_roundw
                  case rel =>
                    have hl5 := HLT.out.trans (Left.below HB5.out (by have := hinv.out.bel.size; have := HLT.out.bel.size; omega))
                    exact ⟨j + 1, by omega, by go_num, Lib.hid ⟨hinv.out.bel.trans hl5.bel, ⟨_, _, HC3.out.on HB5.out, by simp only [usedK]; have := HCA.out.2.1; omega, HCA.out.2.2⟩, blk_left hinv.out.blk hl5 (by decide), fact_left hinv.out.fact hl5⟩⟩
                  case measure => simp [intOf]; omega
              · as_aux_lemma =>
                  have e1 : decide ((j : Int) < 10 + t % 60) = false := decide_eq_false h1
                  have e2 : decide (0 < t % 60) = true := decide_eq_true h2
                  have e3 : (t % 60 == 0) = false := beq_false_of_ne (by omega)
                  have e4 : decide (10 + t % 60 ≤ (j : Int)) = true := decide_eq_true (by omega)
                  have e5 : decide ((j : Int) < 10 + t % 60 + win % 60) = false := decide_eq_false h3
                  have hF : fitsF (j : Int) s = false := iff_false hsays.1 (by omega)
                  have hS : fitsS (j : Int) (win % 60) s = false := iff_false hsays.2 (by omega)
                  clear hsays h1 h2 h3
                  go_wp2_with fail
                  go_at_call 15
                  refine (get_any wr w.heap.size C 5 (win % 60) k [s] HCA.out.1 (by have := HCA.out.2.1; omega) na nl nc nm 1 (HNM.out.1.below hinv.out.bel (Nat.le_refl _)) HSZ.out (j : Int)).mono ?_
                  rw [HFF.out, if_neg (by rw [hF]; decide)]
                  rintro e Y ⟨⟨xh, rfl, hox⟩, hca, hleft⟩
                  have HOX := Lib.hid hox
                  clear hox
                  simp only [factO, Option.map_none, Option.getD_none, Option.isSome_none, factC]
                  have hbY : Below Y.heap.size Y (Y.alloc (.cells (factC xh zF) 36)) := (Below.refl _ _).alloc (Nat.le_refl _) _
                  have HY := Lib.hid (And.intro hca (And.intro hleft hbY))
                  clear hca hleft hbY
                  go_wp2_with fail
                  go_at_call 17
                  refine (old_any (Y.alloc (.cells (factC xh zF) 36)) w.heap.size C 5 (win % 60) k [s] (HY.out.1.on HY.out.2.2) (by have := HCA.out.2.1; omega) na nl nc nm 1 (HNM.out.1.below ((hinv.out.bel.trans HY.out.2.1.bel).trans (HY.out.2.2.mono (by have := hinv.out.bel.size; have := HY.out.2.1.bel.size; omega))) (Nat.le_refl _)) HSZ.out (j : Int)).mono ?_
                  rw [show oldO [s] nm 1 (j : Int) (win % 60) = none by rw [oldO, HFF.out, if_neg (by rw [hF]; decide), HFS.out, if_neg (by rw [hS]; decide)]]
                  rintro e Y2 ⟨⟨yh, rfl, hoy⟩, hca2, hleft2⟩
                  have HOY := Lib.hid hoy
                  clear hoy
                  have hbY2 : Below Y2.heap.size Y2 (Y2.alloc (.cells (factC yh zF) 36)) := (Below.refl _ _).alloc (Nat.le_refl _) _
                  have HLT := Lib.hid (((HY.out.2.1.trans (Left.below HY.out.2.2 (by have := hinv.out.bel.size; have := HY.out.2.1.bel.size; omega))).trans hleft2).trans (Left.below hbY2 (by have := hinv.out.bel.size; have := HY.out.2.1.bel.size; have := HY.out.2.2.size; have := hleft2.bel.size; omega)))
                  have HC3 := Lib.hid (hca2.on hbY2)
                  clear hbY2 hca2 hleft2 hF hS
                  simp only [factO, Option.map_none, Option.getD_none, Option.isSome_none, factC]
                  go_wp2_with fail
                  go_roundw
                  case rel => exact ⟨j + 1, by omega, by go_num, Lib.hid ⟨hinv.out.bel.trans HLT.out.bel, ⟨_, _, HC3.out, by simp only [usedK]; have := HCA.out.2.1; omega, HCA.out.2.2⟩, blk_left hinv.out.blk HLT.out (by decide), fact_left hinv.out.fact HLT.out⟩⟩
                  case measure => simp [intOf]; omega
            · by_cases h3 : (j : Int) < 10 + t % 60 + win % 60
              · as_aux_lemma =>
                  have e1 : decide ((j : Int) < 10 + t % 60) = false := decide_eq_false h1
                  have e2 : decide (0 < t % 60) = false := decide_eq_false h2
                  have e3 : (t % 60 == 0) = true := by rw [beq_iff_eq]; omega
                  have e4 : decide (10 + t % 60 ≤ (j : Int)) = true := decide_eq_true (by omega)
                  have e5 : decide ((j : Int) < 10 + t % 60 + win % 60) = true := decide_eq_true (by omega)
                  have hF : fitsF (j : Int) s = false := iff_false hsays.1 (by omega)
                  have hS : fitsS (j : Int) (win % 60) s = true := hsays.2.2 ⟨by omega, by omega⟩
                  clear hsays h1 h2 h3
                  go_wp2_with fail
                  go_at_call 15
                  refine (get_any wr w.heap.size C 5 (win % 60) k [s] HCA.out.1 (by have := HCA.out.2.1; omega) na nl nc nm 1 (HNM.out.1.below hinv.out.bel (Nat.le_refl _)) HSZ.out (j : Int)).mono ?_
                  rw [HFF.out, if_neg (by rw [hF]; decide)]
                  rintro e Y ⟨⟨xh, rfl, hox⟩, hca, hleft⟩
                  have HOX := Lib.hid hox
                  clear hox
                  simp only [factO, Option.map_none, Option.getD_none, Option.isSome_none, factC]
                  have hbY : Below Y.heap.size Y (Y.alloc (.cells (factC xh zF) 36)) := (Below.refl _ _).alloc (Nat.le_refl _) _
                  have HY := Lib.hid (And.intro hca (And.intro hleft hbY))
                  clear hca hleft hbY
                  go_wp2_with fail
                  go_at_call 17
                  refine (old_any (Y.alloc (.cells (factC xh zF) 36)) w.heap.size C 5 (win % 60) k [s] (HY.out.1.on HY.out.2.2) (by have := HCA.out.2.1; omega) na nl nc nm 1 (HNM.out.1.below ((hinv.out.bel.trans HY.out.2.1.bel).trans (HY.out.2.2.mono (by have := hinv.out.bel.size; have := HY.out.2.1.bel.size; omega))) (Nat.le_refl _)) HSZ.out (j : Int)).mono ?_
                  rw [show oldO [s] nm 1 (j : Int) (win % 60) = some s by rw [oldO, HFF.out, if_neg (by rw [hF]; decide), HFS.out, if_pos hS]]
                  rintro e Y2 ⟨⟨yh, rfl, hoy⟩, hca2, hleft2⟩
                  rw [used_one] at hca2
                  have HOY := Lib.hid hoy
                  clear hoy
                  have hbY2 : Below Y2.heap.size Y2 (Y2.alloc (.cells (factC yh s.f) 36)) := (Below.refl _ _).alloc (Nat.le_refl _) _
                  have HLT := Lib.hid (((HY.out.2.1.trans (Left.below HY.out.2.2 (by have := hinv.out.bel.size; have := HY.out.2.1.bel.size; omega))).trans hleft2).trans (Left.below hbY2 (by have := hinv.out.bel.size; have := HY.out.2.1.bel.size; have := HY.out.2.2.size; have := hleft2.bel.size; omega)))
                  have HC3 := Lib.hid (hca2.on hbY2)
                  have hBX : Blk (Y2.alloc (.cells (factC yh s.f) 36)) Y2.heap.size (factC yh s.f) 36 := heap_alloc_new Y2 _
                  have HFX := Lib.hid ((HOY.out.mono (fun _ _ ht => ht.1)).step (Same.below hbY2 _))
                  have hBF := blk_left hinv.out.blk HLT.out (by decide)
                  have m0 : (Y2.alloc (.cells (factC yh s.f) 36)).cell? ⟨Y2.heap.size, 0, none⟩ = some (.slice yh.na yh.nl yh.nc) := hBX.cell 0
                  have m1 : (Y2.alloc (.cells (factC yh s.f) 36)).cell? ⟨Y2.heap.size, 1, none⟩ = some (.int .i64 s.f.typ) := hBX.cell 1
                  have m2 : (Y2.alloc (.cells (factC yh s.f) 36)).cell? ⟨Y2.heap.size, 2, none⟩ = some (.int .i64 s.f.kind) := hBX.cell 2
                  have m3 : (Y2.alloc (.cells (factC yh s.f) 36)).cell? ⟨Y2.heap.size, 3, none⟩ = some (.int .i64 s.f.rank) := hBX.cell 3
                  have m4 : (Y2.alloc (.cells (factC yh s.f) 36)).cell? ⟨Y2.heap.size, 4, none⟩ = some (.int .i64 s.f.got) := hBX.cell 4
                  have m5 : (Y2.alloc (.cells (factC yh s.f) 36)).cell? ⟨Y2.heap.size, 5, none⟩ = some (.int .i64 s.f.ttl) := hBX.cell 5
                  have m6 : (Y2.alloc (.cells (factC yh s.f) 36)).cell? ⟨Y2.heap.size, 6, none⟩ = some (.slice yh.sa yh.sl yh.sc) := hBX.cell 6
                  have m7 : (Y2.alloc (.cells (factC yh s.f) 36)).cell? ⟨Y2.heap.size, 7, none⟩ = some (.slice yh.za yh.zl yh.zc) := hBX.cell 7
                  have m8 : (Y2.alloc (.cells (factC yh s.f) 36)).cell? ⟨Y2.heap.size, 8, none⟩ = some (.slice yh.d.ba yh.d.bl yh.d.bc) := hBX.cell 8
                  have m9 : (Y2.alloc (.cells (factC yh s.f) 36)).cell? ⟨Y2.heap.size, 9, none⟩ = some (.slice yh.d.ha yh.d.hl yh.d.hc) := hBX.cell 9
                  have m10 : (Y2.alloc (.cells (factC yh s.f) 36)).cell? ⟨Y2.heap.size, 10, none⟩ = some (.slice yh.d.ma yh.d.ml yh.d.mc) := hBX.cell 10
                  have m11 : (Y2.alloc (.cells (factC yh s.f) 36)).cell? ⟨Y2.heap.size, 11, none⟩ = some (.slice yh.d.na yh.d.nl yh.d.nc) := hBX.cell 11
                  have m12 : (Y2.alloc (.cells (factC yh s.f) 36)).cell? ⟨Y2.heap.size, 12, none⟩ = some (.slice yh.d.ta yh.d.tl yh.d.tc) := hBX.cell 12
                  have n0 : (Y2.alloc (.cells (factC yh s.f) 36)).cell? ⟨W4.heap.size + 1 + 1, 0, none⟩ = some ((factC (hStale true a' nl c' W4.heap.size) (fStale true nm (t % 60)))[0]'(by simp [factC])) := hBF.cell 0
                  have n1 : (Y2.alloc (.cells (factC yh s.f) 36)).cell? ⟨W4.heap.size + 1 + 1, 1, none⟩ = some ((factC (hStale true a' nl c' W4.heap.size) (fStale true nm (t % 60)))[1]'(by simp [factC])) := hBF.cell 1
                  have n2 : (Y2.alloc (.cells (factC yh s.f) 36)).cell? ⟨W4.heap.size + 1 + 1, 2, none⟩ = some ((factC (hStale true a' nl c' W4.heap.size) (fStale true nm (t % 60)))[2]'(by simp [factC])) := hBF.cell 2
                  have n3 : (Y2.alloc (.cells (factC yh s.f) 36)).cell? ⟨W4.heap.size + 1 + 1, 3, none⟩ = some ((factC (hStale true a' nl c' W4.heap.size) (fStale true nm (t % 60)))[3]'(by simp [factC])) := hBF.cell 3
                  have n4 : (Y2.alloc (.cells (factC yh s.f) 36)).cell? ⟨W4.heap.size + 1 + 1, 4, none⟩ = some ((factC (hStale true a' nl c' W4.heap.size) (fStale true nm (t % 60)))[4]'(by simp [factC])) := hBF.cell 4
                  have n5 : (Y2.alloc (.cells (factC yh s.f) 36)).cell? ⟨W4.heap.size + 1 + 1, 5, none⟩ = some ((factC (hStale true a' nl c' W4.heap.size) (fStale true nm (t % 60)))[5]'(by simp [factC])) := hBF.cell 5
                  have n6 : (Y2.alloc (.cells (factC yh s.f) 36)).cell? ⟨W4.heap.size + 1 + 1, 6, none⟩ = some ((factC (hStale true a' nl c' W4.heap.size) (fStale true nm (t % 60)))[6]'(by simp [factC])) := hBF.cell 6
                  have n7 : (Y2.alloc (.cells (factC yh s.f) 36)).cell? ⟨W4.heap.size + 1 + 1, 7, none⟩ = some ((factC (hStale true a' nl c' W4.heap.size) (fStale true nm (t % 60)))[7]'(by simp [factC])) := hBF.cell 7
                  have n8 : (Y2.alloc (.cells (factC yh s.f) 36)).cell? ⟨W4.heap.size + 1 + 1, 8, none⟩ = some ((factC (hStale true a' nl c' W4.heap.size) (fStale true nm (t % 60)))[8]'(by simp [factC])) := hBF.cell 8
                  have n9 : (Y2.alloc (.cells (factC yh s.f) 36)).cell? ⟨W4.heap.size + 1 + 1, 9, none⟩ = some ((factC (hStale true a' nl c' W4.heap.size) (fStale true nm (t % 60)))[9]'(by simp [factC])) := hBF.cell 9
                  have n10 : (Y2.alloc (.cells (factC yh s.f) 36)).cell? ⟨W4.heap.size + 1 + 1, 10, none⟩ = some ((factC (hStale true a' nl c' W4.heap.size) (fStale true nm (t % 60)))[10]'(by simp [factC])) := hBF.cell 10
                  have n11 : (Y2.alloc (.cells (factC yh s.f) 36)).cell? ⟨W4.heap.size + 1 + 1, 11, none⟩ = some ((factC (hStale true a' nl c' W4.heap.size) (fStale true nm (t % 60)))[11]'(by simp [factC])) := hBF.cell 11
                  have n12 : (Y2.alloc (.cells (factC yh s.f) 36)).cell? ⟨W4.heap.size + 1 + 1, 12, none⟩ = some ((factC (hStale true a' nl c' W4.heap.size) (fStale true nm (t % 60)))[12]'(by simp [factC])) := hBF.cell 12
                  simp only [factC, hStale, fStale, List.getElem_toArray, List.getElem_cons_zero, List.getElem_cons_succ] at m0 n0 m1 n1 m2 n2 m3 n3 m4 n4 m5 n5 m6 n6 m7 n7 m8 n8 m9 n9 m10 n10 m11 n11 m12 n12
                  have HSM := Lib.hid (rsame12_any (Y2.alloc (.cells (factC yh s.f) 36)) _ _ yh (hStale true a' nl c' W4.heap.size) s.f (fStale true nm (t % 60)) HFX.out (fact_left hinv.out.fact HLT.out))
                  rw [show sameF s.f (fStale true nm (t % 60)) = true by rw [HCA.out.2.2]; exact sameF_refl (fStale_ok HSD.out ht1.1 ht1.2)] at HSM
                  simp only [factC, hStale, fStale] at HSM
                  clear hBX hBF
                  clear hbY2 hca2 hleft2 hF hS
                  simp only [factO, Option.map_some, Option.getD_some, Option.isSome_some, factC]
                  go_wp2_with (go_at_call 13; go_loud (refine HSM.out.mono ?_; rintro e W5 ⟨rfl, hb5⟩; have HB5 := Lib.hid hb5; clear hb5))
                  go_roundw
                  case rel =>
                    have hl5 := HLT.out.trans (Left.below HB5.out (by have := hinv.out.bel.size; have := HLT.out.bel.size; omega))
                    exact ⟨j + 1, by omega, by go_num, Lib.hid ⟨hinv.out.bel.trans hl5.bel, ⟨_, _, HC3.out.on HB5.out, by simp only [usedK]; have := HCA.out.2.1; omega, HCA.out.2.2⟩, blk_left hinv.out.blk hl5 (by decide), fact_left hinv.out.fact hl5⟩⟩
                  case measure => simp [intOf]; omega
              · as_aux_lemma =>
                  have e1 : decide ((j : Int) < 10 + t % 60) = false := decide_eq_false h1
                  have e2 : decide (0 < t % 60) = false := decide_eq_false h2
                  have e3 : (t % 60 == 0) = true := by rw [beq_iff_eq]; omega
                  have e4 : decide (10 + t % 60 ≤ (j : Int)) = true := decide_eq_true (by omega)
                  have e5 : decide ((j : Int) < 10 + t % 60 + win % 60) = false := decide_eq_false h3
                  have hF : fitsF (j : Int) s = false := iff_false hsays.1 (by omega)
                  have hS : fitsS (j : Int) (win % 60) s = false := iff_false hsays.2 (by omega)
                  clear hsays h1 h2 h3
                  go_wp2_with fail
                  go_at_call 15
                  refine (get_any wr w.heap.size C 5 (win % 60) k [s] HCA.out.1 (by have := HCA.out.2.1; omega) na nl nc nm 1 (HNM.out.1.below hinv.out.bel (Nat.le_refl _)) HSZ.out (j : Int)).mono ?_
                  rw [HFF.out, if_neg (by rw [hF]; decide)]
                  rintro e Y ⟨⟨xh, rfl, hox⟩, hca, hleft⟩
                  have HOX := Lib.hid hox
                  clear hox
                  simp only [factO, Option.map_none, Option.getD_none, Option.isSome_none, factC]
                  have hbY : Below Y.heap.size Y (Y.alloc (.cells (factC xh zF) 36)) := (Below.refl _ _).alloc (Nat.le_refl _) _
                  have HY := Lib.hid (And.intro hca (And.intro hleft hbY))
                  clear hca hleft hbY
                  go_wp2_with fail
                  go_at_call 17
                  refine (old_any (Y.alloc (.cells (factC xh zF) 36)) w.heap.size C 5 (win % 60) k [s] (HY.out.1.on HY.out.2.2) (by have := HCA.out.2.1; omega) na nl nc nm 1 (HNM.out.1.below ((hinv.out.bel.trans HY.out.2.1.bel).trans (HY.out.2.2.mono (by have := hinv.out.bel.size; have := HY.out.2.1.bel.size; omega))) (Nat.le_refl _)) HSZ.out (j : Int)).mono ?_
                  rw [show oldO [s] nm 1 (j : Int) (win % 60) = none by rw [oldO, HFF.out, if_neg (by rw [hF]; decide), HFS.out, if_neg (by rw [hS]; decide)]]
                  rintro e Y2 ⟨⟨yh, rfl, hoy⟩, hca2, hleft2⟩
                  have HOY := Lib.hid hoy
                  clear hoy
                  have hbY2 : Below Y2.heap.size Y2 (Y2.alloc (.cells (factC yh zF) 36)) := (Below.refl _ _).alloc (Nat.le_refl _) _
                  have HLT := Lib.hid (((HY.out.2.1.trans (Left.below HY.out.2.2 (by have := hinv.out.bel.size; have := HY.out.2.1.bel.size; omega))).trans hleft2).trans (Left.below hbY2 (by have := hinv.out.bel.size; have := HY.out.2.1.bel.size; have := HY.out.2.2.size; have := hleft2.bel.size; omega)))
                  have HC3 := Lib.hid (hca2.on hbY2)
                  clear hbY2 hca2 hleft2 hF hS
                  simp only [factO, Option.map_none, Option.getD_none, Option.isSome_none, factC]
                  go_wp2_with fail
                  go_roundw
                  case rel => exact ⟨j + 1, by omega, by go_num, Lib.hid ⟨hinv.out.bel.trans HLT.out.bel, ⟨_, _, HC3.out, by simp only [usedK]; have := HCA.out.2.1; omega, HCA.out.2.2⟩, blk_left hinv.out.blk HLT.out (by decide), fact_left hinv.out.fact HLT.out⟩⟩
                  case measure => simp [intOf]; omega
        · go_wp2_with fail
          go_ret
          exact ⟨rfl, hinv.out.bel⟩
end Go.Proofs.Ytpemdieejgldiaa

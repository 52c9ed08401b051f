/- The contract of name.unescape. -/
import Derived.Test.YtipbakdodbmfjaaGreatDoorPar
import Derived.Test.YtipbakdodbmfjaaGreatDoorSmall
import Derived.Test.YtipbakdodbmfjaaGreatDoorEqual
import Derived.Test.YtipbakdodbmfjaaGreatDoorBuilder
import Derived.Test.YtipbakdodbmfjaaGreatDoorShelfB
import Derived.Lib.Strings
import Derived.WalkSpells
namespace Go.Proofs.YtipbakdodbmfjaaGreatDoor
open Go.ChangeShapes Go.WideShapes Go.ChangeAt Go.RowKit
/-- the library's two errors lie in their variables -/
def Errs (w : World) : Prop := (∃ t p, w.cell? ⟨3, 0, none⟩ = some (.iface t p)) ∧ (∃ t p, w.cell? ⟨4, 0, none⟩ = some (.iface t p))
theorem Errs.on {w w' : World} (h : Errs w) (hb : Below w.heap.size w w') : Errs w' := by
  obtain ⟨⟨t, p, h1⟩, ⟨t2, p2, h2⟩⟩ := h
  exact ⟨⟨t, p, cell_keep hb h1⟩, ⟨t2, p2, cell_keep hb h2⟩⟩

theorem below_bytes (w : World) (e : TypeId) (s : ByteArray) : Below w.heap.size w (Lib.bytesWorld w e s) := by
  refine ⟨?_, ?_, ?_, by rw [Lib.bytesWorld_size]; omega, fun k hk => Lib.bytesWorld_at_old w e s k hk⟩
  all_goals
    unfold Lib.bytesWorld World.freeze
    split <;> rfl
theorem pu_step (M acc : Nat) (c : UInt8) (r : List UInt8) (h : acc < 1844674407370955162) :
    Lib.parseUintM M acc (c :: r) = if digB c then (if M < acc * 10 + (c.toNat - 48) then .range else Lib.parseUintM M (acc * 10 + (c.toNat - 48)) r) else .syntax := by
  simp only [Lib.parseUintM, digB, decide_eq_true_eq]
  rw [if_neg (by omega : ¬ 1844674407370955162 ≤ acc)]
theorem digB_le {c : UInt8} (h : digB c = true) : 48 ≤ c.toNat ∧ c.toNat ≤ 57 := by simpa [digB] using h
/-- three bytes, the first of them a digit, as a number of eight bits -/
theorem pu_three (c d e : UInt8) (hc : digB c = true) :
    Lib.parseUintB 8 [c, d, e] = if digB d && digB e then (if num3 c d e ≤ 255 then .ok (num3 c d e) else .range) else .syntax := by
  have h1 := digB_le hc
  rw [Lib.parseUintB, if_neg (by simp), show 2 ^ 8 - 1 = 255 from rfl, pu_step _ _ _ _ (by omega), hc, if_pos rfl, if_neg (by omega), pu_step _ _ _ _ (by omega)]
  cases hd : digB d
  · simp
  · have h2 := digB_le hd
    rw [if_pos rfl, if_neg (by omega), pu_step _ _ _ _ (by omega)]
    cases he : digB e
    · simp
    · have h3 := digB_le he
      have hn : (0 * 10 + (c.toNat - 48)) * 10 + (d.toNat - 48) = (c.toNat - 48) * 10 + (d.toNat - 48) := by omega
      rw [if_pos rfl]
      simp only [Bool.and_self, if_true]
      by_cases hb : num3 c d e ≤ 255
      · rw [if_pos hb, if_neg (by unfold num3 at hb; omega)]
        simp only [Lib.parseUintM]
        congr 1
        unfold num3; omega
      · rw [if_neg hb, if_pos (by unfold num3 at hb; omega)]
theorem trim_digits (c d e : UInt8) (hc : digB c = true) (hd : digB d = true) (he : digB e = true) : Lib.trimS [c, d, e] [48, 49, 50, 51, 52, 53, 54, 55, 56, 57] = [] := by
  have key : ∀ x : UInt8, digB x = true → ([48, 49, 50, 51, 52, 53, 54, 55, 56, 57] : List UInt8).contains x = true := by
    intro x hx
    have := digB_le hx
    have hx' : x = 48 ∨ x = 49 ∨ x = 50 ∨ x = 51 ∨ x = 52 ∨ x = 53 ∨ x = 54 ∨ x = 55 ∨ x = 56 ∨ x = 57 := by
      simp only [← UInt8.toNat_inj]
      simp
      omega
    rcases hx' with rfl | rfl | rfl | rfl | rfl | rfl | rfl | rfl | rfl | rfl <;> decide
  have kill : ∀ l : List UInt8, (∀ x ∈ l, digB x = true) → l.dropWhile (fun x => ([48, 49, 50, 51, 52, 53, 54, 55, 56, 57] : List UInt8).contains x) = [] := by
    intro l
    induction l with
    | nil => intro _; rfl
    | cons x l ih =>
      intro h
      rw [List.dropWhile_cons, key x (h x (by simp)), if_pos rfl]
      exact ih fun y hy => h y (by simp [hy])
  have h1 : Lib.trimRightS [c, d, e] [48, 49, 50, 51, 52, 53, 54, 55, 56, 57] = [] := by
    unfold Lib.trimRightS
    rw [kill]
    · rfl
    · intro x hx
      simp at hx
      rcases hx with rfl | rfl | rfl <;> assumption
  unfold Lib.trimS
  rw [h1]
  rfl
theorem extract_head (s : ByteArray) (k : Nat) : (s.extract 0 k).data.toList = s.data.toList.take k := by
  rw [Lib.extract_data]; simp
theorem list_three {l : List UInt8} (h : 3 ≤ l.length) : ∃ c d e r, l = c :: d :: e :: r := by
  match l, h with
  | c :: d :: e :: r, _ => exact ⟨c, d, e, r, rfl⟩

/-- what unescape answers -/
def unescZ (l : List UInt8) : Nat × Nat := match unesc l with | some (x, k) => (x.toNat, k) | none => (0, 0)

set_option maxHeartbeats 2000000 in
set_option maxRecDepth 100000 in
theorem unescape_any (w : World) (s : ByteArray) (hs : s.size ≤ 1099511627776) (hE : Errs w) :
    Calls Tryz.prog 146 #[.string s] w fun e w' => e = .returned (.tuple #[.int .u8 ((unescZ s.data.toList).1 : Int), .int .i64 ((unescZ s.data.toList).2 : Int)]) ∧ Below w.heap.size w w' := by
  have hsl : s.data.toList.length = s.size := by simp
  obtain ⟨⟨t1, p1, he1⟩, ⟨t2, p2, he2⟩⟩ := hE
  have HE1 := Lib.hid he1; clear he1
  have HE2 := Lib.hid he2; clear he2
  by_cases h0 : s.size = 0
  · have hl : s.data.toList = [] := List.eq_nil_of_length_eq_zero (by omega)
    have ht : s.toList.isEmpty = true := by rw [ByteArray.toList_eq, hl]; rfl
    have ht' : s.toList = [] := by rw [ByteArray.toList_eq, hl]
    have hz : unescZ s.data.toList = (0, 0) := by rw [hl]; rfl
    rw [hz]
    clear hz hl hsl
    go_enter Tryz.func146, Tryz.ntmps146
    go_wp2
    go_ret2
    exact ⟨rfl, Below.refl _ _⟩
  have ht : s.toList.isEmpty = false := by
    rw [ByteArray.toList_eq]
    cases hl : s.data.toList with
    | nil => rw [hl] at hsl; simp at hsl; omega
    | cons c r => rfl
  have hpos : 0 < s.size := by omega
  obtain ⟨c, hc⟩ : ∃ c, s[0] = c := ⟨_, rfl⟩
  obtain ⟨n, hn⟩ : ∃ n, c.toNat = n := ⟨_, rfl⟩
  have hix : (s[0]).toNat = n := by rw [hc]; exact hn
  have hcons : s.data.toList = c :: s.data.toList.drop 1 := by
    have := List.drop_eq_getElem_cons (l := s.data.toList) (i := 0) (by omega)
    rw [List.drop_zero] at this
    rw [← hc]; exact this
  clear hc
  by_cases hd : digB c = true
  · have hd' := digB_le hd
    have d1 : decide ((n : Int) < 48) = false := by rw [decide_eq_false_iff_not]; omega
    have d2 : decide ((57 : Int) < (n : Int)) = false := by rw [decide_eq_false_iff_not]; omega
    clear hd'
    by_cases h3 : s.size < 3
    · have hz : unescZ s.data.toList = (0, 0) := by
        have : (s.data.toList.drop 1).length < 2 := by simp; omega
        rw [hcons]
        unfold unescZ unesc
        simp only [hd, if_true]
        match h : s.data.toList.drop 1, this with
        | [], _ => rfl
        | [_], _ => rfl
      rw [hz]
      have HC := Lib.hid hcons; clear hcons hz hd hn hsl
      go_enter Tryz.func146, Tryz.ntmps146
      go_wp2
      go_ret2
      exact ⟨rfl, Below.refl _ _⟩
    · obtain ⟨c', d, e, r, hl⟩ := list_three (l := s.data.toList) (by omega)
      have hcc : c' = c := by rw [hl] at hcons; simp at hcons; exact hcons
      subst hcc
      have hx : (s.extract 0 3).data.toList = [c', d, e] := by rw [extract_head, hl]; rfl
      have hxs : (s.extract 0 3).size = 3 := by have := congrArg List.length hx; simpa using this
      have hp := pu_three c' d e hd
      rw [← hx] at hp
      cases hde : (digB d && digB e)
      · rw [hde] at hp
        have hz : unescZ s.data.toList = (0, 0) := by
          rw [hl]
          simp only [unescZ, unesc, hd, hde, if_true, Bool.false_and]
          rfl
        have HP := Lib.hid (Tryz.strconv_ParseUint_10_at8_syntax (s.extract 0 3) (by omega) hp _ w HE1.out (Or.inr ⟨_, _, rfl⟩))
        rw [hz]
        clear hz hp hxs hx hl hcons hd hde hn hsl
        go_enter Tryz.func146, Tryz.ntmps146
        go_wp2_with fail
        refine HP.out.mono ?_
        rintro e w1 ⟨N, rfl, _, _, hb1⟩
        go_wp2
        go_ret2
        exact ⟨rfl, hb1⟩
      · rw [hde, if_pos rfl] at hp
        by_cases hb : num3 c' d e ≤ 255
        · rw [if_pos hb] at hp
          have hz : unescZ s.data.toList = (num3 c' d e, 3) := by
            rw [hl]
            simp only [unescZ, unesc, hd, hde, if_true, hb, decide_true, Bool.and_self]
            rw [UInt8.toNat_ofNat', Nat.mod_eq_of_lt (by omega)]
          have HP := Lib.hid (Tryz.strconv_ParseUint_10_at8_ok (s.extract 0 3) (by omega) _ hp w)
          have hde : digB d = true ∧ digB e = true := by simpa using hde
          have htr := trim_digits c' d e hd hde.1 hde.2
          have HTr := Lib.hid (fun w' => Tryz.strings_Trim_ascii (s.extract 0 3) ⟨#[48, 49, 50, 51, 52, 53, 54, 55, 56, 57]⟩ w' (by omega) (by decide) (ascii_of_all (by decide)))
          have HX : Hid ((⟨(Lib.trimS (s.extract 0 3).data.toList [48, 49, 50, 51, 52, 53, 54, 55, 56, 57]).toArray⟩ : ByteArray) = ⟨#[]⟩) := by
            show _ = _
            rw [hx, htr]
          obtain ⟨m, hm⟩ : ∃ m, m = num3 c' d e := ⟨_, rfl⟩
          rw [hz]
          rw [← hm] at hb HP ⊢
          clear hz hp hxs hx hl hcons hd hde hn htr hm hsl
          go_enter Tryz.func146, Tryz.ntmps146
          go_wp2_with fail
          refine HP.out.mono ?_
          rintro e w1 ⟨rfl, hw1⟩
          have hb1 : Below w.heap.size w w1 := by
            rcases hw1 with rfl | rfl
            · exact Below.refl _ _
            · exact below_bytes _ _ _
          clear hw1
          go_wp2_with fail
          refine (HTr.out _).mono ?_
          rw [HX.out]
          rintro e w2 ⟨rfl, hb2⟩
          go_wp2
          go_ret2
          exact ⟨rfl, below_on hb1 hb2 (Nat.le_refl _)⟩
        · rw [if_neg hb] at hp
          have hz : unescZ s.data.toList = (0, 0) := by
            rw [hl]
            simp only [unescZ, unesc, hd, hde, if_true, hb, decide_false, Bool.and_false]
            rfl
          have HP := Lib.hid (Tryz.strconv_ParseUint_10_at8_range (s.extract 0 3) (by omega) hp _ w HE2.out (Or.inr ⟨_, _, rfl⟩))
          rw [hz]
          clear hz hp hxs hx hl hcons hd hde hn hb hsl
          go_enter Tryz.func146, Tryz.ntmps146
          go_wp2_with fail
          refine HP.out.mono ?_
          rintro e w1 ⟨N, rfl, _, _, hb1⟩
          go_wp2
          go_ret2
          exact ⟨rfl, hb1⟩
  · have hz : unescZ s.data.toList = (n, 1) := by
      rw [hcons]
      simp only [unescZ, unesc, hd]
      simp [hn]
    have hd' : n < 48 ∨ 57 < n := by simp only [digB, decide_eq_true_eq] at hd; omega
    rw [hz]
    clear hz hd hcons hn hsl
    rcases hd' with hd' | hd'
    · have d1 : decide ((n : Int) < 48) = true := by rw [decide_eq_true_iff]; omega
      go_enter Tryz.func146, Tryz.ntmps146
      go_wp2
      go_ret2
      exact ⟨rfl, Below.refl _ _⟩
    · have d1 : decide ((n : Int) < 48) = false := by rw [decide_eq_false_iff_not]; omega
      have d2 : decide ((57 : Int) < (n : Int)) = true := by rw [decide_eq_true_iff]; omega
      go_enter Tryz.func146, Tryz.ntmps146
      go_wp2
      go_ret2
      exact ⟨rfl, Below.refl _ _⟩
theorem unescape_some (w : World) (s : ByteArray) (x : UInt8) (k : Nat) (hs : s.size ≤ 1099511627776) (hu : unesc s.data.toList = some (x, k)) (hE : Errs w) :
    Calls Tryz.prog 146 #[.string s] w fun e w' => e = .returned (.tuple #[.int .u8 (x.toNat : Int), .int .i64 (k : Int)]) ∧ Below w.heap.size w w' := by
  have := unescape_any w s hs hE
  rw [unescZ, hu] at this
  exact this
theorem unescape_none (w : World) (s : ByteArray) (hs : s.size ≤ 1099511627776) (hu : unesc s.data.toList = none) (hE : Errs w) :
    Calls Tryz.prog 146 #[.string s] w fun e w' => e = .returned (.tuple #[.int .u8 0, .int .i64 0]) ∧ Below w.heap.size w w' := by
  have := unescape_any w s hs hE
  rw [unescZ, hu] at this
  exact this
end Go.Proofs.YtipbakdodbmfjaaGreatDoor

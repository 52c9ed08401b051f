/- The contracts of the file's reader, one by one, at words that are written so. -/
import Derived.Test.YtipbakdodbmfjaaGreatDoorParseLaw
import Derived.Test.YtipbakdodbmfjaaGreatDoorWordsl
import Derived.Test.YtipbakdodbmfjaaGreatDoorShelfC
import Derived.Test.YtipbakdodbmfjaaGreatDoorAns25
import Derived.Test.YtipbakdodbmfjaaGreatDoorWordsm
import Derived.Test.YtipbakdodbmfjaaGreatDoorSoups
import Derived.Deep.RegionHeld3
import Derived.Test.YtipbakdodbmfjaaGreatDoorPu16
import Derived.Test.YtipbakdodbmfjaaGreatDoorUnescape
import Derived.Test.YtipbakdodbmfjaaGreatDoorLhex
import Derived.Laws.MakeOwn
namespace Go.Proofs.YtipbakdodbmfjaaGreatDoor
section
theorem fesc_plain {c : UInt8} (h : c.toNat ≠ 59 ∧ c.toNat ≠ 34 ∧ c.toNat ≠ 36) : fescL c = [c] := by unfold fescL; rw [if_neg (by omega)]
theorem fesc_lab (c : UInt8) : (escL c).flatMap fescL = if c.toNat = 46 ∨ c.toNat = 92 then [92, c] else if c.toNat < 33 ∨ 126 < c.toNat then [92, dig (c.toNat / 100), dig (c.toNat / 10 % 10), dig (c.toNat % 10)] else fescL c := by
  have h92 : fescL 92 = [92] := by decide
  unfold escL
  split
  · rename_i h
    simp [List.flatMap_cons, h92, fesc_plain (c := c) (by omega)]
  · split
    · have hc := c.toNat_lt
      have h1 := dig_toNat (c.toNat / 100) (by omega)
      have h2 := dig_toNat (c.toNat / 10 % 10) (by omega)
      have h3 := dig_toNat (c.toNat % 10) (by omega)
      simp [List.flatMap_cons, h92, fesc_plain (c := dig (c.toNat / 100)) (by omega), fesc_plain (c := dig (c.toNat / 10 % 10)) (by omega), fesc_plain (c := dig (c.toNat % 10)) (by omega)]
    · simp
def flabT (l : List UInt8) : List UInt8 := (labT l).flatMap fescL
theorem flabT_cons (c : UInt8) (l : List UInt8) : flabT (c :: l) = (escL c).flatMap fescL ++ flabT l := by simp [flabT, labT, List.flatMap_append]
theorem par_flab (l : List UInt8) (out : List ByteArray) : ∀ (lab r : List UInt8), par (flabT l ++ r) out lab = par r out (lab ++ l) := by
  induction l with
  | nil => intro lab r; simp [flabT, labT]
  | cons c l ih =>
    intro lab r
    have e : flabT (c :: l) ++ r = (escL c).flatMap fescL ++ (flabT l ++ r) := by rw [flabT_cons, List.append_assoc]
    have fin' : par (flabT l ++ r) out (lab ++ [c]) = par r out (lab ++ c :: l) := by rw [ih]; simp
    rw [e, fesc_lab]
    split
    · rename_i h
      have hd : digB c = false := by rw [digB, decide_eq_false_iff_not]; omega
      rw [List.cons_append, par_esc (x := c) (k := 1) out lab rfl (by simp only [List.cons_append, List.nil_append, unesc, hd]; rfl)]
      simpa using fin'
    · split
      · rw [List.cons_append, par_esc (x := c) (k := 3) out lab rfl (by
          have := unesc_dig c.toNat c.toNat_lt (flabT l ++ r)
          simpa using this)]
        simpa using fin'
      · unfold fescL
        split
        · rename_i h
          have hd : digB c = false := by rw [digB, decide_eq_false_iff_not]; omega
          rw [List.cons_append, par_esc (x := c) (k := 1) out lab rfl (by simp only [List.cons_append, List.nil_append, unesc, hd]; rfl)]
          simpa using fin'
        · rw [List.cons_append, par_plain out lab (by omega) (by omega) (by omega) (by omega)]
          simpa using fin'
def fbodyT (ss : List ByteArray) : List UInt8 := (bodyT ss).flatMap fescL
theorem fbodyT_cons (s : ByteArray) (ss : List ByteArray) : fbodyT (s :: ss) = flabT s.data.toList ++ (46 :: fbodyT ss) := by
  have h46 : fescL 46 = [46] := by decide
  simp [fbodyT, bodyT, flabT, List.flatMap_append, h46]
theorem flabT_pos (l : List UInt8) (h : l ≠ []) : 1 ≤ (flabT l).length := by
  cases l with
  | nil => exact absurd rfl h
  | cons c l =>
    rw [flabT_cons, fesc_lab]
    split
    · simp
    · split
      · simp
      · unfold fescL; split <;> simp <;> omega
theorem par_fbody (ss : List ByteArray) : ∀ (s : ByteArray) (out : List ByteArray), (∀ t ∈ ss, 1 ≤ t.size) → par (fbodyT (s :: ss)) out [] = fin (out ++ s :: ss) := by
  induction ss with
  | nil =>
    intro s out _
    rw [fbodyT_cons, par_flab]
    have : fbodyT [] = [] := rfl
    rw [this, par_end _ _ rfl]
    simp
  | cons t ss ih =>
    intro s out hz
    have ht : t.data.toList ≠ [] := by
      have hl : t.data.toList.length = t.size := by simp
      have := hz t (by simp)
      intro h0
      rw [h0] at hl
      simp at hl
      omega
    have hne : fbodyT (t :: ss) ≠ [] := by rw [fbodyT_cons]; simp
    rw [fbodyT_cons, par_flab, par_dot _ _ rfl hne, ih t _ (fun x hx => hz x (by simp [hx]))]
    simp
theorem ftextP_cons (s : ByteArray) (ss : List ByteArray) : ftextP (s :: ss) = fbodyT (s :: ss) := by
  rw [ftextP, textT, if_neg (by simp), fbodyT]
theorem parse_ftext (ss : List ByteArray) (h : soundB ss = true) : parseB (ftextP ss) = some ss := by
  cases ss with
  | nil =>
    have : ftextP [] = [46] := by decide
    rw [this]; rfl
  | cons s ss =>
    have hs : s.data.toList ≠ [] := by
      have hl : s.data.toList.length = s.size := by simp
      have := soundB_len h s (by simp)
      intro h0
      rw [h0] at hl
      simp at hl
      omega
    have hp := flabT_pos _ hs
    have hb := par_fbody ss s [] (fun t ht => soundB_len h t (by simp [ht]))
    rw [ftextP_cons, parseB, if_neg (by rw [fbodyT_cons]; intro h3; have := congrArg List.length h3; simp at this; omega), hb]
    simp [fin, h]
/-- are the backslashes at the end an even number? -/
def evenT (b : Bool) (l : List UInt8) : Bool := l.foldl (fun b c => if c.toNat = 92 then !b else true) b
theorem evenT_append (b : Bool) (l r : List UInt8) : evenT b (l ++ r) = evenT (evenT b l) r := by simp [evenT, List.foldl_append]
theorem even_flab : ∀ l : List UInt8, evenT true (flabT l) = true
  | [] => rfl
  | c :: l => by
    have ih := even_flab l
    have key : evenT true ((escL c).flatMap fescL) = true := by
      have hc := c.toNat_lt
      have h3 := dig_toNat (c.toNat % 10) (by omega)
      rw [fesc_lab]
      split
      · by_cases h : c.toNat = 92 <;> simp [evenT, h]
      · split
        · simp only [evenT, List.foldl_cons, List.foldl_nil]
          rw [if_neg (by omega)]
        · unfold fescL
          split
          · simp only [evenT, List.foldl_cons, List.foldl_nil]
            rw [if_neg (by omega)]
          · simp only [evenT, List.foldl_cons, List.foldl_nil]
            rw [if_neg (by omega)]
    rw [flabT_cons, evenT_append, key, ih]
theorem even_fbody : ∀ (ss : List ByteArray) (s : ByteArray), ∃ r, fbodyT (s :: ss) = r ++ [46] ∧ evenT true r = true
  | [], s => ⟨flabT s.data.toList, by rw [fbodyT_cons]; rfl, even_flab _⟩
  | t :: ss, s => by
    obtain ⟨r, h1, h2⟩ := even_fbody ss t
    refine ⟨flabT s.data.toList ++ (46 :: r), by rw [fbodyT_cons, h1]; simp, ?_⟩
    rw [evenT_append, even_flab]
    show evenT (evenT true [46]) r = true
    exact h2
theorem even_ftext (ss : List ByteArray) : ∃ r, ftextP ss = r ++ [46] ∧ evenT true r = true := by
  cases ss with
  | nil => exact ⟨[], by decide, rfl⟩
  | cons s ss => rw [ftextP_cons]; exact even_fbody ss s
end
section
open Go.ChangeShapes Go.WideShapes Go.ChangeAt Go.RowKit

/-- the reader at words that are still to be read; nothing is wrong; all of it lies under B -/
structure Rd (w : World) (R B : Nat) (oa : Option Addr) (ol oc : Nat) (ws : List ByteArray) : Prop where
  row : ∃ wa wc, Blk w R #[.slice wa ws.length wc, .slice oa ol oc, .bool false] 88 ∧ Strs w wa ws.length wc ws ∧ ∀ a, wa = some a → a.block ≠ R ∧ a.block < B
  low : lowG ≤ R
  lt : R < B
  le : B ≤ w.heap.size
theorem Rd.below {w w' : World} {R B C : Nat} {oa : Option Addr} {ol oc : Nat} {ws : List ByteArray} (h : Rd w R B oa ol oc ws) (hb : Below C w w') (hC : B ≤ C) : Rd w' R B oa ol oc ws := by
  obtain ⟨wa, wc, h1, h2, h3⟩ := h.row
  refine ⟨⟨wa, wc, ?_, ⟨?_, h2.small⟩, h3⟩, h.low, h.lt, Nat.le_trans h.le hb.size⟩
  · show w'.heap[R]? = _
    rw [hb.block R (by have := h.lt; omega)]
    exact h1
  · refine ⟨h2.row.hlen, h2.row.hle, h2.row.hcap, h2.row.hmax, h2.row.hnil, fun h0 => ?_⟩
    obtain ⟨b, off, e, hc⟩ := h2.row.hcells h0
    exact ⟨b, off, e, fun i hi => by rw [hb.cell (p := ⟨b, off + i, none⟩) (by have := (h3 _ e).2; simp only at this ⊢; omega)]; exact hc i hi⟩
theorem Rd.on {w w' : World} {R B : Nat} {oa : Option Addr} {ol oc : Nat} {ws : List ByteArray} (h : Rd w R B oa ol oc ws) (hb : Below w.heap.size w w') : Rd w' R B oa ol oc ws := h.below hb h.le
set_option maxHeartbeats 1000000 in
set_option maxRecDepth 100000 in
theorem word_any (w : World) (R B : Nat) (oa : Option Addr) (ol oc : Nat) (s : ByteArray) (ws : List ByteArray) (h : Rd w R B oa ol oc (s :: ws)) :
    Calls Tryz.prog 101 #[.pointer (some ⟨R, 0, none⟩)] w fun e w' => e = .returned (.string s) ∧ Rd w' R B oa ol oc ws ∧ w.grownBy w' (some R) := by
  obtain ⟨wa, wc, hB, hS, hne⟩ := h.row
  obtain ⟨b, off, rfl⟩ := hS.row.addr (k := 0) (by simp)
  have hc := hS.at (i := 0) (by simp)
  have hle := hS.row.hle
  have hcap := hS.row.hcap
  simp only [List.length_cons, List.getElem_cons_zero, Nat.add_zero] at hB hc hle
  have c0 := hB.cell 0
  simp at c0
  have f0 := hB.free 0
  have HB := Lib.hid hB
  have HS := Lib.hid hS
  have HL := Lib.hid h
  have hbR : b ≠ R ∧ b < B := hne _ rfl
  have hq : ((ws.length : Int) + 1 == 0) = false := by rw [beq_eq_false_iff_ne]; omega
  clear hB hS h hne
  by_cases h1 : 1 < wc
  · have HR := Lib.hid (show Strs w (some ⟨b, off + 1, none⟩) ws.length (wc - 1) ws by
      have := HS.out.cut (k := 1) (by simp)
      simpa [addr_add] using this)
    go_enter Tryz.func101, Tryz.ntmps101
    go_wp2_with fail
    go_ret
    refine ⟨rfl, ⟨⟨some ⟨b, off + 1, none⟩, wc - 1, ?_, HR.out.grown (but_set w R 0 _) (fun a e => by cases e; exact fun h => hbR.1 (Option.some.inj h)), fun a e => by cases e; exact hbR⟩, HL.out.low, HL.out.lt, ?_⟩, but_set w R 0 _⟩
    · exact HB.out.set 0 _
    · have := HL.out.le; simpa using this
  · obtain rfl : wc = 1 := by omega
    have hw0 : ws = [] := List.eq_nil_of_length_eq_zero (by omega)
    subst hw0
    go_enter Tryz.func101, Tryz.ntmps101
    go_wp2_with fail
    go_ret
    refine ⟨rfl, ⟨⟨some ⟨b, off, none⟩, 0, HB.out.set 0 _, ⟨Row.empty (by omega) (fun h => by cases h), by simp⟩, fun a e => by cases e; exact hbR⟩, HL.out.low, HL.out.lt, ?_⟩, but_set w R 0 _⟩
    have := HL.out.le
    simpa using this
set_option maxHeartbeats 1000000 in
theorem check_any (w : World) (R B : Nat) (oa : Option Addr) (ol oc : Nat) (ws : List ByteArray) (h : Rd w R B oa ol oc ws) :
    Calls Tryz.prog 131 #[.pointer (some ⟨R, 0, none⟩), .bool true] w fun e w' => e = .returned (.tuple #[]) ∧ w' = w := by
  obtain ⟨wa, wc, hR, hS, hne⟩ := h.row
  have c2 := hR.cell 2
  simp at c2
  have f2 := hR.free 2
  have hz : w.setCell ⟨R, 2, none⟩ (.bool false) = w := setCell_self hR c2
  clear hR hS hne h
  go_enter Tryz.func131, Tryz.ntmps131
  go_wp2
  go_end0
  exact ⟨rfl, rfl⟩
theorem itoa_size (z : Int) (h : wfi z) : (strOf (Lib.itoa z)).size ≤ 21 := by
  have := Lib.itoa_length_le z h.1 h.2
  show (Lib.itoa z).toArray.size ≤ _
  simpa using this
set_option maxHeartbeats 1000000 in
set_option maxRecDepth 100000 in
theorem num_any (w : World) (R B : Nat) (oa : Option Addr) (ol oc : Nat) (z m : Int) (ws : List ByteArray) (h : Rd w R B oa ol oc (strOf (Lib.itoa z) :: ws)) (hE : Env w) (h0 : 0 ≤ z) (hm : z ≤ m) (hz : z ≤ 9223372036854775807) :
    Calls Tryz.prog 134 #[.pointer (some ⟨R, 0, none⟩), .int .i64 m] w fun e w' => e = .returned (.int .i64 z) ∧ Rd w' R B oa ol oc ws ∧ w.grownBy w' (some R) := by
  have HW := Lib.hid (word_any w R B oa ol oc _ ws h)
  have hs := itoa_size z ⟨by omega, hz⟩
  have hn : numP (strOf (Lib.itoa z)).data.toList = some z := numP_itoa z (by omega) hz
  have hok : okN (some z) m = true := by simp [okN]; omega
  have HE := Lib.hid hE
  have HL := Lib.hid h.low
  obtain ⟨s, hsd⟩ : ∃ s, s = strOf (Lib.itoa z) := ⟨_, rfl⟩
  rw [← hsd] at HW hs hn
  clear h hE hsd h0 hm
  go_enter Tryz.func134, Tryz.ntmps134
  go_wp2_with fail
  refine HW.out.mono ?_
  rintro e w1 ⟨rfl, hrd, hg⟩
  have hnum := numf_any w1 s m (by omega) (HE.out.but hg HL.out)
  rw [hn] at hnum
  have HNUM := Lib.hid hnum
  have HRD := Lib.hid hrd
  have HG := Lib.hid hg
  clear hnum hn hrd hg HW
  go_wp2_with fail
  refine HNUM.out.mono ?_
  rintro e w2 ⟨hb2, v, rfl, hv⟩
  have hv1 : v = z := by have := hv hok; simpa using this.symm
  subst hv1
  rw [hok]
  have HRD2 := Lib.hid (HRD.out.on hb2)
  have HG2 := Lib.hid (but_trans HG.out (but_of_below R hb2))
  have HCK := Lib.hid (check_any w2 R B oa ol oc ws HRD2.out)
  clear hb2 hv HRD HG HNUM
  go_wp2_with fail
  refine HCK.out.mono ?_
  rintro e w3 ⟨rfl, rfl⟩
  go_wp2_with fail
  go_ret
  exact ⟨rfl, HRD2.out, HG2.out⟩
/-- the number of the backslashes at an end, and whether it is even -/
theorem evenT_snoc (b : Bool) (l : List UInt8) (c : UInt8) : evenT b (l ++ [c]) = if c.toNat = 92 then !evenT b l else true := by simp [evenT, List.foldl_append]
theorem trimR_snoc (l : List UInt8) (c : UInt8) : Lib.trimRightS (l ++ [c]) [92] = if c.toNat = 92 then Lib.trimRightS l [92] else l ++ [c] := by
  unfold Lib.trimRightS
  rw [List.reverse_append]
  simp only [List.reverse_cons, List.reverse_nil, List.nil_append, List.cons_append, List.dropWhile_cons]
  by_cases h : c.toNat = 92
  · have hc : c = 92 := UInt8.toNat_inj.1 h
    subst hc
    simp
  · have hc : ¬ c = 92 := fun e => h (by rw [e]; rfl)
    simp [hc, h]
theorem even_trim : ∀ (n : Nat) (l : List UInt8), l.length = n → (Lib.trimRightS l [92]).length ≤ l.length ∧ (evenT true l = true ↔ (l.length - (Lib.trimRightS l [92]).length) % 2 = 0)
  | 0, l, h => by
    obtain rfl : l = [] := List.eq_nil_of_length_eq_zero h
    simp [Lib.trimRightS, evenT]
  | n + 1, l, h => by
    have hne : l ≠ [] := by rintro rfl; simp at h
    obtain ⟨m, c, rfl⟩ : ∃ m c, l = m ++ [c] := ⟨l.dropLast, l.getLast hne, (List.dropLast_concat_getLast hne).symm⟩
    have ih := even_trim n m (by simpa using h)
    rw [evenT_snoc, trimR_snoc]
    by_cases hc : c.toNat = 92
    · rw [if_pos hc, if_pos hc, List.length_append, List.length_singleton]
      refine ⟨by omega, ?_⟩
      have h1 := ih.1
      have h2 := ih.2
      cases he : evenT true m
      · rw [he] at h2
        simp only [Bool.false_eq_true, false_iff] at h2
        simp only [Bool.not_false, true_iff]
        omega
      · rw [he] at h2
        simp only [true_iff] at h2
        simp only [Bool.not_true, Bool.false_eq_true, false_iff]
        omega
    · rw [if_neg hc, if_neg hc]
      simp
set_option maxHeartbeats 1000000 in
set_option maxRecDepth 100000 in
theorem nums_any (w : World) (R B : Nat) (oa : Option Addr) (ol oc : Nat) (n : Nat) (m : Int) (zs : List Int) (ws : List ByteArray) (h : Rd w R B oa ol oc (decS zs ++ ws)) (hE : Env w) (hl : zs.length = n) (hn : n ≤ 100) (h0 : 0 < n)
    (hz : ∀ z ∈ zs, 0 ≤ z ∧ z ≤ m ∧ z ≤ 9223372036854775807) :
    Calls Tryz.prog 99 #[.pointer (some ⟨R, 0, none⟩), .int .i64 n, .int .i64 m] w fun e w' => ∃ g c, e = .returned (.slice (some ⟨g, 0, none⟩) n c) ∧ Nums w' (some ⟨g, 0, none⟩) n c zs ∧ w.heap.size ≤ g ∧ Rd w' R B oa ol oc ws ∧ w.grownBy w' (some R) := by
  have HRD := Lib.hid h
  have HE := Lib.hid hE
  have HZ := Lib.hid hz
  have HL := Lib.hid hl
  have HRW := Lib.hid (show R < w.heap.size by have := h.lt; have := h.le; omega)
  clear h hE hz hl
  go_enter Tryz.func99, Tryz.ntmps99
  go_wp2_with fail
  go_loopw [9, 7] (fun i o wr => ∃ k : Nat, k ≤ n ∧ i = .int .i64 k ∧ Hid (Rd wr R B oa ol oc (decS (zs.drop k) ++ ws) ∧ w.grownBy wr (some R) ∧ wr.ownsRow w.heap.size 3 1 o k ((zs.take k).map (Value.int .i64)))) (fun i _ _ => n - (intOf i).toNat)
  case atStart => exact ⟨0, Nat.zero_le _, rfl, by simpa using HRD.out, but_of_below R (Below.refl _ _), World.ownsRow_nil _ _ _ _⟩
  case round =>
    obtain ⟨k, hk, rfl, hinv⟩ := hrel
    by_cases hlt : k < n
    · have hkl : k < zs.length := by have := HL.out; omega
      have hrd := hinv.out.1
      rw [List.drop_eq_getElem_cons hkl] at hrd
      have hzz := HZ.out _ (List.getElem_mem hkl)
      have hsn := map_snoc (Value.int .i64) zs k hkl
      obtain ⟨z, hze⟩ : ∃ z, z = zs[k] := ⟨_, rfl⟩
      rw [← hze] at hrd hzz hsn
      have HN := Lib.hid (num_any wr R B oa ol oc z m (decS (zs.drop (k + 1)) ++ ws) hrd (HE.out.but hinv.out.2.1 HRD.out.low) hzz.1 hzz.2.1 hzz.2.2)
      have HSN := Lib.hid hsn
      clear hrd hzz hsn hze
      go_wp2_with fail
      refine HN.out.mono ?_
      rintro e w2 ⟨rfl, hrd2, hg2⟩
      obtain ⟨i0, hi, hz0, hz1, hz2⟩ := info_parts infoInt
      have hg3 := but_trans hinv.out.2.1 hg2
      have hown := hinv.out.2.2.kept hg2 (Or.inr (owns_ne hinv.out.2.2 HRW.out))
      have hsz := hg3.size
      obtain ⟨v', w5, hrun, hown5, hgr5, hb6⟩ := append_one (P := Tryz.prog) w2 w2 w.heap.size 31 31 3 i0 _ 8 Tryz.underlying31 hi hz0 hz1 hz2 rfl _ _ _ hown (.int .i64 z) rfl (by omega) (by omega) (Below.refl _ _) hsz
      have HRUN := Lib.hid hrun
      have HOW := Lib.hid (show w5.ownsRow w.heap.size 3 1 v' (k + 1) ((zs.take (k + 1)).map (Value.int .i64)) by rw [HSN.out]; exact hown5)
      have HRD5 := Lib.hid (hrd2.below hb6 (by have := HRD.out.le; omega))
      have HG5 := Lib.hid (show w.grownBy w5 (some R) from ⟨by rw [hb6.os]; exact hg3.os, by rw [hb6.tape]; exact hg3.tape, by rw [hb6.output]; exact hg3.output, Nat.le_trans hg3.size hb6.size, fun j hj hne => by rw [hb6.block j (by omega)]; exact hg3.block j hj hne⟩)
      clear hrun hown5 hgr5 hb6 hi hz0 hz1 hz2 hown hg3 hrd2 hg2
      go_wp2_with (at_builtin; refine wpList_append_run rfl _ _ _ rfl _ _ rfl rfl HRUN.out ?_)
      go_roundw
      case rel => exact ⟨k + 1, by omega, by go_num, HRD5.out, HG5.out, HOW.out⟩
      case measure => simp [intOf]; omega
    · obtain rfl : k = n := by omega
      have hi2 := hinv.out
      rw [List.drop_of_length_le (by have := HL.out; omega), List.take_of_length_le (by have := HL.out; omega)] at hi2
      have HI := Lib.hid hi2
      obtain ⟨g, c, rfl, hge, hrow⟩ := row_own hi2.2.2 h0 (by omega)
      have HR := Lib.hid hrow
      have HG := Lib.hid hge
      clear hi2 hinv hrow hge
      go_wp2_with fail
      go_ret
      exact ⟨g, c, rfl, HR.out, HG.out, by simpa [decS] using HI.out.1, HI.out.2.1⟩
/-- a sound name's text ends -/
theorem ended_any (w : World) (n : List ByteArray) (hz : (ftextP n).length ≤ 100000) : Calls Tryz.prog 161 #[.string (strOf (ftextP n))] w fun e w' => e = .returned (.bool true) ∧ Below w.heap.size w w' := by
  obtain ⟨r, hr, hev⟩ := even_ftext n
  obtain ⟨s, hs⟩ : ∃ s, s = strOf (ftextP n) := ⟨_, rfl⟩
  have hsd : s.data.toList = r ++ [46] := by rw [hs]; exact hr
  have hsz : s.size ≤ 100000 := by rw [size_of hsd, ← hr]; exact hz
  have h46 : (⟨#[46]⟩ : ByteArray).data.toList = [46] := rfl
  have hsuf : Lib.hasSuffix (r ++ [46]) [46] = true := by
    unfold Lib.hasSuffix
    rw [List.isSuffixOf_iff_suffix]
    exact ⟨r, rfl⟩
  have hts : Lib.trimSuffix (r ++ [46]) [46] = r := by
    unfold Lib.trimSuffix
    rw [hsuf]
    simp
  have H1 := Tryz.strings_HasSuffix s ⟨#[46]⟩ w (by omega)
  have H2 := Tryz.strings_TrimSuffix s ⟨#[46]⟩ w (by omega)
  rw [hsd, h46, hsuf] at H1
  rw [hsd, h46, hts] at H2
  have hrl : r.length ≤ 100000 := by have := congrArg List.length hr; rw [List.length_append] at this; simp at this; omega
  have H3 := Tryz.strings_TrimRight_ascii (strOf r) ⟨#[92]⟩ w (by show r.toArray.size ≤ _; simp; omega) (by decide) (ascii_of_all (by decide))
  have h92 : (⟨#[92]⟩ : ByteArray).data.toList = [92] := rfl
  have hrd : (strOf r).data.toList = r := rfl
  rw [h92, hrd] at H3
  have hev2 := even_trim r.length r rfl
  obtain ⟨t, ht⟩ : ∃ t, t = Lib.trimRightS r [92] := ⟨_, rfl⟩
  rw [← ht] at H3 hev2
  have hpar : (r.length - t.length) % 2 = 0 := (hev2.2.1 hev)
  have hle := hev2.1
  rw [← hs]
  have H1' := Lib.hid H1
  have H2' := Lib.hid H2
  have H3' := Lib.hid H3
  clear H1 H2 H3 hs hsd hr hev ht hev2 hts hsuf hz
  go_enter Tryz.func161, Tryz.ntmps161
  go_wp2_with fail
  refine H1'.out.mono ?_
  rintro e w1 ⟨rfl, rfl⟩
  go_wp2_with fail
  refine H2'.out.mono ?_
  rintro e w1 ⟨rfl, rfl⟩
  go_wp2_with fail
  refine H3'.out.mono ?_
  rintro e w1 ⟨rfl, hb1⟩
  have a1 : ((r.length : Int) - (t.length : Int)) = ((r.length - t.length : Nat) : Int) := by omega
  have a2 : (((r.length - t.length : Nat) : Int)).tmod 2 = 0 := by
    have : (((r.length - t.length : Nat) : Int)).tmod 2 = (((r.length - t.length) % 2 : Nat) : Int) := rfl
    rw [this, hpar]; rfl
  have a3 : ((r.length : Int) - (t.length : Int)).tmod 2 = 0 := by rw [a1]; exact a2
  go_wp2_with fail
  go_ret
  exact ⟨rfl, hb1⟩
/-- a name that is written in full -/
theorem full_any (w : World) (oa : Option Addr) (ol oc : Nat) (n : List ByteArray) (hn : soundB n = true) (hz : (ftextP n).length ≤ 100000) (hE : Env w) :
    Calls Tryz.prog 133 #[.string (strOf (ftextP n)), .slice oa ol oc] w fun e w' => ∃ ao l c, e = .returned (.tuple #[.slice ao l c, .bool true]) ∧ Strs w' ao l c n ∧ (∀ a, ao = some a → w.heap.size ≤ a.block) ∧ Below w.heap.size w w' := by
  have hpar := parse_ftext n hn
  obtain ⟨r, hr, _⟩ := even_ftext n
  have hen := Lib.hid (fun w' => ended_any w' n hz)
  obtain ⟨s, hs⟩ : ∃ s, s = strOf (ftextP n) := ⟨_, rfl⟩
  have hsd : s.data.toList = ftextP n := by rw [hs]; rfl
  have hsz : s.size ≤ 100000 := by rw [size_of hsd]; exact hz
  have hne : s.data.toList ≠ [64] := by
    rw [hsd, hr]
    intro h
    have := congrArg List.getLast? h
    simp at this
  have h1 : (s.toList == (⟨#[64]⟩ : ByteArray).toList) = false := by
    rw [beq_eq_false_iff_ne, ByteArray.toList_eq, ByteArray.toList_eq]; exact hne
  have h2 : (s.toList == [64]) = false := by
    rw [beq_eq_false_iff_ne, ByteArray.toList_eq]; exact hne
  have hP := parse_any w s (by omega) hE.errs
  rw [hsd, hpar] at hP
  rw [← hs] at hen ⊢
  have HP := Lib.hid hP
  clear hP hpar hr hs hsd hne hE hz
  go_enter Tryz.func133, Tryz.ntmps133
  go_wp2_with fail
  refine HP.out.mono ?_
  rintro e w1 ⟨ao, l, c, rfl, hst, hb1, hfr⟩
  have HST := Lib.hid hst
  have HB1 := Lib.hid hb1
  have HFR := Lib.hid hfr
  clear hst hb1 hfr
  go_wp2_with fail
  refine (hen.out _).mono ?_
  rintro e w2 ⟨rfl, hb2⟩
  have HS2 := Lib.hid (HST.out.below hb2 (Nat.le_refl _))
  have HB2 := Lib.hid (below_on HB1.out hb2 (Nat.le_refl _))
  have HSO := Lib.hid (sound_any w2 ao l c n HS2.out)
  rw [hn] at HSO
  clear hb2
  go_wp2_with fail
  refine HSO.out.mono ?_
  rintro e w3 ⟨rfl, rfl⟩
  go_wp2_with fail
  go_ret2
  exact ⟨ao, l, c, rfl, HS2.out, HFR.out, HB2.out⟩
set_option maxHeartbeats 2000000 in
set_option maxRecDepth 100000 in
theorem rname_any (w : World) (R B : Nat) (oa : Option Addr) (ol oc : Nat) (n : List ByteArray) (ws : List ByteArray) (h : Rd w R B oa ol oc (strOf (ftextP n) :: ws)) (hE : Env w) (hn : soundB n = true) (hsz : (ftextP n).length ≤ 100000) :
    Calls Tryz.prog 98 #[.pointer (some ⟨R, 0, none⟩)] w fun e w' => ∃ ao l c, e = .returned (.slice ao l c) ∧ Strs w' ao l c n ∧ (∀ a, ao = some a → w.heap.size ≤ a.block) ∧ Rd w' R B oa ol oc ws ∧ w.grownBy w' (some R) := by
  have hd : Rd w.drew R B oa ol oc (strOf (ftextP n) :: ws) := h.below (Below.drew (Below.refl w.heap.size w)) h.le
  have HW := Lib.hid (word_any w.drew R B oa ol oc _ ws hd)
  obtain ⟨wa, wc, hB, _⟩ := hd.row
  have HC1 := Lib.hid (show w.drew.cell? ⟨R, 1, none⟩ = some (.slice oa ol oc) from hB.cell 1)
  have HE := Lib.hid (show Env w.drew from hE.on (Below.drew (Below.refl w.heap.size w)))
  have HL := Lib.hid h.low
  clear h hd hE hB
  go_enter Tryz.func98, Tryz.ntmps98
  go_wp2_with fail
  refine wp_region_held_drew (S := fun W => W.cell? ⟨R, 1, none⟩ = some (.slice oa ol oc)) (by kernel_rfl) ?_ (fun hHeld0 => ?_)
  · exact HC1.out
  refine wpAnyH_take (i := 0) (v := ?_) rfl (by kernel_rfl) (by kernel_rfl) (by kernel_rfl) (fun _ _ _ h => h) (Or.inl ⟨by rfl, ?_⟩) (by assumption) ?_
  rotate_left
  · intro w' hSw
    (try dsimp only at hSw)
    go_simp
    first | done | with_reducible rfl | (rw [if_neg (by omega)])
  try simp only [Act.put, List.getElem_toArray, List.getElem_cons_zero, List.setIfInBounds_toArray, List.set_cons_zero, List.set_cons_succ]
  refine wpAnyH_take (i := 2) (v := ?_) rfl (by kernel_rfl) (by kernel_rfl) (by kernel_rfl) (fun _ _ _ h => h) (Or.inl ⟨by rfl, ?_⟩) (by assumption) ?_
  rotate_left
  · intro w' hSw
    (try dsimp only at hSw)
    go_simp
    first | done | with_reducible rfl | (rw [if_neg (by omega)])
  try simp only [Act.put, List.getElem_toArray, List.getElem_cons_succ, List.getElem_cons_zero, List.setIfInBounds_toArray, List.set_cons_zero, List.set_cons_succ]
  refine wpAnyH_take (i := 3) (v := ?_) rfl (by kernel_rfl) (by kernel_rfl) (by kernel_rfl) (fun _ _ _ h => h) (Or.inl ⟨by rfl, ?_⟩) (by assumption) ?_
  rotate_left
  · intro w' hSw
    (try dsimp only at hSw)
    go_simp
    first | done | with_reducible rfl | (rw [if_neg (by omega)])
  try simp only [Act.put, List.getElem_toArray, List.getElem_cons_succ, List.getElem_cons_zero, List.setIfInBounds_toArray, List.set_cons_zero, List.set_cons_succ]
  refine wpAnyH_take (i := 4) (v := ?_) rfl (by kernel_rfl) (by kernel_rfl) (by kernel_rfl) (fun _ _ _ h => h) (Or.inl ⟨by rfl, ?_⟩) (by assumption) ?_
  rotate_left
  · intro w' hSw
    (try dsimp only at hSw)
    go_simp
    first | done | with_reducible rfl | (rw [if_neg (by omega)])
  try simp only [Act.put, List.getElem_toArray, List.getElem_cons_succ, List.getElem_cons_zero, List.setIfInBounds_toArray, List.set_cons_zero, List.set_cons_succ]
  refine wpAnyH_take (i := 5) (v := ?_) rfl (by kernel_rfl) (by kernel_rfl) (by kernel_rfl) (fun _ _ _ h => h) (Or.inl ⟨by rfl, ?_⟩) (by assumption) ?_
  rotate_left
  · intro w' hSw
    (try dsimp only at hSw)
    have q1 := hSw
    go_simp
    first | done | with_reducible rfl | (rw [if_neg (by omega)])
  try simp only [Act.put, List.getElem_toArray, List.getElem_cons_succ, List.getElem_cons_zero, List.setIfInBounds_toArray, List.set_cons_zero, List.set_cons_succ]
  refine wpAnyH_ready (rs := [1]) (by kernel_rfl) (by simp) ?_
  refine AllReadyH.cons rfl (fun K hK => ?_) AllReadyH.nil
  go_simp
  refine HW.out.mono ?_
  rintro e w1 ⟨rfl, hrd, hg⟩
  refine hK.out _ _ ?_ (fun hHeld1 => ?_)
  · obtain ⟨wa, wc, h1, _⟩ := hrd.row
    exact h1.cell 1
  clear hK K
  try simp only [Act.put, List.getElem_toArray, List.getElem_cons_succ, List.getElem_cons_zero, List.setIfInBounds_toArray, List.set_cons_zero, List.set_cons_succ]
  have HRD := Lib.hid hrd
  have HG := Lib.hid hg
  have HF := Lib.hid (full_any w1 oa ol oc n hn hsz (HE.out.but hg HL.out))
  clear hrd hg
  refine wpAnyH_ready (rs := [6]) (by kernel_rfl) (by simp) ?_
  refine AllReadyH.cons rfl (fun K hK => ?_) AllReadyH.nil
  go_simp
  refine HF.out.mono ?_
  rintro e w2 ⟨ao, l, c, rfl, hst, hfr, hb2⟩
  refine hK.out _ _ ?_ (fun hHeld2 => ?_)
  · exact cell_keep hb2 hHeld1
  clear hK K
  try simp only [Act.put, List.getElem_toArray, List.getElem_cons_succ, List.getElem_cons_zero, List.setIfInBounds_toArray, List.set_cons_zero, List.set_cons_succ]
  refine wpAnyH_take (i := 7) (v := ?_) rfl (by kernel_rfl) (by kernel_rfl) (by kernel_rfl) (fun _ _ _ h => h) (Or.inl ⟨by rfl, ?_⟩) (by assumption) ?_
  rotate_left
  · intro w' hSw
    (try dsimp only at hSw)
    go_simp
    first | done | with_reducible rfl | (rw [if_neg (by omega)])
  try simp only [Act.put, List.getElem_toArray, List.getElem_cons_succ, List.getElem_cons_zero, List.setIfInBounds_toArray, List.set_cons_zero, List.set_cons_succ]
  refine wpAnyH_take (i := 8) (v := ?_) rfl (by kernel_rfl) (by kernel_rfl) (by kernel_rfl) (fun _ _ _ h => h) (Or.inl ⟨by rfl, ?_⟩) (by assumption) ?_
  rotate_left
  · intro w' hSw
    (try dsimp only at hSw)
    go_simp
    first | done | with_reducible rfl | (rw [if_neg (by omega)])
  try simp only [Act.put, List.getElem_toArray, List.getElem_cons_succ, List.getElem_cons_zero, List.setIfInBounds_toArray, List.set_cons_zero, List.set_cons_succ]
  refine wpAnyH_take (i := 9) (v := ?_) rfl (by kernel_rfl) (by kernel_rfl) (by kernel_rfl) (fun _ _ _ h => h) (Or.inl ⟨by rfl, ?_⟩) (by assumption) ?_
  rotate_left
  · intro w' hSw
    (try dsimp only at hSw)
    go_simp
    first | done | with_reducible rfl | (rw [if_neg (by omega)])
  try simp only [Act.put, List.getElem_toArray, List.getElem_cons_succ, List.getElem_cons_zero, List.setIfInBounds_toArray, List.set_cons_zero, List.set_cons_succ]
  refine wpAnyH_take (i := 10) (v := ?_) rfl (by kernel_rfl) (by kernel_rfl) (by kernel_rfl) (fun _ _ _ h => h) (Or.inl ⟨by rfl, ?_⟩) (by assumption) ?_
  rotate_left
  · intro w' hSw
    (try dsimp only at hSw)
    go_simp
    first | done | with_reducible rfl | (rw [if_neg (by omega)])
  try simp only [Act.put, List.getElem_toArray, List.getElem_cons_succ, List.getElem_cons_zero, List.setIfInBounds_toArray, List.set_cons_zero, List.set_cons_succ]
  refine wpAnyH_take (i := 11) (v := ?_) rfl (by kernel_rfl) (by kernel_rfl) (by kernel_rfl) (fun _ _ _ h => h) (Or.inl ⟨by rfl, ?_⟩) (by assumption) ?_
  rotate_left
  · intro w' hSw
    (try dsimp only at hSw)
    go_simp
    first | done | with_reducible rfl | (rw [if_neg (by omega)])
  try simp only [Act.put, List.getElem_toArray, List.getElem_cons_succ, List.getElem_cons_zero, List.setIfInBounds_toArray, List.set_cons_zero, List.set_cons_succ]
  refine wpAnyH_done (by kernel_rfl) ?_ _
  have HRD2 := Lib.hid (HRD.out.on hb2)
  have HG2 := Lib.hid (but_trans HG.out (but_of_below R hb2))
  have HST := Lib.hid hst
  have HFR := Lib.hid (show ∀ a, ao = some a → w.heap.size ≤ a.block from fun a e => Nat.le_trans HG.out.size (hfr a e))
  have HCK := Lib.hid (check_any w2 R B oa ol oc ws HRD2.out)
  clear hb2 hst hfr
  go_wp2_with fail
  refine HCK.out.mono ?_
  rintro e w3 ⟨rfl, rfl⟩
  go_wp2_with fail
  go_ret
  exact ⟨ao, l, c, rfl, HST.out, HFR.out, HRD2.out, but_trans (but_of_below R (Below.drew (Below.refl w.heap.size w))) HG2.out⟩
end
section
open Go.ChangeShapes Go.WideShapes Go.ChangeAt Go.RowKit

def valH (l : List UInt8) : Nat := l.foldl (fun a c => a * 16 + hexV c) 0
theorem valH_snoc (l : List UInt8) (c : UInt8) : valH (l ++ [c]) = valH l * 16 + hexV c := by simp [valH, List.foldl_append]
theorem valH_take (l : List UInt8) (k : Nat) (h : k < l.length) : valH (l.take (k + 1)) = valH (l.take k) * 16 + hexV l[k] := by
  rw [List.take_succ_eq_append_getElem h, valH_snoc]
theorem hexV_lt (c : UInt8) (h : isHex c = true) : hexV c < 16 := by have := (hexV_back c h).1; omega
theorem valH_lt : ∀ (n : Nat) (l : List UInt8), l.length = n → (∀ c ∈ l, isHex c = true) → valH l < 16 ^ n
  | 0, l, hn, _ => by rw [List.eq_nil_of_length_eq_zero hn]; simp [valH]
  | n + 1, l, hn, hd => by
    have hne : l ≠ [] := by rintro rfl; simp at hn
    obtain ⟨m, c, rfl⟩ : ∃ m c, l = m ++ [c] := ⟨l.dropLast, l.getLast hne, (List.dropLast_concat_getLast hne).symm⟩
    have ih := valH_lt n m (by simpa using hn) (fun x hx => hd x (by simp [hx]))
    have h2 := hexV_lt c (hd c (by simp))
    rw [valH_snoc, Nat.pow_succ]
    omega
theorem hexD_hex (n : Nat) (h : n < 16) : isHex (hexD n) = true ∧ hexV (hexD n) = n := by
  have : n = 0 ∨ n = 1 ∨ n = 2 ∨ n = 3 ∨ n = 4 ∨ n = 5 ∨ n = 6 ∨ n = 7 ∨ n = 8 ∨ n = 9 ∨ n = 10 ∨ n = 11 ∨ n = 12 ∨ n = 13 ∨ n = 14 ∨ n = 15 := by omega
  rcases this with rfl | rfl | rfl | rfl | rfl | rfl | rfl | rfl | rfl | rfl | rfl | rfl | rfl | rfl | rfl | rfl <;> decide
theorem groupP_hex (n : Nat) : (∀ c ∈ groupP n, isHex c = true) ∧ valH (groupP n) = n ∧ 1 ≤ (groupP n).length := by
  induction n using Nat.strongRecOn with
  | ind n ih =>
    by_cases h : n < 16
    · have := hexD_hex n h
      rw [groupP_small h]
      simp [valH, this.1, this.2]
    · have ih2 := ih (n / 16) (by omega)
      have := hexD_hex (n % 16) (by omega)
      rw [groupP_big h, valH_snoc, ih2.2.1, this.2]
      refine ⟨fun c hc => ?_, by omega, by simp⟩
      rcases List.mem_append.1 hc with hc | hc
      · exact ih2.1 c hc
      · simp at hc; rw [hc]; exact this.1
set_option maxHeartbeats 4000000 in
set_option maxRecDepth 100000 in
theorem ipuh_any (w : World) (s : ByteArray) (l : List UInt8) (hs : s.data.toList = l) (hl : 1 ≤ l.length) (hl4 : l.length ≤ 4) (hx : ∀ c ∈ l, isHex c = true) :
    Calls Tryz.prog 159 #[.string s, .int .i64 16, .int .i64 16] w fun e w' => e = .returned (.tuple #[.int .u64 ((valH l : Nat) : Int), .nilIface]) ∧ Below w.heap.size w w' := by
  have hsz : s.size = l.length := size_of hs
  have ht : s.toList.isEmpty = false := by
    rw [ByteArray.toList_eq, hs]
    cases l with
    | nil => simp at hl
    | cons => rfl
  obtain ⟨cap, w1, hrun, hc1, hc2, hb1, hz1, hr1⟩ := conv_bytes (P := Tryz.prog) w 9 29 5 s Tryz.underlying9 Tryz.underlying29 Tryz.underlying5 (by omega)
  rw [hs] at hr1
  rw [hsz] at hrun hc1
  obtain ⟨len, hlen⟩ : ∃ n, n = l.length := ⟨_, rfl⟩
  rw [← hlen] at hrun hl hl4 hc1 hsz
  have hmv : IntKind.u64.wrap (IntKind.u64.wrap 65536 - 1) = 65535 := by
    rw [IntKind.wrap_u64, IntKind.wrap_u64]
    decide
  have kc : ∀ x : UInt8, isHex x = true → (48 ≤ x.toNat ∧ x.toNat ≤ 57 ∧ hexV x + 48 = x.toNat) ∨ (97 ≤ x.toNat ∧ x.toNat ≤ 102 ∧ hexV x + 87 = x.toNat) := by
    intro x hx
    unfold isHex at hx
    simp only [Bool.or_eq_true, decide_eq_true_eq] at hx
    unfold hexV
    split <;> omega
  have KC := Lib.hid kc
  have HX := Lib.hid hx
  have HR := Lib.hid hr1
  have HLN := Lib.hid hlen
  clear kc hx hr1 hs hz1 hlen
  go_enter Tryz.func159, Tryz.ntmps159
  go_wp2
  go_loop [12, 13, 101] (fun vu vn vi => vu = .bool false ∧ ∃ k : Nat, k ≤ len ∧ vi = .int .i64 k ∧ vn = .int .u64 ((valH (l.take k) : Nat) : Int)) (fun _ _ vi => len - (intOf vi).toNat)
  case atStart => exact ⟨rfl, 0, Nat.zero_le _, rfl, rfl⟩
  case round =>
    obtain ⟨rfl, k, hk, rfl, rfl⟩ := hrel
    by_cases hlt : k < len
    · have hkl : k < l.length := by have := HLN.out; omega
      have hcell := HR.out.cell (i := k) hkl
      have hK := KC.out l[k] (HX.out _ (List.getElem_mem hkl))
      have hq16 := hexV_lt l[k] (HX.out _ (List.getElem_mem hkl))
      have hv := valH_take l k hkl
      have hvl := valH_lt k (l.take k) (by simp; omega) (fun c hc => HX.out c (List.mem_of_mem_take hc))
      have hvl2 : valH (l.take k) < 4096 := Nat.lt_of_lt_of_le hvl (by
        have : k = 0 ∨ k = 1 ∨ k = 2 ∨ k = 3 := by omega
        rcases this with rfl | rfl | rfl | rfl <;> decide)
      obtain ⟨p, hp⟩ : ∃ p, p = valH (l.take k) := ⟨_, rfl⟩
      obtain ⟨q, hq⟩ : ∃ q, q = hexV l[k] := ⟨_, rfl⟩
      obtain ⟨n, hn⟩ : ∃ n, n = l[k].toNat := ⟨_, rfl⟩
      rw [← hp] at hv hvl2 ⊢
      rw [← hq] at hv hK hq16
      rw [← hn] at hcell hK
      have HV := Lib.hid hv
      clear hvl hp hq hn hv
      have d6 : decide ((1152921504606846976 : Int) ≤ (p : Int)) = false := by rw [decide_eq_false_iff_not]; omega
      have a6 : IntKind.u64.wrap ((p : Int) * 16) = (p : Int) * 16 := IntWalk.u64_in _ (by omega)
      have a7 : IntKind.u64.wrap ((p : Int) * 16 + (q : Int)) = (p : Int) * 16 + (q : Int) := IntWalk.u64_in _ (by omega)
      have d7 : decide ((p : Int) * 16 + (q : Int) < (p : Int) * 16) = false := by rw [decide_eq_false_iff_not]; omega
      have d8 : decide ((65535 : Int) < (p : Int) * 16 + (q : Int)) = false := by rw [decide_eq_false_iff_not]; omega
      have d3 : decide ((16 : Int) ≤ (q : Int)) = false := by rw [decide_eq_false_iff_not]; omega
      rcases hK with ⟨h1, h2, h3⟩ | ⟨h1, h2, h3⟩
      · have e1 : ((n : Int) - 48) = (q : Int) := by omega
        have d0 : ((n : Int) == 95) = false := by rw [beq_eq_false_iff_ne]; omega
        have d1 : decide ((48 : Int) ≤ (n : Int)) = true := by rw [decide_eq_true_iff]; omega
        have d2 : decide ((n : Int) ≤ 57) = true := by rw [decide_eq_true_iff]; omega
        have a1 : IntKind.u8.wrap ((n : Int) - 48) = (n : Int) - 48 := IntWalk.u8_in _ (by omega)
        clear h3
        go_wp2
        go_round
        case rel => exact ⟨rfl, k + 1, by omega, by go_num, by rw [HV.out]; go_num⟩
        case measure => simp [intOf]; omega
      · have e1 : ((n : Int) - 97 + 10) = (q : Int) := by omega
        have d0 : ((n : Int) == 95) = false := by rw [beq_eq_false_iff_ne]; omega
        have d1 : decide ((48 : Int) ≤ (n : Int)) = true := by rw [decide_eq_true_iff]; omega
        have d2 : decide ((n : Int) ≤ 57) = false := by rw [decide_eq_false_iff_not]; omega
        have d4 : decide ((97 : Int) ≤ (n : Int)) = true := by rw [decide_eq_true_iff]; omega
        have d5 : decide ((n : Int) ≤ 122) = true := by rw [decide_eq_true_iff]; omega
        have a1 : IntKind.u8.wrap ((n : Int) - 97) = (n : Int) - 97 := IntWalk.u8_in _ (by omega)
        have a2 : IntKind.u8.wrap ((n : Int) - 97 + 10) = (n : Int) - 97 + 10 := IntWalk.u8_in _ (by omega)
        clear h3
        have HLo := Lib.hid (fun w' => lower_hex w' n h1 h2)
        go_wp2_with (go_at_call 191; refine (HLo.out _).mono ?_; rintro e w' ⟨rfl, rfl⟩)
        go_round
        case rel => exact ⟨rfl, k + 1, by omega, by go_num, by rw [HV.out]; go_num⟩
        case measure => simp [intOf]; omega
    · have hall : l.take k = l := List.take_of_length_le (by have := HLN.out; omega)
      rw [hall]
      go_wp2
      go_ret2
      exact ⟨rfl, hb1⟩
theorem puh_any (w : World) (s : ByteArray) (l : List UInt8) (hs : s.data.toList = l) (hl : 1 ≤ l.length) (hl4 : l.length ≤ 4) (hx : ∀ c ∈ l, isHex c = true) :
    Calls Tryz.prog 132 #[.string s, .int .i64 16, .int .i64 16] w fun e w' => e = .returned (.tuple #[.int .u64 ((valH l : Nat) : Int), .nilIface]) ∧ Below w.heap.size w w' := by
  have H := Lib.hid (ipuh_any w s l hs hl hl4 hx)
  clear hs hl hl4 hx
  go_enter Tryz.func132, Tryz.ntmps132
  go_wp2_with fail
  refine H.out.mono ?_
  rintro e w1 ⟨rfl, hb⟩
  go_wp2
  go_ret2
  exact ⟨rfl, hb⟩
end
section
open Go.ChangeShapes Go.WideShapes Go.ChangeAt Go.RowKit

theorem split_words (w : World) (s : ByteArray) (c : UInt8) (vs : List (List UInt8)) (hs : s.data.toList = joinP c vs) (hne : vs ≠ []) (hno : ∀ v ∈ vs, ∀ x ∈ v, x ≠ c) (hz : s.size ≤ 100000) (hv : ∀ v ∈ vs, v.length ≤ 100000) (hn : vs.length ≤ 1000) (hE : Env w) :
    Calls Tryz.prog 76 #[.string s, .string ⟨#[c]⟩] w fun e w' => ∃ G, e = .returned (.slice (some ⟨G, 0, none⟩) vs.length vs.length) ∧ Strs w' (some ⟨G, 0, none⟩) vs.length vs.length (vs.map strOf) ∧ Below w.heap.size w w' := by
  obtain ⟨m, hm⟩ := hE.max
  refine (Tryz.strings_Split s ⟨#[c]⟩ m w (by omega) hm (by show 1 ≤ 1; omega)).mono fun e w' ⟨h1, h2⟩ => ?_
  have hlen := Lib.splitB_all ⟨#[c]⟩ (by show 1 ≤ 1; omega) 0 _ s rfl
  have heq := splitB_one s c
  rw [hs, split_join c vs hne hno] at heq
  obtain ⟨ws, hws⟩ : ∃ ws, ws = Lib.splitB ⟨#[c]⟩ 0 (Lib.countB s ⟨#[c]⟩) s := ⟨_, rfl⟩
  rw [← hws] at h2 hlen heq
  have hww : ws = vs.map strOf := by
    rw [← heq, List.map_map]
    conv => lhs; rw [← List.map_id ws]
    apply List.map_congr_left
    intro x _
    exact bytes_eq _ _ rfl
  have hl : ws.length = vs.length := by rw [hww]; simp
  subst h2
  refine ⟨w.heap.size, ?_, ?_, (Below.refl _ _).alloc (Nat.le_refl _) _⟩
  · rw [h1, ← hlen, hl]
  · rw [← hww, ← hl]
    refine ⟨⟨by simp, Nat.le_refl _, by omega, by omega, fun e => (by cases e), fun h0 => ⟨w.heap.size, 0, rfl, fun i hi => ?_⟩⟩, fun x hx => ?_⟩
    · rw [Nat.zero_add]
      refine (World.cell?_alloc_new w _ _ i).trans ?_
      rw [List.getElem?_toArray, List.getElem?_eq_getElem hi]
    · rw [hww] at hx
      obtain ⟨v, hv', rfl⟩ := List.mem_map.1 hx
      have := hv v hv'
      show v.toArray.size ≤ _
      simp
      omega
theorem dec_no (n : Nat) (c : UInt8) (hc : c.toNat < 48 ∨ 57 < c.toNat) : ∀ x ∈ Lib.decDigits n, x ≠ c := by
  induction n using Nat.strongRecOn with
  | ind n ih =>
    intro x hx
    rw [Lib.decDigits] at hx
    split at hx
    · rename_i h
      simp at hx
      subst hx
      rintro rfl
      have : (UInt8.ofNat (48 + n)).toNat = 48 + n := by rw [UInt8.toNat_ofNat']; omega
      first | omega | (simp at hc; omega)
    · rename_i h
      rcases List.mem_append.1 hx with hx | hx
      · exact ih (n / 10) (by omega) x hx
      · simp at hx
        subst hx
        rintro rfl
        have : (UInt8.ofNat (48 + n % 10)).toNat = 48 + n % 10 := by rw [UInt8.toNat_ofNat']; omega
        first | omega | (simp at hc; omega)
theorem group_no (n : Nat) : ∀ x ∈ groupP n, x ≠ 58 := by
  intro x hx
  have := (groupP_hex n).1 x hx
  rintro rfl
  revert this
  decide
theorem decB_size (c : UInt8) : (Lib.decDigits c.toNat).length ≤ 20 := dec_len20 _ (by have := c.toNat_lt; omega)
theorem decB_num (c : UInt8) : numP (Lib.decDigits c.toNat) = some (c.toNat : Int) := by
  have e : Lib.itoa (c.toNat : Int) = Lib.decDigits c.toNat := by simp [Lib.itoa]
  rw [← e]
  exact numP_itoa _ (by omega) (by have := c.toNat_lt; omega)
theorem but_size {w w' : World} {R : Nat} (h : w.grownBy w' (some R)) : w.heap.size ≤ w'.heap.size := h.size
theorem byts_but {w w' : World} {R g n c : Nat} {l : List UInt8} (h : Byts w (some ⟨g, 0, none⟩) n c l) (hb : w.grownBy w' (some R)) (hg : R < g) : Byts w' (some ⟨g, 0, none⟩) n c l :=
  h.grown hb fun a e => by cases e; exact fun h => by have := Option.some.inj h; simp only at this; omega

set_option maxHeartbeats 4000000 in
set_option maxRecDepth 100000 in
theorem four_any (w : World) (R B : Nat) (oa : Option Addr) (ol oc : Nat) (l : List UInt8) (ws : List ByteArray) (h : Rd w R B oa ol oc (strOf (joinP 46 (l.map fun c => Lib.decDigits c.toNat)) :: ws)) (hE : Env w) (hl : l.length = 4) :
    Calls Tryz.prog 96 #[.pointer (some ⟨R, 0, none⟩)] w fun e w' => ∃ g c, e = .returned (.slice (some ⟨g, 0, none⟩) 4 c) ∧ Byts w' (some ⟨g, 0, none⟩) 4 c l ∧ w.heap.size ≤ g ∧ Rd w' R B oa ol oc ws ∧ w.grownBy w' (some R) := by
  have HW := Lib.hid (word_any w R B oa ol oc _ ws h)
  have HE := Lib.hid hE
  have HL := Lib.hid h.low
  have hjl := joinP_len 46 20 (l.map fun c => Lib.decDigits c.toNat) (by
    intro x hx
    obtain ⟨c, _, rfl⟩ := List.mem_map.1 hx
    exact decB_size c)
  rw [List.length_map, hl] at hjl
  obtain ⟨s, hs⟩ : ∃ s, s = strOf (joinP 46 (l.map fun c => Lib.decDigits c.toNat)) := ⟨_, rfl⟩
  have hsd : s.data.toList = joinP 46 (l.map fun c => Lib.decDigits c.toNat) := by rw [hs]; rfl
  have hsz : s.size ≤ 84 := by rw [size_of hsd]; exact hjl
  rw [← hs] at HW
  have HSP := Lib.hid (fun w' (hE' : Env w') => split_words w' s 46 (l.map fun c => Lib.decDigits c.toNat) hsd (by intro h; have := congrArg List.length h; simp at this; rw [this] at hl; simp at hl) (by
    intro v hv x hx
    obtain ⟨c, _, rfl⟩ := List.mem_map.1 hv
    exact dec_no _ 46 (by decide) x hx) (by omega) (by
    intro v hv
    obtain ⟨c, _, rfl⟩ := List.mem_map.1 hv
    have := decB_size c
    omega) (by simp; omega) hE')
  simp only [List.length_map, hl] at HSP
  have HLL := Lib.hid hl
  clear h hE hs hsd hjl hl
  go_enter Tryz.func96, Tryz.ntmps96
  go_wp2_with fail
  refine HW.out.mono ?_
  rintro e w1 ⟨rfl, hrd1, hg1⟩
  have HE1 := Lib.hid (HE.out.but hg1 HL.out)
  have HRD1 := Lib.hid hrd1
  have HG1 := Lib.hid hg1
  clear hrd1 hg1 HW
  go_wp2_with fail
  refine (HSP.out _ HE1.out).mono ?_
  rintro e w2 ⟨G, rfl, hst, hb2⟩
  have HST := Lib.hid hst
  have HRD2 := Lib.hid (HRD1.out.on hb2)
  have HE2 := Lib.hid (HE1.out.on hb2)
  have HG2 := Lib.hid (but_trans HG1.out (but_of_below R hb2))
  clear hst hb2 HSP HRD1 HE1 HG1
  go_wp2_with fail
  refine (check_any w2 R B oa ol oc ws HRD2.out).mono ?_
  rintro e w3 ⟨rfl, rfl⟩
  go_wp2_with fail
  go_loopw [19, 3] (fun iv ov wr => ∃ k : Nat, k ≤ 4 ∧ iv = .int .i64 k ∧ Hid (Below w3.heap.size w3 wr ∧ wr.ownsRow w3.heap.size 5 1 ov k ((l.take k).map fun c => Value.int .u8 (c.toNat : Int)))) (fun iv _ _ => 4 - (intOf iv).toNat)
  case atStart => exact ⟨0, Nat.zero_le _, rfl, Below.refl _ _, World.ownsRow_nil _ _ _ _⟩
  case round =>
    obtain ⟨k, hk, rfl, hinv⟩ := hrel
    by_cases hlt : k < 4
    · have hkl : k < l.length := by have := HLL.out; omega
      have q1 := (HST.out.below hinv.out.1 (Nat.le_refl _)).at hlt
      simp only [List.getElem_map, Nat.zero_add] at q1
      have hsn := map_snoc (fun c : UInt8 => Value.int .u8 (c.toNat : Int)) l k hkl
      obtain ⟨c, hc⟩ : ∃ c, c = l[k] := ⟨_, rfl⟩
      rw [← hc] at q1 hsn
      have HSN := Lib.hid hsn
      have hnum := numf_any wr (strOf (Lib.decDigits c.toNat)) 255 (by have := decB_size c; show (Lib.decDigits c.toNat).toArray.size ≤ _; simp; omega) (HE2.out.on hinv.out.1)
      rw [show (strOf (Lib.decDigits c.toNat)).data.toList = Lib.decDigits c.toNat from rfl, decB_num] at hnum
      have hok : okN (some (c.toNat : Int)) 255 = true := by have := c.toNat_lt; simp [okN]; omega
      obtain ⟨t, ht⟩ : ∃ t, t = strOf (Lib.decDigits c.toNat) := ⟨_, rfl⟩
      rw [← ht] at q1 hnum
      obtain ⟨n, hn⟩ : ∃ n, n = c.toNat := ⟨_, rfl⟩
      have hn2 : n < 256 := by rw [hn]; exact c.toNat_lt
      rw [← hn] at hnum hok hsn
      have HNE := Lib.hid hn
      have HNUM := Lib.hid hnum
      clear hc hsn hnum ht hn
      go_wp2_with fail
      refine HNUM.out.mono ?_
      rintro e w4 ⟨hb4, v, rfl, hv⟩
      have hv1 : v = n := by have := hv hok; simpa using this.symm
      subst hv1
      rw [hok]
      have a1 : IntKind.u8.wrap (n : Int) = (n : Int) := IntWalk.u8_in _ (by omega)
      have HB4 := Lib.hid (below_on hinv.out.1 hb4 (Nat.le_refl _))
      have HCK := Lib.hid (check_any w4 R B oa ol oc ws (HRD2.out.on HB4.out))
      obtain ⟨i0, hi, hz0, hz1, hz2⟩ := info_parts infoByte
      obtain ⟨v', w5, hrun, hown5, _, hb6⟩ := append_one (P := Tryz.prog) w4 w3 w3.heap.size 29 29 5 i0 _ 1 Tryz.underlying29 hi hz0 hz1 hz2 rfl _ _ _ (owns_keep hinv.out.2 hb4) (.int .u8 (n : Int)) rfl (by omega) (by omega) HB4.out HB4.out.size
      have HRUN := Lib.hid hrun
      have HOW := Lib.hid (show w5.ownsRow w3.heap.size 5 1 v' (k + 1) ((l.take (k + 1)).map fun c => Value.int .u8 (c.toNat : Int)) by rw [HSN.out, ← HNE.out]; exact hown5)
      have HB6 := Lib.hid hb6
      clear hrun hown5 hb6 hi hz0 hz1 hz2 hb4 hv HNUM hok
      go_wp2_with fail
      refine HCK.out.mono ?_
      rintro e w9 ⟨rfl, rfl⟩
      go_wp2_with (at_builtin; refine wpList_append_run rfl _ _ _ rfl _ _ rfl rfl HRUN.out ?_)
      go_roundw
      case rel => exact ⟨k + 1, by omega, by go_num, HB6.out, HOW.out⟩
      case measure => simp [intOf]; omega
    · obtain rfl : k = 4 := by omega
      have hi2 := hinv.out
      rw [List.take_of_length_le (by have := HLL.out; omega)] at hi2
      obtain ⟨g, c, rfl, hge, hrow⟩ := row_own hi2.2 (by omega) (by omega)
      have HR := Lib.hid hrow
      have HGE := Lib.hid (Nat.le_trans HG2.out.size hge)
      have HRD3 := Lib.hid (HRD2.out.on hi2.1)
      have HG3 := Lib.hid (but_trans HG2.out (but_of_below R hi2.1))
      clear hi2 hinv hrow hge
      go_wp2_with fail
      go_ret
      exact ⟨g, c, rfl, HR.out, HGE.out, HRD3.out, HG3.out⟩
end
section
open Go.ChangeShapes Go.WideShapes Go.ChangeAt Go.RowKit
set_option maxHeartbeats 4000000 in
set_option maxRecDepth 100000 in
theorem eight_any (w : World) (R B : Nat) (oa : Option Addr) (ol oc : Nat) (l : List UInt8) (ws : List ByteArray) (h : Rd w R B oa ol oc (strOf (joinP 58 ((pairsP l).map groupP)) :: ws)) (hE : Env w) (hBu : Bru w) (hBR : 8 < R) (hl : l.length = 16) :
    Calls Tryz.prog 97 #[.pointer (some ⟨R, 0, none⟩)] w fun e w' => ∃ g c, e = .returned (.slice (some ⟨g, 0, none⟩) 16 c) ∧ Byts w' (some ⟨g, 0, none⟩) 16 c l ∧ w.heap.size ≤ g ∧ Rd w' R B oa ol oc ws ∧ w.grownBy w' (some R) := by
  have HW := Lib.hid (word_any w R B oa ol oc _ ws h)
  have HE := Lib.hid hE
  have HL := Lib.hid h.low
  have hpl := pairs_len 8 l hl
  have hjl := joinP_len 58 4 ((pairsP l).map groupP) (by
    intro x hx
    obtain ⟨u, hu, rfl⟩ := List.mem_map.1 hx
    exact groupP_len u (pairs_lt l u hu))
  rw [List.length_map, hpl] at hjl
  have HBU := Lib.hid hBu
  obtain ⟨s, hs⟩ : ∃ s, s = strOf (joinP 58 ((pairsP l).map groupP)) := ⟨_, rfl⟩
  have hsd : s.data.toList = joinP 58 ((pairsP l).map groupP) := by rw [hs]; rfl
  have hsz : s.size ≤ 40 := by rw [size_of hsd]; exact hjl
  rw [← hs] at HW
  have HSP := Lib.hid (fun w' (hE' : Env w') => split_words w' s 58 ((pairsP l).map groupP) hsd (by intro h; have := congrArg List.length h; rw [List.length_map, hpl] at this; simp at this) (by
    intro v hv x hx
    obtain ⟨u, _, rfl⟩ := List.mem_map.1 hv
    exact group_no _ x hx) (by omega) (by
    intro v hv
    obtain ⟨u, hu, rfl⟩ := List.mem_map.1 hv
    have := groupP_len u (pairs_lt l u hu)
    omega) (by rw [List.length_map, hpl]; omega) hE')
  simp only [List.length_map, hpl] at HSP
  have HLL := Lib.hid hl
  clear h hE hs hsd hjl hl hpl hBu
  go_enter Tryz.func97, Tryz.ntmps97
  go_wp2_with fail
  refine HW.out.mono ?_
  rintro e w1 ⟨rfl, hrd1, hg1⟩
  have HE1 := Lib.hid (HE.out.but hg1 HL.out)
  have HRD1 := Lib.hid hrd1
  have HG1 := Lib.hid hg1
  clear hrd1 hg1 HW
  go_wp2_with fail
  refine (HSP.out _ HE1.out).mono ?_
  rintro e w2 ⟨G, rfl, hst, hb2⟩
  have HST := Lib.hid hst
  have HRD2 := Lib.hid (HRD1.out.on hb2)
  have HE2 := Lib.hid (HE1.out.on hb2)
  have HG2 := Lib.hid (but_trans HG1.out (but_of_below R hb2))
  clear hst hb2 HSP HRD1 HE1 HG1
  go_wp2_with fail
  refine (check_any w2 R B oa ol oc ws HRD2.out).mono ?_
  rintro e w3 ⟨rfl, rfl⟩
  go_wp2_with fail
  have HBU3 := Lib.hid (show Bru w3 by
    have h1 := HBU.out
    unfold Bru at h1 ⊢
    have hlt := World.block_lt_of_cell? w _ h1
    have hb := HG2.out.block 8 (by simpa using hlt) (fun h => by have := Option.some.inj h; omega)
    rw [cell_same hb]
    exact h1)
  go_loopw [19, 3] (fun iv ov wr => ∃ k : Nat, k ≤ 8 ∧ iv = .int .i64 k ∧ Hid (Below w3.heap.size w3 wr ∧ wr.ownsRow w3.heap.size 5 1 ov (2 * k) ((l.take (2 * k)).map fun c => Value.int .u8 (c.toNat : Int)))) (fun iv _ _ => 8 - (intOf iv).toNat)
  case atStart => exact ⟨0, Nat.zero_le _, rfl, Below.refl _ _, World.ownsRow_nil _ _ _ _⟩
  case round =>
    obtain ⟨k, hk, rfl, hinv⟩ := hrel
    by_cases hlt : k < 8
    · have hl2 := HLL.out
      have hpl := pairs_len 8 l hl2
      have q1 := (HST.out.below hinv.out.1 (Nat.le_refl _)).at hlt
      simp only [List.getElem_map, Nat.zero_add] at q1
      have hps := prs_snoc k l (by omega)
      rw [List.take_succ_eq_append_getElem (by omega)] at hps
      have hpk := List.append_cancel_left hps
      simp only [List.cons.injEq, and_true] at hpk
      rw [hpk] at q1
      have hsn : (l.take (2 * (k + 1))).map (fun c : UInt8 => Value.int .u8 (c.toNat : Int)) = (l.take (2 * k)).map (fun c : UInt8 => Value.int .u8 (c.toNat : Int)) ++ [.int .u8 ((l[2 * k]'(by omega)).toNat : Int), .int .u8 ((l[2 * k + 1]'(by omega)).toNat : Int)] := by
        rw [show 2 * (k + 1) = 2 * k + 1 + 1 by omega, List.take_succ_eq_append_getElem (show 2 * k + 1 < l.length by omega), List.take_succ_eq_append_getElem (show 2 * k < l.length by omega)]
        simp only [List.map_append, List.map_cons, List.map_nil, List.append_assoc, List.cons_append, List.nil_append]
      obtain ⟨x, hx⟩ : ∃ x, x = (l[2 * k]'(by omega)).toNat := ⟨_, rfl⟩
      obtain ⟨y, hy⟩ : ∃ y, y = (l[2 * k + 1]'(by omega)).toNat := ⟨_, rfl⟩
      have hx2 : x < 256 := by rw [hx]; exact UInt8.toNat_lt _
      have hy2 : y < 256 := by rw [hy]; exact UInt8.toNat_lt _
      rw [← hx, ← hy] at q1 hsn
      obtain ⟨z, hz⟩ : ∃ z, z = x * 256 + y := ⟨_, rfl⟩
      rw [← hz] at q1
      have hz2 : z < 65536 := by omega
      have hgx := groupP_hex z
      have hgl := groupP_len z hz2
      have hF := fmt16_any
      have HP := Lib.hid (puh_any wr (strOf (groupP z)) (groupP z) rfl hgx.2.2 hgl hgx.1)
      rw [hgx.2.1] at HP
      have HF := Lib.hid (fun w' (hb : Bru w') => fmt16_any w' z hz2 hb)
      obtain ⟨t, ht⟩ : ∃ t, t = strOf (groupP z) := ⟨_, rfl⟩
      have ht2 : (⟨(groupP z).toArray⟩ : ByteArray) = t := ht.symm
      rw [← ht] at q1 HP
      rw [ht2] at HF
      have HSN := Lib.hid hsn
      have a1 : (z : Int) / 256 = (x : Int) := by omega
      have a2 : IntKind.u8.wrap (x : Int) = (x : Int) := IntWalk.u8_in _ (by omega)
      have a3 : IntKind.u8.wrap (z : Int) = (y : Int) := by rw [IntKind.wrap_u8]; omega
      clear hpk hps hsn hgx hgl hx hy hz hl2 hpl ht ht2 hF
      go_wp2_with fail
      refine HP.out.mono ?_
      rintro e w4 ⟨rfl, hb4⟩
      have HB4 := Lib.hid (below_on hinv.out.1 hb4 (Nat.le_refl _))
      have HOW4 := Lib.hid (owns_keep hinv.out.2 hb4)
      clear hb4 HP
      go_wp2_with fail
      refine (HF.out _ (HBU3.out.on HB4.out)).mono ?_
      rintro e w5 ⟨rfl, hb5⟩
      have HB5 := Lib.hid (below_on HB4.out hb5 (Nat.le_refl _))
      have HOW5 := Lib.hid (owns_keep HOW4.out hb5)
      have HCK := Lib.hid (check_any w5 R B oa ol oc ws (HRD2.out.on HB5.out))
      clear hb5 HF HOW4 HB4
      go_wp2_with fail
      refine HCK.out.mono ?_
      rintro e w9 ⟨rfl, rfl⟩
      obtain ⟨i0, hi, hz0, hz1, hz2⟩ := info_parts infoByte
      obtain ⟨v', w6, hrun, hown6, hgr⟩ := append_row (P := Tryz.prog) (w9.alloc (.cells #[.int .u8 (x : Int), .int .u8 (y : Int)] 5)) w3.heap.size 29 29 5 i0 _ 1 Tryz.underlying29 hi hz0 hz1 hz2 rfl _ _ _ (HOW5.out.alloc _) (some ⟨w9.heap.size, 0, none⟩) 2 2 [.int .u8 (x : Int), .int .u8 (y : Int)] (row_lit w9 [.int .u8 (x : Int), .int .u8 (y : Int)] 5 (by simp)) (by intro u hu; simp at hu; rcases hu with rfl | rfl <;> rfl) (by omega) (by omega) (by have := HB5.out.size; simp; omega)
      have HRUN := Lib.hid hrun
      have HOW := Lib.hid (show w6.ownsRow w3.heap.size 5 1 v' (2 * (k + 1)) ((l.take (2 * (k + 1))).map fun c => Value.int .u8 (c.toNat : Int)) by rw [HSN.out]; exact hown6)
      have HB6 := Lib.hid (show Below w3.heap.size w3 w6 from (HB5.out.alloc HB5.out.size _).grown hgr (by have := HB5.out.size; simp; omega) (fun j hj => (HOW5.out.lt j hj).1))
      clear hrun hown6 hgr hi hz0 hz1 hz2
      go_wp2_with (at_builtin; refine wpList_append_run rfl _ _ _ rfl _ _ rfl rfl HRUN.out ?_)
      go_roundw
      case rel => exact ⟨k + 1, by omega, by go_num, HB6.out, HOW.out⟩
      case measure => simp [intOf]; omega
    · obtain rfl : k = 8 := by omega
      have hi2 := hinv.out
      rw [List.take_of_length_le (by have := HLL.out; omega)] at hi2
      obtain ⟨g, c, rfl, hge, hrow⟩ := row_own hi2.2 (by omega) (by omega)
      have HR := Lib.hid hrow
      have HGE := Lib.hid (Nat.le_trans HG2.out.size hge)
      have HRD3 := Lib.hid (HRD2.out.on hi2.1)
      have HG3 := Lib.hid (but_trans HG2.out (but_of_below R hi2.1))
      clear hi2 hinv hrow hge
      go_wp2_with fail
      go_ret
      exact ⟨g, c, rfl, HR.out, HGE.out, HRD3.out, HG3.out⟩
end
section
open Go.ChangeShapes Go.WideShapes Go.ChangeAt Go.RowKit

theorem dig_digB (n : Nat) (h : n < 10) : digB (dig n) = true := by
  have := dig_toNat n h
  rw [digB, decide_eq_true_iff]; omega
theorem num3_dig (n : Nat) (h : n < 256) : num3 (dig (n / 100)) (dig (n / 10 % 10)) (dig (n % 10)) = n := by
  have h1 := dig_toNat (n / 100) (by omega)
  have h2 := dig_toNat (n / 10 % 10) (by omega)
  have h3 := dig_toNat (n % 10) (by omega)
  rw [num3, h1, h2, h3]; omega
set_option maxHeartbeats 2000000 in
set_option maxRecDepth 100000 in
theorem code_any (w : World) (s : ByteArray) (n : Nat) (r : List UInt8) (hs : s.data.toList = dig (n / 100) :: dig (n / 10 % 10) :: dig (n % 10) :: r) (hn : n < 256) (hc : n < 32 ∨ 126 < n) (hz : s.size ≤ 100000) :
    Calls Tryz.prog 135 #[.string s] w fun e w' => e = .returned (.tuple #[.int .u8 (n : Int), .bool true]) ∧ Below w.heap.size w w' := by
  have h3 : 3 ≤ s.size := by rw [size_of hs]; simp
  have hx : (s.extract 0 3).data.toList = [dig (n / 100), dig (n / 10 % 10), dig (n % 10)] := by rw [extract_head, hs]; rfl
  have hxs : (s.extract 0 3).size = 3 := size_of hx
  have d1 := dig_digB (n / 100) (by omega)
  have d2 := dig_digB (n / 10 % 10) (by omega)
  have d3 := dig_digB (n % 10) (by omega)
  have hp := pu_three (dig (n / 100)) (dig (n / 10 % 10)) (dig (n % 10)) d1
  rw [d2, d3, num3_dig n hn] at hp
  simp only [Bool.and_self, if_true] at hp
  rw [if_pos (by omega), ← hx] at hp
  have htr := trim_digits _ _ _ d1 d2 d3
  have HP := Lib.hid (fun w' => Tryz.strconv_ParseUint_10_at8_ok (s.extract 0 3) (by omega) _ hp w')
  have HTr := Lib.hid (fun w' => Tryz.strings_Trim_ascii (s.extract 0 3) ⟨#[48, 49, 50, 51, 52, 53, 54, 55, 56, 57]⟩ w' (by omega) (by decide) (ascii_of_all (by decide)))
  have HX : Hid ((⟨(Lib.trimS (s.extract 0 3).data.toList [48, 49, 50, 51, 52, 53, 54, 55, 56, 57]).toArray⟩ : ByteArray) = ⟨#[]⟩) := by
    show _ = _
    rw [hx, htr]
  have e1 : decide ((s.size : Int) < 3) = false := by rw [decide_eq_false_iff_not]; omega
  have a1 : IntKind.u8.wrap (n : Int) = (n : Int) := IntWalk.u8_in _ (by omega)
  clear hp hxs hx htr hs
  rcases hc with hc | hc
  · have e2 : decide ((n : Int) < 32) = true := by rw [decide_eq_true_eq]; omega
    go_enter Tryz.func135, Tryz.ntmps135
    go_wp2_with fail
    refine (HTr.out _).mono ?_
    rw [HX.out]
    rintro e w2 ⟨rfl, hb2⟩
    go_wp2_with fail
    refine (HP.out _).mono ?_
    rintro e w1 ⟨rfl, hw1⟩
    have hb1 : Below w2.heap.size w2 w1 := by
      rcases hw1 with rfl | rfl
      · exact Below.refl _ _
      · exact below_bytes _ _ _
    clear hw1
    go_wp2_with fail
    go_ret2
    exact ⟨rfl, below_on hb2 hb1 (Nat.le_refl _)⟩
  · have e2 : decide ((n : Int) < 32) = false := by rw [decide_eq_false_iff_not]; omega
    have e3 : decide ((126 : Int) < (n : Int)) = true := by rw [decide_eq_true_eq]; omega
    go_enter Tryz.func135, Tryz.ntmps135
    go_wp2_with fail
    refine (HTr.out _).mono ?_
    rw [HX.out]
    rintro e w2 ⟨rfl, hb2⟩
    go_wp2_with fail
    refine (HP.out _).mono ?_
    rintro e w1 ⟨rfl, hw1⟩
    have hb1 : Below w2.heap.size w2 w1 := by
      rcases hw1 with rfl | rfl
      · exact Below.refl _ _
      · exact below_bytes _ _ _
    clear hw1
    go_wp2_with fail
    go_ret2
    exact ⟨rfl, below_on hb2 hb1 (Nat.le_refl _)⟩
theorem get_mid {M : ByteArray} {A Q Z : List UInt8} (h : M.data.toList = A ++ (Q ++ Z)) (j : Nat) (hj : j < Q.length) (hi : A.length + j < M.size) : M[A.length + j] = Q[j] := by
  have h1 : M.data.toList[A.length + j]'(by simpa using hi) = Q[j] := by
    simp only [h]
    rw [List.getElem_append_right (by omega), List.getElem_append_left (by omega)]
    congr 1
    omega
  rw [← h1]; rfl
theorem flat_split (T : List UInt8) (k : Nat) (h : k < T.length) : T.flatMap quoteL = (T.take k).flatMap quoteL ++ (quoteL T[k] ++ (T.drop (k + 1)).flatMap quoteL) := by
  have e : T.flatMap quoteL = (T.take k ++ T.drop k).flatMap quoteL := by rw [List.take_append_drop]
  rw [e, List.flatMap_append, List.drop_eq_getElem_cons h, List.flatMap_cons]
theorem extract_mid (s : ByteArray) (x y : UInt8) (m : List UInt8) (h : s.data.toList = x :: (m ++ [y])) : (s.extract 1 (s.size - 1)).data.toList = m := by
  have hz : s.size = m.length + 2 := by rw [size_of h]; simp
  rw [Lib.extract_data, h, hz]
  simp
set_option maxHeartbeats 4000000 in
set_option maxRecDepth 100000 in
theorem qtext_any (w : World) (R B : Nat) (oa : Option Addr) (ol oc : Nat) (ws : List ByteArray) (t : ByteArray) (h : Rd w R B oa ol oc ws) (ht : t.size ≤ 300) :
    Calls Tryz.prog 100 #[.pointer (some ⟨R, 0, none⟩), .string (strOf (quotedP t.data.toList))] w fun e w' => e = .returned (.string t) ∧ Below w.heap.size w w' := by
  obtain ⟨T, hT⟩ : ∃ T, T = t.data.toList := ⟨_, rfl⟩
  have hTl : T.length ≤ 300 := by rw [hT]; simpa using ht
  have hfin : ∀ l, l = T → (⟨l.toArray⟩ : ByteArray) = t := fun l h => by rw [h]; exact (bytes_eq t T hT.symm).symm
  rw [← hT]
  obtain ⟨m, hm⟩ : ∃ m, m = T.flatMap quoteL := ⟨_, rfl⟩
  have hml := flat_le quoteL 4 quoteL_len T
  rw [← hm] at hml
  obtain ⟨s, hs⟩ : ∃ s, s = strOf (quotedP T) := ⟨_, rfl⟩
  have hsd : s.data.toList = 34 :: (m ++ [34]) := by rw [hs, hm]; rfl
  have hsz : s.size = m.length + 2 := by rw [size_of hsd]; simp
  rw [← hs]
  have hs0 : (s[0]'(by omega)).toNat = 34 := by
    have := get_mid (M := s) (A := []) (Q := [34]) (Z := m ++ [34]) hsd 0 (by simp) (by simp; omega)
    simp at this
    rw [this]; rfl
  have hsl : (s[m.length + 1]'(by omega)).toNat = 34 := by
    have := get_mid (M := s) (A := 34 :: m) (Q := [34]) (Z := []) (by rw [hsd]; simp) 0 (by simp) (by simp; omega)
    simp at this
    rw [this]; rfl
  have hex := extract_mid s 34 34 m hsd
  obtain ⟨M, hM⟩ : ∃ M, s.extract 1 (m.length + 1) = M := ⟨_, rfl⟩
  rw [hsz, show m.length + 2 - 1 = m.length + 1 by omega, hM] at hex
  have hMs : M.size = m.length := size_of hex
  have HEX := Lib.hid hex
  have HM := Lib.hid hm
  have HFIN := Lib.hid hfin
  have HRD := Lib.hid h
  have i0 : decide ((m.length : Int) + 2 < 2) = false := by rw [decide_eq_false_iff_not]; omega
  have i1 : ((m.length : Int) + 2 - 1) = (m.length : Int) + 1 := by omega
  have i2 : ((m.length : Int) + 1).toNat = m.length + 1 := by omega
  clear hfin hex hm hsd hs h hT
  go_enter Tryz.func100, Tryz.ntmps100
  go_wp2_with fail
  go_loopw [6, 5] (fun i o wr => ∃ k : Nat, k ≤ T.length ∧ i = .int .i64 (((T.take k).flatMap quoteL).length : Int) ∧ Hid (Below w.heap.size w wr ∧ wr.ownsRow w.heap.size 5 1 o k ((T.take k).map fun c => Value.int .u8 (c.toNat : Int)))) (fun i _ _ => m.length - (intOf i).toNat)
  case atStart => exact ⟨0, Nat.zero_le _, rfl, Below.refl _ _, World.ownsRow_nil _ _ _ _⟩
  case round =>
    obtain ⟨k, hk, rfl, hinv⟩ := hrel
    by_cases hlt : k < T.length
    · have hfs := flat_split T k hlt
      have hsn := map_snoc (fun c : UInt8 => Value.int .u8 (c.toNat : Int)) T k hlt
      have hfn := flat_snoc quoteL T k hlt
      obtain ⟨c, hc⟩ : ∃ c, c = T[k] := ⟨_, rfl⟩
      rw [← hc] at hfs hsn hfn
      rw [← HM.out] at hfs
      have hMd := HEX.out.trans hfs
      have hpl := congrArg List.length hfn
      rw [List.length_append] at hpl
      have hml2 := congrArg List.length hfs
      simp only [List.length_append] at hml2
      obtain ⟨A, hA⟩ : ∃ A, A = (T.take k).flatMap quoteL := ⟨_, rfl⟩
      rw [← hA] at hpl hml2 hMd ⊢
      obtain ⟨P, hP⟩ : ∃ P, P = A.length := ⟨_, rfl⟩
      obtain ⟨n, hn⟩ : ∃ n, n = c.toNat := ⟨_, rfl⟩
      have hn2 : n < 256 := by rw [hn]; exact c.toNat_lt
      have HNC := Lib.hid hn.symm
      have HSN := Lib.hid hsn
      have hP1 : ((P : Int) + 1).toNat = P + 1 := by omega
      by_cases hx : n = 34 ∨ n = 92
      · have hX := quoteL_hit (c := c) (by rw [← hn]; exact hx)
        rw [hX] at hMd hml2 hpl
        simp only [List.length_cons, List.length_nil] at hml2 hpl
        have hg := fun (j : Nat) (hj : j < 2) => get_mid hMd j hj (by rw [hMs]; omega)
        have hPm : P < M.size := by rw [hMs]; omega
        have h0 : (M[P]'hPm).toNat = 92 := by subst hP; have := hg 0 (by omega); simp at this; rw [this]; rfl
        have hPm1 : P + 1 < M.size := by rw [hMs]; omega
        have h1 : (M[P + 1]'hPm1).toNat = n := by subst hP; have := hg 1 (by omega); simp at this; rw [this, hn]
        have hlt1 : (P : Int) < (m.length : Int) := by omega
        have hlt2 : (P : Int) + 1 < (m.length : Int) := by omega
        rw [← hP] at hpl hml2
        have HPL := Lib.hid hpl
        have HML := Lib.hid hml2
        rw [← hP]
        clear hg hMd hfs hsn hfn hc hA hP hn hX hpl hml2
        try clear hml2
        try clear hpl
        try clear hMd
        rcases hx with hx | hx
        all_goals
          obtain ⟨i0, hi, hz0, hz1, hz2⟩ := info_parts infoByte
          obtain ⟨v', w5, hrun, hown5, _, hb6⟩ := append_one (P := Tryz.prog) wr w w.heap.size 29 29 5 i0 _ 1 Tryz.underlying29 hi hz0 hz1 hz2 rfl _ _ _ hinv.out.2 (.int .u8 (n : Int)) rfl (by omega) (by omega) hinv.out.1 hinv.out.1.size
          have HRUN := Lib.hid hrun
          have HOW := Lib.hid (show w5.ownsRow w.heap.size 5 1 v' (k + 1) ((T.take (k + 1)).map fun c => Value.int .u8 (c.toNat : Int)) by rw [HSN.out, HNC.out]; exact hown5)
          have HB6 := Lib.hid hb6
          clear hrun hown5 hb6 hi hz0 hz1 hz2
          subst hx
          go_wp2_with (at_builtin; refine wpList_append_run rfl _ _ _ rfl _ _ rfl rfl HRUN.out ?_)
          go_roundw
          case rel => exact ⟨k + 1, by omega, by congr 1; have := HPL.out; omega, HB6.out, HOW.out⟩
          case measure => simp [intOf]; omega
      · by_cases hy : n < 32 ∨ 126 < n
        · have hX := quoteL_num (c := c) (by rw [← hn]; exact hx) (by rw [← hn]; exact hy)
          rw [← hn] at hX
          rw [hX] at hMd hml2 hpl
          have hcd := hMd
          simp only [List.length_cons, List.length_nil] at hml2 hpl
          have hg := fun (j : Nat) (hj : j < 4) => get_mid hMd j hj (by rw [hMs]; omega)
          have hPm : P < M.size := by rw [hMs]; omega
          have h0 : (M[P]'hPm).toNat = 92 := by subst hP; have := hg 0 (by omega); simp at this; rw [this]; rfl
          obtain ⟨q, hq⟩ : ∃ q, q = (dig (n / 100)).toNat := ⟨_, rfl⟩
          have hPm1 : P + 1 < M.size := by rw [hMs]; omega
          have h1 : (M[P + 1]'hPm1).toNat = q := by subst hP; have := hg 1 (by omega); simp at this; rw [this, hq]
          have hq2 : q = 48 + n / 100 := by rw [hq]; exact dig_toNat _ (by omega)
          have q1 : ((q : Int) == 34) = false := by rw [beq_eq_false_iff_ne]; omega
          have q2 : ((q : Int) == 92) = false := by rw [beq_eq_false_iff_ne]; omega
          have hlt1 : (P : Int) < (m.length : Int) := by omega
          have hlt2 : (P : Int) + 1 < (m.length : Int) := by omega
          obtain ⟨X, hXe⟩ : ∃ X, M.extract (P + 1) m.length = X := ⟨_, rfl⟩
          have hXd : X.data.toList = dig (n / 100) :: dig (n / 10 % 10) :: dig (n % 10) :: (T.drop (k + 1)).flatMap quoteL := by
            rw [← hXe, ← hMs, extract_tail, hcd, hP]
            rw [show A ++ ([92, dig (n / 100), dig (n / 10 % 10), dig (n % 10)] ++ (T.drop (k + 1)).flatMap quoteL) = (A ++ [92]) ++ (dig (n / 100) :: dig (n / 10 % 10) :: dig (n % 10) :: (T.drop (k + 1)).flatMap quoteL) by simp]
            rw [List.drop_left' (by simp)]
          have HCO := Lib.hid (fun w' => code_any w' X n _ hXd hn2 hy (by rw [← hXe]; simp; omega))
          rw [← hP] at hpl hml2
          have HPL := Lib.hid hpl
          have HML := Lib.hid hml2
          rw [← hP]
          clear hg hMd hcd hfs hsn hfn hc hA hP hn hX hpl hXd hq hq2 hml2
          try clear hml2
          try clear hpl
          try clear hMd
          go_wp2_with fail
          refine (HCO.out _).mono ?_
          rintro e w2 ⟨rfl, hb2⟩
          have HB2 := Lib.hid (below_on hinv.out.1 hb2 (Nat.le_refl _))
          have HOW2 := Lib.hid (owns_keep hinv.out.2 hb2)
          have HCK := Lib.hid (check_any w2 R B oa ol oc ws (HRD.out.below HB2.out HRD.out.le))
          clear hb2
          go_wp2_with fail
          refine HCK.out.mono ?_
          rintro e w9 ⟨rfl, rfl⟩
          obtain ⟨i0, hi, hz0, hz1, hz2⟩ := info_parts infoByte
          obtain ⟨v', w5, hrun, hown5, _, hb6⟩ := append_one (P := Tryz.prog) w9 w w.heap.size 29 29 5 i0 _ 1 Tryz.underlying29 hi hz0 hz1 hz2 rfl _ _ _ HOW2.out (.int .u8 (n : Int)) rfl (by omega) (by omega) HB2.out HB2.out.size
          have HRUN := Lib.hid hrun
          have HOW := Lib.hid (show w5.ownsRow w.heap.size 5 1 v' (k + 1) ((T.take (k + 1)).map fun c => Value.int .u8 (c.toNat : Int)) by rw [HSN.out, HNC.out]; exact hown5)
          have HB6 := Lib.hid hb6
          clear hrun hown5 hb6 hi hz0 hz1 hz2
          go_wp2_with (at_builtin; refine wpList_append_run rfl _ _ _ rfl _ _ rfl rfl HRUN.out ?_)
          go_roundw
          case rel => exact ⟨k + 1, by omega, by congr 1; have := HPL.out; omega, HB6.out, HOW.out⟩
          case measure => simp [intOf]; omega
        · have hX := quoteL_plain (c := c) (by rw [← hn]; exact hx) (by rw [← hn]; exact hy)
          rw [hX] at hMd hml2 hpl
          simp only [List.length_cons, List.length_nil] at hml2 hpl
          have hg := fun (j : Nat) (hj : j < 1) => get_mid hMd j hj (by rw [hMs]; omega)
          have hPm : P < M.size := by rw [hMs]; omega
          have h0 : (M[P]'hPm).toNat = n := by subst hP; have := hg 0 (by omega); simp at this; rw [this, hn]
          have q1 : ((n : Int) == 34) = false := by rw [beq_eq_false_iff_ne]; omega
          have q2 : ((n : Int) == 92) = false := by rw [beq_eq_false_iff_ne]; omega
          have q3 : decide ((n : Int) < 32) = false := by rw [decide_eq_false_iff_not]; omega
          have q4 : decide ((126 : Int) < (n : Int)) = false := by rw [decide_eq_false_iff_not]; omega
          have hlt1 : (P : Int) < (m.length : Int) := by omega
          rw [← hP] at hpl hml2
          have HPL := Lib.hid hpl
          have HML := Lib.hid hml2
          rw [← hP]
          clear hg hMd hfs hsn hfn hc hA hP hn hX hpl hml2
          try clear hml2
          try clear hpl
          try clear hMd
          obtain ⟨i0, hi, hz0, hz1, hz2⟩ := info_parts infoByte
          obtain ⟨v', w5, hrun, hown5, _, hb6⟩ := append_one (P := Tryz.prog) wr w w.heap.size 29 29 5 i0 _ 1 Tryz.underlying29 hi hz0 hz1 hz2 rfl _ _ _ hinv.out.2 (.int .u8 (n : Int)) rfl (by omega) (by omega) hinv.out.1 hinv.out.1.size
          have HRUN := Lib.hid hrun
          have HOW := Lib.hid (show w5.ownsRow w.heap.size 5 1 v' (k + 1) ((T.take (k + 1)).map fun c => Value.int .u8 (c.toNat : Int)) by rw [HSN.out, HNC.out]; exact hown5)
          have HB6 := Lib.hid hb6
          clear hrun hown5 hb6 hi hz0 hz1 hz2
          go_wp2_with (at_builtin; refine wpList_append_run rfl _ _ _ rfl _ _ rfl rfl HRUN.out ?_)
          go_roundw
          case rel => exact ⟨k + 1, by omega, by congr 1; have := HPL.out; omega, HB6.out, HOW.out⟩
          case measure => simp [intOf]; omega
    · have hall : T.take k = T := List.take_of_length_le (by omega)
      have hi2 := hinv.out
      rw [hall, ← HM.out]
      rw [hall] at hi2
      obtain rfl : k = T.length := by omega
      obtain ⟨hcv, hb⟩ := And.intro (conv_owned hi2.2) hi2.1
      have HB := Lib.hid hb
      clear hi2 hinv hb
      go_wp2_with fail
      go_ret
      exact ⟨ret_str (HFIN.out _ rfl), HB.out⟩
end
section
open Go.ChangeShapes Go.WideShapes Go.ChangeAt Go.RowKit

theorem trim_all (l cs : List UInt8) (h : ∀ x ∈ l, cs.contains x = true) : Lib.trimS l cs = [] := by
  have kill : ∀ l : List UInt8, (∀ x ∈ l, cs.contains x = true) → l.dropWhile (fun x => cs.contains x) = [] := by
    intro l
    induction l with
    | nil => intro _; rfl
    | cons x l ih =>
      intro h
      rw [List.dropWhile_cons, h x (by simp), if_pos rfl]
      exact ih fun y hy => h y (by simp [hy])
  have h1 : Lib.trimRightS l cs = [] := by
    unfold Lib.trimRightS
    rw [kill]
    · rfl
    · intro x hx
      exact h x (List.mem_reverse.1 hx)
  unfold Lib.trimS
  rw [h1]
  rfl
theorem hexD_in (n : Nat) (h : n < 16) : ([48, 49, 50, 51, 52, 53, 54, 55, 56, 57, 97, 98, 99, 100, 101, 102] : List UInt8).contains (hexD n) = true := by
  have : n = 0 ∨ n = 1 ∨ n = 2 ∨ n = 3 ∨ n = 4 ∨ n = 5 ∨ n = 6 ∨ n = 7 ∨ n = 8 ∨ n = 9 ∨ n = 10 ∨ n = 11 ∨ n = 12 ∨ n = 13 ∨ n = 14 ∨ n = 15 := by omega
  rcases this with rfl | rfl | rfl | rfl | rfl | rfl | rfl | rfl | rfl | rfl | rfl | rfl | rfl | rfl | rfl | rfl <;> decide
theorem hexB_in (l : List UInt8) : ∀ x ∈ hexB l, ([48, 49, 50, 51, 52, 53, 54, 55, 56, 57, 97, 98, 99, 100, 101, 102] : List UInt8).contains x = true := by
  intro x hx
  obtain ⟨c, _, hc⟩ := List.mem_flatMap.1 hx
  have := c.toNat_lt
  simp at hc
  rcases hc with rfl | rfl
  · exact hexD_in _ (by omega)
  · exact hexD_in _ (by omega)
theorem hexB_cons (c : UInt8) (l : List UInt8) : hexB (c :: l) = hexD (c.toNat / 16) :: hexD (c.toNat % 16) :: hexB l := by simp [hexB]
theorem owns_made (w : World) (cs : Array Value) (n base : Nat) (hb : base ≤ w.heap.size) (hn : cs.size = n) (hm : n ≤ maxLen) : (w.alloc (.cells cs 5)).ownsRow base 5 1 (.slice (some ⟨w.heap.size, 0, none⟩) 0 n) 0 [] :=
  ⟨by simp, .inr ⟨w.heap.size, n, cs, rfl, hb, heap_alloc_new w _, Nat.zero_le _, hm, by omega, by simp⟩⟩
set_option maxHeartbeats 4000000 in
set_option maxRecDepth 100000 in
theorem raw_any (w : World) (R B : Nat) (oa : Option Addr) (ol oc : Nat) (l : List UInt8) (h : Rd w R B oa ol oc ((rawP l).map strOf)) (hE : Env w) (hl : l.length ≤ 3000) :
    Calls Tryz.prog 102 #[.pointer (some ⟨R, 0, none⟩)] w fun e w' => ∃ ao c, e = .returned (.slice ao l.length c) ∧ Byts w' ao l.length c l ∧ (∀ a, ao = some a → w.heap.size ≤ a.block) ∧ Rd w' R B oa ol oc [] ∧ w.grownBy w' (some R) := by
  obtain ⟨n, hn⟩ : ∃ n, n = l.length := ⟨_, rfl⟩
  have HE := Lib.hid hE
  have HL := Lib.hid h.low
  by_cases h0 : n = 0
  · have hnil : l = [] := List.eq_nil_of_length_eq_zero (by omega)
    subst hnil
    have hr : (rawP []).map strOf = [(⟨#[92, 35]⟩ : ByteArray), strOf (Lib.itoa 0)] := by simp [rawP, strOf]
    rw [hr] at h
    have HW := Lib.hid (word_any w R B oa ol oc _ _ h)
    have HN := Lib.hid (fun w1 (h1 : Rd w1 R B oa ol oc [strOf (Lib.itoa 0)]) (hE1 : Env w1) => num_any w1 R B oa ol oc 0 65535 [] h1 hE1 (by omega) (by omega) (by omega))
    clear h hE hr hn h0
    go_enter Tryz.func102, Tryz.ntmps102
    go_wp2_with fail
    refine HW.out.mono ?_
    rintro e w1 ⟨rfl, hrd1, hg1⟩
    have HRD1 := Lib.hid hrd1
    have HG1 := Lib.hid hg1
    have HE1 := Lib.hid (HE.out.but hg1 HL.out)
    clear hrd1 hg1
    go_wp2_with fail
    refine (check_any w1 R B oa ol oc _ HRD1.out).mono ?_
    rintro e w2 ⟨rfl, rfl⟩
    go_wp2_with fail
    refine (HN.out _ HRD1.out HE1.out).mono ?_
    rintro e w3 ⟨rfl, hrd3, hg3⟩
    have HRD3 := Lib.hid hrd3
    have HG3 := Lib.hid (but_trans HG1.out hg3)
    clear hrd3 hg3
    go_wp2_with fail
    go_ret
    exact ⟨none, 0, rfl, Row.empty (by omega) (fun _ => rfl), (fun a e => by cases e), HRD3.out, HG3.out⟩
  · have hr : (rawP l).map strOf = [(⟨#[92, 35]⟩ : ByteArray), strOf (Lib.itoa (n : Int)), strOf (hexB l)] := by
      rw [rawP, if_neg (by omega), ← hn]
      rfl
    rw [hr] at h
    have HW := Lib.hid (word_any w R B oa ol oc _ _ h)
    have HN := Lib.hid (fun w1 (h1 : Rd w1 R B oa ol oc [strOf (Lib.itoa (n : Int)), strOf (hexB l)]) (hE1 : Env w1) => num_any w1 R B oa ol oc (n : Int) 65535 [strOf (hexB l)] h1 hE1 (by omega) (by omega) (by omega))
    obtain ⟨H, hH⟩ : ∃ H, H = strOf (hexB l) := ⟨_, rfl⟩
    have hHd : H.data.toList = hexB l := by rw [hH]; rfl
    have hHs : H.size = 2 * n := by rw [size_of hHd, hexB_len, hn]
    rw [← hH] at HN HW
    have HTr := Lib.hid (fun w' => Tryz.strings_Trim_ascii H ⟨#[48, 49, 50, 51, 52, 53, 54, 55, 56, 57, 97, 98, 99, 100, 101, 102]⟩ w' (by omega) (by decide) (ascii_of_all (by decide)))
    have htr := trim_all (hexB l) _ (hexB_in l)
    rw [hHd] at HTr
    rw [show (⟨#[48, 49, 50, 51, 52, 53, 54, 55, 56, 57, 97, 98, 99, 100, 101, 102]⟩ : ByteArray).data.toList = [48, 49, 50, 51, 52, 53, 54, 55, 56, 57, 97, 98, 99, 100, 101, 102] from rfl, htr] at HTr
    have q0 : ((n : Int) == 0) = false := by rw [beq_eq_false_iff_ne]; omega
    have q1 : ((2 * (n : Int)) == 2 * (n : Int)) = true := by rw [beq_iff_eq]
    have a1 : IntKind.i64.wrap (2 * (n : Int)) = 2 * (n : Int) := IntWalk.i64_in _ (by omega)
    have hn2 : n ≤ 3000 := by omega
    have HHD := Lib.hid hHd
    have HNL := Lib.hid hn
    clear h hE hr hn hl htr hH hHd
    go_enter Tryz.func102, Tryz.ntmps102
    go_wp2_with fail
    refine HW.out.mono ?_
    rintro e w1 ⟨rfl, hrd1, hg1⟩
    have HRD1 := Lib.hid hrd1
    have HG1 := Lib.hid hg1
    have HE1 := Lib.hid (HE.out.but hg1 HL.out)
    clear hrd1 hg1
    go_wp2_with fail
    refine (check_any w1 R B oa ol oc _ HRD1.out).mono ?_
    rintro e w2 ⟨rfl, rfl⟩
    go_wp2_with fail
    refine (HN.out _ HRD1.out HE1.out).mono ?_
    rintro e w3 ⟨rfl, hrd3, hg3⟩
    have HG3 := Lib.hid (but_trans HG1.out hg3)
    have HW3 := Lib.hid (word_any w3 R B oa ol oc _ _ hrd3)
    obtain ⟨wa, wc, hB3, _⟩ := hrd3.row
    have c2 := hB3.cell 2
    simp at c2
    clear hrd3 hg3 hB3 HRD1 HN HW
    go_wp2_with fail
    clear c2
    refine HW3.out.mono ?_
    rintro e w4 ⟨rfl, hrd4, hg4⟩
    have HRD4 := Lib.hid hrd4
    have HG4 := Lib.hid (but_trans HG3.out hg4)
    clear hrd4 hg4 HW3
    go_wp2_with fail
    refine (HTr.out _).mono ?_
    rintro e w5 ⟨rfl, hb5⟩
    have HRD5 := Lib.hid (HRD4.out.on hb5)
    have HG5 := Lib.hid (but_trans HG4.out (but_of_below R hb5))
    clear hb5
    obtain ⟨i0, hi, hz0, hz1, hz2⟩ := info_parts infoByte
    obtain ⟨w6, hmk, hown6, hgr6⟩ := run_make_own (P := Tryz.prog) (w := w5) w5.heap.size 29 5 i0 _ 1 Tryz.underlying29 hi hz0 hz1 .i64 .i64 n (by rw [hz2]; omega) (by unfold maxLen; omega) (Nat.le_refl _)
    have hb6 : Below w5.heap.size w5 w6 := ⟨hgr6.os, hgr6.tape, hgr6.output, hgr6.size, fun k hk => hgr6.block k hk (fun h => by cases h)⟩
    have HB6 := Lib.hid hb6
    have HOW6 := Lib.hid hown6
    clear hi hz0 hz1 hz2 hgr6 hb6 hown6
    go_wp2_with fail
    clear hmk
    go_loopw [4, 5] (fun sv ov wr => ∃ (k : Nat) (Z : ByteArray), k ≤ n ∧ sv = .string Z ∧ Z.size = 2 * (n - k) ∧ Hid (Z.data.toList = hexB (l.drop k) ∧ Below w5.heap.size w5 wr ∧ wr.ownsRow w5.heap.size 5 1 ov k ((l.take k).map fun c => Value.int .u8 (c.toNat : Int)))) (fun sv _ _ => match sv with | .string Z => Z.size | _ => 0)
    case atStart => exact ⟨0, H, Nat.zero_le _, rfl, by omega, HHD.out, HB6.out, HOW6.out⟩
    case round =>
      obtain ⟨k, Z, hk, rfl, hzs, hinv⟩ := hrel
      by_cases hlt : k < n
      · have hkl : k < l.length := by have := HNL.out; omega
        have hzd := hinv.out.1
        rw [List.drop_eq_getElem_cons hkl, hexB_cons] at hzd
        have hsn := map_snoc (fun c : UInt8 => Value.int .u8 (c.toNat : Int)) l k hkl
        obtain ⟨c, hc⟩ : ∃ c, c = l[k] := ⟨_, rfl⟩
        rw [← hc] at hzd hsn
        obtain ⟨m, hm⟩ : ∃ m, m = c.toNat := ⟨_, rfl⟩
        have hm2 : m < 256 := by rw [hm]; exact c.toNat_lt
        rw [← hm] at hzd
        have h1 := hexD_hex (m / 16) (by omega)
        have h2 := hexD_hex (m % 16) (by omega)
        have hx : (Z.extract 0 2).data.toList = [hexD (m / 16), hexD (m % 16)] := by rw [extract_head, hzd]; rfl
        have hy : (Z.extract 2 Z.size).data.toList = hexB (l.drop (k + 1)) := by rw [extract_tail, hzd]; rfl
        have hp := pu16_any wr (Z.extract 0 2) _ _ hx h1.1 h2.1
        rw [h1.2, h2.2, show m / 16 * 16 + m % 16 = m by omega] at hp
        have hys : (Z.extract 2 Z.size).size = 2 * (n - (k + 1)) := by rw [size_of hy, hexB_len]; have := HNL.out; simp; omega
        rw [hzs] at hy hys
        have HP := Lib.hid hp
        have HY := Lib.hid hy
        have HYS := Lib.hid hys
        have HSN := Lib.hid hsn
        have HMC := Lib.hid hm.symm
        have hz2 : 2 ≤ Z.size := by omega
        have q5 : (Z.toList == (⟨#[]⟩ : ByteArray).toList) = false := by rw [beq_eq_false_iff_ne, ByteArray.toList_eq, ByteArray.toList_eq, hzd]; simp
        have q6 : (Z.toList == []) = false := by rw [beq_eq_false_iff_ne, ByteArray.toList_eq, hzd]; simp
        have q7 : Z.toList.isEmpty = false := by rw [ByteArray.toList_eq, hzd]; rfl
        have a2 : IntKind.u8.wrap (m : Int) = (m : Int) := IntWalk.u8_in _ (by omega)
        clear hzd hsn hc hm h1 h2 hx hy hp hys
        go_wp2_with fail
        refine HP.out.mono ?_
        rintro e w7 ⟨rfl, hb7⟩
        obtain ⟨i0, hi, hz0, hz1, hz2'⟩ := info_parts infoByte
        have hb8 := below_on hinv.out.2.1 hb7 (Nat.le_refl _)
        obtain ⟨v', w8, hrun, hown8, _, hb9⟩ := append_one (P := Tryz.prog) w7 w5 w5.heap.size 29 29 5 i0 _ 1 Tryz.underlying29 hi hz0 hz1 hz2' rfl _ _ _ (owns_keep hinv.out.2.2 hb7) (.int .u8 (m : Int)) rfl (by omega) (by omega) hb8 hb8.size
        have HRUN := Lib.hid hrun
        have HOW := Lib.hid (show w8.ownsRow w5.heap.size 5 1 v' (k + 1) ((l.take (k + 1)).map fun c => Value.int .u8 (c.toNat : Int)) by rw [HSN.out, HMC.out]; exact hown8)
        have HB9 := Lib.hid hb9
        clear hrun hown8 hb9 hi hz0 hz1 hz2' hb7 hb8
        go_wp2_with (at_builtin; refine wpList_append_run rfl _ _ _ rfl _ _ rfl rfl HRUN.out ?_)
        go_roundw
        case rel => exact ⟨k + 1, _, by omega, rfl, HYS.out, HY.out, HB9.out, HOW.out⟩
        case measure => simp only []; have := HYS.out; omega
      · obtain rfl : k = n := by omega
        have hi2 := hinv.out
        rw [List.take_of_length_le (by have := HNL.out; omega)] at hi2
        have hz0 : Z.data.toList = [] := by rw [hi2.1, List.drop_of_length_le (by have := HNL.out; omega)]; rfl
        obtain ⟨ao, c, rfl, hrow⟩ := row_of_owns hi2.2.2 (by omega)
        have hge := owns_fresh hi2.2.2
        have q5 : (Z.toList == (⟨#[]⟩ : ByteArray).toList) = true := by rw [beq_iff_eq, ByteArray.toList_eq, ByteArray.toList_eq, hz0]
        have q7 : Z.toList.isEmpty = true := by rw [ByteArray.toList_eq, hz0]; rfl
        have q8 : Z.toList = [] := by rw [ByteArray.toList_eq, hz0]
        have HR := Lib.hid hrow
        have HGE := Lib.hid (show ∀ a, ao = some a → w.heap.size ≤ a.block from fun a e => Nat.le_trans HG5.out.size (hge a e))
        have HRD6 := Lib.hid (HRD5.out.on hi2.2.1)
        have HG6 := Lib.hid (but_trans HG5.out (but_of_below R hi2.2.1))
        clear hi2 hinv hz0 hrow hge
        go_wp2_with fail
        go_ret
        refine ⟨ao, c, ?_, ?_, HGE.out, HRD6.out, HG6.out⟩
        · rw [← HNL.out]; rfl
        · rw [← HNL.out]; exact HR.out
end
end Go.Proofs.YtipbakdodbmfjaaGreatDoor

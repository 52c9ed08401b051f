/- The words of data, one by one: which they are, and the contracts of what writes them. -/
import Derived.Test.YtipbakdodbmfjaaGreatDoorDatas
import Derived.Test.YtipbakdodbmfjaaGreatDoorHex
import Derived.Test.YtipbakdodbmfjaaGreatDoorDec
import Derived.Test.YtipbakdodbmfjaaGreatDoorBuilder
import Derived.Test.YtipbakdodbmfjaaGreatDoorCells
import Derived.Test.YtipbakdodbmfjaaGreatDoorRtext
import Derived.Test.YtipbakdodbmfjaaGreatDoorText
import Derived.Test.YtipbakdodbmfjaaGreatDoorFmtU
import Derived.Test.YtipbakdodbmfjaaGreatDoorEnv
import Derived.Test.YtipbakdodbmfjaaGreatDoorSoups
import Derived.BigQuiet
import Derived.Laws.Bits64b
import Derived.Test.YtipbakdodbmfjaaGreatDoorLhex
import Derived.Test.YtipbakdodbmfjaaGreatDoorLists
import Derived.Test.YtipbakdodbmfjaaGreatDoorParse
import Derived.Test.YtipbakdodbmfjaaGreatDoorNumber
import Derived.Laws.BitsAllLaws
import Derived.Test.YtipbakdodbmfjaaGreatDoorAns25
import Derived.Test.YtipbakdodbmfjaaGreatDoorSplit
import Derived.Test.YtipbakdodbmfjaaGreatDoorRegion
import Derived.RegionTactic
import Derived.BigRegion
import Derived.Deep.RegionHeld3
namespace Go.Proofs.YtipbakdodbmfjaaGreatDoor
section
open Go.ChangeShapes Go.WideShapes Go.ChangeAt Go.RowKit

theorem flat_snoc {α β : Type} (f : α → List β) (l : List α) (k : Nat) (h : k < l.length) : (l.take (k + 1)).flatMap f = (l.take k).flatMap f ++ f l[k] := by
  rw [List.take_succ_eq_append_getElem h, List.flatMap_append]; simp
theorem map_snoc {α β : Type} (f : α → β) (l : List α) (k : Nat) (h : k < l.length) : (l.take (k + 1)).map f = (l.take k).map f ++ [f l[k]] := by
  rw [List.take_succ_eq_append_getElem h, List.map_append]; simp
theorem flat_le {α β : Type} (f : α → List β) (m : Nat) (hf : ∀ a, (f a).length ≤ m) : ∀ l : List α, (l.flatMap f).length ≤ m * l.length
  | [] => by simp
  | a :: l => by
    have := flat_le f m hf l
    have := hf a
    simp only [List.flatMap_cons, List.length_append, List.length_cons]
    rw [Nat.mul_add]
    omega
/-- one byte of a name in a file -/
def fescL (c : UInt8) : List UInt8 := if c.toNat = 59 ∨ c.toNat = 34 ∨ c.toNat = 36 then [92, c] else [c]
def ftextP (n : List ByteArray) : List UInt8 := (textT n).flatMap fescL
/-- one byte of a text -/
def quoteL (c : UInt8) : List UInt8 := if c.toNat = 34 ∨ c.toNat = 92 then [92, c] else if c.toNat < 32 ∨ 126 < c.toNat then [92, dig (c.toNat / 100), dig (c.toNat / 10 % 10), dig (c.toNat % 10)] else [c]
def quotedP (l : List UInt8) : List UInt8 := 34 :: (l.flatMap quoteL ++ [34])
/-- a number in small hexadecimal digits -/
def groupP (n : Nat) : List UInt8 := if n < 16 then [hexD n] else groupP (n / 16) ++ [hexD (n % 16)]
termination_by n
decreasing_by omega
def pairsP : List UInt8 → List Nat
  | a :: b :: l => (a.toNat * 256 + b.toNat) :: pairsP l
  | _ => []
def wordsL (k : Int) (d : DataP) : List (List UInt8) :=
  if k = 1 then [joinP 46 (d.bytes.map fun c => Lib.decDigits c.toNat)]
  else if k = 28 then [joinP 58 ((pairsP d.bytes).map groupP)]
  else if k = 6 then [ftextP d.host, ftextP d.mail] ++ d.nums.map Lib.itoa
  else if k = 16 then d.texts.map fun t => quotedP t.data.toList
  else if k = 2 ∨ k = 5 ∨ k = 12 ∨ k = 15 ∨ k = 33 then d.nums.map Lib.itoa ++ [ftextP d.host]
  else [[92, 35], Lib.itoa d.bytes.length] ++ if d.bytes.length = 0 then [] else [hexB d.bytes]
def strOf (l : List UInt8) : ByteArray := ⟨l.toArray⟩
def wordsP (k : Int) (d : DataP) : List ByteArray := if dataB k d then (wordsL k d).map strOf else []

theorem fescL_len (c : UInt8) : (fescL c).length ≤ 2 := by unfold fescL; split <;> simp
theorem quoteL_len (c : UInt8) : (quoteL c).length ≤ 4 := by
  unfold quoteL
  split
  · simp
  · split <;> simp
theorem textT_len (ss : List ByteArray) : (textT ss).length ≤ 4 * sizeN ss + 1 := by
  unfold textT
  split
  · simp
  · have := bodyT_len ss; omega
theorem ftextP_len (ss : List ByteArray) : (ftextP ss).length ≤ 8 * sizeN ss + 2 := by
  have h1 := flat_le fescL 2 fescL_len (textT ss)
  have h2 := textT_len ss
  unfold ftextP
  omega
theorem quotedP_len (l : List UInt8) : (quotedP l).length ≤ 4 * l.length + 2 := by
  have h1 := flat_le quoteL 4 quoteL_len l
  simp only [quotedP, List.length_cons, List.length_append, List.length_nil]
  omega
theorem groupP_small {n : Nat} (h : n < 16) : groupP n = [hexD n] := by rw [groupP, if_pos h]
theorem groupP_big {n : Nat} (h : ¬ n < 16) : groupP n = groupP (n / 16) ++ [hexD (n % 16)] := by rw [groupP, if_neg h]
theorem groupP_len (n : Nat) (h : n < 65536) : (groupP n).length ≤ 4 := by
  by_cases h1 : n < 16
  · rw [groupP_small h1]; simp
  rw [groupP_big h1]
  by_cases h2 : n / 16 < 16
  · rw [groupP_small h2]; simp
  rw [groupP_big h2]
  by_cases h3 : n / 16 / 16 < 16
  · rw [groupP_small h3]; simp
  rw [groupP_big h3, groupP_small (by omega)]
  simp
end
section
open Go.ChangeShapes Go.WideShapes Go.ChangeAt Go.RowKit

theorem owns_mono {w : World} {B C : Nat} {e : TypeId} {s : Nat} {v : Value} {n : Nat} {xs : List Value} (h : w.ownsRow C e s v n xs) (hBC : B ≤ C) : w.ownsRow B e s v n xs := by
  obtain ⟨h1, h2⟩ := h
  rcases h2 with h2 | ⟨g, cap, cur, e, hge, h3⟩
  · exact ⟨h1, .inl h2⟩
  · exact ⟨h1, .inr ⟨g, cap, cur, e, Nat.le_trans hBC hge, h3⟩⟩
theorem owns_ne {w : World} {C : Nat} {e : TypeId} {s : Nat} {v : Value} {n : Nat} {xs : List Value} (h : w.ownsRow C e s v n xs) {b : Nat} (hb : b < C) : v.ownBlock ≠ some b := by
  intro h2
  have := (h.lt b h2).1
  omega
theorem cell_same {w w' : World} {G : Nat} (h : w'.heap[G]? = w.heap[G]?) (k : Nat) : w'.cell? ⟨G, k, none⟩ = w.cell? ⟨G, k, none⟩ := by simp [World.cell?, h]
structure SideB (C b : Nat) (bs : List Value) (w : World) : Prop where
  lt : b < C
  le : C ≤ w.heap.size
  row : ∃ p v, (p = .pointer none ∨ p = .pointer (some ⟨b, 0, none⟩)) ∧ w.heap[b]? = some (.cells #[p, v] 94 (0, 0)) ∧ w.ownsRow C 5 1 v bs.length bs
theorem SideB.is {C b : Nat} {bs : List Value} {w : World} (h : SideB C b bs w) : IsB b b bs w := by
  obtain ⟨p, v, hp, h1, h2⟩ := h.row
  rcases hp with rfl | rfl
  · exact .inl ⟨Nat.le_refl _, v, h1, owns_mono h2 (Nat.le_of_lt h.lt), owns_ne h2 h.lt⟩
  · exact .inr ⟨Nat.le_refl _, v, h1, owns_mono h2 (Nat.le_of_lt h.lt), owns_ne h2 h.lt⟩
/-- what goes on besides the builder -/
structure Besd (C b : Nat) (w w' : World) : Prop where
  bel : Below b w w'
  kept : ∀ k, k < C → k ≠ b → w'.heap[k]? = w.heap[k]?
theorem Besd.refl (C b : Nat) (w : World) : Besd C b w w := ⟨Below.refl _ _, fun _ _ _ => rfl⟩
theorem Besd.trans {C b : Nat} {w w1 w2 : World} (h1 : Besd C b w w1) (h2 : Besd C b w1 w2) : Besd C b w w2 := ⟨h1.bel.trans h2.bel, fun k hk hb => (h2.kept k hk hb).trans (h1.kept k hk hb)⟩
theorem Besd.on {C b : Nat} {w w1 w2 : World} (h1 : Besd C b w w1) (h2 : Below w1.heap.size w1 w2) (hC : C ≤ w1.heap.size) (hb : b ≤ C) : Besd C b w w2 := ⟨h1.bel.trans (h2.mono (by omega)), fun k hk hne => (h2.block k (by omega)).trans (h1.kept k hk hne)⟩
theorem SideB.on {C b : Nat} {bs : List Value} {w w' : World} (h : SideB C b bs w) (hb : Below w.heap.size w w') : SideB C b bs w' := by
  obtain ⟨p, v, hp, h1, h2⟩ := h.row
  have hlt := h.lt
  have hle := h.le
  exact ⟨h.lt, Nat.le_trans h.le hb.size, p, v, hp, by rw [hb.block b (by omega)]; exact h1, owns_keep h2 hb⟩

set_option maxHeartbeats 1000000 in
theorem copyCheck_side (C b : Nat) (bs : List Value) (w : World) (h : SideB C b bs w) :
    Calls Tryz.prog 111 #[.pointer (some ⟨b, 0, none⟩)] w fun e w' => e = .returned (.tuple #[]) ∧ ∃ v, w'.heap[b]? = some (.cells #[.pointer (some ⟨b, 0, none⟩), v] 94 (0, 0)) ∧ w'.ownsRow C 5 1 v bs.length bs ∧ Besd C b w w' := by
  obtain ⟨p, v, hp, h1, h2⟩ := h.row
  have hlt := h.lt
  rcases hp with rfl | rfl
  · refine (copyCheck_fresh b w (by simp [World.cell?, h1]) (by simp [World.shape?, h1]) (Lib.frozen_of_heap h1 0)).mono ?_
    rintro e w' ⟨rfl, rfl⟩
    refine ⟨rfl, v, heap_setCell_same w b 0 _ _ _ h1, h2.kept (but_set w b 0 _) (Or.inr (owns_ne h2 hlt)), (Below.refl b w).setCell (p := ⟨b, 0, none⟩) (Nat.le_refl _) _, fun k hk hne => ?_⟩
    exact (but_set w b 0 _).block k (by have := h.le; omega) (fun h => hne (Option.some.inj h))
  · refine (copyCheck_used b w (by simp [World.cell?, h1])).mono ?_
    rintro e w' ⟨rfl, rfl⟩
    exact ⟨rfl, v, h1, h2, Besd.refl _ _ _⟩
set_option maxHeartbeats 2000000 in
set_option maxRecDepth 100000 in
theorem writeByte_side (C b : Nat) (bs : List Value) (c : Int) (w : World) (h : SideB C b bs w) (hlen : bs.length + 1 ≤ 140737488355328) :
    Calls Tryz.prog 89 #[.pointer (some ⟨b, 0, none⟩), .int .u8 c] w fun e w' => e = .returned .nilIface ∧ (SideB C b (bs ++ [.int .u8 c]) w' ∧ Besd C b w w') := by
  obtain ⟨i0, hi, hz0, hz1, hz2⟩ := info_parts infoByte
  have hCC := Lib.hid (copyCheck_side C b bs w h)
  have hle := h.le
  have hbC := h.lt
  clear h
  go_enter Tryz.func89, Tryz.ntmps89
  go_wp2_with (go_at_call 111; refine hCC.out.mono ?_)
  rintro e w1 ⟨rfl, v, hbk, hown, hb1⟩
  have hle1 := hb1.bel.size
  have c0 : w1.cell? ⟨b, 0, none⟩ = some (.pointer (some ⟨b, 0, none⟩)) := by rw [Lib.cell_of_heap hbk]; rfl
  have c1 : w1.cell? ⟨b, 1, none⟩ = some v := by rw [Lib.cell_of_heap hbk]; rfl
  go_wp2_with (at_builtin; refine wpList_append_own _ rfl _ _ 29 rfl C 5 i0 (.int .u8 0) 1 1 Tryz.underlying29 hi hz0 hz1 hz2 rfl (by decide) _ _ _ rfl (hown.alloc _) ⟨w1.heap.size, 0, none⟩ 1 1 [.int .u8 c] rfl rfl ?c1 ?c2 ?c3 ?c4 ?c5 ?_)
  case c1 =>
    intro j u hj
    match j, hj with
    | 0, hj => simp at hj; subst hj; simp [Addr.add]
  case c2 => intro u hu; simp at hu; subst hu; rfl
  case c3 => unfold maxLen; omega
  case c4 => omega
  case c5 => simp; omega
  intro v' w2 hown' hgrow _
  have hne := owns_ne hown hbC
  have hlt : b < w1.heap.size := by omega
  have hb2 : w2.heap[b]? = some (.cells #[.pointer (some ⟨b, 0, none⟩), v] 94 (0, 0)) := by
    rw [hgrow.block b (by simp; omega) (fun e => hne e.symm), Lib.alloc_old w1 _ b hlt]
    exact hbk
  have d0 : w2.cell? ⟨b, 0, none⟩ = some (.pointer (some ⟨b, 0, none⟩)) := by rw [Lib.cell_of_heap hb2]; rfl
  have d1 : w2.cell? ⟨b, 1, none⟩ = some v := by rw [Lib.cell_of_heap hb2]; rfl
  have f1 : w2.frozen? ⟨b, 1, none⟩ = false := Lib.frozen_of_heap hb2 1
  obtain ⟨g, cap, rfl⟩ : ∃ g cap, v' = .slice (some ⟨g, 0, none⟩) (bs.length + 1) cap := by
    rcases hown'.2 with ⟨_, h0⟩ | ⟨g, cap, cur, hv, _⟩
    · omega
    · exact ⟨g, cap, hv⟩
  have hgz := hgrow.size
  have HO := Lib.hid hown
  have HO' := Lib.hid hown'
  have HG := Lib.hid hgrow
  have HB1 := Lib.hid hb1
  clear hown hown' hgrow hb1 hne
  go_wp2
  go_ret
  have hown' := HO'.out
  have hgrow := HG.out
  refine ⟨rfl, ⟨hbC, by simp at hgz ⊢; omega, _, _, .inr rfl, heap_setCell_same w2 b 1 _ _ _ hb2, ?_⟩, ?_, ?_⟩
  · have h := hown'.kept (but_set w2 b 1 (.slice (some ⟨g, 0, none⟩) (bs.length + 1) cap)) (Or.inr (owns_ne hown' hbC))
    simpa using h
  · refine (((HB1.out.bel.alloc (by omega) _).grown hgrow (by simp; omega) (fun k hk => ?_))).setCell (p := ⟨b, 1, none⟩) (Nat.le_refl _) _
    have := (HO.out.lt k hk).1
    omega
  · intro k hk hkb
    rw [(but_set w2 b 1 _).block k (by simp at hgz; omega) (fun h => hkb (Option.some.inj h)), hgrow.block k (by simp; omega) (fun e => owns_ne HO.out hk e.symm), Lib.alloc_old w1 _ k (by omega)]
    exact HB1.out.kept k hk hkb
end
section
open Go.ChangeShapes Go.WideShapes Go.ChangeAt Go.RowKit

theorem fescL_hit {c : UInt8} (h : c.toNat = 59 ∨ c.toNat = 34 ∨ c.toNat = 36) : fescL c = [92, c] := by rw [fescL, if_pos h]
theorem fescL_miss {c : UInt8} (h : c.toNat ≠ 59 ∧ c.toNat ≠ 34 ∧ c.toNat ≠ 36) : fescL c = [c] := by rw [fescL, if_neg (by omega)]
theorem cells_snoc (l : List UInt8) (c : UInt8) : Lib.byteCells l ++ [.int .u8 (c.toNat : Int)] = Lib.byteCells (l ++ [c]) := by simp [Lib.byteCells]

set_option maxHeartbeats 2000000 in
set_option maxRecDepth 100000 in
theorem ftext_any (w : World) (ao : Option Addr) (len cap : Nat) (ss : List ByteArray) (hs : Strs w ao len cap ss) (hb : 8 * sizeN ss + 2 ≤ 70368744177664) (hT : Tab w) :
    Calls Tryz.prog 50 #[.slice ao len cap] w fun e w' => e = .returned (.string ⟨(ftextP ss).toArray⟩) ∧ Below w.heap.size w w' := by
  have hwa : Below w.heap.size w (w.alloc (.cells #[.pointer none, .slice none 0 0] 94)) := (Below.refl _ _).alloc (Nat.le_refl _) _
  have hblk : (w.alloc (.cells #[.pointer none, .slice none 0 0] 94)).heap[w.heap.size]? = some (.cells #[.pointer none, .slice none 0 0] 94 (0, 0)) := heap_alloc_new w _
  have HTX := Lib.hid (text_any _ ao len cap ss (hs.below hwa (Nat.le_refl _)) (by omega) (tab_on hT hwa))
  have htl := textT_len ss
  obtain ⟨T, hTl⟩ : ∃ T : List UInt8, T = textT ss := ⟨_, rfl⟩
  have hf : ftextP ss = T.flatMap fescL := by rw [hTl]; rfl
  rw [← hTl] at HTX htl
  rw [hf]
  have hfl := flat_le fescL 2 fescL_len
  obtain ⟨S, hS⟩ : ∃ S : ByteArray, S = ⟨T.toArray⟩ := ⟨_, rfl⟩
  have hSd : S.data.toList = T := by rw [hS]
  have hSs : S.size = T.length := by rw [← hSd]; simp
  rw [← hS] at HTX
  have HWA := Lib.hid hwa
  have HBK := Lib.hid hblk
  have HFL := Lib.hid hfl
  have hsz : (w.alloc (.cells #[.pointer none, .slice none 0 0] 94)).heap.size = w.heap.size + 1 := by simp
  have HSZ := Lib.hid hsz
  clear hwa hblk hs hT hTl hf hS hfl hsz
  go_enter Tryz.func50, Tryz.ntmps50
  go_wp2_with fail
  refine HTX.out.mono ?_
  rintro e w1 ⟨rfl, hb1⟩
  obtain ⟨cc, w2, hrun, hc1, hc2, hb2, hz2, hr2⟩ := conv_bytes (P := Tryz.prog) w1 9 29 5 S Tryz.underlying9 Tryz.underlying29 Tryz.underlying5 (by omega)
  rw [hSd] at hr2
  have hz1 : w.heap.size + 1 ≤ w1.heap.size := by have := hb1.size; have := HSZ.out; omega
  have hside : SideB (w1.heap.size + 1) w.heap.size (Lib.byteCells []) w2 := by
    refine ⟨by omega, by omega, _, _, .inl rfl, ?_, World.ownsRow_nil _ _ _ _⟩
    rw [hb2.block _ (by omega), hb1.block _ (by have := HSZ.out; omega)]
    exact HBK.out
  have HSD := Lib.hid hside
  have HB2 := Lib.hid (show Below w.heap.size w w2 from below_on (below_on HWA.out hb1 (by omega)) hb2 (by omega))
  have HR2 := Lib.hid hr2
  have HZ := Lib.hid (And.intro hz1 hz2)
  clear hb1 hb2 hr2 hside hz1 hz2 HTX HBK HWA
  go_wp2_with fail
  clear hrun
  go_loopw [10, 5] (fun i _ wr => ∃ k : Nat, k ≤ S.size ∧ i = .int .i64 k ∧ Hid (SideB (w1.heap.size + 1) w.heap.size (Lib.byteCells ((T.take k).flatMap fescL)) wr ∧ Besd (w1.heap.size + 1) w.heap.size w2 wr)) (fun i _ _ => S.size - (intOf i).toNat)
  case atStart => exact ⟨0, Nat.zero_le _, rfl, HSD.out, Besd.refl _ _ _⟩
  case round =>
    obtain ⟨k, hk, rfl, hinv⟩ := hrel
    by_cases hlt : k < S.size
    · have hkT : k < T.length := by omega
      have hc : wr.cell? ⟨w1.heap.size, k, none⟩ = some (.int .u8 (T[k].toNat : Int)) := by
        rw [cell_same (hinv.out.2.kept _ (by omega) (by have := HZ.out.1; omega))]
        exact HR2.out.cell hkT
      have hsn := flat_snoc fescL T k hkT
      have hl2 := HFL.out (T.take k)
      have hl3 : (T.take k).length ≤ T.length := by simp; omega
      obtain ⟨c, hck⟩ : ∃ c, c = T[k] := ⟨_, rfl⟩
      rw [← hck] at hc hsn
      have HSN := Lib.hid hsn
      have hln : (Lib.byteCells ((T.take k).flatMap fescL)).length + 1 ≤ 140737488355327 := by rw [bytes_len]; omega
      clear hck hsn hl2 hl3
      by_cases hx : c.toNat = 59 ∨ c.toNat = 34 ∨ c.toNat = 36
      · have HX := Lib.hid (fescL_hit hx)
        have HC := Lib.hid hx
        have hW := Lib.hid (writeByte_side _ _ _ 92 wr hinv.out.1 (by omega))
        rcases hx with hx | hx | hx
        all_goals
          rw [hx] at hc
          go_wp2_with fail
          refine hW.out.mono ?_
          rintro e w3 ⟨rfl, hs3, hb3⟩
          have hW3 := Lib.hid (writeByte_side _ _ _ (c.toNat : Int) w3 hs3 (by rw [List.length_append, List.length_singleton]; omega))
          have HB3 := Lib.hid (hinv.out.2.trans hb3)
          clear hs3 hb3
          rw [hx] at hW3
          go_wp2_with fail
          refine hW3.out.mono ?_
          rintro e w4 ⟨rfl, hs4, hb4⟩
          have HR := Lib.hid (show SideB (w1.heap.size + 1) w.heap.size (Lib.byteCells ((T.take (k + 1)).flatMap fescL)) w4 by
            rw [HSN.out, HX.out]
            have e1 := cells_snoc ((T.take k).flatMap fescL) 92
            have e2 := cells_snoc ((T.take k).flatMap fescL ++ [92]) c
            rw [hx] at e2
            have e3 : (T.take k).flatMap fescL ++ [92, c] = (T.take k).flatMap fescL ++ [92] ++ [c] := by simp
            rw [e3, ← e2, ← e1]
            exact hs4)
          have HB4 := Lib.hid (HB3.out.trans hb4)
          clear hs4 hb4
          go_wp2_with fail
          go_roundw
          case rel => exact ⟨k + 1, by omega, by go_num, HR.out, HB4.out⟩
          case measure => simp [intOf]; omega
      · have hx' : c.toNat ≠ 59 ∧ c.toNat ≠ 34 ∧ c.toNat ≠ 36 := by omega
        have HX := Lib.hid (fescL_miss hx')
        have hW := Lib.hid (writeByte_side _ _ _ (c.toNat : Int) wr hinv.out.1 (by omega))
        obtain ⟨n, hn⟩ : ∃ n, c.toNat = n := ⟨_, rfl⟩
        have HN := Lib.hid hn
        rw [hn] at hc hW hx'
        have q1 : ((n : Int) == 59) = false := by rw [beq_eq_false_iff_ne]; omega
        have q2 : ((n : Int) == 34) = false := by rw [beq_eq_false_iff_ne]; omega
        have q3 : ((n : Int) == 36) = false := by rw [beq_eq_false_iff_ne]; omega
        clear hx hx' hn
        go_wp2_with fail
        refine hW.out.mono ?_
        rintro e w3 ⟨rfl, hs3, hb3⟩
        have HR := Lib.hid (show SideB (w1.heap.size + 1) w.heap.size (Lib.byteCells ((T.take (k + 1)).flatMap fescL)) w3 by
          rw [HSN.out, HX.out]
          have e1 := cells_snoc ((T.take k).flatMap fescL) c
          rw [HN.out] at e1
          rw [← e1]
          exact hs3)
        have HB4 := Lib.hid (hinv.out.2.trans hb3)
        clear hs3 hb3
        go_wp2_with fail
        go_roundw
        case rel => exact ⟨k + 1, by omega, by go_num, HR.out, HB4.out⟩
        case measure => simp [intOf]; omega
    · have hall : T.take k = T := List.take_of_length_le (by omega)
      have hi2 := hinv.out
      rw [hall] at hi2
      have HI := Lib.hid hi2
      have HBS := Lib.hid (Tryz.Builder_String_any _ _ _ _ hi2.1.is (by have := hi2.1.lt; have := hi2.1.le; omega))
      clear hi2 hall
      go_wp2_with fail
      refine HBS.out.mono ?_
      rintro e w3 ⟨rfl, hb3⟩
      have HB3 := Lib.hid hb3
      clear hb3
      go_wp2_with fail
      go_ret
      exact ⟨rfl, (HB2.out.trans HI.out.2.bel).trans HB3.out⟩

set_option maxHeartbeats 2000000 in
set_option maxRecDepth 100000 in
theorem rftext_any (w : World) (ao : Option Addr) (len cap : Nat) (ss : List ByteArray) (hs : Strs w ao len cap ss) (hb : 8 * sizeN ss + 2 ≤ 70368744177664) :
    Calls Tryz.prog 53 #[.slice ao len cap] w fun e w' => e = .returned (.string ⟨(ftextP ss).toArray⟩) ∧ Below w.heap.size w w' := by
  have HTX := Lib.hid (rtext_any _ ao len cap ss hs (by omega))
  have htl := textT_len ss
  obtain ⟨T, hTl⟩ : ∃ T : List UInt8, T = textT ss := ⟨_, rfl⟩
  have hf : ftextP ss = T.flatMap fescL := by rw [hTl]; rfl
  rw [← hTl] at HTX htl
  rw [hf]
  have hfl := flat_le fescL 2 fescL_len
  obtain ⟨S, hS⟩ : ∃ S : ByteArray, S = ⟨T.toArray⟩ := ⟨_, rfl⟩
  have hSd : S.data.toList = T := by rw [hS]
  have hSs : S.size = T.length := by rw [← hSd]; simp
  rw [← hS] at HTX
  have HFL := Lib.hid hfl
  have HSd := Lib.hid hSd
  clear hs hTl hf hS hfl hSd
  go_enter Tryz.func53, Tryz.ntmps53
  go_wp2_with fail
  refine HTX.out.mono ?_
  rintro e w1 ⟨rfl, hb1⟩
  have HB1 := Lib.hid hb1
  clear hb1 HTX
  go_wp2_with fail
  go_loop [5, 4] (fun i o => ∃ (k : Nat) (p : ByteArray), k ≤ S.size ∧ i = .int .i64 k ∧ o = .string p ∧ p.size ≤ 140737488355328 ∧ Hid (p.data.toList = (T.take k).flatMap fescL)) (fun i _ => S.size - (intOf i).toNat)
  case atStart => exact ⟨0, ⟨#[]⟩, Nat.zero_le _, rfl, rfl, by decide, rfl⟩
  case round =>
    obtain ⟨k, p, hk, rfl, rfl, hpz, hp⟩ := hrel
    by_cases hlt : k < S.size
    · have hkT : k < T.length := by omega
      have hsn := flat_snoc fescL T k hkT
      have hl2 := HFL.out (T.take (k + 1))
      have hl3 : (T.take (k + 1)).length ≤ T.length := by simp; omega
      have hck : S[k] = T[k] := by
        have h1 : S.data.toList[k]'(by rw [HSd.out]; exact hkT) = T[k] := by simp only [HSd.out]
        rw [← h1]; rfl
      have hex := ext_one S k hlt
      obtain ⟨c, hc⟩ : ∃ c, S[k] = c := ⟨_, rfl⟩
      rw [hc] at hck hex
      rw [← hck] at hsn
      have HSN := Lib.hid hsn
      have HL := Lib.hid (show ((T.take (k + 1)).flatMap fescL).length ≤ 140737488355328 by omega)
      have hxs : (S.extract k (k + 1)).size = 1 := by rw [size_of hex]; rfl
      have HEX := Lib.hid hex
      have hxm : (S.extract k (k + 1)).size ≤ 9223372036854775807 := by omega
      clear hsn hck hex hl2 hl3
      obtain ⟨X, hX⟩ : ∃ X, X = S.extract k (k + 1) := ⟨_, rfl⟩
      have h5 : p.size + 1 ≤ 9223372036854775807 := by omega
      have h6 : p.size + (S.extract k (k + 1)).size ≤ 9223372036854775807 := by omega
      have h7 : p.size + 1 + (S.extract k (k + 1)).size ≤ 9223372036854775807 := by omega
      by_cases hx : c.toNat = 59 ∨ c.toNat = 34 ∨ c.toNat = 36
      · have HX := Lib.hid (fescL_hit hx)
        have HF := Lib.hid (show (p ++ ⟨#[92]⟩ ++ S.extract k (k + 1)).data.toList = (T.take (k + 1)).flatMap fescL by
          rw [cat_list (cat_list hp.out rfl) HEX.out, HSN.out, HX.out]; simp)
        have HF2 := Lib.hid (show (p ++ ⟨#[92]⟩ ++ S.extract k (k + 1)).size ≤ 140737488355328 by rw [size_of HF.out]; exact HL.out)
        rcases hx with hx | hx | hx
        all_goals
          go_wp2_with fail
          go_round
          case rel => exact ⟨k + 1, _, by omega, by go_num, rfl, HF2.out, HF.out⟩
          case measure => simp [intOf]; omega
      · have hx' : c.toNat ≠ 59 ∧ c.toNat ≠ 34 ∧ c.toNat ≠ 36 := by omega
        have HX := Lib.hid (fescL_miss hx')
        have HF := Lib.hid (show (p ++ S.extract k (k + 1)).data.toList = (T.take (k + 1)).flatMap fescL by
          rw [cat_list hp.out HEX.out, HSN.out, HX.out])
        have HF2 := Lib.hid (show (p ++ S.extract k (k + 1)).size ≤ 140737488355328 by rw [size_of HF.out]; exact HL.out)
        obtain ⟨n, hn⟩ : ∃ n, c.toNat = n := ⟨_, rfl⟩
        rw [hn] at hx'
        have q1 : ((n : Int) == 59) = false := by rw [beq_eq_false_iff_ne]; omega
        have q2 : ((n : Int) == 34) = false := by rw [beq_eq_false_iff_ne]; omega
        have q3 : ((n : Int) == 36) = false := by rw [beq_eq_false_iff_ne]; omega
        clear hx hx'
        go_wp2_with fail
        go_round
        case rel => exact ⟨k + 1, _, by omega, by go_num, rfl, HF2.out, HF.out⟩
        case measure => simp [intOf]; omega
    · have hall : T.take k = T := List.take_of_length_le (by omega)
      have hi2 := hp.out
      rw [hall] at hi2
      have HI := Lib.hid hi2
      clear hi2 hall
      go_wp2_with fail
      go_ret
      exact ⟨ret_str (bytes_eq _ _ HI.out), HB1.out⟩
end
section
open Go.ChangeShapes Go.WideShapes Go.ChangeAt Go.RowKit

theorem quoteL_hit {c : UInt8} (h : c.toNat = 34 ∨ c.toNat = 92) : quoteL c = [92, c] := by rw [quoteL, if_pos h]
theorem quoteL_num {c : UInt8} (h1 : ¬ (c.toNat = 34 ∨ c.toNat = 92)) (h2 : c.toNat < 32 ∨ 126 < c.toNat) : quoteL c = [92, dig (c.toNat / 100), dig (c.toNat / 10 % 10), dig (c.toNat % 10)] := by rw [quoteL, if_neg h1, if_pos h2]
theorem quoteL_plain {c : UInt8} (h1 : ¬ (c.toNat = 34 ∨ c.toNat = 92)) (h2 : ¬ (c.toNat < 32 ∨ 126 < c.toNat)) : quoteL c = [c] := by rw [quoteL, if_neg h1, if_neg h2]
theorem of_nat_eq {c : UInt8} {n : Nat} (h : c.toNat = n) : UInt8.ofNat n = c := by rw [← h]; simp

set_option maxHeartbeats 4000000 in
set_option maxRecDepth 100000 in
theorem quoted_any (w : World) (s : ByteArray) (hs : s.size ≤ 17592186044416) (hT : Tab w) :
    Calls Tryz.prog 48 #[.string s] w fun e w' => e = .returned (.string ⟨(quotedP s.data.toList).toArray⟩) ∧ Below w.heap.size w w' := by
  have hst := bld_start w
  have hsl : s.data.toList.length = s.size := by simp
  have e1 : Utf8.encode 34 = ⟨#[34]⟩ := encode_ascii' 34 (by decide)
  have e2 : Utf8.encode 92 = ⟨#[92]⟩ := encode_ascii' 92 (by decide)
  obtain ⟨T, hTl⟩ : ∃ T, T = s.data.toList := ⟨_, rfl⟩
  have HTl := Lib.hid hTl
  have HFL := Lib.hid (flat_le quoteL 4 quoteL_len)
  have HT := Lib.hid hT
  rw [← hTl] at hsl ⊢
  clear hTl hT
  go_enter Tryz.func48, Tryz.ntmps48
  go_wp2_with fail
  refine (writeByte_any _ _ _ 34 _ hst.is (by rw [bytes_len]; simp) hst.le).mono ?_
  rintro e w1 ⟨rfl, hat, hb1⟩
  have HBL := Lib.hid (bld_byte hst 34 hat hb1)
  clear hst hat hb1
  go_wp2_with fail
  go_loopw [10, 4, 5, 6, 18, 30] (fun i _ _ _ _ _ wr => ∃ k : Nat, k ≤ s.size ∧ i = .int .i64 k ∧ Hid (Bld w.heap.size w.heap.size w (34 :: (T.take k).flatMap quoteL) wr)) (fun i _ _ _ _ _ _ => s.size - (intOf i).toNat)
  case atStart => exact ⟨0, Nat.zero_le _, rfl, HBL.out⟩
  case round =>
    obtain ⟨k, hk, rfl, hbr⟩ := hrel
    clear HBL
    by_cases hlt : k < s.size
    · have hkT : k < T.length := by omega
      have hsn := flat_snoc quoteL T k hkT
      have hl2 := HFL.out (T.take k)
      have hl3 : (T.take k).length ≤ T.length := by simp; omega
      have hck : s[k] = T[k] := by
        have h1 : s.data.toList[k]'(by rw [← HTl.out]; exact hkT) = T[k] := by simp only [HTl.out]
        rw [← h1]; rfl
      obtain ⟨c, hc⟩ : ∃ c, s[k] = c := ⟨_, rfl⟩
      rw [← hck, hc] at hsn
      have HSN := Lib.hid hsn
      have HLN := Lib.hid (show (34 :: (T.take k).flatMap quoteL).length + 8 ≤ 140737488355328 by rw [List.length_cons]; omega)
      obtain ⟨n, hn⟩ : ∃ n, c.toNat = n := ⟨_, rfl⟩
      have hix : (s[k]).toNat = n := by rw [hc]; exact hn
      have HN := Lib.hid hn
      have hn2 : n < 256 := by have := c.toNat_lt; omega
      clear hsn hck hl2 hl3 hc
      have fin4 : ∀ (w4 : World) (q : List UInt8), quoteL c = q → Bld w.heap.size w.heap.size w (34 :: (T.take k).flatMap quoteL ++ q) w4 → Bld w.heap.size w.heap.size w (34 :: (T.take (k + 1)).flatMap quoteL) w4 := by
        intro w4 q hq h
        rw [HSN.out, hq]; exact h
      have FIN := Lib.hid fin4
      clear fin4
      by_cases hx : n = 34 ∨ n = 92
      · have HX := Lib.hid (quoteL_hit (c := c) (by rw [hn]; exact hx))
        have HC := Lib.hid (of_nat_eq hn)
        clear hn
        rcases hx with rfl | rfl
        all_goals
          go_wp2_with fail
          refine (writeString_any _ _ _ _ _ hbr.out.is (by rw [bytes_len]; have := HLN.out; first | (show _ + 2 ≤ _; omega) | (simp; omega)) hbr.out.le).mono ?_
          rintro e w2 ⟨rfl, hat, hb2⟩
          have HB := Lib.hid (FIN.out _ _ HX.out (bld_str hbr.out [92, c] (by rw [← HC.out]; exact hat) hb2))
          clear hat hb2 hbr
          go_wp2_with fail
          go_roundw
          case rel => exact ⟨k + 1, by omega, by go_num, HB.out⟩
          case measure => simp [intOf]; omega
      · have q1 : ((n : Int) == 34) = false := by rw [beq_eq_false_iff_ne]; omega
        have q2 : ((n : Int) == 92) = false := by rw [beq_eq_false_iff_ne]; omega
        by_cases hy : n < 32 ∨ 126 < n
        · have HX := Lib.hid (quoteL_num (c := c) (by rw [hn]; exact hx) (by rw [hn]; exact hy))
          obtain ⟨hd, hl⟩ := decDigits_three n hn2
          have hi : Lib.itoa (n : Int) = Lib.decDigits n := by simp [Lib.itoa]
          have HC := Tryz.strconv_Itoa n (by omega) (by omega) wr (tab_on HT.out hbr.out.bel)
          rw [hi] at HC
          obtain ⟨ds, hds⟩ : ∃ ds, ds = Lib.decDigits n := ⟨_, rfl⟩
          rw [← hds] at hd hl HC
          have hsz : (⟨ds.toArray⟩ : ByteArray).size = ds.length := by show ds.toArray.size = _; simp
          have hrep : ∀ w, _ := fun w => Tryz.strings_Repeat ⟨#[48]⟩ (3 - ds.length) w (by omega) (by show 1 * _ ≤ _; omega)
          have HD := Lib.hid hd
          have HI := Lib.hid HC
          have HR := Lib.hid hrep
          clear hd hi hds HC hrep hn hx
          have hrl : (Lib.repeatL [48] (3 - ds.length)).length ≤ 3 := by rw [Lib.repeatL_length]; simp
          have HNN : Hid (((3 : Int) - (ds.length : Int)) = ((3 - ds.length : Nat) : Int)) := by show _ = _; omega
          have hd2 : decide ((126 : Int) < (n : Int)) = decide (126 < n) := by rw [decide_eq_decide]; omega
          have hd1 : decide ((n : Int) < 32) = decide (n < 32) := by rw [decide_eq_decide]; omega
          rcases hy with hy | hy
          · have d1 : decide ((n : Int) < 32) = true := by rw [decide_eq_true_eq]; omega
            clear hd1 hd2
            go_wp2_with fail
            refine HI.out.mono ?_
            rintro e w1 ⟨rfl, k1, os1, hw1⟩
            have hb1 : Below wr.heap.size wr w1 := by rw [hw1]; exact below_grow _ _ _
            have HB1 := Lib.hid (bld_quiet hbr.out hb1)
            clear hw1 hb1 hbr
            go_wp2_with fail
            rw [HNN.out]
            refine (HR.out _).mono ?_
            rintro e w2 ⟨rfl, hb2⟩
            have HB2 := Lib.hid (bld_quiet HB1.out hb2)
            clear hb2 HB1
            go_wp2_with fail
            rw [cat3, HD.out]
            refine (writeString_any _ _ _ _ _ HB2.out.is (by rw [bytes_len]; have := HLN.out; show _ + 4 ≤ _; omega) HB2.out.le).mono ?_
            rintro e w3 ⟨rfl, hat, hb3⟩
            have HB := Lib.hid (FIN.out _ _ HX.out (bld_str HB2.out [92, dig (c.toNat / 100), dig (c.toNat / 10 % 10), dig (c.toNat % 10)] (by rw [HN.out]; exact hat) hb3))
            clear hat hb3 HB2
            go_wp2_with fail
            go_roundw
            case rel => exact ⟨k + 1, by omega, by go_num, HB.out⟩
            case measure => simp [intOf]; omega
          · have d1 : decide ((n : Int) < 32) = false := by rw [decide_eq_false_iff_not]; omega
            have d2 : decide ((126 : Int) < (n : Int)) = true := by rw [decide_eq_true_eq]; omega
            clear hd1 hd2
            go_wp2_with fail
            refine HI.out.mono ?_
            rintro e w1 ⟨rfl, k1, os1, hw1⟩
            have hb1 : Below wr.heap.size wr w1 := by rw [hw1]; exact below_grow _ _ _
            have HB1 := Lib.hid (bld_quiet hbr.out hb1)
            clear hw1 hb1 hbr
            go_wp2_with fail
            rw [HNN.out]
            refine (HR.out _).mono ?_
            rintro e w2 ⟨rfl, hb2⟩
            have HB2 := Lib.hid (bld_quiet HB1.out hb2)
            clear hb2 HB1
            go_wp2_with fail
            rw [cat3, HD.out]
            refine (writeString_any _ _ _ _ _ HB2.out.is (by rw [bytes_len]; have := HLN.out; show _ + 4 ≤ _; omega) HB2.out.le).mono ?_
            rintro e w3 ⟨rfl, hat, hb3⟩
            have HB := Lib.hid (FIN.out _ _ HX.out (bld_str HB2.out [92, dig (c.toNat / 100), dig (c.toNat / 10 % 10), dig (c.toNat % 10)] (by rw [HN.out]; exact hat) hb3))
            clear hat hb3 HB2
            go_wp2_with fail
            go_roundw
            case rel => exact ⟨k + 1, by omega, by go_num, HB.out⟩
            case measure => simp [intOf]; omega
        · have HX := Lib.hid (quoteL_plain (c := c) (by rw [hn]; exact hx) (by rw [hn]; exact hy))
          have d1 : decide ((n : Int) < 32) = false := by rw [decide_eq_false_iff_not]; omega
          have d2 : decide ((126 : Int) < (n : Int)) = false := by rw [decide_eq_false_iff_not]; omega
          clear hn hx hy
          go_wp2_with fail
          refine (writeByte_any _ _ _ _ _ hbr.out.is (by rw [bytes_len]; have := HLN.out; omega) hbr.out.le).mono ?_
          rintro e w2 ⟨rfl, hat, hb2⟩
          have HB := Lib.hid (FIN.out _ _ HX.out (bld_byte hbr.out c (by rw [HN.out]; exact hat) hb2))
          clear hat hb2 hbr
          go_wp2_with fail
          go_roundw
          case rel => exact ⟨k + 1, by omega, by go_num, HB.out⟩
          case measure => simp [intOf]; omega
    · have hall : T.take k = T := List.take_of_length_le (by omega)
      have hb2 := hbr.out
      have hl2 := HFL.out T
      rw [hall] at hb2
      clear hall hbr
      go_wp2_with fail
      refine (writeByte_any _ _ _ 34 _ hb2.is (by rw [bytes_len, List.length_cons]; omega) hb2.le).mono ?_
      rintro e w2 ⟨rfl, hat, hb3⟩
      have hb4 := bld_byte hb2 34 hat hb3
      clear hat hb2 hb3
      go_wp2_with fail
      refine (Tryz.Builder_String_any _ _ _ _ hb4.is hb4.le).mono ?_
      rintro e w3 ⟨rfl, hb5⟩
      have HB := Lib.hid (hb4.bel.trans hb5)
      clear hb5 hb4
      go_wp2_with fail
      go_ret
      exact ⟨rfl, HB.out⟩

set_option maxHeartbeats 4000000 in
set_option maxRecDepth 100000 in
theorem rquoted_any (w : World) (s : ByteArray) (hs : s.size ≤ 17592186044416) :
    Calls Tryz.prog 54 #[.string s] w fun e w' => e = .returned (.string ⟨(quotedP s.data.toList).toArray⟩) ∧ Below w.heap.size w w' := by
  have hsl : s.data.toList.length = s.size := by simp
  obtain ⟨T, hTl⟩ : ∃ T, T = s.data.toList := ⟨_, rfl⟩
  have HTl := Lib.hid hTl
  have HFL := Lib.hid (flat_le quoteL 4 quoteL_len)
  rw [← hTl] at hsl ⊢
  clear hTl
  go_enter Tryz.func54, Tryz.ntmps54
  go_wp2_with fail
  go_loopw [3, 4, 5, 22, 37] (fun o i _ _ _ wr => ∃ (k : Nat) (p : ByteArray), k ≤ s.size ∧ i = .int .i64 k ∧ o = .string p ∧ p.size ≤ 140737488355000 ∧ Hid (p.data.toList = 34 :: (T.take k).flatMap quoteL ∧ Below w.heap.size w wr)) (fun _ i _ _ _ _ => s.size - (intOf i).toNat)
  case atStart => exact ⟨0, ⟨#[34]⟩, Nat.zero_le _, rfl, rfl, by decide, rfl, Below.refl _ _⟩
  case round =>
    obtain ⟨k, p, hk, rfl, rfl, hpz, hp⟩ := hrel
    by_cases hlt : k < s.size
    · have hkT : k < T.length := by omega
      have hsn := flat_snoc quoteL T k hkT
      have hl2 := HFL.out (T.take (k + 1))
      have hl3 : (T.take (k + 1)).length ≤ T.length := by simp; omega
      have hck : s[k] = T[k] := by
        have h1 : s.data.toList[k]'(by rw [← HTl.out]; exact hkT) = T[k] := by simp only [HTl.out]
        rw [← h1]; rfl
      have hex := ext_one s k hlt
      obtain ⟨c, hc⟩ : ∃ c, s[k] = c := ⟨_, rfl⟩
      rw [← hck, hc] at hsn
      rw [hc] at hex
      have HSN := Lib.hid hsn
      have HEX := Lib.hid hex
      have HLN := Lib.hid (show (34 :: (T.take (k + 1)).flatMap quoteL).length ≤ 140737488355000 by rw [List.length_cons]; omega)
      obtain ⟨n, hn⟩ : ∃ n, c.toNat = n := ⟨_, rfl⟩
      have hix : (s[k]).toNat = n := by rw [hc]; exact hn
      have HN := Lib.hid hn
      have hn2 : n < 256 := by have := c.toNat_lt; omega
      have hxs : (s.extract k (k + 1)).size = 1 := by rw [size_of hex]; rfl
      have h5 : p.size + 1 ≤ 9223372036854775807 := by omega
      have h6 : p.size + (s.extract k (k + 1)).size ≤ 9223372036854775807 := by omega
      have h7 : p.size + 1 + (s.extract k (k + 1)).size ≤ 9223372036854775807 := by omega
      have h8 : p.size + 1 + 3 ≤ 9223372036854775807 := by omega
      clear hsn hck hl2 hl3 hc hex
      have FIN := Lib.hid (show ∀ (q : ByteArray) (l : List UInt8), quoteL c = l → q.data.toList = 34 :: (T.take k).flatMap quoteL ++ l → q.data.toList = 34 :: (T.take (k + 1)).flatMap quoteL ∧ q.size ≤ 140737488355000 from by
        intro q l hq h
        have h2 : q.data.toList = 34 :: (T.take (k + 1)).flatMap quoteL := by rw [HSN.out, hq]; exact h
        exact ⟨h2, by rw [size_of h2]; exact HLN.out⟩)
      by_cases hx : n = 34 ∨ n = 92
      · have HX := Lib.hid (quoteL_hit (c := c) (by rw [hn]; exact hx))
        have HF := Lib.hid (FIN.out (p ++ ⟨#[92]⟩ ++ s.extract k (k + 1)) _ HX.out (by rw [cat_list (cat_list hp.out.1 rfl) HEX.out]; simp))
        clear hn
        rcases hx with rfl | rfl
        all_goals
          go_wp2_with fail
          go_roundw
          case rel => exact ⟨k + 1, _, by omega, by go_num, rfl, HF.out.2, HF.out.1, hp.out.2⟩
          case measure => simp [intOf]; omega
      · have q1 : ((n : Int) == 34) = false := by rw [beq_eq_false_iff_ne]; omega
        have q2 : ((n : Int) == 92) = false := by rw [beq_eq_false_iff_ne]; omega
        by_cases hy : n < 32 ∨ 126 < n
        · have HX := Lib.hid (quoteL_num (c := c) (by rw [hn]; exact hx) (by rw [hn]; exact hy))
          have HF := Lib.hid (FIN.out (p ++ ⟨#[92]⟩ ++ ⟨#[dig (n / 100), dig (n / 10 % 10), dig (n % 10)]⟩) _ HX.out (by rw [cat_list (cat_list hp.out.1 rfl) rfl, HN.out]; simp))
          have hconv := three_conv wr n hn2
          have HBA := Lib.hid (below_on hp.out.2 ((Below.refl _ wr).alloc (Nat.le_refl _) (.cells #[.int .u8 (48 + (n : Int) / 100), .int .u8 (48 + (n : Int) / 10 % 10), .int .u8 (48 + (n : Int) % 10)] 5)) (Nat.le_refl _))
          clear hn hx
          rcases hy with hy | hy
          · have d1 : decide ((n : Int) < 32) = true := by rw [decide_eq_true_eq]; omega
            go_wp2_with fail
            go_roundw
            case rel => exact ⟨k + 1, _, by omega, by go_num, rfl, HF.out.2, HF.out.1, HBA.out⟩
            case measure => simp [intOf]; omega
          · have d1 : decide ((n : Int) < 32) = false := by rw [decide_eq_false_iff_not]; omega
            have d2 : decide ((126 : Int) < (n : Int)) = true := by rw [decide_eq_true_eq]; omega
            go_wp2_with fail
            go_roundw
            case rel => exact ⟨k + 1, _, by omega, by go_num, rfl, HF.out.2, HF.out.1, HBA.out⟩
            case measure => simp [intOf]; omega
        · have HX := Lib.hid (quoteL_plain (c := c) (by rw [hn]; exact hx) (by rw [hn]; exact hy))
          have HF := Lib.hid (FIN.out (p ++ s.extract k (k + 1)) _ HX.out (by rw [cat_list hp.out.1 HEX.out]))
          have d1 : decide ((n : Int) < 32) = false := by rw [decide_eq_false_iff_not]; omega
          have d2 : decide ((126 : Int) < (n : Int)) = false := by rw [decide_eq_false_iff_not]; omega
          clear hn hx hy
          go_wp2_with fail
          go_roundw
          case rel => exact ⟨k + 1, _, by omega, by go_num, rfl, HF.out.2, HF.out.1, hp.out.2⟩
          case measure => simp [intOf]; omega
    · have hall : T.take k = T := List.take_of_length_le (by omega)
      have hb2 := hp.out
      rw [hall] at hb2
      have HF := Lib.hid (show (p ++ ⟨#[34]⟩).data.toList = quotedP T by rw [cat_list hb2.1 rfl, quotedP]; rfl)
      have HBE := Lib.hid hb2.2
      have h5 : p.size + 1 ≤ 9223372036854775807 := by omega
      clear hall hb2
      go_wp2_with fail
      go_ret
      exact ⟨ret_str (bytes_eq _ _ HF.out), HBE.out⟩
end
section
open Go.ChangeShapes Go.WideShapes Go.ChangeAt Go.RowKit

/-- the library's table of places of bits, as far as it is read -/
def Bru (w : World) : Prop := w.cell? ⟨8, 15, none⟩ = some (.int .u8 4)
theorem Bru.on {w w' : World} (h : Bru w) (hb : Below w.heap.size w w') : Bru w' := cell_keep hb h
set_option maxRecDepth 100000 in
theorem tz64_any (w : World) (hB : Bru w) : Calls Tryz.prog 204 #[.int .u64 16] w fun e w' => e = .returned (.int .i64 4) ∧ w' = w := by
  unfold Bru at hB
  have a1 : IntKind.u64.wrap (-16) = 18446744073709551600 := by decide
  have a2 : bits BinOp.and IntKind.u64 16 18446744073709551600 = 16 := by decide
  have a3 : IntKind.u64.wrap (16 * 285870213051353865) = 4573923408821661840 := by decide
  have a4 : (4573923408821661840 / 288230376151711744 : Int).toNat = 15 := by decide
  go_enter Tryz.func204, Tryz.ntmps204
  go_wp2
  go_ret
  exact ⟨rfl, rfl⟩
theorem tz_any (w : World) (hB : Bru w) : Calls Tryz.prog 188 #[.int .u64 16] w fun e w' => e = .returned (.int .i64 4) ∧ w' = w := by
  have H := Lib.hid (tz64_any w hB)
  clear hB
  go_enter Tryz.func188, Tryz.ntmps188
  go_wp2_with fail
  refine H.out.mono ?_
  rintro e w' ⟨rfl, rfl⟩
  go_wp2_with fail
  go_ret
  exact ⟨rfl, rfl⟩
theorem pow2_any (w : World) : Calls Tryz.prog 187 #[.int .i64 16] w fun e w' => e = .returned (.bool true) ∧ w' = w := by
  go_enter Tryz.func187, Tryz.ntmps187
  go_wp2
  go_ret
  exact ⟨rfl, rfl⟩

def tailL (t : List UInt8) : List Value := List.replicate (65 - t.length) (.int .u8 0) ++ t.map fun c => .int .u8 (c.toNat : Int)
def tailC (t : List UInt8) : Array Value := (tailL t).toArray
theorem tail_zero : tailC [] = Tryz.zeroCells200 := by kernel_rfl
theorem tail_set (t : List UInt8) (c : UInt8) (h : t.length < 65) : (tailC t).setIfInBounds (64 - t.length) (.int .u8 (c.toNat : Int)) = tailC (c :: t) := by
  have e : 65 - t.length = (64 - t.length) + 1 := by omega
  have e2 : 65 - (c :: t).length = 64 - t.length := by simp
  unfold tailC tailL
  rw [e2, e, List.replicate_succ', List.append_assoc]
  rw [List.setIfInBounds_toArray]
  congr 1
  rw [List.set_append_right _ _ (by simp)]
  simp
theorem tail_get (t : List UInt8) (j : Nat) (hj : j < t.length) : (tailC t)[65 - t.length + j]? = some (.int .u8 (t[j].toNat : Int)) := by
  unfold tailC tailL
  rw [List.getElem?_toArray, List.getElem?_append_right (by simp)]
  simp [hj]
theorem digits36 (m : Nat) (h : m < 16) : (⟨#[48, 49, 50, 51, 52, 53, 54, 55, 56, 57, 97, 98, 99, 100, 101, 102, 103, 104, 105, 106, 107, 108, 109, 110, 111, 112, 113, 114, 115, 116, 117, 118, 119, 120, 121, 122]⟩ : ByteArray)[m]'(by show m < 36; omega) = hexD m := by
  have : m = 0 ∨ m = 1 ∨ m = 2 ∨ m = 3 ∨ m = 4 ∨ m = 5 ∨ m = 6 ∨ m = 7 ∨ m = 8 ∨ m = 9 ∨ m = 10 ∨ m = 11 ∨ m = 12 ∨ m = 13 ∨ m = 14 ∨ m = 15 := by omega
  rcases this with rfl | rfl | rfl | rfl | rfl | rfl | rfl | rfl | rfl | rfl | rfl | rfl | rfl | rfl | rfl | rfl <;> rfl
theorem tail_free (t : List UInt8) (r : Nat) (h : r + 1 + t.length = 65) : (tailC t)[r]? = some (.int .u8 0) := by
  unfold tailC tailL
  rw [List.getElem?_toArray, List.getElem?_append_left (by simp; omega), List.getElem?_replicate, if_pos (by omega)]
def digS : ByteArray := ⟨#[48, 49, 50, 51, 52, 53, 54, 55, 56, 57, 97, 98, 99, 100, 101, 102, 103, 104, 105, 106, 107, 108, 109, 110, 111, 112, 113, 114, 115, 116, 117, 118, 119, 120, 121, 122]⟩
def fitsT (v n : Nat) : Prop := (v < 65536 ∧ n = 0) ∨ (v < 4096 ∧ n = 1) ∨ (v < 256 ∧ n = 2) ∨ (v < 16 ∧ n = 3)

set_option maxHeartbeats 4000000 in
set_option maxRecDepth 100000 in
theorem fbits_any (w : World) (u : Nat) (hu : u < 65536) (hB : Bru w) :
    Calls Tryz.prog 151 #[.slice none 0 0, .int .u64 (u : Int), .int .i64 16, .bool false, .bool false] w fun e w' => e = .returned (.tuple #[.slice none 0 0, .string ⟨(groupP u).toArray⟩]) ∧ Below w.heap.size w w' := by
  have hblk : Blk (w.alloc (.cells (tailC []) 200)) w.heap.size (tailC []) 200 := heap_alloc_new w _
  have hb0 : Below w.heap.size w (w.alloc (.cells (tailC []) 200)) := (Below.refl _ _).alloc (Nat.le_refl _) _
  have HTZ := Lib.hid (tz_any _ (hB.on hb0))
  have HBK := Lib.hid hblk
  have HB0 := Lib.hid hb0
  rw [tail_zero] at hblk hb0 HTZ HBK HB0
  have hP := fun w' => pow2_any w'
  have HP := Lib.hid hP
  clear hblk hb0 hB hP
  go_enter Tryz.func151, Tryz.ntmps151
  go_wp2_with fail
  refine (HP.out _).mono ?_
  rintro e w1 ⟨rfl, rfl⟩
  go_wp2_with fail
  refine HTZ.out.mono ?_
  rintro e w1 ⟨rfl, rfl⟩
  go_wp2_with fail
  go_loopw [13, 1] (fun iv uv wr => ∃ (t : List UInt8) (v r : Nat), iv = .int .i64 ((r : Int) + 1) ∧ uv = .int .u64 v ∧ r + 1 + t.length = 65 ∧ r ≤ 64 ∧ v < 65536 ∧ Hid (groupP u = groupP v ++ t ∧ fitsT v t.length ∧ Blk wr w.heap.size (tailC t) 200 ∧ Below w.heap.size w wr)) (fun _ uv _ => (intOf uv).toNat)
  case atStart => exact ⟨[], u, 64, rfl, rfl, rfl, Nat.le_refl _, hu, by simp, .inl ⟨hu, rfl⟩, by rw [tail_zero]; exact HBK.out, HB0.out⟩
  case round =>
    obtain ⟨t, v, r, rfl, rfl, hr, hr2, hv, hinv⟩ := hrel
    clear HTZ HP HBK HB0
    have hal : Tryz.prog.arrayLen 200 = 65 := by kernel_rfl
    have hael : (Tryz.prog.underlying 200) = some (.array 65 5) := Tryz.underlying200
    obtain ⟨m, hm⟩ : ∃ m, m = v % 16 := ⟨_, rfl⟩
    have hm2 : m < 16 := by omega
    have hand : bits BinOp.and IntKind.u64 (v : Int) 15 = (m : Int) := by
      have := bits_and_u64_nat v 15 (by omega) (by omega)
      rw [show ((15 : Nat) : Int) = 15 from rfl] at this
      rw [this, hm]
      congr 1
      exact Nat.and_two_pow_sub_one_eq_mod v 4
    have hc0 : wr.cell? ⟨w.heap.size, r, none⟩ = some (.int .u8 0) := (hinv.out.2.2.1.cell r).trans (tail_free t r hr)
    have HM := Lib.hid hm
    clear hm
    have hsl : ∀ W, (Instr.sliceAt 200 (.pointer (some ⟨w.heap.size, 0, none⟩)) (some (.int .i64 (r : Int))) none none).run Tryz.prog W = .ok (.slice (some ⟨w.heap.size, r, none⟩) (65 - r) (65 - r)) W := fun W => by
      rw [run_sliceAt_array_l W 200 ⟨w.heap.size, 0, none⟩ (by simp [Program.arrayLen, Program.elem, hael]) .i64 (r : Int) (by omega) (by rw [hal]; omega)]
      go_simp
      intro h
      omega
    have hfr := hinv.out.2.2.1.free r
    by_cases hlt : v < 16
    · have d1 : decide ((16 : Int) ≤ (v : Int)) = false := by rw [decide_eq_false_iff_not]; omega
      have hdg : ∀ h, ((⟨#[48, 49, 50, 51, 52, 53, 54, 55, 56, 57, 97, 98, 99, 100, 101, 102, 103, 104, 105, 106, 107, 108, 109, 110, 111, 112, 113, 114, 115, 116, 117, 118, 119, 120, 121, 122]⟩ : ByteArray)[v]'h) = hexD v := fun _ => digits36 v hlt
      have hlen : (hexD v :: t).length = 65 - r := by rw [List.length_cons]; omega
      have hbk := Lib.hid (show Blk (wr.setCell ⟨w.heap.size, r, none⟩ (.int .u8 ((hexD v).toNat : Int))) w.heap.size (tailC (hexD v :: t)) 200 by
        have := hinv.out.2.2.1.set r (.int .u8 ((hexD v).toNat : Int))
        rw [← tail_set t (hexD v) (by omega), show 64 - t.length = r by omega]
        exact this)
      have hcv : (convert 29 9 (.slice (some ⟨w.heap.size, r, none⟩) (65 - r) (65 - r))).run Tryz.prog (wr.setCell ⟨w.heap.size, r, none⟩ (.int .u8 ((hexD v).toNat : Int))) = .ok (.string ⟨(groupP u).toArray⟩) (wr.setCell ⟨w.heap.size, r, none⟩ (.int .u8 ((hexD v).toNat : Int))) := by
        have h := run_convert_bytes_back (P := Tryz.prog) (wr.setCell ⟨w.heap.size, r, none⟩ (.int .u8 ((hexD v).toNat : Int))) 29 9 5 ⟨w.heap.size, r, none⟩ (65 - r) (hexD v :: t) Tryz.underlying29 Tryz.underlying5 Tryz.underlying9 (fun j hj => by
          rw [addr_add, hbk.out.cell]
          have := tail_get (hexD v :: t) j hj
          rw [show 65 - (hexD v :: t).length + j = r + j by omega] at this
          exact this)
        rw [hlen] at h
        rw [hinv.out.1, groupP_small hlt]
        exact h
      have HBE := Lib.hid (hinv.out.2.2.2.setCell (p := ⟨w.heap.size, r, none⟩) (Nat.le_refl _) (.int .u8 ((hexD v).toNat : Int)))
      go_wp2_with fail
      go_ret2
      exact ⟨rfl, HBE.out⟩
    · have d1 : decide ((16 : Int) ≤ (v : Int)) = true := by rw [decide_eq_true_eq]; omega
      have hdg : ∀ h, ((⟨#[48, 49, 50, 51, 52, 53, 54, 55, 56, 57, 97, 98, 99, 100, 101, 102, 103, 104, 105, 106, 107, 108, 109, 110, 111, 112, 113, 114, 115, 116, 117, 118, 119, 120, 121, 122]⟩ : ByteArray)[m]'h) = hexD m := fun _ => digits36 m hm2
      go_wp2_with fail
      go_roundw
      case rel =>
        have hfit := hinv.out.2.1
        have hbk : Blk (wr.setCell ⟨w.heap.size, r, none⟩ (.int .u8 ((hexD m).toNat : Int))) w.heap.size (tailC (hexD m :: t)) 200 := by
          have := hinv.out.2.2.1.set r (.int .u8 ((hexD m).toNat : Int))
          rw [← tail_set t (hexD m) (by omega), show 64 - t.length = r by omega]
          exact this
        refine ⟨hexD m :: t, v / 16, r - 1, by congr 1; unfold fitsT at hfit; omega, by go_num, by rw [List.length_cons]; unfold fitsT at hfit; omega, by omega, by omega, ?_, ?_, hbk, hinv.out.2.2.2.setCell (p := ⟨w.heap.size, r, none⟩) (Nat.le_refl _) (.int .u8 ((hexD m).toNat : Int))⟩
        · rw [hinv.out.1, groupP_big hlt, HM.out]; simp
        · rw [List.length_cons]; unfold fitsT at hfit ⊢; omega
      case measure => simp [intOf]; omega
set_option maxRecDepth 100000 in
theorem ifmt16_any (w : World) (u : Nat) (hu : u < 65536) (hB : Bru w) :
    Calls Tryz.prog 142 #[.int .u64 (u : Int), .int .i64 16] w fun e w' => e = .returned (.string ⟨(groupP u).toArray⟩) ∧ Below w.heap.size w w' := by
  have H := Lib.hid (fbits_any w u hu hB)
  clear hB
  go_enter Tryz.func142, Tryz.ntmps142
  go_wp2_with fail
  refine H.out.mono ?_
  rintro e w' ⟨rfl, hb⟩
  go_wp2_with fail
  go_ret
  exact ⟨rfl, hb⟩
theorem fmt16_any (w : World) (u : Nat) (hu : u < 65536) (hB : Bru w) :
    Calls Tryz.prog 113 #[.int .u64 (u : Int), .int .i64 16] w fun e w' => e = .returned (.string ⟨(groupP u).toArray⟩) ∧ Below w.heap.size w w' := by
  have H := Lib.hid (ifmt16_any w u hu hB)
  clear hB
  go_enter Tryz.func113, Tryz.ntmps113
  go_wp2_with fail
  refine H.out.mono ?_
  rintro e w' ⟨rfl, hb⟩
  go_wp2_with fail
  go_ret
  exact ⟨rfl, hb⟩

set_option maxHeartbeats 2000000 in
set_option maxRecDepth 100000 in
/-- the statements' own -/
theorem group_any (n : Nat) : ∀ (w : World), n < 65536 → Calls Tryz.prog 52 #[.int .i64 (n : Int)] w fun e w' => e = .returned (.string ⟨(groupP n).toArray⟩) ∧ Below w.heap.size w w' := by
  induction n using Nat.strongRecOn with
  | ind n ih =>
    intro w hn
    by_cases hlt : n < 16
    · have hD := Lib.hid (ext_one (⟨#[48, 49, 50, 51, 52, 53, 54, 55, 56, 57, 97, 98, 99, 100, 101, 102]⟩ : ByteArray) n hlt)
      have d1 : decide ((n : Int) < 16) = true := by rw [decide_eq_true_eq]; omega
      go_enter Tryz.func52, Tryz.ntmps52
      go_wp2_with fail
      go_ret
      refine ⟨ret_str ?_, Below.refl _ _⟩
      rw [groupP_small hlt]
      exact bytes_eq _ _ (by rw [hD.out, digits_get n hlt])
    · have d1 : decide ((n : Int) < 16) = false := by rw [decide_eq_false_iff_not]; omega
      have IH := Lib.hid (fun w' => ih (n / 16) (by omega) w' (by omega))
      have ht : (n : Int).tdiv 16 = ((n / 16 : Nat) : Int) := rfl
      obtain ⟨m, hm⟩ : ∃ m, m = n % 16 := ⟨_, rfl⟩
      have hm2 : m < 16 := by omega
      have htm : (n : Int).tmod 16 = (m : Int) := by rw [hm]; rfl
      have hex := ext_one (⟨#[48, 49, 50, 51, 52, 53, 54, 55, 56, 57, 97, 98, 99, 100, 101, 102]⟩ : ByteArray) m hm2
      obtain ⟨X, hX⟩ : ∃ X, X = (⟨#[48, 49, 50, 51, 52, 53, 54, 55, 56, 57, 97, 98, 99, 100, 101, 102]⟩ : ByteArray).extract m (m + 1) := ⟨_, rfl⟩
      rw [← hX] at hex
      have hXs : X.size = 1 := by rw [size_of hex]; rfl
      have hgl : (⟨(groupP (n / 16)).toArray⟩ : ByteArray).size ≤ 4 := by
        have := groupP_len (n / 16) (by omega)
        show (groupP (n / 16)).toArray.size ≤ 4
        simpa using this
      have HFIN := Lib.hid (show (⟨(groupP (n / 16)).toArray⟩ : ByteArray) ++ X = ⟨(groupP n).toArray⟩ from bytes_eq _ _ (by
        rw [cat_list rfl (hex.trans (by rw [digits_get m hm2])), groupP_big hlt, ← hm]))
      have hsli := hX.symm
      have hw1 : IntKind.i64.wrap ((n : Int) / 16) = ((n / 16 : Nat) : Int) := by rw [IntWalk.i64_in _ (by omega)]; omega
      have hw2 : IntKind.i64.wrap ((m : Int) + 1) = (m : Int) + 1 := IntWalk.i64_in _ (by omega)
      have hgl2 := groupP_len (n / 16) (by omega)
      clear hm hex hX
      go_enter Tryz.func52, Tryz.ntmps52
      go_wp2_with fail
      refine wp_soup0 (m := 22) (by kernel_rfl) (fun x y => Below x.heap.size x y) (fun i v _ => match i with | 0 => v = .int .i64 (n : Int) | 1 => v = .int .i64 ((n / 16 : Nat) : Int) | 2 => v = .string ⟨(groupP (n / 16)).toArray⟩ | 3 => v = .string ⟨#[48, 49, 50, 51, 52, 53, 54, 55, 56, 57, 97, 98, 99, 100, 101, 102]⟩ | 4 => v = .int .i64 (n : Int) | 5 => v = .int .i64 (m : Int) | 6 => v = .int .i64 (n : Int) | 7 => v = .int .i64 (m : Int) | 8 => v = .int .i64 ((m : Int) + 1) | 9 => v = .string X | 10 => v = .string (⟨(groupP (n / 16)).toArray⟩ ++ X) | 11 => v = .string (⟨(groupP (n / 16)).toArray⟩ ++ X) | _ => True) rfl (by kernel_rfl) (fun _ _ _ h1 h2 => below_on h1 h2 (Nat.le_refl _)) (Below.refl _ _) (fun _ _ _ _ h _ => h) (dst_but 12 (by kernel_rfl) (fun _ _ h => h)) ?_ ?_
      rotate_left
      · intro a W hR hS hdep
        obtain ⟨⟨l⟩, df⟩ := a
        match l, (show l.length = 22 from hS.size), hS, hdep with
        | [u0, u1, u2, u3, u4, u5, u6, u7, u8, u9, u10, u11, u12, u13, u14, u15, u16, u17, u18, u19, u20, u21], _, hS, hdep =>
          obtain rfl : df = [] := hS.defers
          obtain rfl := hdep 11 (by decide +kernel)
          go_wp2_with fail
          go_ret
          exact ⟨ret_str HFIN.out, below_on (Below.drew (Below.refl _ _)) hR (Nat.le_refl _)⟩
      refine soup_cons rfl rfl (fun a W hR hS hdep K hK => ?_) ?_
      · obtain ⟨⟨l⟩, df⟩ := a
        match l, (show l.length = 22 from hS.size), hS, hdep with
        | [u0, u1, u2, u3, u4, u5, u6, u7, u8, u9, u10, u11, u12, u13, u14, u15, u16, u17, u18, u19, u20, u21], _, hS, hdep =>
          obtain rfl : u0 = .int .i64 (n : Int) := hS.keep 0 (by kernel_rfl)
          go_simp
          exact hK _ _ (Below.refl _ _) rfl
      refine soup_cons rfl rfl (fun a W hR hS hdep K hK => ?_) ?_
      · obtain ⟨⟨l⟩, df⟩ := a
        match l, (show l.length = 22 from hS.size), hS, hdep with
        | [u0, u1, u2, u3, u4, u5, u6, u7, u8, u9, u10, u11, u12, u13, u14, u15, u16, u17, u18, u19, u20, u21], _, hS, hdep =>
          obtain rfl := hdep 0 (by decide +kernel)
          go_simp
          exact hK _ _ (Below.refl _ _) rfl
      refine soup_cons rfl rfl (fun a W hR hS hdep K hK => ?_) ?_
      · obtain ⟨⟨l⟩, df⟩ := a
        match l, (show l.length = 22 from hS.size), hS, hdep with
        | [u0, u1, u2, u3, u4, u5, u6, u7, u8, u9, u10, u11, u12, u13, u14, u15, u16, u17, u18, u19, u20, u21], _, hS, hdep =>
          obtain rfl := hdep 1 (by decide +kernel)
          go_simp
          refine (IH.out _).mono ?_
          rintro e W' ⟨rfl, hb⟩
          exact hK _ _ hb rfl
      refine soup_cons rfl rfl (fun a W hR hS hdep K hK => ?_) ?_
      · obtain ⟨⟨l⟩, df⟩ := a
        match l, (show l.length = 22 from hS.size), hS, hdep with
        | [u0, u1, u2, u3, u4, u5, u6, u7, u8, u9, u10, u11, u12, u13, u14, u15, u16, u17, u18, u19, u20, u21], _, hS, hdep =>
          obtain rfl : u3 = .string ⟨#[48, 49, 50, 51, 52, 53, 54, 55, 56, 57, 97, 98, 99, 100, 101, 102]⟩ := hS.keep 3 (by kernel_rfl)
          go_simp
          exact hK _ _ (Below.refl _ _) rfl
      refine soup_cons rfl rfl (fun a W hR hS hdep K hK => ?_) ?_
      · obtain ⟨⟨l⟩, df⟩ := a
        match l, (show l.length = 22 from hS.size), hS, hdep with
        | [u0, u1, u2, u3, u4, u5, u6, u7, u8, u9, u10, u11, u12, u13, u14, u15, u16, u17, u18, u19, u20, u21], _, hS, hdep =>
          obtain rfl : u0 = .int .i64 (n : Int) := hS.keep 0 (by kernel_rfl)
          go_simp
          exact hK _ _ (Below.refl _ _) rfl
      refine soup_cons rfl rfl (fun a W hR hS hdep K hK => ?_) ?_
      · obtain ⟨⟨l⟩, df⟩ := a
        match l, (show l.length = 22 from hS.size), hS, hdep with
        | [u0, u1, u2, u3, u4, u5, u6, u7, u8, u9, u10, u11, u12, u13, u14, u15, u16, u17, u18, u19, u20, u21], _, hS, hdep =>
          obtain rfl := hdep 4 (by decide +kernel)
          go_simp
          exact hK _ _ (Below.refl _ _) rfl
      refine soup_cons rfl rfl (fun a W hR hS hdep K hK => ?_) ?_
      · obtain ⟨⟨l⟩, df⟩ := a
        match l, (show l.length = 22 from hS.size), hS, hdep with
        | [u0, u1, u2, u3, u4, u5, u6, u7, u8, u9, u10, u11, u12, u13, u14, u15, u16, u17, u18, u19, u20, u21], _, hS, hdep =>
          obtain rfl : u0 = .int .i64 (n : Int) := hS.keep 0 (by kernel_rfl)
          go_simp
          exact hK _ _ (Below.refl _ _) rfl
      refine soup_cons rfl rfl (fun a W hR hS hdep K hK => ?_) ?_
      · obtain ⟨⟨l⟩, df⟩ := a
        match l, (show l.length = 22 from hS.size), hS, hdep with
        | [u0, u1, u2, u3, u4, u5, u6, u7, u8, u9, u10, u11, u12, u13, u14, u15, u16, u17, u18, u19, u20, u21], _, hS, hdep =>
          obtain rfl := hdep 6 (by decide +kernel)
          go_simp
          exact hK _ _ (Below.refl _ _) rfl
      refine soup_cons rfl rfl (fun a W hR hS hdep K hK => ?_) ?_
      · obtain ⟨⟨l⟩, df⟩ := a
        match l, (show l.length = 22 from hS.size), hS, hdep with
        | [u0, u1, u2, u3, u4, u5, u6, u7, u8, u9, u10, u11, u12, u13, u14, u15, u16, u17, u18, u19, u20, u21], _, hS, hdep =>
          obtain rfl := hdep 7 (by decide +kernel)
          go_simp
          exact hK _ _ (Below.refl _ _) rfl
      refine soup_cons rfl rfl (fun a W hR hS hdep K hK => ?_) ?_
      · obtain ⟨⟨l⟩, df⟩ := a
        match l, (show l.length = 22 from hS.size), hS, hdep with
        | [u0, u1, u2, u3, u4, u5, u6, u7, u8, u9, u10, u11, u12, u13, u14, u15, u16, u17, u18, u19, u20, u21], _, hS, hdep =>
          obtain rfl := hdep 3 (by decide +kernel)
          obtain rfl := hdep 5 (by decide +kernel)
          obtain rfl := hdep 8 (by decide +kernel)
          go_simp
          rw [if_pos (by omega), if_pos (by omega)]
          exact hK _ _ (Below.refl _ _) rfl
      refine soup_cons rfl rfl (fun a W hR hS hdep K hK => ?_) ?_
      · obtain ⟨⟨l⟩, df⟩ := a
        match l, (show l.length = 22 from hS.size), hS, hdep with
        | [u0, u1, u2, u3, u4, u5, u6, u7, u8, u9, u10, u11, u12, u13, u14, u15, u16, u17, u18, u19, u20, u21], _, hS, hdep =>
          obtain rfl := hdep 2 (by decide +kernel)
          obtain rfl := hdep 9 (by decide +kernel)
          go_simp
          rw [if_neg (by omega)]
          exact hK _ _ (Below.refl _ _) rfl
      refine soup_cons rfl rfl (fun a W hR hS hdep K hK => ?_) ?_
      · obtain ⟨⟨l⟩, df⟩ := a
        match l, (show l.length = 22 from hS.size), hS, hdep with
        | [u0, u1, u2, u3, u4, u5, u6, u7, u8, u9, u10, u11, u12, u13, u14, u15, u16, u17, u18, u19, u20, u21], _, hS, hdep =>
          obtain rfl := hdep 10 (by decide +kernel)
          go_simp
          exact hK _ _ (Below.refl _ _) rfl
      exact fun j h1 h2 => absurd h1 (by simp only [List.size_toArray, List.length_cons, List.length_nil]; omega)
end
section
open Go.ChangeShapes Go.WideShapes Go.ChangeAt Go.RowKit

set_option maxHeartbeats 2000000 in
set_option maxRecDepth 100000 in
theorem hexa_any (w : World) (ao : Option Addr) (len cap : Nat) (l : List UInt8) (hs : Byts w ao len cap l) (hb : len ≤ 1099511627776) :
    Calls Tryz.prog 55 #[.slice ao len cap] w fun e w' => e = .returned (.string ⟨(hexB l).toArray⟩) ∧ Below w.heap.size w w' := by
  have hl : l.length = len := by simpa using hs.hlen
  have hcap := hs.hcap
  have hle := hs.hle
  have HL := Lib.hid hl; clear hl
  go_enter Tryz.func55, Tryz.ntmps55
  go_wp2_with fail
  go_loopw [4, 5] (fun o i wr => ∃ (k : Nat) (p : ByteArray), k ≤ len ∧ i = .int .i64 k ∧ o = .string p ∧ p.size ≤ 4398046511104 ∧ Hid (p.data.toList = hexB (l.take k) ∧ Below w.heap.size w wr)) (fun _ i _ => len - (intOf i).toNat)
  case atStart => exact ⟨0, ⟨#[]⟩, Nat.zero_le _, rfl, rfl, by decide, rfl, Below.refl _ _⟩
  case round =>
    obtain ⟨k, p, hk, rfl, rfl, hpz, hp⟩ := hrel
    by_cases hlt : k < len
    · obtain ⟨b, off, rfl⟩ := hs.addr hlt
      have hc := (hs.below hp.out.2 (Nat.le_refl _)).at hlt
      have hkl : k < l.length := by have := HL.out; omega
      have hsn : hexB (l.take (k + 1)) = hexB (l.take k) ++ [hexD (l[k].toNat / 16)] ++ [hexD (l[k].toNat % 16)] := by
        rw [List.take_succ_eq_append_getElem hkl, hexB, hexB, List.flatMap_append]; simp
      rw [List.getElem_map] at hc
      obtain ⟨c, hck⟩ : ∃ c, c = l[k] := ⟨_, rfl⟩
      rw [← hck] at hc hsn
      obtain ⟨n, hn⟩ : ∃ n, c.toNat = n := ⟨_, rfl⟩
      rw [hn] at hc hsn
      have hn2 : n < 256 := by have := c.toNat_lt; omega
      obtain ⟨q, hq⟩ : ∃ q, q = n / 16 := ⟨_, rfl⟩
      obtain ⟨r, hr⟩ : ∃ r, r = n % 16 := ⟨_, rfl⟩
      have hq2 : q < 16 := by omega
      have hr2 : r < 16 := by omega
      rw [← hq, ← hr] at hsn
      have a1 : (n : Int).tdiv 16 = (q : Int) := by rw [hq]; rfl
      have a1' : (n : Int) / 16 = (q : Int) := by omega
      have a2 : (n : Int).tmod 16 = (r : Int) := by rw [hr]; rfl
      have a3 : IntKind.u8.wrap (q : Int) = (q : Int) := IntWalk.u8_in _ (by omega)
      have a4 : IntKind.u8.wrap ((q : Int) + 1) = (q : Int) + 1 := IntWalk.u8_in _ (by omega)
      have a5 : IntKind.u8.wrap (r : Int) = (r : Int) := IntWalk.u8_in _ (by omega)
      have a6 : IntKind.u8.wrap ((r : Int) + 1) = (r : Int) + 1 := IntWalk.u8_in _ (by omega)
      have hx := (ext_one (⟨#[48, 49, 50, 51, 52, 53, 54, 55, 56, 57, 97, 98, 99, 100, 101, 102]⟩ : ByteArray) q hq2).trans (by rw [digits_get q hq2])
      have hy := (ext_one (⟨#[48, 49, 50, 51, 52, 53, 54, 55, 56, 57, 97, 98, 99, 100, 101, 102]⟩ : ByteArray) r hr2).trans (by rw [digits_get r hr2])
      obtain ⟨X, hX⟩ : ∃ X, (⟨#[48, 49, 50, 51, 52, 53, 54, 55, 56, 57, 97, 98, 99, 100, 101, 102]⟩ : ByteArray).extract q (q + 1) = X := ⟨_, rfl⟩
      obtain ⟨Y, hY⟩ : ∃ Y, (⟨#[48, 49, 50, 51, 52, 53, 54, 55, 56, 57, 97, 98, 99, 100, 101, 102]⟩ : ByteArray).extract r (r + 1) = Y := ⟨_, rfl⟩
      rw [hX] at hx
      rw [hY] at hy
      have hXs : X.size = 1 := by rw [size_of hx]; rfl
      have hYs : Y.size = 1 := by rw [size_of hy]; rfl
      have h5 : p.size + X.size ≤ 9223372036854775807 := by omega
      have h6 : p.size + X.size + Y.size ≤ 9223372036854775807 := by omega
      have HF := Lib.hid (show (p ++ X ++ Y).data.toList = hexB (l.take (k + 1)) by rw [cat_list (cat_list hp.out.1 hx) hy, hsn])
      have HF2 := Lib.hid (show (p ++ X ++ Y).size ≤ 4398046511104 by rw [size_of HF.out, hexB_len]; have := HL.out; simp; omega)
      have q0 : (0 : Int) ≤ (q : Int) := by omega
      have r0 : (0 : Int) ≤ (r : Int) := by omega
      have q1 : (q : Int) ≤ 15 := by omega
      have r1 : (r : Int) ≤ 15 := by omega
      clear hsn hck hn hx hy hr hq
      go_wp2_with fail
      go_quiet (fail)
      have HBE := Lib.hid (below_drewN hp.out.2 nq)
      go_wp2_with fail
      go_roundw
      case rel => exact ⟨k + 1, _, by omega, by go_num, rfl, HF2.out, HF.out, HBE.out⟩
      case measure => simp [intOf]; omega
    · have hall : l.take k = l := List.take_of_length_le (by have := HL.out; omega)
      have hi2 := hp.out
      rw [hall] at hi2
      have HI := Lib.hid hi2
      clear hi2 hall
      go_wp2_with fail
      go_ret
      exact ⟨ret_str (bytes_eq _ _ HI.out.1), HI.out.2⟩

def rawP (b : List UInt8) : List (List UInt8) := [[92, 35], Lib.itoa b.length] ++ if b.length = 0 then [] else [hexB b]
theorem itoa_nat_len (n : Nat) (h : n < 10000000000) : (Lib.itoa (n : Int)).length ≤ 20 := by
  have := dec_len20 n (by omega)
  have e : Lib.itoa (n : Int) = Lib.decDigits n := by simp [Lib.itoa]
  rw [e]
  exact this
set_option maxHeartbeats 2000000 in
set_option maxRecDepth 100000 in
theorem unknown_any (w : World) (ao : Option Addr) (len cap : Nat) (l : List UInt8) (hs : Byts w ao len cap l) (hb : len ≤ 1000000000) (hT : Tab w) :
    Calls Tryz.prog 51 #[.slice ao len cap] w fun e w' => StrsRes w ((rawP l).map strOf) e w' := by
  have hl : l.length = len := by simpa using hs.hlen
  have hcap := hs.hcap
  have hle := hs.hle
  have HIT := Lib.hid (itoa_below (w := w) (n := (len : Int)) (by omega) (by omega) hT)
  have hil := itoa_nat_len len (by omega)
  obtain ⟨I, hI⟩ : ∃ I : ByteArray, I = ⟨(Lib.itoa (len : Int)).toArray⟩ := ⟨_, rfl⟩
  rw [← hI] at HIT
  have hIs : I.size ≤ 20 := by rw [hI]; show (Lib.itoa (len : Int)).toArray.size ≤ 20; simpa using hil
  have HI := Lib.hid hI
  have HL := Lib.hid hl
  have hsl : ∀ s ∈ [(⟨#[92, 35]⟩ : ByteArray), I], s.size ≤ 9223372036854775807 := by
    intro s hs
    simp at hs
    rcases hs with rfl | rfl
    · decide
    · omega
  have HSL := Lib.hid hsl
  clear hl hI hil hsl
  by_cases h0 : len = 0
  · subst h0
    have hraw : Hid ((rawP l).map strOf = [(⟨#[92, 35]⟩ : ByteArray), I]) := by
      have hn : l.length = 0 := HL.out
      have hI2 := HI.out
      simp only [Hid, rawP, hn, if_pos, List.append_nil, List.map_cons, List.map_nil, strOf]
      rw [hI2]
    go_enter Tryz.func51, Tryz.ntmps51
    go_wp2_with fail
    refine HIT.out.mono ?_
    rintro e w1 ⟨rfl, hb1⟩
    have HB1 := Lib.hid hb1
    clear hb1 HIT
    have HR := Lib.hid (row_lit w1 [.string ⟨#[92, 35]⟩, .string I] 9 (by simp))
    go_wp2_with fail
    go_ret
    refine ⟨some ⟨w1.heap.size, 0, none⟩, 2, ?_, ?_, below_on HB1.out ((Below.refl _ _).alloc (Nat.le_refl _) _) (Nat.le_refl _)⟩
    · rw [hraw.out]; rfl
    · rw [hraw.out]; exact ⟨HR.out, HSL.out⟩
  · have hraw : Hid ((rawP l).map strOf = [(⟨#[92, 35]⟩ : ByteArray), I] ++ [strOf (hexB l)]) := by
      have hn : ¬ l.length = 0 := by have := HL.out; omega
      have hI2 := HI.out
      simp only [Hid, rawP, if_neg hn, List.map_append, List.map_cons, List.map_nil, strOf]
      rw [hI2, HL.out]
    have hq : ((len : Int) == 0) = false := by rw [beq_eq_false_iff_ne]; omega
    go_enter Tryz.func51, Tryz.ntmps51
    go_wp2_with fail
    refine HIT.out.mono ?_
    rintro e w1 ⟨rfl, hb1⟩
    have HB1 := Lib.hid hb1
    clear hb1 HIT
    have HOW := Lib.hid (World.ownsRow_lit w1 #[.string ⟨#[92, 35]⟩, .string I] 2 (Nat.le_refl _) (by unfold maxLen; omega) rfl : (w1.alloc (.cells #[.string ⟨#[92, 35]⟩, .string I] 9)).ownsRow w1.heap.size 9 1 (.slice (some ⟨w1.heap.size, 0, none⟩) 2 2) 2 [.string ⟨#[92, 35]⟩, .string I])
    have hbA : Below w1.heap.size w1 (w1.alloc (.cells #[.string ⟨#[92, 35]⟩, .string I] 9)) := (Below.refl _ _).alloc (Nat.le_refl _) _
    have HBA := Lib.hid hbA
    have hst := bld_start (w1.alloc (.cells #[.string ⟨#[92, 35]⟩, .string I] 9))
    have HST := Lib.hid hst
    clear hst hbA
    obtain ⟨W2, hW2⟩ : ∃ W2, W2 = w1.alloc (.cells #[.string ⟨#[92, 35]⟩, .string I] 9) := ⟨_, rfl⟩
    have hz : W2.heap.size = w1.heap.size + 1 := by rw [hW2]; simp
    go_wp2_with fail
    rw [← hW2] at HOW HBA HST ⊢
    rw [hz] at HST
    have HW2 := Lib.hid hz
    have HHS := Lib.hid hs
    clear hW2 hz
    go_loopw [17, 6] (fun i _ wr => ∃ k : Nat, k ≤ len ∧ i = .int .i64 k ∧ Hid (Bld (w1.heap.size + 1) (w1.heap.size + 1) W2 (hexB (l.take k)) wr)) (fun i _ _ => len - (intOf i).toNat)
    case atStart => exact ⟨0, Nat.zero_le _, rfl, HST.out⟩
    case round =>
      obtain ⟨k, hk, rfl, hbr⟩ := hrel
      clear HST
      have HBW := Lib.hid (show Below w1.heap.size w1 wr from below_on HBA.out (by rw [HW2.out]; exact hbr.out.bel) (Nat.le_refl _))
      by_cases hlt : k < len
      · obtain ⟨b, off, rfl⟩ := hs.addr hlt
        have hc := (HHS.out.below (below_on HB1.out HBW.out (Nat.le_refl _)) (Nat.le_refl _)).at hlt
        have hkl : k < l.length := by have := HL.out; omega
        have hsn : hexB (l.take (k + 1)) = hexB (l.take k) ++ [hexD (l[k].toNat / 16)] ++ [hexD (l[k].toNat % 16)] := by
          rw [List.take_succ_eq_append_getElem hkl, hexB, hexB, List.flatMap_append]; simp
        rw [List.getElem_map] at hc
        obtain ⟨c, hck⟩ : ∃ c, c = l[k] := ⟨_, rfl⟩
        rw [← hck] at hc hsn
        obtain ⟨n, hn⟩ : ∃ n, c.toNat = n := ⟨_, rfl⟩
        rw [hn] at hc hsn
        have hn2 : n < 256 := by have := c.toNat_lt; omega
        obtain ⟨q, hq'⟩ : ∃ q, q = n / 16 := ⟨_, rfl⟩
        obtain ⟨r, hr⟩ : ∃ r, r = n % 16 := ⟨_, rfl⟩
        have hq2 : q < 16 := by omega
        have hr2 : r < 16 := by omega
        rw [← hq', ← hr] at hsn
        have HSN := Lib.hid hsn
        have a1 : (n : Int) / 16 = (q : Int) := by omega
        have a2 : bits BinOp.and IntKind.u8 (n : Int) 15 = (r : Int) := by
          have := u8_and_nat n 15 hn2 (by decide)
          rw [show ((15 : Nat) : Int) = 15 from rfl] at this
          rw [this, hr]
          congr 1
          exact Nat.and_two_pow_sub_one_eq_mod n 4
        have hdq : ∀ h, ((⟨#[48, 49, 50, 51, 52, 53, 54, 55, 56, 57, 97, 98, 99, 100, 101, 102]⟩ : ByteArray)[q]'h) = hexD q := fun _ => digits_get q hq2
        have hdr : ∀ h, ((⟨#[48, 49, 50, 51, 52, 53, 54, 55, 56, 57, 97, 98, 99, 100, 101, 102]⟩ : ByteArray)[r]'h) = hexD r := fun _ => digits_get r hr2
        have hlen : (hexB (l.take k)).length ≤ 2199023255553 := by
          rw [hexB_len, List.length_take]; omega
        clear hsn hck hn hq' hr
        go_wp2_with fail
        refine (writeByte_any _ _ _ _ _ hbr.out.is (by rw [bytes_len]; omega) hbr.out.le).mono ?_
        rintro e w2 ⟨rfl, hat, hb2⟩
        have hb3 := bld_byte hbr.out _ hat hb2
        have HB3 := Lib.hid hb3
        clear hat hb2 hbr hb3
        go_wp2_with fail
        refine (writeByte_any _ _ _ _ _ HB3.out.is (by rw [bytes_len, List.length_append]; simp; omega) HB3.out.le).mono ?_
        rintro e w3 ⟨rfl, hat, hb4⟩
        have hb5 := bld_byte HB3.out _ hat hb4
        rw [← HSN.out] at hb5
        have HB5 := Lib.hid hb5
        clear hat hb4 HB3 hb5
        go_wp2_with fail
        go_roundw
        case rel => exact ⟨k + 1, by omega, by go_num, HB5.out⟩
        case measure => simp [intOf]; omega
      · have hall : l.take k = l := List.take_of_length_le (by have := HL.out; omega)
        have hb2 := hbr.out
        rw [hall] at hb2
        have HBR := Lib.hid hb2
        clear hall hb2 hbr
        go_wp2_with fail
        refine (Tryz.Builder_String_any _ _ _ _ HBR.out.is HBR.out.le).mono ?_
        rintro e w3 ⟨rfl, hb3⟩
        obtain ⟨i0, hi, hz0, hz1, hz2⟩ := info_parts strInfo
        have hb4 : Below w1.heap.size w1 w3 := HBW.out.trans (hb3.mono (by omega))
        have how : w3.ownsRow w1.heap.size 9 1 (.slice (some ⟨w1.heap.size, 0, none⟩) 2 2) 2 [.string ⟨#[92, 35]⟩, .string I] := owns_keep HOW.out (by rw [HW2.out]; exact HBR.out.bel.trans hb3)
        obtain ⟨v', w5, hrun, hown5, _, hb6⟩ := append_one (P := Tryz.prog) w3 w1 w1.heap.size 30 30 9 i0 _ 16 Tryz.underlying30 hi hz0 hz1 hz2 rfl _ _ _ how (.string ⟨(hexB l).toArray⟩) rfl (by omega) (by omega) hb4 hb4.size
        have HRUN := Lib.hid hrun
        have HRES := Lib.hid (strs_of_owns (ss := [(⟨#[92, 35]⟩ : ByteArray), I] ++ [strOf (hexB l)]) hown5 (by omega) (by
          intro s hs
          rcases List.mem_append.1 hs with h | h
          · exact HSL.out s h
          · simp at h
            rw [h]
            show (hexB l).toArray.size ≤ _
            have := hexB_len l
            have := HL.out
            simp
            omega))
        have HB6 := Lib.hid (below_on HB1.out hb6 (Nat.le_refl _))
        clear hrun hown5 hb6 hi hz0 hz1 hz2 how hb4 hb3
        go_wp2_with (at_builtin; refine wpList_append_run rfl _ _ _ rfl _ _ rfl rfl HRUN.out ?_)
        go_ret
        obtain ⟨ao', cap', rfl, hst⟩ := HRES.out
        refine ⟨ao', cap', ?_, ?_, HB6.out⟩
        · rw [hraw.out]; rfl
        · rw [hraw.out]; exact hst
end
section
open Go.ChangeShapes Go.WideShapes Go.ChangeAt Go.RowKit

theorem joinP_len (c : UInt8) (m : Nat) : ∀ ws : List (List UInt8), (∀ w ∈ ws, w.length ≤ m) → (joinP c ws).length ≤ ws.length * (m + 1)
  | [], _ => by simp [joinP]
  | [w], h => by
    have := h w (by simp)
    simp only [joinP, List.length_cons, List.length_nil]
    omega
  | w :: v :: ws, h => by
    have h1 := h w (by simp)
    have h2 := joinP_len c m (v :: ws) (fun u hu => h u (by simp [hu]))
    simp only [joinP, List.length_append, List.length_cons] at h2 ⊢
    rw [Nat.add_mul (ws.length + 1) 1 (m + 1)]
    omega
def u64V (us : List Nat) : List Value := us.map fun (u : Nat) => Value.int .u64 (u : Int)
def strsOf (f : Nat → List UInt8) (us : List Nat) : List ByteArray := us.map fun u => strOf (f u)
set_option maxHeartbeats 2000000 in
set_option maxRecDepth 100000 in
theorem groups_any (w : World) (bs : Int) (c : UInt8) (f : Nat → List UInt8) (ao : Option Addr) (n cp : Nat) (us : List Nat) (hR : Row w ao n cp (u64V us)) (hn : n ≤ 100) (hn0 : 0 < n)
    (hf : ∀ u ∈ us, ∀ w', Below w.heap.size w w' → Calls Tryz.prog 113 #[.int .u64 (u : Int), .int .i64 bs] w' fun e w'' => e = .returned (.string ⟨(f u).toArray⟩) ∧ Below w'.heap.size w' w'') (hlen : ∀ u ∈ us, (f u).length ≤ 20) :
    Calls Tryz.prog 91 #[.slice ao n cp, .int .i64 bs, .string ⟨#[c]⟩] w fun e w' => e = .returned (.string ⟨(joinP c (us.map f)).toArray⟩) ∧ Below w.heap.size w w' := by
  have hl : us.length = n := by simpa [u64V] using hR.hlen
  have hcap := hR.hcap
  have hle := hR.hle
  have HL := Lib.hid hl
  have HF := Lib.hid hf
  have HLEN := Lib.hid hlen
  have HRW := Lib.hid hR
  clear hl hf hlen
  go_enter Tryz.func91, Tryz.ntmps91
  go_wp2_with fail
  go_loopw [12, 9, 7] (fun i _ o wr => ∃ k : Nat, k ≤ n ∧ i = .int .i64 k ∧ Hid (Below w.heap.size w wr ∧ wr.ownsRow w.heap.size 9 1 o k ((strsOf f (us.take k)).map .string))) (fun i _ _ _ => n - (intOf i).toNat)
  case atStart => exact ⟨0, Nat.zero_le _, rfl, Below.refl _ _, World.ownsRow_nil _ _ _ _⟩
  case round =>
    obtain ⟨k, hk, rfl, hinv⟩ := hrel
    by_cases hlt : k < n
    · obtain ⟨b, off, rfl⟩ := hR.addr hlt
      have hkl : k < us.length := by have := HL.out; omega
      have hc := (HRW.out.below hinv.out.1 (Nat.le_refl _)).at hlt
      simp only [u64V, List.getElem_map] at hc
      have hsn := map_snoc (fun u => strOf (f u)) us k hkl
      have hmem : us[k] ∈ us := List.getElem_mem _
      obtain ⟨u, hu⟩ : ∃ u, u = us[k] := ⟨_, rfl⟩
      rw [← hu] at hc hsn hmem
      have HCALL := Lib.hid (HF.out u hmem wr hinv.out.1)
      have HUL := Lib.hid (HLEN.out u hmem)
      have HSN := Lib.hid hsn
      clear hu hsn hmem
      go_wp2_with fail
      refine HCALL.out.mono ?_
      rintro e w2 ⟨rfl, hb2⟩
      obtain ⟨i0, hi, hz0, hz1, hz2⟩ := info_parts strInfo
      have hb3 := below_on hinv.out.1 hb2 (Nat.le_refl _)
      obtain ⟨v', w5, hrun, hown5, _, hb6⟩ := append_one (P := Tryz.prog) w2 w w.heap.size 30 30 9 i0 _ 16 Tryz.underlying30 hi hz0 hz1 hz2 rfl _ _ _ (owns_keep hinv.out.2 hb2) (.string ⟨(f u).toArray⟩) rfl (by omega) (by omega) hb3 hb3.size
      have HRUN := Lib.hid hrun
      have HOW := Lib.hid (show w5.ownsRow w.heap.size 9 1 v' (k + 1) ((strsOf f (us.take (k + 1))).map .string) by
        unfold strsOf
        rw [HSN.out, List.map_append]
        exact hown5)
      have HB6 := Lib.hid hb6
      clear hrun hown5 hb6 hi hz0 hz1 hz2 hb2 hb3
      go_wp2_with (at_builtin; refine wpList_append_run rfl _ _ _ rfl _ _ rfl rfl HRUN.out ?_)
      go_roundw
      case rel => exact ⟨k + 1, by omega, by go_num, HB6.out, HOW.out⟩
      case measure => simp [intOf]; omega
    · have hke : k = n := by omega
      subst hke
      have hall : us.take k = us := List.take_of_length_le (by have := HL.out; omega)
      have hi2 := hinv.out
      rw [hall] at hi2
      have hsl : (strsOf f us).length = k := by simp [strsOf]; exact HL.out
      have hi3 := hi2.2
      obtain ⟨g, cap, rfl, hge, hrow⟩ := row_own hi3 hn0 (by omega)
      have hjoin : Lib.join ((strsOf f us).map (·.data.toList)) (⟨#[c]⟩ : ByteArray).data.toList = joinP c (us.map f) := by
        rw [show (⟨#[c]⟩ : ByteArray).data.toList = [c] from rfl, join_one]
        congr 1
        simp [strsOf, strOf]
      have hjl := joinP_len c 20 (us.map f) (by
        intro x hx
        obtain ⟨u, hu, rfl⟩ := List.mem_map.1 hx
        exact HLEN.out u hu)
      have hcall := Tryz.strings_Join g 0 cap (strsOf f us) ⟨#[c]⟩ wr (by
        intro i y hy
        obtain ⟨hi, e⟩ := List.getElem?_eq_some_iff.1 hy
        have h1 := hrow.at (i := i) (by omega)
        rw [h1, List.getElem_map, e]) (hrow.lt (by omega)) (by omega) (by have := hrow.hle; omega) (by rw [hjoin]; rw [List.length_map, HL.out] at hjl; omega)
      rw [hjoin, hsl] at hcall
      have HCALL := Lib.hid hcall
      have HBE := Lib.hid hi2.1
      clear hcall hjoin hjl hrow hi2 hi3 hall hinv hge
      go_wp2_with fail
      refine HCALL.out.mono ?_
      rintro e w2 ⟨rfl, hb2⟩
      go_wp2_with fail
      go_ret
      exact ⟨rfl, below_on HBE.out hb2 (Nat.le_refl _)⟩
theorem infoU64 : (Tryz.prog.info? 58).map (fun i => (i.zero, i.size, i.bytes)) = some (some (.int .u64 0), 1, 8) := by kernel_rfl
set_option maxHeartbeats 2000000 in
set_option maxRecDepth 100000 in
theorem addr4_any (w : World) (ao : Option Addr) (cap : Nat) (l : List UInt8) (hs : Byts w ao 4 cap l) (hT : Tab w) :
    Calls Tryz.prog 49 #[.slice ao 4 cap] w fun e w' => e = .returned (.string ⟨(joinP 46 (l.map fun c => Lib.decDigits c.toNat)).toArray⟩) ∧ Below w.heap.size w w' := by
  have hl : l.length = 4 := by simpa using hs.hlen
  have hcap := hs.hcap
  have hle := hs.hle
  have HL := Lib.hid hl
  have HS := Lib.hid hs
  have HT := Lib.hid hT
  clear hl hT
  go_enter Tryz.func49, Tryz.ntmps49
  go_wp2_with fail
  go_loopw [12, 5, 3] (fun i _ o wr => ∃ k : Nat, k ≤ 4 ∧ i = .int .i64 k ∧ Hid (Below w.heap.size w wr ∧ wr.ownsRow w.heap.size 58 1 o k (u64V ((l.take k).map UInt8.toNat)))) (fun i _ _ _ => 4 - (intOf i).toNat)
  case atStart => exact ⟨0, Nat.zero_le _, rfl, Below.refl _ _, World.ownsRow_nil _ _ _ _⟩
  case round =>
    obtain ⟨k, hk, rfl, hinv⟩ := hrel
    by_cases hlt : k < 4
    · obtain ⟨b, off, rfl⟩ := hs.addr hlt
      have hkl : k < l.length := by have := HL.out; omega
      have hc := (HS.out.below hinv.out.1 (Nat.le_refl _)).at hlt
      rw [List.getElem_map] at hc
      have hsn := map_snoc UInt8.toNat l k hkl
      obtain ⟨n, hn⟩ : ∃ n, n = l[k].toNat := ⟨_, rfl⟩
      have hn2 : n < 256 := by have := l[k].toNat_lt; omega
      rw [← hn] at hc hsn
      have a1 : IntKind.u64.wrap (n : Int) = (n : Int) := IntWalk.u64_in _ (by omega)
      have HSN := Lib.hid hsn
      obtain ⟨i0, hi, hz0, hz1, hz2⟩ := info_parts infoU64
      obtain ⟨v', w5, hrun, hown5, _, hb6⟩ := append_one (P := Tryz.prog) wr w w.heap.size 124 124 58 i0 _ 8 Tryz.underlying124 hi hz0 hz1 hz2 rfl _ _ _ hinv.out.2 (.int .u64 (n : Int)) rfl (by omega) (by omega) hinv.out.1 hinv.out.1.size
      have HRUN := Lib.hid hrun
      have HOW := Lib.hid (show w5.ownsRow w.heap.size 58 1 v' (k + 1) (u64V ((l.take (k + 1)).map UInt8.toNat)) by
        unfold u64V at hown5 ⊢
        rw [HSN.out, List.map_append]
        exact hown5)
      have HB6 := Lib.hid hb6
      clear hrun hown5 hb6 hi hz0 hz1 hz2 hn hsn
      go_wp2_with (at_builtin; refine wpList_append_run rfl _ _ _ rfl _ _ rfl rfl HRUN.out ?_)
      go_roundw
      case rel => exact ⟨k + 1, by omega, by go_num, HB6.out, HOW.out⟩
      case measure => simp [intOf]; omega
    · have hke : k = 4 := by omega
      subst hke
      have hall : l.take 4 = l := List.take_of_length_le (by have := HL.out; omega)
      have hi2 := hinv.out
      rw [hall] at hi2
      obtain ⟨g, cp, rfl, hge, hrow⟩ := row_own hi2.2 (by omega) (by omega)
      have hcall := groups_any wr 10 46 Lib.decDigits (some ⟨g, 0, none⟩) 4 cp (l.map UInt8.toNat) hrow (by omega) (by omega) (by
        intro u hu w' hb
        obtain ⟨c, _, rfl⟩ := List.mem_map.1 hu
        exact fmtU_any w' c.toNat (by have := c.toNat_lt; omega) (tab_on HT.out (below_on hi2.1 hb (Nat.le_refl _)))) (by
        intro u hu
        obtain ⟨c, _, rfl⟩ := List.mem_map.1 hu
        exact dec_len20 _ (by have := c.toNat_lt; omega))
      rw [List.map_map] at hcall
      have HCALL := Lib.hid hcall
      have HBE := Lib.hid hi2.1
      clear hcall hrow hi2 hall hinv hge
      go_wp2_with fail
      refine HCALL.out.mono ?_
      rintro e w2 ⟨rfl, hb2⟩
      go_wp2_with fail
      go_ret
      exact ⟨rfl, below_on HBE.out hb2 (Nat.le_refl _)⟩
theorem prs_snoc : ∀ (k : Nat) (l : List UInt8) (h : 2 * k + 1 < l.length), (pairsP l).take (k + 1) = (pairsP l).take k ++ [(l[2 * k]'(by omega)).toNat * 256 + (l[2 * k + 1]).toNat]
  | 0, a :: b :: l, _ => by simp [pairsP]
  | k + 1, a :: b :: l, h => by
    have ih := prs_snoc k l (by simp at h; omega)
    simp only [pairsP, List.take_succ_cons, List.cons_append, ih]
    congr 1
theorem pairs_len : ∀ (n : Nat) (l : List UInt8), l.length = 2 * n → (pairsP l).length = n
  | 0, [], _ => rfl
  | n + 1, a :: b :: l, h => by
    have := pairs_len n l (by simp at h; omega)
    simp [pairsP, this]
theorem pairs_lt : ∀ (l : List UInt8), ∀ u ∈ pairsP l, u < 65536
  | [], u, h => by simp [pairsP] at h
  | [_], u, h => by simp [pairsP] at h
  | a :: b :: l, u, h => by
    simp only [pairsP, List.mem_cons] at h
    rcases h with rfl | h
    · have := a.toNat_lt
      have := b.toNat_lt
      omega
    · exact pairs_lt l u h
set_option maxHeartbeats 4000000 in
set_option maxRecDepth 100000 in
theorem addr16_any (w : World) (ao : Option Addr) (cap : Nat) (l : List UInt8) (hs : Byts w ao 16 cap l) (hB : Bru w) :
    Calls Tryz.prog 49 #[.slice ao 16 cap] w fun e w' => e = .returned (.string ⟨(joinP 58 ((pairsP l).map groupP)).toArray⟩) ∧ Below w.heap.size w w' := by
  have hl : l.length = 16 := by simpa using hs.hlen
  have hcap := hs.hcap
  have hle := hs.hle
  obtain ⟨b, off, rfl⟩ := hs.addr (k := 0) (by omega)
  have HL := Lib.hid hl
  have HS := Lib.hid hs
  have HB := Lib.hid hB
  clear hl hB hs
  go_enter Tryz.func49, Tryz.ntmps49
  go_wp2_with fail
  go_loopw [3, 6] (fun o i wr => ∃ k : Nat, k ≤ 8 ∧ i = .int .i64 (2 * (k : Int)) ∧ Hid (Below w.heap.size w wr ∧ wr.ownsRow w.heap.size 58 1 o k (u64V ((pairsP l).take k)))) (fun _ i _ => 16 - (intOf i).toNat)
  case atStart => exact ⟨0, Nat.zero_le _, rfl, Below.refl _ _, World.ownsRow_nil _ _ _ _⟩
  case round =>
    obtain ⟨k, hk, rfl, hinv⟩ := hrel
    by_cases hlt : k < 8
    · have hl2 := HL.out
      have hS := HS.out.below hinv.out.1 (Nat.le_refl _)
      have hc := hS.at (i := 2 * k) (by omega)
      have hc2 := hS.at (i := 2 * k + 1) (by omega)
      rw [List.getElem_map] at hc hc2
      have hsn := prs_snoc k l (by omega)
      obtain ⟨x, hx⟩ : ∃ x, x = l[2 * k].toNat := ⟨_, rfl⟩
      obtain ⟨y, hy⟩ : ∃ y, y = l[2 * k + 1].toNat := ⟨_, rfl⟩
      have hx2 : x < 256 := by have := l[2 * k].toNat_lt; omega
      have hy2 : y < 256 := by have := l[2 * k + 1].toNat_lt; omega
      rw [← hx] at hc
      rw [← hy] at hc2
      rw [← hx, ← hy] at hsn
      have a1 : IntKind.u64.wrap (x : Int) = (x : Int) := IntWalk.u64_in _ (by omega)
      have a2 : IntKind.u64.wrap (y : Int) = (y : Int) := IntWalk.u64_in _ (by omega)
      obtain ⟨z, hz⟩ : ∃ z : Nat, z = x * 256 + y := ⟨_, rfl⟩
      rw [← hz] at hsn
      have a3 : IntKind.u64.wrap ((x : Int) * 256) = (x : Int) * 256 := IntWalk.u64_in _ (by omega)
      have a4 : bits BinOp.or IntKind.u64 ((x : Int) * 256) (y : Int) = (z : Int) := by
        have h := bits_or_u64_nat (x * 256) y (by omega) (by omega)
        rw [show ((x * 256 : Nat) : Int) = (x : Int) * 256 by omega] at h
        rw [h, hz]
        congr 1
        have := Nat.two_pow_add_eq_or_of_lt (i := 8) hy2 x
        rw [Nat.mul_comm] at this
        exact this.symm
      have HSN := Lib.hid hsn
      have HC := Lib.hid (show ∀ W, Below w.heap.size w W → W.cell? ⟨b, off + 2 * k, none⟩ = some (.int .u8 (x : Int)) ∧ W.cell? ⟨b, off + (2 * k + 1), none⟩ = some (.int .u8 (y : Int)) from fun W hW => by
        have h1 := (HS.out.below hW (Nat.le_refl _)).at (i := 2 * k) (by omega)
        have h2 := (HS.out.below hW (Nat.le_refl _)).at (i := 2 * k + 1) (by omega)
        rw [List.getElem_map] at h1 h2
        rw [hx, hy]
        exact ⟨h1, h2⟩)
      have hsz0 := hinv.out.1.size
      obtain ⟨i0, hi, hz0, hz1, hz2⟩ := info_parts infoU64
      obtain ⟨v', w5, hrun, hown5, _, hb6⟩ := append_one (P := Tryz.prog) wr.drew w w.heap.size 124 124 58 i0 _ 8 Tryz.underlying124 hi hz0 hz1 hz2 rfl _ _ _ (show wr.drew.ownsRow _ _ _ _ _ _ from hinv.out.2) (.int .u64 (z : Int)) rfl (by omega) (by omega) (Below.drew hinv.out.1) hinv.out.1.size
      have HRUN := Lib.hid hrun
      have HOW := Lib.hid (show w5.ownsRow w.heap.size 58 1 v' (k + 1) (u64V ((pairsP l).take (k + 1))) by
        unfold u64V at hown5 ⊢
        rw [HSN.out, List.map_append]
        exact hown5)
      have HB6 := Lib.hid hb6
      have b0 : (0 : Int) ≤ 2 * (k : Int) := by omega
      have a5 : IntKind.i64.wrap (2 * (k : Int) + 1) = 2 * (k : Int) + 1 := IntWalk.i64_in _ (by omega)
      have b1 : 2 * (k : Int) < 16 := by omega
      have b2 : 2 * (k : Int) + 1 < 16 := by omega
      have b3 : (2 * (k : Int)).toNat = 2 * k := by omega
      have b4 : (2 * (k : Int) + 1).toNat = 2 * k + 1 := by omega
      have b5 : (0 : Int) ≤ 2 * (k : Int) + 1 := by omega
      clear hrun hown5 hb6 hi hz0 hz1 hz2 hx hy hz hsn hS hl2
      go_wp2_with fail
      refine wp_region_held_drew (S := fun W => Below w.heap.size w W) (by kernel_rfl) ?_ (fun hHeld0 => ?_)
      · exact Below.drew hinv.out.1
      refine wpAnyH_take (i := 0) (v := ?_) rfl (by kernel_rfl) (by kernel_rfl) (by kernel_rfl) (fun _ _ _ h => h) (Or.inl ⟨by rfl, ?_⟩) (by assumption) ?_
      rotate_left
      · intro w' hSw
        (try dsimp only at hSw)
        go_simp
        first | done | with_reducible rfl | (rw [if_neg (by omega)])
      try simp only [Act.put, List.getElem_toArray, List.getElem_cons_zero, List.setIfInBounds_toArray, List.set_cons_zero, List.set_cons_succ]
      refine wpAnyH_take (i := 1) (v := ?_) rfl (by kernel_rfl) (by kernel_rfl) (by kernel_rfl) (fun _ _ _ h => h) (Or.inl ⟨by rfl, ?_⟩) (by assumption) ?_
      rotate_left
      · intro w' hSw
        (try dsimp only at hSw)
        go_simp
        first | done | with_reducible rfl | (rw [if_neg (by omega)])
      try simp only [Act.put, List.getElem_toArray, List.getElem_cons_succ, List.getElem_cons_zero, List.setIfInBounds_toArray, List.set_cons_zero, List.set_cons_succ]
      refine wpAnyH_take (i := 2) (v := ?_) rfl (by kernel_rfl) (by kernel_rfl) (by kernel_rfl) (fun _ _ _ h => h) (Or.inl ⟨by rfl, ?_⟩) (by assumption) ?_
      rotate_left
      · intro w' hSw
        (try dsimp only at hSw)
        go_simp
        first | done | with_reducible rfl | (rw [if_neg (by omega)])
      try simp only [Act.put, List.getElem_toArray, List.getElem_cons_succ, List.getElem_cons_zero, List.setIfInBounds_toArray, List.set_cons_zero, List.set_cons_succ]
      refine wpAnyH_take (i := 3) (v := ?_) rfl (by kernel_rfl) (by kernel_rfl) (by kernel_rfl) (fun _ _ _ h => h) (Or.inl ⟨by rfl, ?_⟩) (by assumption) ?_
      rotate_left
      · intro w' hSw
        (try dsimp only at hSw)
        go_simp
        first | done | with_reducible rfl | (rw [if_neg (by omega)])
      try simp only [Act.put, List.getElem_toArray, List.getElem_cons_succ, List.getElem_cons_zero, List.setIfInBounds_toArray, List.set_cons_zero, List.set_cons_succ]
      refine wpAnyH_take (i := 4) (v := ?_) rfl (by kernel_rfl) (by kernel_rfl) (by kernel_rfl) (fun _ _ _ h => h) (Or.inl ⟨by rfl, ?_⟩) (by assumption) ?_
      rotate_left
      · intro w' hSw
        (try dsimp only at hSw)
        have q1 := (HC.out _ hSw).1
        go_simp
        first | done | with_reducible rfl | (rw [if_neg (by omega)])
      try simp only [Act.put, List.getElem_toArray, List.getElem_cons_succ, List.getElem_cons_zero, List.setIfInBounds_toArray, List.set_cons_zero, List.set_cons_succ]
      refine wpAnyH_take (i := 5) (v := ?_) rfl (by kernel_rfl) (by kernel_rfl) (by kernel_rfl) (fun _ _ _ h => h) (Or.inl ⟨by rfl, ?_⟩) (by assumption) ?_
      rotate_left
      · intro w' hSw
        (try dsimp only at hSw)
        go_simp
        first | done | with_reducible rfl | (rw [if_neg (by omega)])
      try simp only [Act.put, List.getElem_toArray, List.getElem_cons_succ, List.getElem_cons_zero, List.setIfInBounds_toArray, List.set_cons_zero, List.set_cons_succ]
      refine wpAnyH_take (i := 6) (v := ?_) rfl (by kernel_rfl) (by kernel_rfl) (by kernel_rfl) (fun _ _ _ h => h) (Or.inl ⟨by rfl, ?_⟩) (by assumption) ?_
      rotate_left
      · intro w' hSw
        (try dsimp only at hSw)
        go_simp
        first | done | with_reducible rfl | (rw [if_neg (by omega)])
      try simp only [Act.put, List.getElem_toArray, List.getElem_cons_succ, List.getElem_cons_zero, List.setIfInBounds_toArray, List.set_cons_zero, List.set_cons_succ]
      refine wpAnyH_take (i := 7) (v := ?_) rfl (by kernel_rfl) (by kernel_rfl) (by kernel_rfl) (fun _ _ _ h => h) (Or.inl ⟨by rfl, ?_⟩) (by assumption) ?_
      rotate_left
      · intro w' hSw
        (try dsimp only at hSw)
        go_simp
        first | done | with_reducible rfl | (rw [if_neg (by omega)])
      try simp only [Act.put, List.getElem_toArray, List.getElem_cons_succ, List.getElem_cons_zero, List.setIfInBounds_toArray, List.set_cons_zero, List.set_cons_succ]
      refine wpAnyH_take (i := 8) (v := ?_) rfl (by kernel_rfl) (by kernel_rfl) (by kernel_rfl) (fun _ _ _ h => h) (Or.inl ⟨by rfl, ?_⟩) (by assumption) ?_
      rotate_left
      · intro w' hSw
        (try dsimp only at hSw)
        go_simp
        first | done | with_reducible rfl | (rw [if_neg (by omega)])
      try simp only [Act.put, List.getElem_toArray, List.getElem_cons_succ, List.getElem_cons_zero, List.setIfInBounds_toArray, List.set_cons_zero, List.set_cons_succ]
      refine wpAnyH_take (i := 9) (v := ?_) rfl (by kernel_rfl) (by kernel_rfl) (by kernel_rfl) (fun _ _ _ h => h) (Or.inl ⟨by rfl, ?_⟩) (by assumption) ?_
      rotate_left
      · intro w' hSw
        (try dsimp only at hSw)
        go_simp
        first | done | with_reducible rfl | (rw [if_neg (by omega)])
      try simp only [Act.put, List.getElem_toArray, List.getElem_cons_succ, List.getElem_cons_zero, List.setIfInBounds_toArray, List.set_cons_zero, List.set_cons_succ]
      refine wpAnyH_take (i := 10) (v := ?_) rfl (by kernel_rfl) (by kernel_rfl) (by kernel_rfl) (fun _ _ _ h => h) (Or.inl ⟨by rfl, ?_⟩) (by assumption) ?_
      rotate_left
      · intro w' hSw
        (try dsimp only at hSw)
        go_simp
        first | done | with_reducible rfl | (rw [if_neg (by omega)])
      try simp only [Act.put, List.getElem_toArray, List.getElem_cons_succ, List.getElem_cons_zero, List.setIfInBounds_toArray, List.set_cons_zero, List.set_cons_succ]
      refine wpAnyH_take (i := 11) (v := ?_) rfl (by kernel_rfl) (by kernel_rfl) (by kernel_rfl) (fun _ _ _ h => h) (Or.inl ⟨by rfl, ?_⟩) (by assumption) ?_
      rotate_left
      · intro w' hSw
        (try dsimp only at hSw)
        have q1 := (HC.out _ hSw).2
        go_simp
        first | done | with_reducible rfl | (rw [if_neg (by omega)])
      try simp only [Act.put, List.getElem_toArray, List.getElem_cons_succ, List.getElem_cons_zero, List.setIfInBounds_toArray, List.set_cons_zero, List.set_cons_succ]
      refine wpAnyH_take (i := 12) (v := ?_) rfl (by kernel_rfl) (by kernel_rfl) (by kernel_rfl) (fun _ _ _ h => h) (Or.inl ⟨by rfl, ?_⟩) (by assumption) ?_
      rotate_left
      · intro w' hSw
        (try dsimp only at hSw)
        go_simp
        first | done | with_reducible rfl | (rw [if_neg (by omega)])
      try simp only [Act.put, List.getElem_toArray, List.getElem_cons_succ, List.getElem_cons_zero, List.setIfInBounds_toArray, List.set_cons_zero, List.set_cons_succ]
      refine wpAnyH_take (i := 13) (v := ?_) rfl (by kernel_rfl) (by kernel_rfl) (by kernel_rfl) (fun _ _ _ h => h) (Or.inl ⟨by rfl, ?_⟩) (by assumption) ?_
      rotate_left
      · intro w' hSw
        (try dsimp only at hSw)
        go_simp
        first | done | with_reducible rfl | (rw [if_neg (by omega)])
      try simp only [Act.put, List.getElem_toArray, List.getElem_cons_succ, List.getElem_cons_zero, List.setIfInBounds_toArray, List.set_cons_zero, List.set_cons_succ]
      refine wpAnyH_ready (rs := [14]) (by kernel_rfl) (by simp) ?_
      refine AllReadyH.cons rfl (fun K hK => ?_) AllReadyH.nil
      go_simp
      refine hK.out _ _ ?_ (fun hHeld1 => ?_)
      · exact (Below.drew hinv.out.1).alloc hsz0 _
      clear hK K
      try simp only [Act.put, List.getElem_toArray, List.getElem_cons_succ, List.getElem_cons_zero, List.setIfInBounds_toArray, List.set_cons_zero, List.set_cons_succ]
      refine wpAnyH_ready (rs := [15]) (by kernel_rfl) (by simp) ?_
      refine AllReadyH.cons rfl (fun K hK => ?_) AllReadyH.nil
      rw [if_pos (by rfl)]
      refine oper_append_run _ _ _ rfl _ _ rfl rfl _ _ HRUN.out ?_
      refine hK.out _ _ ?_ (fun hHeld2 => ?_)
      · exact HB6.out
      clear hK K
      try simp only [Act.put, List.getElem_toArray, List.getElem_cons_succ, List.getElem_cons_zero, List.setIfInBounds_toArray, List.set_cons_zero, List.set_cons_succ]
      refine wpAnyH_take (i := 16) (v := ?_) rfl (by kernel_rfl) (by kernel_rfl) (by kernel_rfl) (fun _ _ _ h => h) (Or.inl ⟨by rfl, ?_⟩) (by assumption) ?_
      rotate_left
      · intro w' hSw
        (try dsimp only at hSw)
        go_simp
        first | done | with_reducible rfl | (rw [if_neg (by omega)])
      try simp only [Act.put, List.getElem_toArray, List.getElem_cons_succ, List.getElem_cons_zero, List.setIfInBounds_toArray, List.set_cons_zero, List.set_cons_succ]
      refine wpAnyH_done (by kernel_rfl) ?_ _
      go_wp2_with fail
      go_roundw
      case rel => exact ⟨k + 1, by omega, by congr 1, HB6.out, HOW.out⟩
      case measure => simp [intOf]; omega
    · have hke : k = 8 := by omega
      subst hke
      have hpl := pairs_len 8 l HL.out
      have hall : (pairsP l).take 8 = pairsP l := List.take_of_length_le (by omega)
      have hi2 := hinv.out
      rw [hall] at hi2
      obtain ⟨g, cp, rfl, hge, hrow⟩ := row_own hi2.2 (by omega) (by omega)
      have hcall := groups_any wr 16 58 groupP (some ⟨g, 0, none⟩) 8 cp (pairsP l) hrow (by omega) (by omega) (by
        intro u hu w' hb
        exact fmt16_any w' u (pairs_lt l u hu) ((HB.out.on hi2.1).on hb)) (by
        intro u hu
        have := groupP_len u (pairs_lt l u hu)
        omega)
      have HCALL := Lib.hid hcall
      have HBE := Lib.hid hi2.1
      clear hcall hrow hi2 hall hinv hge
      go_wp2_with fail
      refine HCALL.out.mono ?_
      rintro e w2 ⟨rfl, hb2⟩
      go_wp2_with fail
      go_ret
      exact ⟨rfl, below_on HBE.out hb2 (Nat.le_refl _)⟩
end
end Go.Proofs.YtipbakdodbmfjaaGreatDoor

/- The law NameCases returns true for every input and leaves its arguments as they were; no condition, the package-level tables that it reads tied to the program's text. -/
import Derived.Test.YtelikppfiaobcaaDoorBase2
import Derived.Test.YtelikppfiaobcaaDoorAns02
import Derived.Test.YtelikppfiaobcaaDoorCmpLaw
import Derived.Test.YtelikppfiaobcaaDoorOpen
import Derived.Test.YtelikppfiaobcaaDoorRows
import Derived.Test.YtelikppfiaobcaaDoorCards
import Derived.Test.YtelikppfiaobcaaDoorTie
import Derived.SevenTiedAt
import Derived.LaidMore
import Derived.Stop.Joined
import Derived.Stop.LaidErr
import Derived.Lib.LaidTab
import Derived.MakeChecks
import Derived.WalkKit
import Derived.ProofKit
import Derived.OpenShut
import Derived.Below
namespace Go.Proofs.YtelikppfiaobcaaDoor.nameCases
open Go.ChangeShapes Go.WideShapes Go.ChangeAt Go.RowKit
open Go.ChangeMaps (open_string shut_string)
set_option linter.unusedVariables false

/-- the table that the walk reads -/
theorem tab_of {W : World} (hL : laidMetH Tryd.prog Rows.nameCasesRow.laid W) : Tab W := by
  rw [MakeChecks.laidMetH_plain _ _ _ (by kernel_rfl)] at hL
  exact Lib.tabIs_of_head (g := 3) (by kernel_rfl) (by kernel_rfl) Tryd.underlying108 Tryd.underlying62 (by kernel_rfl) (by kernel_rfl) hL.tail.tail
/-- a slice of strings that the call owns, with what it holds -/
def OwnRes (w : World) (len : Nat) (ss : List ByteArray) (e : Ending) (w' : World) : Prop :=
  ∃ ao cap, e = .returned (.slice ao len cap) ∧ w'.ownsRow w.heap.size 9 1 (.slice ao len cap) len (ss.map .string) ∧ Below w.heap.size w w'
theorem own_owns (w : World) (ao : Option Addr) (len cap : Nat) (ss : List ByteArray) (hs : Strs w ao len cap ss) (hb : len * 16 ≤ 140737488355328) :
    Calls Tryd.prog 13 #[.slice ao len cap] w (OwnRes w len ss) := by
  have hl := hs.len
  obtain ⟨i0, hi, hz0, hz1, hz2⟩ := info_parts strInfo
  have hbel : Below w.heap.size w (w.alloc (.cells #[] 9)) := (Below.refl _ _).alloc (Nat.le_refl _) _
  obtain ⟨v', w1, hrun, hown, hgrow⟩ := append_row (P := Tryd.prog) (w.alloc (.cells #[] 9)) w.heap.size 22 22 9 i0 _ 16 Tryd.underlying22 hi hz0 hz1 hz2 rfl (.slice (some ⟨w.heap.size, 0, none⟩) 0 0) 0 []
    (World.ownsRow_made w #[] 0 (Nat.le_refl _) (by unfold maxLen; omega) rfl) ao len cap (ss.map .string) (hs.row.below hbel (Nat.le_refl _)) (strings_oneCell ss) (by omega) (by omega) (by simp)
  have hg := Lib.hid (hbel.grown hgrow (by simp) (by intro k hk; simp [Value.ownBlock] at hk; omega))
  clear hgrow hbel
  rw [List.nil_append, Nat.zero_add] at hown
  obtain ⟨ao', cap', rfl, _⟩ := strs_of_owns hown hs.row.hmax hs.small
  have HO := Lib.hid hown
  clear hown hi hz0 hz1 hz2 hb
  have HL := Lib.hid hl; clear hl
  have HR := Lib.hid hrun; clear hrun
  have hbs : ∀ w : World, (Instr.buildSlice 22 0 #[]).run Tryd.prog w = .ok (.slice (some ⟨w.heap.size, 0, none⟩) 0 0) (w.alloc (.cells #[] 9)) := fun _ => by kernel_rfl
  go_enter Tryd.func13, Tryd.ntmps13
  go_wp2_with (at_builtin; refine wpList_append_run rfl _ _ _ rfl _ _ rfl rfl HR.out ?_)
  go_ret
  exact ⟨ao', cap', rfl, HO.out, hg.out⟩

/-- the same but for the letters' size -/
def Like (a b : List ByteArray) : Prop := a.map small = b.map small
theorem like_eq {a b : List ByteArray} (h : Like a b) : eqB a b = true := by simp only [eqB, decide_eq_true_iff]; exact h
theorem cmpL_like {x x' y : ByteArray} (h : small x = small x') : cmpL x y = cmpL x' y := by rw [cmpL, cmpL, h]
theorem cmpR_like : ∀ (x x' y : List ByteArray), x.map small = x'.map small → cmpR x y = cmpR x' y
  | [], [], _, _ => rfl
  | [], _ :: _, _, h => by simp at h
  | _ :: _, [], _, h => by simp at h
  | _ :: _, _ :: _, [], _ => rfl
  | a :: xs, b :: ys, c :: zs, h => by
    simp only [List.map_cons, List.cons.injEq] at h
    rw [cmpR, cmpR, cmpL_like h.1, cmpR_like xs ys zs h.2]
theorem cmpN_like {a b : List ByteArray} (h : Like a b) (c : List ByteArray) : cmpN a c = cmpN b c := by
  apply cmpR_like
  rw [List.map_reverse, List.map_reverse, h]
theorem under_like {a b : List ByteArray} (h : Like a b) (c : List ByteArray) : underB c a = underB c b := by
  have hl : a.length = b.length := by simpa using congrArg List.length h
  simp only [underB, hl, eqB]
  congr 1
  exact decide_eq_decide.2 (by rw [h])
theorem small_small (s : ByteArray) : small (small s) = small s := by
  simp only [small, List.map_map]
  congr 2
  apply List.map_congr_left
  intro c _
  simp only [Function.comp]
  unfold lowB
  split
  · rename_i h
    have : (UInt8.ofNat (c.toNat + 32)).toNat = c.toNat + 32 := by rw [UInt8.toNat_ofNat']; omega
    rw [if_neg (by omega)]
  · rfl
theorem map_small_small (a : List ByteArray) : (a.map small).map small = a.map small := by
  rw [List.map_map]; exact List.map_congr_left fun s _ => small_small s
theorem like_low {a b : List ByteArray} (h : Like a b) : Like (a.map small) b := by show _ = _; rw [map_small_small]; exact h
/-- what the loops keep: the slice c of the call's own, whose names are like the first -/
structure Mut (W : World) (B : Nat) (cp : Option Addr) (n cc : Nat) (s0 cs : List ByteArray) (w : World) : Prop where
  own : w.ownsRow B 9 1 (.slice cp n cc) n (cs.map .string)
  bel : Below W.heap.size W w
  like : Like cs s0
  szs : ∀ s ∈ cs, s.size ≤ 3000
  leB : W.heap.size ≤ B
theorem Mut.len {W : World} {B : Nat} {cp : Option Addr} {n cc : Nat} {s0 cs : List ByteArray} {w : World} (h : Mut W B cp n cc s0 cs w) : cs.length = n := by simpa using h.own.1
theorem Mut.ptr {W : World} {B : Nat} {cp : Option Addr} {n cc : Nat} {s0 cs : List ByteArray} {w : World} (h : Mut W B cp n cc s0 cs w) (h0 : 0 < n) : ∃ g, cp = some ⟨g, 0, none⟩ := by
  rcases h.own.2 with ⟨_, h1⟩ | ⟨g, cap, cur, h1, _⟩
  · omega
  · simp only [Value.slice.injEq] at h1
    exact ⟨g, h1.1⟩
theorem Mut.cell {W : World} {B g : Nat} {n cc : Nat} {s0 cs : List ByteArray} {w : World} (h : Mut W B (some ⟨g, 0, none⟩) n cc s0 cs w) {j : Nat} (hj : j < n) : w.cell? ⟨g, j, none⟩ = cs[j]?.map Value.string := by
  rw [h.own.cellAt j (by omega), List.getElem?_map]
theorem start_mut {W w w1 : World} {cp : Option Addr} {n cc : Nat} {s0 : List ByteArray} (h : w1.ownsRow w.heap.size 9 1 (.slice cp n cc) n (s0.map .string)) (hb : Below W.heap.size W w) (hc : Below w.heap.size w w1) (hs : ∀ s ∈ s0, s.size ≤ 3000) : Mut W w.heap.size cp n cc s0 s0 w1 :=
  ⟨h, below_on hb hc (Nat.le_refl _), rfl, hs, hb.size⟩
theorem cell_u8 {w : World} {ao : Option Addr} {n cap : Nat} {zs : List Int} (h : Row w ao n cap (zs.map (Value.int .u8))) (hf : ∀ z ∈ zs, (Lit.int .u8 z).wf = true) {i : Nat} (hi : i < n) {w' : World} {a : Addr} (hc : w'.cell? a = some ((zs.map (Value.int .u8))[i]'(by have := h.hlen; omega))) :
    ∃ z : Int, w'.cell? a = some (.int .u8 z) ∧ 0 ≤ z ∧ z ≤ 255 := by
  have hl : i < zs.length := by have := h.hlen; simp at this; omega
  rw [List.getElem_map] at hc
  obtain ⟨h1, h2⟩ := bounds_u8 (hf zs[i] (List.getElem_mem hl))
  exact ⟨_, hc, h1, h2⟩
theorem idx_facts {zn l : Nat} (h : 0 < l) (hz : (zn : Int) ≤ 255) : ∃ kn : Nat, kn < l ∧ wrap64 (zn : Int) = (zn : Int) ∧ (wrap64 (zn : Int)).tmod (l : Int) = (kn : Int) ∧ (zn : Int).tmod (l : Int) = (kn : Int) ∧ (kn : Int) < (l : Int) ∧ (l : Int) ≠ 0 := by
  have e := IntWalk.wrap64_in (zn : Int) ⟨by omega, by omega⟩
  have et : (zn : Int).tmod (l : Int) = ((zn % l : Nat) : Int) := (Int.ofNat_tmod zn l).symm
  have hm : zn % l < l := Nat.mod_lt _ h
  exact ⟨zn % l, hm, e, by rw [e, et], et, by omega, by omega⟩
theorem small_of {cs : List ByteArray} {s : ByteArray} {k : Nat} (hs : ∀ s ∈ cs, s.size ≤ 3000) (h : cs[k]? = some s) : s.size ≤ 3000 := hs s (List.mem_of_getElem? h)
theorem has_at {cs : List ByteArray} {k : Nat} (h : k < cs.length) : ∃ s, cs[k]? = some s := ⟨_, List.getElem?_eq_getElem h⟩
theorem own_below {w w' : World} {B : Nat} {e : TypeId} {v : Value} {n : Nat} {xs : List Value} (h : w.ownsRow B e 1 v n xs) (hb : Below w.heap.size w w') : w'.ownsRow B e 1 v n xs := by
  obtain ⟨h1, h2⟩ := h
  refine ⟨h1, ?_⟩
  rcases h2 with h2 | ⟨g, cap, cur, hv, hg, hh, r⟩
  · exact Or.inl h2
  · refine Or.inr ⟨g, cap, cur, hv, hg, ?_, r⟩
    have hlt : g < w.heap.size := by
      rcases Nat.lt_or_ge g w.heap.size with hlt | hge
      · exact hlt
      · rw [Array.getElem?_eq_none hge] at hh; cases hh
    rw [hb.block g hlt]; exact hh
theorem Mut.on {W w w' : World} {B : Nat} {cp : Option Addr} {n cc : Nat} {s0 cs : List ByteArray} (h : Mut W B cp n cc s0 cs w) (hb : Below w.heap.size w w') : Mut W B cp n cc s0 cs w' :=
  ⟨own_below h.own hb, below_on h.bel hb (Nat.le_refl _), h.like, h.szs, h.leB⟩
theorem Mut.high {W w : World} {B g n cc : Nat} {s0 cs : List ByteArray} (h : Mut W B (some ⟨g, 0, none⟩) n cc s0 cs w) (h0 : 0 < n) : W.heap.size ≤ g := by
  rcases h.own.2 with ⟨_, h1⟩ | ⟨g', cap, cur, h1, h2, _⟩
  · omega
  · simp only [Value.slice.injEq, Option.some.injEq, Addr.mk.injEq, and_true, true_and] at h1
    have := h.leB; omega
theorem Mut.put {W w : World} {B g n cc : Nat} {s0 cs : List ByteArray} (h : Mut W B (some ⟨g, 0, none⟩) n cc s0 cs w) {k : Nat} {s x : ByteArray} (hk : cs[k]? = some s) (hs : Go.Proofs.YtelikppfiaobcaaDoor.small x = Go.Proofs.YtelikppfiaobcaaDoor.small s) (hz : x.size ≤ 3000) : Mut W B (some ⟨g, 0, none⟩) n cc s0 (cs.set k x) (w.setCell ⟨g, k, none⟩ (.string x)) := by
  have h0 : 0 < n := by
    have := h.len
    have : k < cs.length := by
      rcases Nat.lt_or_ge k cs.length with h | h
      · exact h
      · rw [List.getElem?_eq_none h] at hk; cases hk
    omega
  refine ⟨by rw [List.map_set]; exact (h.own.stored k _).1, h.bel.setCell (h.high h0) _, ?_, ?_, h.leB⟩
  · show (cs.set k x).map small = _
    rw [List.map_set, hs]
    have e : (cs.map small)[k]? = some (small s) := by rw [List.getElem?_map, hk]; rfl
    have : (cs.map small).set k (small s) = cs.map small := by
      obtain ⟨hl, he⟩ := List.getElem?_eq_some_iff.1 e
      rw [← he, List.set_getElem_self]
    rw [this]; exact h.like
  · intro y hy
    rcases List.mem_or_eq_of_mem_set hy with hy | rfl
    · exact h.szs y hy
    · exact hz
/-- the bytes of the inner loop -/
structure Inn (wr wi : World) (s : ByteArray) (l : List UInt8) : Prop where
  bel : Below wr.heap.size wr wi
  row : ByteRow wi wr.heap.size l
  len : l.length = s.size
  low : l.map lowB = s.data.toList.map lowB
theorem Inn.set {wr wi : World} {s : ByteArray} {l : List UInt8} (h : Inn wr wi s l) {k : Nat} (hk : k < l.length) {c' : UInt8} {x : Int} (hx : x = (c'.toNat : Int)) (hl : lowB c' = lowB l[k]) : Inn wr (wi.setCell ⟨wr.heap.size, k, none⟩ (.int .u8 x)) s (l.set k c') := by
  refine ⟨h.bel.setCell (by simp) _, h.row.set hk hx, by rw [List.length_set]; exact h.len, ?_⟩
  rw [List.map_set, hl, ← h.low]
  have : lowB l[k] = (l.map lowB)[k]'(by simpa using hk) := by simp
  rw [this, List.set_getElem_self]
theorem Inn.start {wr w1 : World} {s : ByteArray} (hb : Below wr.heap.size wr w1) (hr : ByteRow w1 wr.heap.size s.data.toList) : Inn wr w1 s s.data.toList := ⟨hb, hr, by simp, rfl⟩
theorem Inn.same {wr wi : World} {s : ByteArray} {l : List UInt8} (h : Inn wr wi s l) : small ⟨l.toArray⟩ = small s := by
  simp only [small]; rw [h.low]
theorem Inn.size {wr wi : World} {s : ByteArray} {l : List UInt8} (h : Inn wr wi s l) (hs : s.size ≤ 3000) : (⟨l.toArray⟩ : ByteArray).size ≤ 3000 := by
  show l.toArray.size ≤ 3000
  rw [List.size_toArray, h.len]; exact hs
theorem up_byte (c : UInt8) (h1 : 97 ≤ c.toNat) (h2 : c.toNat ≤ 122) : ∃ c' : UInt8, (c.toNat : Int) - 32 = (c'.toNat : Int) ∧ lowB c' = lowB c := by
  have e : (UInt8.ofNat (c.toNat - 32)).toNat = c.toNat - 32 := by rw [UInt8.toNat_ofNat']; omega
  refine ⟨UInt8.ofNat (c.toNat - 32), by rw [e]; omega, ?_⟩
  rw [lowB, if_pos (by rw [e]; omega), e, lowB_miss (by omega)]
  have : c.toNat - 32 + 32 = c.toNat := by omega
  rw [this]
  apply UInt8.toNat_inj.1
  rw [UInt8.toNat_ofNat']
  omega
def LenRes (w : World) (n : Nat) (ss : List ByteArray) (e : Ending) (w' : World) : Prop :=
  ∃ ao cap, e = .returned (.slice ao n cap) ∧ Strs w' ao n cap ss ∧ Below w.heap.size w w'
theorem StrsRes.toLen {w : World} {n : Nat} {ss : List ByteArray} {e : Ending} {w' : World} (hl : ss.length = n) (h : StrsRes w ss e w') : LenRes w n ss e w' := by
  subst hl; exact h
theorem lower_len (w : World) (ao : Option Addr) (len cap : Nat) (ss : List ByteArray) (hs : Strs w ao len cap ss) (hb : len * 16 ≤ 140737488355328) : Calls Tryd.prog 27 #[.slice ao len cap] w (LenRes w len (ss.map small)) :=
  (lower_any w ao len cap ss hs hb).mono fun _ _ h => StrsRes.toLen (by rw [List.length_map]; exact hs.len) h
theorem own_len2 (w : World) (ao : Option Addr) (len cap : Nat) (ss : List ByteArray) (hs : Strs w ao len cap ss) (hb : len * 16 ≤ 140737488355328) : Calls Tryd.prog 13 #[.slice ao len cap] w (LenRes w len ss) :=
  (own_any w ao len cap ss hs hb).mono fun _ _ h => StrsRes.toLen hs.len h
theorem map_low_small {l : List ByteArray} (h : ∀ s ∈ l, s.size ≤ 3000) : ∀ s ∈ l, s.size ≤ 9223372036854775807 := fun s hs => Nat.le_trans (h s hs) (by decide)
theorem Mut.strs {W w : World} {B : Nat} {cp : Option Addr} {n cc : Nat} {s0 cs : List ByteArray} (h : Mut W B cp n cc s0 cs w) (hn : n ≤ 140737488355328) : Strs w cp n cc cs := by
  obtain ⟨ao, cap, e, hs⟩ := strs_of_owns h.own hn (map_low_small h.szs)
  simp only [Value.slice.injEq] at e
  obtain ⟨rfl, _, rfl⟩ := e
  exact hs
theorem exactB_refl (a : List ByteArray) : exactB a a = true := by simp [exactB]
set_option maxHeartbeats 4000000 in
set_option maxRecDepth 100000 in
theorem walk (a0 : Option Addr) (l0 c0 : Nat) (s0 : List ByteArray) (a1 : Option Addr) (l1 c1 : Nat) (s1 : List ByteArray) (a2 : Option Addr) (l2 c2 : Nat) (z2 : List Int) (W : World) (w0 : Strs W a0 l0 c0 s0) (b0 : c0 * 16 ≤ 140737488355328) (w1 : Strs W a1 l1 c1 s1) (b1 : c1 * 16 ≤ 140737488355328) (w2 : Row W a2 l2 c2 (z2.map (Value.int .u8))) (f2 : ∀ z ∈ z2, (Lit.int .u8 z).wf = true) (b2 : c2 * 1 ≤ 140737488355328) (hL : laidMetH Tryd.prog Rows.nameCasesRow.laid W) :
    Calls Tryd.prog 7 #[.slice a0 l0 c0, .slice a1 l1 c1, .slice a2 l2 c2] W fun e w' => e = .returned (.bool true) ∧ Below W.heap.size W w' := by
  have HT := Lib.hid (tab_of hL)
  clear hL
  have hm0 := w0.row.hle
  have hl0 : l0 * 16 ≤ 140737488355328 := by omega
  have L0 := Lib.hid (fun w' (h : Below W.heap.size W w') => light_any w' a0 l0 c0 s0 (w0.below h (Nat.le_refl _)) hl0)
  have O0 := Lib.hid (fun w' (h : Below W.heap.size W w') => own_any w' a0 l0 c0 s0 (w0.below h (Nat.le_refl _)) hl0)
  have P0 := Lib.hid (fun w' (h : Below W.heap.size W w') => w0.below h (Nat.le_refl _))
  clear hm0 b0 hl0
  have hm1 := w1.row.hle
  have hl1 : l1 * 16 ≤ 140737488355328 := by omega
  have L1 := Lib.hid (fun w' (h : Below W.heap.size W w') => light_any w' a1 l1 c1 s1 (w1.below h (Nat.le_refl _)) hl1)
  have O1 := Lib.hid (fun w' (h : Below W.heap.size W w') => own_any w' a1 l1 c1 s1 (w1.below h (Nat.le_refl _)) hl1)
  have P1 := Lib.hid (fun w' (h : Below W.heap.size W w') => w1.below h (Nat.le_refl _))
  clear hm1 b1 hl1
  have hln := w0.len
  have HLN := Lib.hid hln; clear hln
  cases g0 : lightB s0
  · go_enter Tryd.func7, Tryd.ntmps7
    go_wp2_with fail
    refine (answers_any _ HT.out).mono ?_
    rintro e x1 ⟨rfl, hc1⟩
    have hb1 := hc1
    go_wp2_with fail
    refine (L0.out _ hb1).mono ?_
    rintro e y2 ⟨rfl, rfl⟩
    go_wp2_with fail
    refine (answers_any _ (tab_on HT.out hb1)).mono ?_
    rintro e x3 ⟨rfl, hc3⟩
    have hb3 := below_on hb1 hc3 (Nat.le_refl _)
    go_wp2
    go_ret
    exact ⟨rfl, hb3⟩
  cases g1 : lightB s1
  · go_enter Tryd.func7, Tryd.ntmps7
    go_wp2_with fail
    refine (answers_any _ HT.out).mono ?_
    rintro e x1 ⟨rfl, hc1⟩
    have hb1 := hc1
    go_wp2_with fail
    refine (L0.out _ hb1).mono ?_
    rintro e y2 ⟨rfl, rfl⟩
    go_wp2_with fail
    refine (L1.out _ hb1).mono ?_
    rintro e y3 ⟨rfl, rfl⟩
    go_wp2_with fail
    refine (answers_any _ (tab_on HT.out hb1)).mono ?_
    rintro e x4 ⟨rfl, hc4⟩
    have hb4 := below_on hb1 hc4 (Nat.le_refl _)
    go_wp2
    go_ret
    exact ⟨rfl, hb4⟩
  have h6 : l0 ≤ 600 := by have := (lightB_out g0).1; have := HLN.out; omega
  go_enter Tryd.func7, Tryd.ntmps7
  go_wp2_with fail
  refine (answers_any _ HT.out).mono ?_
  rintro e x1 ⟨rfl, hc1⟩
  have hb1 := hc1
  go_wp2_with fail
  refine (L0.out _ hb1).mono ?_
  rintro e y2 ⟨rfl, rfl⟩
  go_wp2_with fail
  refine (L1.out _ hb1).mono ?_
  rintro e y3 ⟨rfl, rfl⟩
  go_wp2_with fail
  refine (own_owns _ _ _ _ _ (P0.out _ hb1) (by omega)).mono ?_
  rintro e xc ⟨cp, cc, rfl, hown, hbc⟩
  have HS := Lib.hid (start_mut hown hb1 hbc (lightB_out g0).2.2)
  clear hown hbc
  go_wp2
  go_loopw [8, 9, 10, 11] (fun i _ _ _ wr => ∃ k : Nat, k ≤ 200 ∧ i = .int .i64 k ∧ Hid (∃ cs, Mut W x1.heap.size cp l0 cc s0 cs wr)) (fun i _ _ _ _ => 200 - (intOf i).toNat)
  case atStart => exact ⟨0, Nat.zero_le _, rfl, Lib.hid ⟨_, HS.out⟩⟩
  case round =>
    obtain ⟨k, hk, rfl, hmm⟩ := hrel
    obtain ⟨cs, hm'⟩ := hmm.out
    have hm := Lib.hid hm'; clear hm' hmm
    rename World => wo
    clear HS
    by_cases hin : k < l2 ∧ 0 < l0 ∧ k < 200
    · obtain ⟨hi1, hi2, hi3⟩ := hin
      obtain ⟨b2, o2, rfl⟩ := w2.addr hi1
      obtain ⟨g, rfl⟩ := hm.out.ptr hi2
      have hcell := (w2.below hm.out.bel (Nat.le_refl _)).at hi1
      obtain ⟨z, hz, z1, z2'⟩ := cell_u8 w2 f2 hi1 hcell
      clear hcell
      obtain ⟨zn, rfl⟩ := Int.eq_ofNat_of_zero_le z1
      obtain ⟨kn, hkm, -, m1, -, m2, m0⟩ := idx_facts hi2 z2'
      have hcs := hm.out.cell hkm
      obtain ⟨s, hs⟩ := has_at (by rw [hm.out.len]; exact hkm : kn < cs.length)
      rw [hs] at hcs
      simp only [Option.map_some] at hcs
      have hsz := small_of hm.out.szs hs
      obtain ⟨cap, w1', hrun, hc1, hc2, hb1, hz1, hr1⟩ := conv_bytes wo 9 33 5 s Tryd.underlying9 Tryd.underlying33 Tryd.underlying5 (by omega)
      have HSS := Lib.hid hs; clear hs
      have HR := Lib.hid hrun; clear hrun
      have HB := Lib.hid (And.intro hc1 (And.intro hc2 (And.intro hb1 (And.intro hz1 hr1)))); clear hc1 hc2 hb1 hz1 hr1
      have HZ := Lib.hid hsz; clear hsz
      have HKN := Lib.hid hkm; clear hkm
      have HZ2 := Lib.hid z2'; clear z2'
      have mk3 : decide ((k : Int) < 200) = true := by rw [decide_eq_true_iff]; omega
      have hrun := HR.out
      go_wp2
      clear hrun
      go_loopw [11] (fun i wi => ∃ k2 : Nat, k2 ≤ s.size ∧ i = .int .i64 k2 ∧ Hid (∃ l, Inn wo wi s l)) (fun i _ => s.size - (intOf i).toNat)
      case atStart => exact ⟨0, Nat.zero_le _, rfl, Lib.hid ⟨_, Inn.start HB.out.2.2.1 HB.out.2.2.2.2⟩⟩
      case round =>
        obtain ⟨k2, hk2, rfl, hnn⟩ := hrel
        obtain ⟨l, hn'⟩ := hnn.out
        have hn := Lib.hid hn'; clear hn' hnn
        have hk9 : k2 ≤ 3000 := by have := HZ.out; omega
        by_cases hlt : k2 < s.size
        · have hkl : k2 < l.length := by rw [hn.out.len]; exact hlt
          have hc := hn.out.row.cell (i := k2) hkl
          have hf := hn.out.row.free (i := k2) hkl
          have hset := fun (x : Int) (c' : UInt8) (hx : x = (c'.toNat : Int)) => hn.out.set (k := k2) hkl hx
          obtain ⟨c, hck⟩ : ∃ c, c = l[k2] := ⟨_, rfl⟩
          rw [← hck] at hc hset
          have HK := Lib.hid hck; clear hck
          have H3 := Lib.hid hset; clear hset
          by_cases hx : 97 ≤ c.toNat ∧ c.toNat ≤ 122
          · obtain ⟨x1, x2⟩ := hx
            obtain ⟨c', hu1, hu2⟩ := up_byte c x1 x2
            have HU1 := Lib.hid hu1; clear hu1
            have HU2 := Lib.hid hu2; clear hu2
            have ma : IntKind.i64.wrap ((k2 : Int) + (k : Int)) = (k2 : Int) + (k : Int) := IntWalk.i64_in _ (by omega)
            have mb : wrap64 ((k2 : Int) + (k : Int)) = (k2 : Int) + (k : Int) := IntWalk.wrap64_in _ ⟨by omega, by omega⟩
            obtain ⟨r, mr⟩ : ∃ r : Int, ((k2 : Int) + (k : Int)).tmod 3 = r := ⟨_, rfl⟩
            cases mq : (r == 0)
            · go_wp2
              go_roundw
              case rel => exact ⟨k2 + 1, by omega, by go_num, Lib.hid ⟨_, hn.out⟩⟩
              case measure => simp [intOf]; omega
            · go_wp2
              go_roundw
              case rel => exact ⟨k2 + 1, by omega, by go_num, Lib.hid ⟨_, H3.out _ c' (by have := HU1.out; omega) HU2.out⟩⟩
              case measure => simp [intOf]; omega
          · have hx' : c.toNat < 97 ∨ 122 < c.toNat := by omega
            clear hx
            rcases hx' with hx | hx
            all_goals
              go_wp2
              go_roundw
              case rel => exact ⟨k2 + 1, by omega, by go_num, Lib.hid ⟨_, hn.out⟩⟩
              case measure => simp [intOf]; omega
        · have hback := conv_back wr 33 9 5 Tryd.underlying33 Tryd.underlying5 Tryd.underlying9 wo.heap.size cap s.size l hn.out.len hn.out.row
          have hmw := hm.out.on hn.out.bel
          have hcw := hmw.cell HKN.out
          rw [HSS.out] at hcw
          simp only [Option.map_some] at hcw
          have hfw := hmw.own.frozenAt kn
          have HP := Lib.hid (hmw.put HSS.out hn.out.same (hn.out.size HZ.out))
          clear hmw
          go_wp2
          go_roundw
          case rel => exact ⟨k + 1, by omega, by go_num, Lib.hid ⟨_, HP.out⟩⟩
          case measure => simp [intOf]; omega
    · have hor : ¬ k < l2 ∨ (k < l2 ∧ ¬ 0 < l0) ∨ (k < l2 ∧ 0 < l0 ∧ ¬ k < 200) := by omega
      clear hin
      have HM := hm; clear hm
      have hmb := HM.out.bel
      have OA := Lib.hid (fun w' (h : Below wo.heap.size wo w') => own_len2 w' a0 l0 c0 s0 (P0.out _ (below_on hmb h (Nat.le_refl _))) (by omega))
      have OB := Lib.hid (fun w' (h : Below wo.heap.size wo w') => (O1.out _ (below_on hmb h (Nat.le_refl _))).mono fun _ _ hh => StrsRes.toLen (P1.out _ (below_on hmb h (Nat.le_refl _))).len hh)
      have OC := Lib.hid (fun w' (h : Below wo.heap.size wo w') => own_len2 w' cp l0 cc cs ((HM.out.strs (by omega)).below h (Nat.le_refl _)) (by omega))
      have PA := Lib.hid (fun w' (h : Below wo.heap.size wo w') => P0.out _ (below_on hmb h (Nat.le_refl _)))
      have HH := Lib.hid (show l0 * 16 ≤ 140737488355328 by omega)
      have LK := Lib.hid HM.out.like
      have HMB := Lib.hid hmb; clear hmb HM
      have h2 : (cmpN s0 s1 == cmpN s0 s1) = true := by rw [beq_iff_eq]
      have h3 : (underB s1 s0 == underB s1 s0) = true := by rw [beq_iff_eq]
      have mn : decide ((k : Int) < (l2 : Int)) = decide (k < l2) := decide_eq_decide.2 (by omega)
      rcases hor with hi1 | ⟨hi1, hi2⟩ | ⟨hi1, hi2, hi3⟩
      all_goals
        go_wp2_with fail
        refine (OC.out _ (Below.refl _ _)).mono ?_
        rintro e x1 ⟨p1, q1, rfl, t1, hc1⟩
        have hb1 := hc1
        go_wp2_with fail
        refine (lower_len _ _ _ _ _ (t1) HH.out).mono ?_
        rintro e x2 ⟨p2, q2, rfl, t2, hc2⟩
        have hb2 := below_on hb1 hc2 (Nat.le_refl _)
        go_wp2_with fail
        refine (OC.out _ hb2).mono ?_
        rintro e x3 ⟨p3, q3, rfl, t3, hc3⟩
        have hb3 := below_on hb2 hc3 (Nat.le_refl _)
        go_wp2_with fail
        refine (equal_any _ _ _ _ _ _ _ _ _ (PA.out _ hb3) t3).mono ?_
        rintro e x4 ⟨he4, hc4⟩
        rw [like_eq LK.out.symm] at he4
        subst he4
        have hb4 := below_on hb3 hc4 (Nat.le_refl _)
        go_wp2_with fail
        refine (OC.out _ hb4).mono ?_
        rintro e x5 ⟨p5, q5, rfl, t5, hc5⟩
        have hb5 := below_on hb4 hc5 (Nat.le_refl _)
        go_wp2_with fail
        refine (OB.out _ hb5).mono ?_
        rintro e x6 ⟨p6, q6, rfl, t6, hc6⟩
        have hb6 := below_on hb5 hc6 (Nat.le_refl _)
        go_wp2_with fail
        refine (cmp_any _ _ _ _ _ _ _ _ _ (t5.below hc6 (Nat.le_refl _)) t6).mono ?_
        rintro e x7 ⟨he7, hc7⟩
        rw [cmpN_like LK.out] at he7
        subst he7
        have hb7 := below_on hb6 hc7 (Nat.le_refl _)
        go_wp2_with fail
        refine (OA.out _ hb7).mono ?_
        rintro e x8 ⟨p8, q8, rfl, t8, hc8⟩
        have hb8 := below_on hb7 hc8 (Nat.le_refl _)
        go_wp2_with fail
        refine (OB.out _ hb8).mono ?_
        rintro e x9 ⟨p9, q9, rfl, t9, hc9⟩
        have hb9 := below_on hb8 hc9 (Nat.le_refl _)
        go_wp2_with fail
        refine (cmp_any _ _ _ _ _ _ _ _ _ (t8.below hc9 (Nat.le_refl _)) t9).mono ?_
        rintro e x10 ⟨rfl, hc10⟩
        have hb10 := below_on hb9 hc10 (Nat.le_refl _)
        go_wp2_with fail
        refine (OB.out _ hb10).mono ?_
        rintro e x11 ⟨p11, q11, rfl, t11, hc11⟩
        have hb11 := below_on hb10 hc11 (Nat.le_refl _)
        go_wp2_with fail
        refine (OC.out _ hb11).mono ?_
        rintro e x12 ⟨p12, q12, rfl, t12, hc12⟩
        have hb12 := below_on hb11 hc12 (Nat.le_refl _)
        go_wp2_with fail
        refine (under_any _ _ _ _ _ _ _ _ _ (t11.below hc12 (Nat.le_refl _)) t12).mono ?_
        rintro e x13 ⟨he13, hc13⟩
        rw [under_like LK.out] at he13
        subst he13
        have hb13 := below_on hb12 hc13 (Nat.le_refl _)
        go_wp2_with fail
        refine (OB.out _ hb13).mono ?_
        rintro e x14 ⟨p14, q14, rfl, t14, hc14⟩
        have hb14 := below_on hb13 hc14 (Nat.le_refl _)
        go_wp2_with fail
        refine (OA.out _ hb14).mono ?_
        rintro e x15 ⟨p15, q15, rfl, t15, hc15⟩
        have hb15 := below_on hb14 hc15 (Nat.le_refl _)
        go_wp2_with fail
        refine (under_any _ _ _ _ _ _ _ _ _ (t14.below hc15 (Nat.le_refl _)) t15).mono ?_
        rintro e x16 ⟨rfl, hc16⟩
        have hb16 := below_on hb15 hc16 (Nat.le_refl _)
        go_wp2_with fail
        refine (equal_any _ _ _ _ _ _ _ _ _ ((((((((((((((t2.below hc3 (Nat.le_refl _)).below hc4 (Nat.le_refl _)).below hc5 (Nat.le_refl _)).below hc6 (Nat.le_refl _)).below hc7 (Nat.le_refl _)).below hc8 (Nat.le_refl _)).below hc9 (Nat.le_refl _)).below hc10 (Nat.le_refl _)).below hc11 (Nat.le_refl _)).below hc12 (Nat.le_refl _)).below hc13 (Nat.le_refl _)).below hc14 (Nat.le_refl _)).below hc15 (Nat.le_refl _)).below hc16 (Nat.le_refl _)) (PA.out _ hb16)).mono ?_
        rintro e x17 ⟨he17, hc17⟩
        rw [like_eq (like_low LK.out)] at he17
        subst he17
        have hb17 := below_on hb16 hc17 (Nat.le_refl _)
        go_wp2_with fail
        refine (lower_len _ _ _ _ _ (((((((((((((((t2.below hc3 (Nat.le_refl _)).below hc4 (Nat.le_refl _)).below hc5 (Nat.le_refl _)).below hc6 (Nat.le_refl _)).below hc7 (Nat.le_refl _)).below hc8 (Nat.le_refl _)).below hc9 (Nat.le_refl _)).below hc10 (Nat.le_refl _)).below hc11 (Nat.le_refl _)).below hc12 (Nat.le_refl _)).below hc13 (Nat.le_refl _)).below hc14 (Nat.le_refl _)).below hc15 (Nat.le_refl _)).below hc16 (Nat.le_refl _)).below hc17 (Nat.le_refl _)) HH.out).mono ?_
        rintro e x18 ⟨p18, q18, rfl, t18, hc18⟩
        have hb18 := below_on hb17 hc18 (Nat.le_refl _)
        go_wp2_with fail
        refine (exact_any _ _ _ _ _ _ _ _ _ t18 ((((((((((((((((t2.below hc3 (Nat.le_refl _)).below hc4 (Nat.le_refl _)).below hc5 (Nat.le_refl _)).below hc6 (Nat.le_refl _)).below hc7 (Nat.le_refl _)).below hc8 (Nat.le_refl _)).below hc9 (Nat.le_refl _)).below hc10 (Nat.le_refl _)).below hc11 (Nat.le_refl _)).below hc12 (Nat.le_refl _)).below hc13 (Nat.le_refl _)).below hc14 (Nat.le_refl _)).below hc15 (Nat.le_refl _)).below hc16 (Nat.le_refl _)).below hc17 (Nat.le_refl _)).below hc18 (Nat.le_refl _))).mono ?_
        rintro e x19 ⟨he19, hc19⟩
        rw [map_small_small, exactB_refl] at he19
        subst he19
        have hb19 := below_on hb18 hc19 (Nat.le_refl _)
        go_wp2_with fail
        refine (OA.out _ hb19).mono ?_
        rintro e x20 ⟨p20, q20, rfl, t20, hc20⟩
        have hb20 := below_on hb19 hc20 (Nat.le_refl _)
        go_wp2_with fail
        refine (lower_len _ _ _ _ _ (t20) HH.out).mono ?_
        rintro e x21 ⟨p21, q21, rfl, t21, hc21⟩
        have hb21 := below_on hb20 hc21 (Nat.le_refl _)
        go_wp2_with fail
        refine (exact_any _ _ _ _ _ _ _ _ _ (((((((((((((((((((t2.below hc3 (Nat.le_refl _)).below hc4 (Nat.le_refl _)).below hc5 (Nat.le_refl _)).below hc6 (Nat.le_refl _)).below hc7 (Nat.le_refl _)).below hc8 (Nat.le_refl _)).below hc9 (Nat.le_refl _)).below hc10 (Nat.le_refl _)).below hc11 (Nat.le_refl _)).below hc12 (Nat.le_refl _)).below hc13 (Nat.le_refl _)).below hc14 (Nat.le_refl _)).below hc15 (Nat.le_refl _)).below hc16 (Nat.le_refl _)).below hc17 (Nat.le_refl _)).below hc18 (Nat.le_refl _)).below hc19 (Nat.le_refl _)).below hc20 (Nat.le_refl _)).below hc21 (Nat.le_refl _)) t21).mono ?_
        rintro e x22 ⟨he22, hc22⟩
        rw [LK.out, exactB_refl] at he22
        subst he22
        have hb22 := below_on hb21 hc22 (Nat.le_refl _)
        go_wp2
        go_ret
        exact ⟨rfl, below_on HMB.out hb22 (Nat.le_refl _)⟩

theorem door_met (os : Os) (args : Array Value) : laidMetH Tryd.prog Rows.nameCasesRow.laid ((World.doorLaid Tryd.prog 72 os).forCall (fun _ _ => 0) ⟨#[], args, []⟩).memory :=
  laidMetH_of_parts3 (fuel := 8) (laidMet_of_run' 8 (by kernel_rfl) (by kernel_rfl)) (by kernel_rfl) (by kernel_rfl)

set_option maxHeartbeats 1000000 in
set_option maxRecDepth 100000 in
theorem lifted (os : Os) (started : os.Started) (H : Type) (enc : TypeId × Value → H) :
    ReturnsInHanded {} Tryd.checked os 7 .any (fun w args => (Rows.nameCasesSpec.pre enc Tryd.prog Tryd.f7 [] false w args ∧ laidMetH Tryd.prog Rows.nameCasesRow.laid w) ∧ sizedMet enc Tryd.prog Tryd.f7 (OpenSpec.ofChange Rows.nameCasesSpec) false w args) (Rows.nameCasesSpec.post enc Tryd.prog Tryd.f7 false true false false) := by
  refine returnsInHanded_of_change_and (C := Tryd.checked) (X := fun w _ => laidMetH Tryd.prog Rows.nameCasesRow.laid w) (fun _ _ _ hh h => h.of_heap hh) own started (by kernel_rfl) Tryd.func7
    (ChangeSpec.witness_shaped (enc := enc) (C := Tryd.checked) (os := os) (X := fun w _ => laidMetH Tryd.prog Rows.nameCasesRow.laid w) false (World.doorLaid Tryd.prog 72 os) #[.slice none 0 0, .slice none 0 0, .slice none 0 0] 8 rfl (World.shaped_of_RefB (by kernel_rfl) (by kernel_rfl)) (by kernel_rfl) (by kernel_rfl) (by kernel_rfl) (door_met os _)) ?_
  intro W base args ds gs before hval0 hW hcnd hsz0 hL _
  have hval : ∀ (j : Nat) t v, Tryd.f7.params[j]? = some t → args[j]? = some v → Value.okWide Tryd.prog W .any base t v := hval0
  have hW' := hW
  obtain ⟨p, q, hA0, hV, rfl, hfz, hnd⟩ := hW
  have hA : DataW.TrodAll enc Tryd.prog W 0 (fun _ => true) true Tryd.f7.params.toList args.toList ds p := hA0
  have hsz : (DataW.weightsEach Tryd.prog (Tryd.f7.params.toList ++ Rows.nameCasesSpec.plain.varTypes Tryd.prog) (ds ++ gs)).all (· ≤ reachBytes) = true := hsz0
  rw [Tryd.params7] at hA hval hsz
  obtain ⟨v0, vs0, d0, ds0, p0, q0, hargs, rfl, rfl, h0, r0⟩ := trodAll_cons hA
  obtain ⟨v1, vs1, d1, ds1, p1, q1, rfl, rfl, rfl, h1, r1⟩ := trodAll_cons r0
  obtain ⟨v2, vs2, d2, ds2, p2, q2, rfl, rfl, rfl, h2, r2⟩ := trodAll_cons r1
  obtain ⟨rfl, rfl, rfl⟩ := trodAll_nil r2
  obtain rfl : args = #[v0, v1, v2] := by cases args; simp_all
  obtain ⟨rfl, rfl⟩ := trodVars_none hV
  have k0 := h0
  have lt0 : ∀ x ∈ p0, x.block < W.heap.size := by obtain ⟨m, hm⟩ := k0; exact DataW.trod_lt m _ _ _ hm
  obtain ⟨x0, y0, z0, hsl0⟩ := okWide_slice Tryd.underlying22 (hval 0 22 v0 rfl rfl)
  obtain ⟨a0, l0, c0, s0, hv0, w0, b0⟩ := open_strs_arg Tryd.underlying22 h0 hsz (j := 0) rfl rfl ⟨_, _, _, hsl0⟩
  have k1 := h1
  have lt1 : ∀ x ∈ p1, x.block < W.heap.size := by obtain ⟨m, hm⟩ := k1; exact DataW.trod_lt m _ _ _ hm
  obtain ⟨x1, y1, z1, hsl1⟩ := okWide_slice Tryd.underlying22 (hval 1 22 v1 rfl rfl)
  obtain ⟨a1, l1, c1, s1, hv1, w1, b1⟩ := open_strs_arg Tryd.underlying22 h1 hsz (j := 1) rfl rfl ⟨_, _, _, hsl1⟩
  have k2 := h2
  have lt2 : ∀ x ∈ p2, x.block < W.heap.size := by obtain ⟨m, hm⟩ := k2; exact DataW.trod_lt m _ _ _ hm
  obtain ⟨x2, y2, z2, hsl2⟩ := okWide_slice Tryd.underlying33 (hval 2 33 v2 rfl rfl)
  obtain ⟨a2, l2, c2, z2, hv2, w2, f2, b2⟩ := open_ints_arg Tryd.underlying33 Tryd.underlying5 (by kernel_rfl) (by kernel_rfl) (by decide : 0 < 1) h2 hsz (j := 2) rfl rfl ⟨_, _, _, hsl2⟩
  clear hA0 hval0
  subst hv0
  subst hv1
  subst hv2
  refine (walk a0 l0 c0 s0 a1 l1 c1 s1 a2 l2 c2 z2 W w0 b0 w1 b1 w2 f2 b2 hL).mono fun e W' ⟨he, bel⟩ => ?_
  subst he
  exact ⟨_, rfl, _, _, _, [], _, [], hW', trodAll_mk1 (shut_bool Tryd.underlying4 _), (trodAll_cons_mk (Below.trod laidOut (by kernel_rfl) (of_decide_eq_true (by kernel_rfl)) k0 bel lt0) (trodAll_cons_mk (Below.trod laidOut (by kernel_rfl) (of_decide_eq_true (by kernel_rfl)) k1 bel lt1) (trodAll_cons_mk (Below.trod laidOut (by kernel_rfl) (of_decide_eq_true (by kernel_rfl)) k2 bel lt2) trodAll_mk0))), rfl, bel.frame _, fun h => by cases h⟩

theorem over : Rows.nameCasesRow.holds Tryd.pinned (OpenSpec.ofChange Rows.nameCasesSpec) :=
  OpenClaim.holds_of_wide 7 Tryd.f7 rfl rfl rfl rfl rfl rfl rfl ⟨rfl, rfl, rfl, rfl, rfl⟩ rfl rfl rfl rfl rfl (by kernel_rfl) Tryd.func7 (by kernel_rfl)
    (of_decide_eq_true (by kernel_rfl)) (by unfold Func.isWrapper; first | (rw [if_pos (by decide +kernel)]; kernel_rfl) | (rw [if_neg (by decide +kernel)]; exact ⟨rfl, rfl⟩))
    (fun os started H enc _ => lifted os started H enc)

theorem proved : Rows.NameCasesCardSaid :=
  Claim7.holds_tied_plain_at .later [] [.data, .data, .data] true (true, "4ec24589f0f5f26137b02521d2e0afadc07f64e7626361e1c896d6f108f38193") true
    over (fun _ h => by cases h) (by kernel_rfl) (fun _ h => by cases h) nameCases_row_tie rfl ⟨rfl, rfl⟩ (by kernel_rfl) rfl
    (fun f fn hf hfn => by
      obtain rfl : f = 7 := Option.some.inj ((show Tryd.prog.funcNamed "gazetteer/gazetteerlaw02.NameCases" = some 7 by kernel_rfl).symm.trans hf) |>.symm
      obtain rfl : fn = Tryd.f7 := (Option.some.inj (Tryd.func7.symm.trans hfn)).symm
      exact ⟨by kernel_rfl, fun j t ht => by
        rw [Tryd.params7] at ht
        have hm : t ∈ [22, 22, 33] := by simpa using Array.mem_of_getElem? ht
        have hall : ([22, 22, 33].all fun u => !Tryd.prog.wantsStandIn u) = true := by kernel_rfl
        exact (show Tryd.prog.wantsStandIn t = false by simpa using List.all_eq_true.1 hall t hm)⟩)
    (by kernel_rfl)
end Go.Proofs.YtelikppfiaobcaaDoor.nameCases

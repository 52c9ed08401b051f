/- Contracts of script.number and script.bits: a word that is a number. -/
import Derived.Test.YtipbakdodbmfjaaGreatDoorEnv
import Derived.Test.YtipbakdodbmfjaaGreatDoorFmtU
import Derived.Test.YtipbakdodbmfjaaGreatDoorUnescape
import Derived.Test.YtipbakdodbmfjaaGreatDoorScriptAct
import Derived.Test.YtipbakdodbmfjaaGreatDoorShelfB
import Derived.WalkSpells
namespace Go.Proofs.YtipbakdodbmfjaaGreatDoor
open Go.ChangeShapes Go.WideShapes Go.ChangeAt Go.RowKit

/-- what is left behind a word that is read into cell j of block g -/
def NumRes (w : World) (g j : Nat) (cs : Array Value) (T : TypeId) (k : IntKind) (r : Option Int) (e : Ending) (w' : World) : Prop :=
  ∃ v : Int, e = .returned (.bool r.isSome) ∧ w.grownBy w' (some g) ∧ Blk w' g (cs.setIfInBounds j (.int k v)) T ∧ ∀ u, r = some u → v = u
theorem below_atoi {w w' : World} (h : w' = w ∨ ∃ t, w' = Lib.bytesWorld w 5 t) : Below w.heap.size w w' := by
  rcases h with rfl | ⟨t, rfl⟩
  · exact Below.refl _ _
  · exact below_bytes _ _ _
theorem str_beq (a : List UInt8) (s : ByteArray) : ((⟨a.toArray⟩ : ByteArray).toList == s.toList) = decide (a = s.data.toList) := by
  rw [toList_beq]
  apply decide_eq_decide.2
  constructor
  · rintro rfl; simp
  · intro h
    cases s with | mk d => cases d with | mk l => (simp at h; rw [h])

theorem itoa_below {w : World} {n : Int} (h0 : -9223372036854775808 ≤ n) (h1 : n ≤ 9223372036854775807) (hT : Tab w) :
    Calls Tryz.prog 40 #[.int .i64 n] w fun e w' => e = .returned (.string ⟨(Lib.itoa n).toArray⟩) ∧ Below w.heap.size w w' :=
  (Tryz.strconv_Itoa n h0 h1 w hT).mono fun e w' ⟨he, k, os, hw⟩ => ⟨he, by rw [hw]; exact below_grow _ _ _⟩

theorem below_pu {w w' : World} {t : ByteArray} (h : w' = w ∨ w' = Lib.bytesWorld w 5 t) : Below w.heap.size w w' := by
  rcases h with rfl | rfl
  · exact Below.refl _ _
  · exact below_bytes _ _ _
theorem NumRes.ok {w w1 w3 : World} {g j : Nat} {cs : Array Value} {T : TypeId} {k : IntKind} {v : Int} (hb1 : Below w.heap.size w w1) (hb3 : Below (w1.setCell ⟨g, j, none⟩ (.int k v)).heap.size (w1.setCell ⟨g, j, none⟩ (.int k v)) w3)
    (hB : Blk (w1.setCell ⟨g, j, none⟩ (.int k v)) g (cs.setIfInBounds j (.int k v)) T) (b : Bool) : NumRes w g j cs T k (if b then some v else none) (.returned (.bool b)) w3 := by
  refine ⟨v, by cases b <;> rfl, but_trans (but_trans (but_of_below g hb1) (but_set w1 g j _)) (but_of_below g hb3), hB.on hb3, fun u hu => ?_⟩
  cases b
  · simp at hu
  · simpa using hu
theorem NumRes.bad {w w1 : World} {g j : Nat} {cs : Array Value} {T : TypeId} {k : IntKind} {v : Int} (hb1 : Below w.heap.size w w1) (hB : Blk (w1.setCell ⟨g, j, none⟩ (.int k v)) g (cs.setIfInBounds j (.int k v)) T) :
    NumRes w g j cs T k none (.returned (.bool false)) (w1.setCell ⟨g, j, none⟩ (.int k v)) :=
  ⟨v, rfl, but_trans (but_of_below g hb1) (but_set w1 g j _), hB, fun u hu => by cases hu⟩

set_option maxHeartbeats 1000000 in
set_option maxRecDepth 100000 in
theorem number_any (w : World) (s : ByteArray) (g j : Nat) (cs : Array Value) (T : TypeId) (z : Int) (hs : s.size ≤ 1099511627776) (hE : Env w) (hg : lowG ≤ g) (hB : Blk w g cs T) (hj : cs[j]? = some (.int .i64 z)) :
    Calls Tryz.prog 117 #[.string s, .pointer (some ⟨g, j, none⟩)] w (NumRes w g j cs T .i64 (numP s.data.toList)) := by
  obtain ⟨⟨t1, p1, he1⟩, ⟨t2, p2, he2⟩⟩ := hE.errs
  have HE1 := Lib.hid he1; clear he1
  have HE2 := Lib.hid he2; clear he2
  have HB := Lib.hid hB; clear hB
  have HJ := Lib.hid hj; clear hj
  cases ha : Lib.atoiAll s.data.toList with
  | ok v =>
    have hb := Lib.atoiAll_bounds ha
    have HA := Lib.hid (Tryz.strconv_Atoi_ok s (by omega) v ha w)
    have hbe := str_beq (Lib.itoa v) s
    have hr : numP s.data.toList = if Lib.itoa v = s.data.toList then some v else none := by unfold numP; rw [ha]
    obtain ⟨b, hbv⟩ : ∃ b, decide (Lib.itoa v = s.data.toList) = b := ⟨_, rfl⟩
    rw [hbv] at hbe
    have HR : Hid (numP s.data.toList = if b then some v else none) := by
      show numP _ = _
      rw [hr, ← hbv]
      by_cases h : Lib.itoa v = s.data.toList <;> simp [h]
    rw [HR.out]
    obtain ⟨r, hr'⟩ : ∃ r : Option Int, r = if b then some v else none := ⟨_, rfl⟩
    rw [← hr']
    have HQ := Lib.hid hr'; clear hr'
    obtain ⟨t, ht⟩ : ∃ t : ByteArray, t = ⟨(Lib.itoa v).toArray⟩ := ⟨_, rfl⟩
    have HF := Lib.hid (fun (w' : World) (h : Env w') => itoa_below hb.1 hb.2 h.tab)
    rw [← ht] at hbe HF
    clear ha hr hbv HR ht hb
    go_enter Tryz.func117, Tryz.ntmps117
    go_wp2_with fail
    refine HA.out.mono ?_
    rintro e w1 ⟨rfl, hw1⟩
    have hb1 := below_atoi hw1
    have hB1 := HB.out.on hb1
    have hc := hB1.cell j
    rw [HJ.out] at hc
    have hf := hB1.free j
    have HB2 := Lib.hid (hB1.set j (.int .i64 v))
    have hE2 : Env (w1.setCell ⟨g, j, none⟩ (.int .i64 v)) := (hE.on hb1).but (but_set w1 g j _) hg
    clear hw1 hB1
    go_wp2_with fail
    refine (HF.out _ hE2).mono ?_
    rintro e w3 ⟨rfl, hb3⟩
    cases b
    · go_wp2
      go_ret
      rw [HQ.out]
      exact NumRes.ok hb1 hb3 HB2.out false
    · go_wp2
      go_ret
      rw [HQ.out]
      exact NumRes.ok hb1 hb3 HB2.out true
  | «syntax» =>
    have HR : Hid (numP s.data.toList = none) := by show numP s.data.toList = none; unfold numP; rw [ha]
    have HA := Lib.hid (Tryz.strconv_Atoi_syntax s (by omega) ha _ w HE1.out (Or.inr ⟨_, _, rfl⟩))
    rw [HR.out]
    clear ha HR
    go_enter Tryz.func117, Tryz.ntmps117
    go_wp2_with fail
    refine HA.out.mono ?_
    rintro e w1 ⟨N, rfl, _, _, hb1⟩
    have hB1 := HB.out.on hb1
    have hc := hB1.cell j
    rw [HJ.out] at hc
    have hf := hB1.free j
    have HB2 := Lib.hid (hB1.set j (.int .i64 0))
    clear hB1
    go_wp2
    go_ret
    exact NumRes.bad hb1 HB2.out
  | range =>
    have HR : Hid (numP s.data.toList = none) := by show numP s.data.toList = none; unfold numP; rw [ha]
    have HA := Lib.hid (Tryz.strconv_Atoi_range s (by omega) ha _ w HE2.out (Or.inr ⟨_, _, rfl⟩))
    rw [HR.out]
    clear ha HR
    obtain ⟨mx, hmx⟩ : ∃ mx : Int, mx = Lib.atoiSat s.data.toList := ⟨_, rfl⟩
    rw [← hmx] at HA
    clear hmx
    go_enter Tryz.func117, Tryz.ntmps117
    go_wp2_with fail
    refine HA.out.mono ?_
    rintro e w1 ⟨N, rfl, _, _, hb1⟩
    have hB1 := HB.out.on hb1
    have hc := hB1.cell j
    rw [HJ.out] at hc
    have hf := hB1.free j
    have HB2 := Lib.hid (hB1.set j (.int .i64 mx))
    clear hB1
    go_wp2
    go_ret
    exact NumRes.bad hb1 HB2.out
set_option maxHeartbeats 1000000 in
set_option maxRecDepth 100000 in
theorem bits_any (w : World) (s : ByteArray) (g j : Nat) (cs : Array Value) (T : TypeId) (z : Int) (hs : s.size ≤ 1099511627776) (hE : Env w) (hg : lowG ≤ g) (hB : Blk w g cs T) (hj : cs[j]? = some (.int .u64 z)) :
    Calls Tryz.prog 119 #[.string s, .pointer (some ⟨g, j, none⟩)] w (NumRes w g j cs T .u64 (Option.map (fun v : Nat => (v : Int)) (bitsP s.data.toList))) := by
  obtain ⟨⟨t1, p1, he1⟩, ⟨t2, p2, he2⟩⟩ := hE.errs
  have HE1 := Lib.hid he1; clear he1
  have HE2 := Lib.hid he2; clear he2
  have HB := Lib.hid hB; clear hB
  have HJ := Lib.hid hj; clear hj
  cases ha : Lib.parseUintB 64 s.data.toList with
  | ok v =>
    have hb := Lib.parseUintB_le ha
    have HA := Lib.hid (Tryz.strconv_ParseUint_10_at64_ok s (by omega) v ha w)
    have hbe := str_beq (Lib.decDigits v) s
    have hr : bitsP s.data.toList = if Lib.decDigits v = s.data.toList then some v else none := by unfold bitsP; rw [ha]
    obtain ⟨b, hbv⟩ : ∃ b, decide (Lib.decDigits v = s.data.toList) = b := ⟨_, rfl⟩
    rw [hbv] at hbe
    have HR : Hid (bitsP s.data.toList = if b then some v else none) := by
      show bitsP _ = _
      rw [hr, ← hbv]
      by_cases h : Lib.decDigits v = s.data.toList <;> simp [h]
    have HR3 : Hid (Option.map (fun v : Nat => (v : Int)) (bitsP s.data.toList) = if b then some (v : Int) else none) := by
      show Option.map _ _ = _
      rw [HR.out]; cases b <;> rfl
    rw [HR3.out]
    obtain ⟨r, hr'⟩ : ∃ r : Option Int, r = if b then some (v : Int) else none := ⟨_, rfl⟩
    rw [← hr']
    have HQ := Lib.hid hr'; clear hr'
    obtain ⟨t, ht⟩ : ∃ t : ByteArray, t = ⟨(Lib.decDigits v).toArray⟩ := ⟨_, rfl⟩
    have HF := Lib.hid (fun (w' : World) (h : Env w') => fmtU_any w' v (by omega) h.tab)
    rw [← ht] at hbe HF
    clear ha hr hbv HR ht hb
    go_enter Tryz.func119, Tryz.ntmps119
    go_wp2_with fail
    refine HA.out.mono ?_
    rintro e w1 ⟨rfl, hw1⟩
    have hb1 := below_pu hw1
    have hB1 := HB.out.on hb1
    have hc := hB1.cell j
    rw [HJ.out] at hc
    have hf := hB1.free j
    have HB2 := Lib.hid (hB1.set j (.int .u64 v))
    have hE2 : Env (w1.setCell ⟨g, j, none⟩ (.int .u64 v)) := (hE.on hb1).but (but_set w1 g j _) hg
    clear hw1 hB1
    go_wp2_with fail
    refine (HF.out _ hE2).mono ?_
    rintro e w3 ⟨rfl, hb3⟩
    cases b
    · go_wp2
      go_ret
      rw [HQ.out]
      exact NumRes.ok hb1 hb3 HB2.out false
    · go_wp2
      go_ret
      rw [HQ.out]
      exact NumRes.ok hb1 hb3 HB2.out true
  | «syntax» =>
    have HR : Hid (Option.map (fun v : Nat => (v : Int)) (bitsP s.data.toList) = none) := by show Option.map (fun v : Nat => (v : Int)) (bitsP s.data.toList) = none; unfold bitsP; rw [ha]; rfl
    have HA := Lib.hid (Tryz.strconv_ParseUint_10_at64_syntax s (by omega) ha _ w HE1.out (Or.inr ⟨_, _, rfl⟩))
    rw [HR.out]
    clear ha HR
    go_enter Tryz.func119, Tryz.ntmps119
    go_wp2_with fail
    refine HA.out.mono ?_
    rintro e w1 ⟨N, rfl, _, _, hb1⟩
    have hB1 := HB.out.on hb1
    have hc := hB1.cell j
    rw [HJ.out] at hc
    have hf := hB1.free j
    have HB2 := Lib.hid (hB1.set j (.int .u64 0))
    clear hB1
    go_wp2
    go_ret
    exact NumRes.bad hb1 HB2.out
  | range =>
    have HR : Hid (Option.map (fun v : Nat => (v : Int)) (bitsP s.data.toList) = none) := by show Option.map (fun v : Nat => (v : Int)) (bitsP s.data.toList) = none; unfold bitsP; rw [ha]; rfl
    have HA := Lib.hid (Tryz.strconv_ParseUint_10_at64_range s (by omega) ha _ w HE2.out (Or.inr ⟨_, _, rfl⟩))
    rw [HR.out]
    clear ha HR
    obtain ⟨mx, hmx⟩ : ∃ mx : Int, mx = 18446744073709551615 := ⟨_, rfl⟩
    rw [← hmx] at HA
    clear hmx
    go_enter Tryz.func119, Tryz.ntmps119
    go_wp2_with fail
    refine HA.out.mono ?_
    rintro e w1 ⟨N, rfl, _, _, hb1⟩
    have hB1 := HB.out.on hb1
    have hc := hB1.cell j
    rw [HJ.out] at hc
    have hf := hB1.free j
    have HB2 := Lib.hid (hB1.set j (.int .u64 mx))
    clear hB1
    go_wp2
    go_ret
    exact NumRes.bad hb1 HB2.out
end Go.Proofs.YtipbakdodbmfjaaGreatDoor

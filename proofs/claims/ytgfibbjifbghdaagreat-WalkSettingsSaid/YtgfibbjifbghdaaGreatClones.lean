/- Contracts of slices.Clone at strings, bytes, numbers and data: the same, in memory of their own. -/
import Derived.Test.YtgfibbjifbghdaaGreatFact
import Derived.Test.YtgfibbjifbghdaaGreatBase2
import Derived.Test.YtgfibbjifbghdaaGreatBuilder
namespace Go.Proofs.YtgfibbjifbghdaaGreat
open Go.ChangeShapes Go.WideShapes Go.ChangeAt Go.RowKit

/-- a row in memory of a type's own, from block B on -/
structure Own1 (T : List TypeId) (B : Nat) (w : World) (ao : Option Addr) (n c : Nat) (vs : List Value) : Prop where
  row : Row w ao n c vs
  mem : rowIn (fun b => tagged T w b ∧ B ≤ b) ao n
theorem Own1.step {T : List TypeId} {B : Nat} {w w' : World} {ao : Option Addr} {n c : Nat} {vs : List Value} (h : Own1 T B w ao n c vs) (hs : Same (fun b => tagged T w b ∧ B ≤ b) w w') : Own1 T B w' ao n c vs :=
  ⟨h.row.keep h.mem hs, fun h0 a ha => by
    have h1 := h.mem h0 a ha
    exact ⟨tagged_keep h1.1 (hs _ (tagged_lt h1.1) h1), h1.2⟩⟩
theorem Own1.on {T : List TypeId} {B : Nat} {w w' : World} {ao : Option Addr} {n c : Nat} {vs : List Value} (h : Own1 T B w ao n c vs) (hb : Below w.heap.size w w') : Own1 T B w' ao n c vs := h.step (Same.below hb _)
theorem Own1.mono {T : List TypeId} {B B' : Nat} {w : World} {ao : Option Addr} {n c : Nat} {vs : List Value} (h : Own1 T B w ao n c vs) (hB : B' ≤ B) : Own1 T B' w ao n c vs := ⟨h.row, fun h0 a ha => ⟨(h.mem h0 a ha).1, Nat.le_trans hB (h.mem h0 a ha).2⟩⟩
theorem own1_of_owns {w : World} {base : Nat} {e : TypeId} {v : Value} {n : Nat} {xs : List Value} (h : w.ownsRow base e 1 v n xs) (hmx : n ≤ 140737488355328) :
    ∃ ao cap, v = .slice ao n cap ∧ Own1 [e] base w ao n cap xs := by
  obtain ⟨ao, cap, hv, hr⟩ := row_of_owns h hmx
  refine ⟨ao, cap, hv, hr, fun h0 a ha => ?_⟩
  subst hv
  rcases h.2 with ⟨_, hn⟩ | ⟨g, c, cur, e1, hg, hh, _⟩
  · omega
  · cases e1
    cases ha
    exact ⟨⟨_, _, hh, List.mem_singleton.2 rfl⟩, hg⟩
theorem infoInt : (Tryz.prog.info? 3).map (fun i => (i.zero, i.size, i.bytes)) = some (some (.int .i64 0), 1, 8) := by kernel_rfl
set_option maxHeartbeats 1000000 in
set_option maxRecDepth 100000 in
theorem clone_strs (w : World) (ao : Option Addr) (len cap : Nat) (vs : List Value) (hs : Row w ao len cap vs) (h1 : ∀ u ∈ vs, u.oneCell' = true) (hb : len * 16 ≤ 140737488355328) :
    Calls Tryz.prog 14 #[.slice ao len cap] w fun e w' => (∃ ao' c', e = .returned (.slice ao' len c') ∧ Own1 [9] w.heap.size w' ao' len c' vs) ∧ Below w.heap.size w w' := by
  have hl := hs.hlen
  have hmx := hs.hmax
  cases ao with
  | none =>
    have hc := hs.hnil rfl
    have hm : len = 0 := by have := hs.hle; omega
    have hs0 := Lib.hid hs
    subst hc; subst hm
    have hnil : ∀ w : World, (binOp .eql 29 (.slice none 0 0) (.slice none 0 0)).run Tryz.prog w = .ok (.bool true) w := fun w => by kernel_rfl
    clear hs h1 hl
    go_enter Tryz.func14, Tryz.ntmps14
    go_wp2
    go_ret
    exact ⟨⟨none, 0, rfl, hs0.out, rowIn_zero _ _⟩, Below.refl _ _⟩
  | some a =>
    obtain ⟨i0, hi, hz0, hz1, hz2⟩ := info_parts strInfo
    have hbel : Below w.heap.size w (w.alloc (.cells #[] 9)) := (Below.refl _ _).alloc (Nat.le_refl _) _
    obtain ⟨v', w1, hrun, hown, hgrow⟩ := append_row (P := Tryz.prog) (w.alloc (.cells #[] 9)) w.heap.size 29 29 9 i0 _ 16 Tryz.underlying29 hi hz0 hz1 hz2 rfl (.slice (some ⟨w.heap.size, 0, none⟩) 0 0) 0 []
      (World.ownsRow_made w #[] 0 (Nat.le_refl _) (by unfold maxLen; omega) rfl) (some a) len cap vs (hs.below hbel (Nat.le_refl _)) h1 (by omega) (by omega) (by simp)
    have hg := Lib.hid (hbel.grown hgrow (by simp) (by intro k hk; simp [Value.ownBlock] at hk; omega))
    clear hgrow hbel
    rw [List.nil_append, Nat.zero_add] at hown
    obtain ⟨ao', cap', rfl, hs'⟩ := own1_of_owns hown hmx
    have HO := Lib.hid hs'
    clear hown hi hz0 hz1 hz2 hb hs' hs h1 hl
    have HR := Lib.hid hrun; clear hrun
    have hnil : ∀ w : World, (binOp .eql 29 (.slice (some a) len cap) (.slice none 0 0)).run Tryz.prog w = .ok (.bool false) w := fun w => Lib.run_eql_slice_nil w 29 9 (some a) len cap 0 0 Tryz.underlying29
    have hbs : ∀ w : World, (Instr.buildSlice 29 0 #[]).run Tryz.prog w = .ok (.slice (some ⟨w.heap.size, 0, none⟩) 0 0) (w.alloc (.cells #[] 9)) := fun _ => by kernel_rfl
    go_enter Tryz.func14, Tryz.ntmps14
    go_wp2_with (at_builtin; refine wpList_append_run rfl _ _ _ rfl _ _ rfl rfl HR.out ?_)
    go_ret
    exact ⟨⟨ao', cap', rfl, HO.out⟩, hg.out⟩
set_option maxHeartbeats 1000000 in
set_option maxRecDepth 100000 in
theorem clone_byts (w : World) (ao : Option Addr) (len cap : Nat) (vs : List Value) (hs : Row w ao len cap vs) (h1 : ∀ u ∈ vs, u.oneCell' = true) (hb : len * 1 ≤ 140737488355328) :
    Calls Tryz.prog 130 #[.slice ao len cap] w fun e w' => (∃ ao' c', e = .returned (.slice ao' len c') ∧ Own1 [5] w.heap.size w' ao' len c' vs) ∧ Below w.heap.size w w' := by
  have hl := hs.hlen
  have hmx := hs.hmax
  cases ao with
  | none =>
    have hc := hs.hnil rfl
    have hm : len = 0 := by have := hs.hle; omega
    have hs0 := Lib.hid hs
    subst hc; subst hm
    have hnil : ∀ w : World, (binOp .eql 28 (.slice none 0 0) (.slice none 0 0)).run Tryz.prog w = .ok (.bool true) w := fun w => by kernel_rfl
    clear hs h1 hl
    go_enter Tryz.func130, Tryz.ntmps130
    go_wp2
    go_ret
    exact ⟨⟨none, 0, rfl, hs0.out, rowIn_zero _ _⟩, Below.refl _ _⟩
  | some a =>
    obtain ⟨i0, hi, hz0, hz1, hz2⟩ := info_parts infoByte
    have hbel : Below w.heap.size w (w.alloc (.cells #[] 5)) := (Below.refl _ _).alloc (Nat.le_refl _) _
    obtain ⟨v', w1, hrun, hown, hgrow⟩ := append_row (P := Tryz.prog) (w.alloc (.cells #[] 5)) w.heap.size 28 28 5 i0 _ 1 Tryz.underlying28 hi hz0 hz1 hz2 rfl (.slice (some ⟨w.heap.size, 0, none⟩) 0 0) 0 []
      (World.ownsRow_made w #[] 0 (Nat.le_refl _) (by unfold maxLen; omega) rfl) (some a) len cap vs (hs.below hbel (Nat.le_refl _)) h1 (by omega) (by omega) (by simp)
    have hg := Lib.hid (hbel.grown hgrow (by simp) (by intro k hk; simp [Value.ownBlock] at hk; omega))
    clear hgrow hbel
    rw [List.nil_append, Nat.zero_add] at hown
    obtain ⟨ao', cap', rfl, hs'⟩ := own1_of_owns hown hmx
    have HO := Lib.hid hs'
    clear hown hi hz0 hz1 hz2 hb hs' hs h1 hl
    have HR := Lib.hid hrun; clear hrun
    have hnil : ∀ w : World, (binOp .eql 28 (.slice (some a) len cap) (.slice none 0 0)).run Tryz.prog w = .ok (.bool false) w := fun w => Lib.run_eql_slice_nil w 28 5 (some a) len cap 0 0 Tryz.underlying28
    have hbs : ∀ w : World, (Instr.buildSlice 28 0 #[]).run Tryz.prog w = .ok (.slice (some ⟨w.heap.size, 0, none⟩) 0 0) (w.alloc (.cells #[] 5)) := fun _ => by kernel_rfl
    go_enter Tryz.func130, Tryz.ntmps130
    go_wp2_with (at_builtin; refine wpList_append_run rfl _ _ _ rfl _ _ rfl rfl HR.out ?_)
    go_ret
    exact ⟨⟨ao', cap', rfl, HO.out⟩, hg.out⟩
set_option maxHeartbeats 1000000 in
set_option maxRecDepth 100000 in
theorem clone_ints (w : World) (ao : Option Addr) (len cap : Nat) (vs : List Value) (hs : Row w ao len cap vs) (h1 : ∀ u ∈ vs, u.oneCell' = true) (hb : len * 8 ≤ 140737488355328) :
    Calls Tryz.prog 185 #[.slice ao len cap] w fun e w' => (∃ ao' c', e = .returned (.slice ao' len c') ∧ Own1 [3] w.heap.size w' ao' len c' vs) ∧ Below w.heap.size w w' := by
  have hl := hs.hlen
  have hmx := hs.hmax
  cases ao with
  | none =>
    have hc := hs.hnil rfl
    have hm : len = 0 := by have := hs.hle; omega
    have hs0 := Lib.hid hs
    subst hc; subst hm
    have hnil : ∀ w : World, (binOp .eql 96 (.slice none 0 0) (.slice none 0 0)).run Tryz.prog w = .ok (.bool true) w := fun w => by kernel_rfl
    clear hs h1 hl
    go_enter Tryz.func185, Tryz.ntmps185
    go_wp2
    go_ret
    exact ⟨⟨none, 0, rfl, hs0.out, rowIn_zero _ _⟩, Below.refl _ _⟩
  | some a =>
    obtain ⟨i0, hi, hz0, hz1, hz2⟩ := info_parts infoInt
    have hbel : Below w.heap.size w (w.alloc (.cells #[] 3)) := (Below.refl _ _).alloc (Nat.le_refl _) _
    obtain ⟨v', w1, hrun, hown, hgrow⟩ := append_row (P := Tryz.prog) (w.alloc (.cells #[] 3)) w.heap.size 96 96 3 i0 _ 8 Tryz.underlying96 hi hz0 hz1 hz2 rfl (.slice (some ⟨w.heap.size, 0, none⟩) 0 0) 0 []
      (World.ownsRow_made w #[] 0 (Nat.le_refl _) (by unfold maxLen; omega) rfl) (some a) len cap vs (hs.below hbel (Nat.le_refl _)) h1 (by omega) (by omega) (by simp)
    have hg := Lib.hid (hbel.grown hgrow (by simp) (by intro k hk; simp [Value.ownBlock] at hk; omega))
    clear hgrow hbel
    rw [List.nil_append, Nat.zero_add] at hown
    obtain ⟨ao', cap', rfl, hs'⟩ := own1_of_owns hown hmx
    have HO := Lib.hid hs'
    clear hown hi hz0 hz1 hz2 hb hs' hs h1 hl
    have HR := Lib.hid hrun; clear hrun
    have hnil : ∀ w : World, (binOp .eql 96 (.slice (some a) len cap) (.slice none 0 0)).run Tryz.prog w = .ok (.bool false) w := fun w => Lib.run_eql_slice_nil w 96 3 (some a) len cap 0 0 Tryz.underlying96
    have hbs : ∀ w : World, (Instr.buildSlice 96 0 #[]).run Tryz.prog w = .ok (.slice (some ⟨w.heap.size, 0, none⟩) 0 0) (w.alloc (.cells #[] 3)) := fun _ => by kernel_rfl
    go_enter Tryz.func185, Tryz.ntmps185
    go_wp2_with (at_builtin; refine wpList_append_run rfl _ _ _ rfl _ _ rfl rfl HR.out ?_)
    go_ret
    exact ⟨⟨ao', cap', rfl, HO.out⟩, hg.out⟩
theorem dataInfo : (Tryz.prog.info? 98).map (fun i => (i.zero.map fun z => z.cells.size, i.size)) = some (some 5, 5) := by kernel_rfl
theorem dataBytes : (Tryz.prog.info? 98).map (fun i => decide (i.bytes ≤ 400)) = some true := by kernel_rfl
/-- the cells of a slice of data, one behind the other -/
def dataCells (ks : List DataH) : List Value := ks.flatMap fun k => (dataC k).toList
theorem dataCells_len : ∀ ks : List DataH, (dataCells ks).length = ks.length * 5
  | [] => rfl
  | k :: ks => by
    have := dataCells_len ks
    simp only [dataCells, List.flatMap_cons, List.length_append, List.length_cons] at this ⊢
    rw [this]
    simp [dataC]
    omega
theorem dataCells_at : ∀ (ks : List DataH) (i j : Nat) (hi : i < ks.length), j < 5 → (dataCells ks)[i * 5 + j]? = (dataC ks[i])[j]?
  | k :: ks, 0, j, _, hj => by
    simp only [dataCells, List.flatMap_cons, List.getElem_cons_zero]
    rw [List.getElem?_append_left (by simp [dataC]; omega)]
    simp
  | k :: ks, i + 1, j, hi, hj => by
    have ih := dataCells_at ks i j (by simpa using hi) hj
    simp only [dataCells, List.flatMap_cons, List.getElem_cons_succ] at ih ⊢
    rw [List.getElem?_append_right (by simp [dataC]; omega), ← ih]
    congr 1
    simp [dataC]
    omega
theorem dataCells_one (ks : List DataH) : ∀ u ∈ dataCells ks, u.oneCell' = true := by
  intro u hu
  obtain ⟨k, _, hk⟩ := List.mem_flatMap.1 hu
  simp [dataC] at hk
  rcases hk with rfl | rfl | rfl | rfl | rfl <;> rfl
/-- the handles of a slice of data -/
theorem Seq.handles {S : Nat → Prop} {w : World} {ao : Option Addr} {n c : Nat} {ds : List DataP} (h : Datas S w ao n c ds) : ∃ ks : List DataH, ks.length = n ∧ (∀ i (hi : i < ks.length) (hd : i < ds.length), IsData w ks[i] ds[i] ∧ DataIn S ks[i]) ∧
    (0 < n → ∃ b off, ao = some ⟨b, off, none⟩ ∧ ∀ j u, (dataCells ks)[j]? = some u → w.cell? ⟨b, off + j, none⟩ = some u) := by
  have hl := h.hlen
  rcases Nat.eq_zero_or_pos n with h0 | h0
  · subst h0
    exact ⟨[], rfl, fun i hi => absurd hi (by simp), fun h => absurd h (by omega)⟩
  · obtain ⟨b, off, e, _, hc⟩ := h.hcells h0
    have key : ∀ i, i < n → ∃ k : DataH, ∀ hd : i < ds.length, (∀ j, j < 5 → w.cell? ⟨b, off + i * 5 + j, none⟩ = (dataC k)[j]?) ∧ IsData w k ds[i] ∧ DataIn S k := by
      intro i hi
      obtain ⟨k, h1, h2, h3⟩ := data_elem (hc i (by omega))
      exact ⟨k, fun _ => ⟨h1, h2, h3⟩⟩
    have inst : Inhabited DataH := ⟨⟨none, 0, 0, none, 0, 0, none, 0, 0, none, 0, 0, none, 0, 0⟩⟩
    obtain ⟨f, hf⟩ := Deep.choose_lt key
    refine ⟨(List.range n).map f, by simp, fun i hi hd => ?_, fun _ => ⟨b, off, e, fun j u hu => ?_⟩⟩
    · have := hf i (by simpa using hi) hd
      simpa using this.2
    · have hj : j < ((List.range n).map f).length * 5 := by
        rw [← dataCells_len]
        rcases Nat.lt_or_ge j (dataCells ((List.range n).map f)).length with h | h
        · exact h
        · rw [List.getElem?_eq_none h] at hu; cases hu
      simp only [List.length_map, List.length_range] at hj
      have hq : j / 5 < n := by omega
      have hm : j % 5 < 5 := Nat.mod_lt _ (by decide)
      have h1 := (hf (j / 5) hq (by omega)).1 (j % 5) hm
      have h2 := dataCells_at ((List.range n).map f) (j / 5) (j % 5) (by simpa using hq) hm
      rw [show j / 5 * 5 + j % 5 = j by omega, hu] at h2
      rw [show off + j = off + j / 5 * 5 + j % 5 by omega, h1, h2]
      simp
set_option maxHeartbeats 2000000 in
set_option maxRecDepth 100000 in
theorem clone_datas (w : World) (S : Nat → Prop) (ao : Option Addr) (n c : Nat) (ds : List DataP) (hds : Datas S w ao n c ds) (hn : n ≤ 1048576) :
    Calls Tryz.prog 164 #[.slice ao n c] w fun e w' => (∃ v ks, e = .returned v ∧ w'.ownsRow w.heap.size 98 5 v n (dataCells ks) ∧ ks.length = n ∧ ∀ i (hi : i < ks.length) (hd : i < ds.length), IsData w' ks[i] ds[i] ∧ DataIn (fun b => S b ∧ b < w.heap.size) ks[i]) ∧ Below w.heap.size w w' := by
  have hl := hds.hlen
  have hle := hds.hle
  have hmx := hds.hmax
  obtain ⟨ks, hkl, hk, hkc⟩ := (hds.mono (S' := fun b => S b ∧ b < w.heap.size) (fun b hb h => ⟨h, hb⟩)).handles
  cases ao with
  | none =>
    have hc := hds.hnil rfl
    have hm : n = 0 := by omega
    subst hc; subst hm
    have hnil : ∀ w : World, (binOp .eql 95 (.slice none 0 0) (.slice none 0 0)).run Tryz.prog w = .ok (.bool true) w := fun w => by kernel_rfl
    have HK := Lib.hid hkl
    clear hds hl hk hkc hkl
    go_enter Tryz.func164, Tryz.ntmps164
    go_wp2
    go_ret
    exact ⟨⟨_, [], rfl, World.ownsRow_nil _ _ _ _, rfl, fun i hi => absurd hi (by simp)⟩, Below.refl _ _⟩
  | some a =>
    obtain ⟨i0, hi, hii⟩ := Option.map_eq_some_iff.1 dataInfo
    simp only [Prod.mk.injEq] at hii
    obtain ⟨z, hz, hzs⟩ := Option.map_eq_some_iff.1 hii.1
    have hby : i0.bytes ≤ 400 := by
      have := dataBytes
      rw [hi] at this
      simpa using this
    have hbel : Below w.heap.size w (w.alloc (.cells #[] 98)) := (Below.refl _ _).alloc (Nat.le_refl _) _
    have hmul : n * i0.bytes ≤ 1048576 * 400 := Nat.mul_le_mul hn hby
    obtain ⟨v', w1, hrun, hown, hgrow, _⟩ := run_append_own (P := Tryz.prog) (w.alloc (.cells #[] 98)) w.heap.size 95 95 98 i0 z 5 i0.bytes Tryz.underlying95 hi hz hii.2 rfl hzs (by decide) (.slice (some ⟨w.heap.size, 0, none⟩) 0 0) 0 []
      (World.ownsRow_made w #[] 0 (Nat.le_refl _) (by unfold maxLen; omega) rfl) a n c (dataCells ks) (by rw [dataCells_len, hkl]) (by
      intro j u hj
      have hj' : j < n * 5 := by
        rw [← hkl, ← dataCells_len]
        rcases Nat.lt_or_ge j (dataCells ks).length with h | h
        · exact h
        · rw [List.getElem?_eq_none h] at hj; cases hj
      obtain ⟨b, off, e', hc⟩ := hkc (by omega)
      cases e'
      rw [addr_add]
      exact cell_keep hbel (hc j u hj)) (dataCells_one ks) (by unfold maxLen; omega) (by rw [Nat.zero_add]; omega) (by simp)
    have hb2 := hbel.grown hgrow (by simp) (by intro k hk; simp [Value.ownBlock] at hk; omega)
    have hg := Lib.hid hb2
    rw [List.nil_append, Nat.zero_add] at hown
    have HO := Lib.hid hown
    have HK := Lib.hid (show ∀ i (hi : i < ks.length) (hd : i < ds.length), IsData w1 ks[i] ds[i] ∧ DataIn (fun b => S b ∧ b < w.heap.size) ks[i] from fun i hi hd => ⟨(hk i hi hd).1.on hb2, (hk i hi hd).2⟩)
    have HKL := Lib.hid hkl
    clear hown hi hii hz hzs hby hmul hds hl hk hkc hkl hb2 hbel hgrow
    have HR := Lib.hid hrun; clear hrun
    have hnil : ∀ w : World, (binOp .eql 95 (.slice (some a) n c) (.slice none 0 0)).run Tryz.prog w = .ok (.bool false) w := fun w => Lib.run_eql_slice_nil w 95 98 (some a) n c 0 0 Tryz.underlying95
    have hbs : ∀ w : World, (Instr.buildSlice 95 0 #[]).run Tryz.prog w = .ok (.slice (some ⟨w.heap.size, 0, none⟩) 0 0) (w.alloc (.cells #[] 98)) := fun _ => by kernel_rfl
    go_enter Tryz.func164, Tryz.ntmps164
    go_wp2_with (at_builtin; refine wpList_append_run rfl _ _ _ rfl _ _ rfl rfl HR.out ?_)
    go_ret
    exact ⟨⟨_, ks, rfl, HO.out, HKL.out, HK.out⟩, hg.out⟩
end Go.Proofs.YtgfibbjifbghdaaGreat

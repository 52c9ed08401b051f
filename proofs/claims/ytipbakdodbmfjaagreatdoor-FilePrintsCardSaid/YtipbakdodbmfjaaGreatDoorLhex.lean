/- The contract of the statements' own hex: bytes as they are written. -/
import Derived.Test.YtipbakdodbmfjaaGreatDoorHex
import Derived.Test.YtipbakdodbmfjaaGreatDoorParse
import Derived.Test.YtipbakdodbmfjaaGreatDoorRegion
import Derived.IntWalk
namespace Go.Proofs.YtipbakdodbmfjaaGreatDoor
open Go.ChangeShapes Go.WideShapes Go.ChangeAt Go.RowKit

theorem conv_owned {w : World} {B n : Nat} {v : Value} {l : List UInt8} (h : w.ownsRow B 5 1 v n (l.map fun c => Value.int .u8 (c.toNat : Int))) :
    (convert 29 9 v).run Tryz.prog w = .ok (.string ⟨l.toArray⟩) w := by
  have hn : l.length = n := by have := h.1; simpa using this
  rcases h.2 with ⟨rfl, h0⟩ | ⟨g, cap, cur, rfl, _⟩
  · have : l = [] := List.eq_nil_of_length_eq_zero (by omega)
    subst this
    exact run_convert_bytes_nil (P := Tryz.prog) (w := w) 29 5 Tryz.underlying29 Tryz.underlying5 _ _ 9 Tryz.underlying9
  · have := run_convert_bytes_arg (P := Tryz.prog) w 29 5 Tryz.underlying29 Tryz.underlying5 g 0 n cap (l.map fun c => (c.toNat : Int)) (by simpa using hn) (fun i hi => by
      rw [Nat.zero_add]
      have h2 := h.cellAt i (by omega)
      rw [h2]
      have hi' : i < l.length := by omega
      simp [List.getD, hi']) 9 Tryz.underlying9
    rw [this, strOfNums_bytes]
theorem row_lit (w : World) (vs : List Value) (e : TypeId) (h : vs.length ≤ 1000) : Row (w.alloc (.cells vs.toArray e)) (some ⟨w.heap.size, 0, none⟩) vs.length vs.length vs := by
  refine ⟨rfl, Nat.le_refl _, by omega, by omega, fun e => (by cases e), fun h0 => ⟨w.heap.size, 0, rfl, fun i hi => ?_⟩⟩
  have := World.cell?_alloc_new w vs.toArray e i
  rw [Nat.zero_add, this, List.getElem?_toArray, List.getElem?_eq_getElem hi]
set_option maxHeartbeats 2000000 in
set_option maxRecDepth 100000 in
theorem lhex_any (w : World) (ao : Option Addr) (len cap : Nat) (l : List UInt8) (hs : Byts w ao len cap l) (hb : len ≤ 1099511627776) :
    Calls Tryz.prog 73 #[.slice ao len cap] w fun e w' => e = .returned (.string ⟨(hexP l).toArray⟩) ∧ Below w.heap.size w w' := by
  have hl : l.length = len := by simpa using hs.hlen
  have hcap := hs.hcap
  have hle := hs.hle
  have HL := Lib.hid hl; clear hl
  have hown0 : (w.alloc (.cells #[.int .u8 120] 5)).ownsRow w.heap.size 5 1 (.slice (some ⟨w.heap.size, 0, none⟩) 1 1) 1 ((hexP (l.take 0)).map fun c => Value.int .u8 (c.toNat : Int)) :=
    World.ownsRow_lit w #[.int .u8 120] 1 (Nat.le_refl _) (by unfold maxLen; omega) rfl
  have HO := Lib.hid hown0; clear hown0
  go_enter Tryz.func73, Tryz.ntmps73
  go_wp2_with fail
  go_loopw [4, 5] (fun v i wr => ∃ k : Nat, k ≤ len ∧ i = .int .i64 k ∧ Below w.heap.size w wr ∧ Hid (wr.ownsRow w.heap.size 5 1 v (hexP (l.take k)).length ((hexP (l.take k)).map fun c => Value.int .u8 (c.toNat : Int)))) (fun _ i _ => len - (intOf i).toNat)
  case atStart => exact ⟨0, Nat.zero_le _, rfl, (Below.refl _ _).alloc (Nat.le_refl _) _, HO.out⟩
  case round =>
    obtain ⟨k, hk, rfl, hbr, hown⟩ := hrel
    clear HO
    by_cases hlt : k < len
    · obtain ⟨b, off, rfl⟩ := hs.addr hlt
      have hc := (hs.below hbr (Nat.le_refl _)).at hlt
      have hkl : k < l.length := by have := HL.out; omega
      have hsn := hexB_snoc l k hkl
      rw [List.getElem_map] at hc
      obtain ⟨c, hck⟩ : ∃ c, c = l[k] := ⟨_, rfl⟩
      rw [← hck] at hc hsn
      obtain ⟨n, hn⟩ : ∃ n, c.toNat = n := ⟨_, rfl⟩
      rw [hn] at hc hsn
      have hn2 : n < 256 := by have := c.toNat_lt; omega
      have HN := Lib.hid hsn
      have hlen : (hexP (l.take k)).length ≤ 2199023255553 := by
        rw [hexP, List.length_cons, hexB_len, List.length_take]; omega
      have hkz : (0 : Int) ≤ (k : Int) := Int.natCast_nonneg _
      have hkl2 : (k : Int) < (len : Int) := by omega
      clear hsn hck hn
      have a1 : IntKind.u8.wrap ((n : Int) / 16) = (n : Int) / 16 := IntWalk.u8_in _ (by omega)
      have a2 : ((n : Int) / 16).toNat = n / 16 := by omega
      have a3 : (n : Int) / 16 < 16 := by omega
      have a4 : (n : Int).tmod 16 = (n : Int) % 16 := Int.tmod_eq_emod_of_nonneg (by omega)
      have a5 : 0 ≤ (n : Int) % 16 := by omega
      have a6 : (n : Int) % 16 < 16 := by omega
      have a7 : ((n : Int) % 16).toNat = n % 16 := by omega
      have a8 := digits_get (n / 16) (by omega)
      have a10 : 0 ≤ (n : Int) / 16 := by omega
      have a9 := digits_get (n % 16) (by omega)
      obtain ⟨i0, hi, hz0, hz1, hz2⟩ := info_parts infoByte
      have hlz : wr.drew.heap.size = wr.heap.size := rfl
      obtain ⟨v', w2, hrun, hown2, hgr⟩ := append_row (P := Tryz.prog) (wr.drew.alloc (.cells #[.int .u8 ((hexD (n / 16)).toNat : Int), .int .u8 ((hexD (n % 16)).toNat : Int)] 5)) w.heap.size 29 29 5 i0 _ 1 Tryz.underlying29 hi hz0 hz1 hz2 rfl _ _ _ (hown.out.drew.alloc _) (some ⟨wr.heap.size, 0, none⟩) 2 2 [.int .u8 ((hexD (n / 16)).toNat : Int), .int .u8 ((hexD (n % 16)).toNat : Int)] (row_lit wr.drew [_, _] _ (by simp)) (by intro u hu; simp at hu; rcases hu with rfl | rfl <;> rfl) (by omega) (by omega) (by have := hbr.size; simp; omega)
      have hb4 : Below w.heap.size w w2 := ((Below.drew hbr).alloc (by have := hbr.size; omega) _).grown hgr (by have := hbr.size; simp; omega) (fun j hj => (hown.out.lt j hj).1)
      have HR := Lib.hid hrun
      have HO2 : Hid (w2.ownsRow w.heap.size 5 1 v' (hexP (l.take (k + 1))).length ((hexP (l.take (k + 1))).map fun c => Value.int .u8 (c.toNat : Int))) := by
        show w2.ownsRow _ _ _ _ _ _
        rw [HN.out]
        simpa using hown2
      clear hrun hown2 hgr hi hz0 hz1 hz2 hlz
      go_wp2_with fail
      refine wp_region_any (by kernel_rfl) ?_
      try (change wpAny _ _ _ _ _ _ _ (World.drew _))
      refine wpAny_take (i := 0) (v := ?_) rfl (by kernel_rfl) (by kernel_rfl) (by kernel_rfl) (fun _ _ _ h => h) (Or.inl ⟨?_, ?_⟩) ?_
      rotate_left
      · rfl
      · intro w; go_simp; try with_reducible rfl
      refine wpAny_act (a' := ?_) ?_ ?_
      rotate_left
      · simp only [Act.put, List.getElem_toArray, List.getElem_cons_zero, List.setIfInBounds_toArray, List.set_cons_succ, List.set_cons_zero]; rfl
      refine wpAny_take (i := 1) (v := ?_) rfl (by kernel_rfl) (by kernel_rfl) (by kernel_rfl) (fun _ _ _ h => h) (Or.inl ⟨?_, ?_⟩) ?_
      rotate_left
      · rfl
      · intro w; go_simp; try with_reducible rfl
      refine wpAny_act (a' := ?_) ?_ ?_
      rotate_left
      · simp only [Act.put, List.getElem_toArray, List.getElem_cons_succ, List.getElem_cons_zero, List.setIfInBounds_toArray, List.set_cons_succ, List.set_cons_zero]; rfl
      refine wpAny_take (i := 2) (v := ?_) rfl (by kernel_rfl) (by kernel_rfl) (by kernel_rfl) (fun _ _ _ h => h) (Or.inl ⟨?_, ?_⟩) ?_
      rotate_left
      · rfl
      · intro w; go_simp; try with_reducible rfl
      refine wpAny_act (a' := ?_) ?_ ?_
      rotate_left
      · simp only [Act.put, List.getElem_toArray, List.getElem_cons_succ, List.getElem_cons_zero, List.setIfInBounds_toArray, List.set_cons_succ, List.set_cons_zero]; rfl
      refine wpAny_take (i := 3) (v := ?_) rfl (by kernel_rfl) (by kernel_rfl) (by kernel_rfl) (fun _ _ _ h => h) (Or.inl ⟨?_, ?_⟩) ?_
      rotate_left
      · rfl
      · intro w; go_simp; try with_reducible rfl
      refine wpAny_act (a' := ?_) ?_ ?_
      rotate_left
      · simp only [Act.put, List.getElem_toArray, List.getElem_cons_succ, List.getElem_cons_zero, List.setIfInBounds_toArray, List.set_cons_succ, List.set_cons_zero]; rfl
      refine wpAny_take (i := 4) (v := ?_) rfl (by kernel_rfl) (by kernel_rfl) (by kernel_rfl) (fun _ _ _ h => h) (Or.inl ⟨?_, ?_⟩) ?_
      rotate_left
      · rfl
      · intro w; go_simp; try with_reducible rfl
      refine wpAny_act (a' := ?_) ?_ ?_
      rotate_left
      · simp only [Act.put, List.getElem_toArray, List.getElem_cons_succ, List.getElem_cons_zero, List.setIfInBounds_toArray, List.set_cons_succ, List.set_cons_zero]; rfl
      refine wpAny_take (i := 8) (v := ?_) rfl (by kernel_rfl) (by kernel_rfl) (by kernel_rfl) (fun _ _ _ h => h) (Or.inl ⟨?_, ?_⟩) ?_
      rotate_left
      · rfl
      · intro w; go_simp; try with_reducible rfl
      refine wpAny_act (a' := ?_) ?_ ?_
      rotate_left
      · simp only [Act.put, List.getElem_toArray, List.getElem_cons_succ, List.getElem_cons_zero, List.setIfInBounds_toArray, List.set_cons_succ, List.set_cons_zero]; rfl
      refine wpAny_take (i := 9) (v := ?_) rfl (by kernel_rfl) (by kernel_rfl) (by kernel_rfl) (fun _ _ _ h => h) (Or.inl ⟨?_, ?_⟩) ?_
      rotate_left
      · rfl
      · intro w; go_simp; try with_reducible rfl
      refine wpAny_act (a' := ?_) ?_ ?_
      rotate_left
      · simp only [Act.put, List.getElem_toArray, List.getElem_cons_succ, List.getElem_cons_zero, List.setIfInBounds_toArray, List.set_cons_succ, List.set_cons_zero]; rfl
      refine wpAny_take (i := 10) (v := ?_) rfl (by kernel_rfl) (by kernel_rfl) (by kernel_rfl) (fun _ _ _ h => h) (Or.inl ⟨?_, ?_⟩) ?_
      rotate_left
      · rfl
      · intro w; go_simp; try with_reducible rfl
      refine wpAny_act (a' := ?_) ?_ ?_
      rotate_left
      · simp only [Act.put, List.getElem_toArray, List.getElem_cons_succ, List.getElem_cons_zero, List.setIfInBounds_toArray, List.set_cons_succ, List.set_cons_zero]; rfl
      refine wpAny_take (i := 11) (v := ?_) rfl (by kernel_rfl) (by kernel_rfl) (by kernel_rfl) (fun _ _ _ h => h) (Or.inl ⟨?_, ?_⟩) ?_
      rotate_left
      · rfl
      · intro w; go_simp; try with_reducible rfl
      refine wpAny_act (a' := ?_) ?_ ?_
      rotate_left
      · simp only [Act.put, List.getElem_toArray, List.getElem_cons_succ, List.getElem_cons_zero, List.setIfInBounds_toArray, List.set_cons_succ, List.set_cons_zero]; rfl
      refine wpAny_ready (rs := [5, 12]) (by kernel_rfl) (by simp) ?_
      refine AllReady.cons rfl (fun K hK => ?_) ?_
      ·
        go_simp
        refine hK _ _ ?_
        clear hK K
        refine wpAny_take (i := 6) (v := ?_) rfl (by kernel_rfl) (by kernel_rfl) (by kernel_rfl) (fun _ _ _ h => h) (Or.inl ⟨?_, ?_⟩) ?_
        rotate_left
        · rfl
        · intro w; go_simp; try with_reducible rfl
        refine wpAny_act (a' := ?_) ?_ ?_
        rotate_left
        · simp only [Act.put, List.getElem_toArray, List.getElem_cons_succ, List.getElem_cons_zero, List.setIfInBounds_toArray, List.set_cons_succ, List.set_cons_zero]; rfl
        refine wpAny_take (i := 7) (v := ?_) rfl (by kernel_rfl) (by kernel_rfl) (by kernel_rfl) (fun _ _ _ h => h) (Or.inl ⟨?_, ?_⟩) ?_
        rotate_left
        · rfl
        · intro w; go_simp; try with_reducible rfl
        refine wpAny_act (a' := ?_) ?_ ?_
        rotate_left
        · simp only [Act.put, List.getElem_toArray, List.getElem_cons_succ, List.getElem_cons_zero, List.setIfInBounds_toArray, List.set_cons_succ, List.set_cons_zero]; rfl
        refine wpAny_ready (rs := [12]) (by kernel_rfl) (by simp) ?_
        refine AllReady.cons rfl (fun K hK => ?_) AllReady.nil
        go_simp
        refine hK _ _ ?_
        clear hK K
        refine wpAny_take (i := 13) (v := ?_) rfl (by kernel_rfl) (by kernel_rfl) (by kernel_rfl) (fun _ _ _ h => h) (Or.inl ⟨?_, ?_⟩) ?_
        rotate_left
        · rfl
        · intro w; go_simp; try with_reducible rfl
        refine wpAny_act (a' := ?_) ?_ ?_
        rotate_left
        · simp only [Act.put, List.getElem_toArray, List.getElem_cons_succ, List.getElem_cons_zero, List.setIfInBounds_toArray, List.set_cons_succ, List.set_cons_zero]; rfl
        refine wpAny_take (i := 14) (v := ?_) rfl (by kernel_rfl) (by kernel_rfl) (by kernel_rfl) (fun _ _ _ h => h) (Or.inl ⟨?_, ?_⟩) ?_
        rotate_left
        · rfl
        · intro w; go_simp; try with_reducible rfl
        refine wpAny_act (a' := ?_) ?_ ?_
        rotate_left
        · simp only [Act.put, List.getElem_toArray, List.getElem_cons_succ, List.getElem_cons_zero, List.setIfInBounds_toArray, List.set_cons_succ, List.set_cons_zero]; rfl
        refine wpAny_ready (rs := [15]) (by kernel_rfl) (by simp) ?_
        refine AllReady.cons rfl (fun K hK => ?_) AllReady.nil
        go_simp
        refine hK _ _ ?_
        clear hK K
        refine wpAny_ready (rs := [16]) (by kernel_rfl) (by simp) ?_
        refine AllReady.cons rfl (fun K hK => ?_) AllReady.nil
        refine (if_pos (by rfl)).mpr ?_
        refine oper_append_run _ _ _ rfl _ _ rfl rfl v' w2 ?_ ?_
        · exact HR.out
        refine hK _ _ ?_
        clear hK K
        refine wpAny_take (i := 17) (v := ?_) rfl (by kernel_rfl) (by kernel_rfl) (by kernel_rfl) (fun _ _ _ h => h) (Or.inl ⟨?_, ?_⟩) ?_
        rotate_left
        · rfl
        · intro w; go_simp; try with_reducible rfl
        refine wpAny_act (a' := ?_) ?_ ?_
        rotate_left
        · simp only [Act.put, List.getElem_toArray, List.getElem_cons_succ, List.getElem_cons_zero, List.setIfInBounds_toArray, List.set_cons_succ, List.set_cons_zero]; rfl
        refine wpAny_done (by kernel_rfl) ?_ _
        go_wp2
        go_roundw
        case rel => exact ⟨k + 1, by omega, by go_num, hb4, HO2.out⟩
        case measure => simp [intOf]; omega
      refine AllReady.cons rfl (fun K hK => ?_) ?_
      ·
        go_simp
        refine hK _ _ ?_
        clear hK K
        refine wpAny_take (i := 13) (v := ?_) rfl (by kernel_rfl) (by kernel_rfl) (by kernel_rfl) (fun _ _ _ h => h) (Or.inl ⟨?_, ?_⟩) ?_
        rotate_left
        · rfl
        · intro w; go_simp; try with_reducible rfl
        refine wpAny_act (a' := ?_) ?_ ?_
        rotate_left
        · simp only [Act.put, List.getElem_toArray, List.getElem_cons_succ, List.getElem_cons_zero, List.setIfInBounds_toArray, List.set_cons_succ, List.set_cons_zero]; rfl
        refine wpAny_take (i := 14) (v := ?_) rfl (by kernel_rfl) (by kernel_rfl) (by kernel_rfl) (fun _ _ _ h => h) (Or.inl ⟨?_, ?_⟩) ?_
        rotate_left
        · rfl
        · intro w; go_simp; try with_reducible rfl
        refine wpAny_act (a' := ?_) ?_ ?_
        rotate_left
        · simp only [Act.put, List.getElem_toArray, List.getElem_cons_succ, List.getElem_cons_zero, List.setIfInBounds_toArray, List.set_cons_succ, List.set_cons_zero]; rfl
        refine wpAny_ready (rs := [5]) (by kernel_rfl) (by simp) ?_
        refine AllReady.cons rfl (fun K hK => ?_) AllReady.nil
        go_simp
        refine hK _ _ ?_
        clear hK K
        refine wpAny_take (i := 6) (v := ?_) rfl (by kernel_rfl) (by kernel_rfl) (by kernel_rfl) (fun _ _ _ h => h) (Or.inl ⟨?_, ?_⟩) ?_
        rotate_left
        · rfl
        · intro w; go_simp; try with_reducible rfl
        refine wpAny_act (a' := ?_) ?_ ?_
        rotate_left
        · simp only [Act.put, List.getElem_toArray, List.getElem_cons_succ, List.getElem_cons_zero, List.setIfInBounds_toArray, List.set_cons_succ, List.set_cons_zero]; rfl
        refine wpAny_take (i := 7) (v := ?_) rfl (by kernel_rfl) (by kernel_rfl) (by kernel_rfl) (fun _ _ _ h => h) (Or.inl ⟨?_, ?_⟩) ?_
        rotate_left
        · rfl
        · intro w; go_simp; try with_reducible rfl
        refine wpAny_act (a' := ?_) ?_ ?_
        rotate_left
        · simp only [Act.put, List.getElem_toArray, List.getElem_cons_succ, List.getElem_cons_zero, List.setIfInBounds_toArray, List.set_cons_succ, List.set_cons_zero]; rfl
        refine wpAny_ready (rs := [15]) (by kernel_rfl) (by simp) ?_
        refine AllReady.cons rfl (fun K hK => ?_) AllReady.nil
        go_simp
        refine hK _ _ ?_
        clear hK K
        refine wpAny_ready (rs := [16]) (by kernel_rfl) (by simp) ?_
        refine AllReady.cons rfl (fun K hK => ?_) AllReady.nil
        refine (if_pos (by rfl)).mpr ?_
        refine oper_append_run _ _ _ rfl _ _ rfl rfl v' w2 ?_ ?_
        · exact HR.out
        refine hK _ _ ?_
        clear hK K
        refine wpAny_take (i := 17) (v := ?_) rfl (by kernel_rfl) (by kernel_rfl) (by kernel_rfl) (fun _ _ _ h => h) (Or.inl ⟨?_, ?_⟩) ?_
        rotate_left
        · rfl
        · intro w; go_simp; try with_reducible rfl
        refine wpAny_act (a' := ?_) ?_ ?_
        rotate_left
        · simp only [Act.put, List.getElem_toArray, List.getElem_cons_succ, List.getElem_cons_zero, List.setIfInBounds_toArray, List.set_cons_succ, List.set_cons_zero]; rfl
        refine wpAny_done (by kernel_rfl) ?_ _
        go_wp2
        go_roundw
        case rel => exact ⟨k + 1, by omega, by go_num, hb4, HO2.out⟩
        case measure => simp [intOf]; omega
      exact AllReady.nil
    · have hall : l.take k = l := List.take_of_length_le (by have := HL.out; omega)
      rw [hall] at hown
      obtain ⟨ao', cap', rfl, hr⟩ := row_of_owns hown.out (by rw [hexP, List.length_cons, hexB_len]; have := HL.out; omega)
      have hcv : (convert 29 9 (.slice ao' (hexP l).length cap')).run Tryz.prog wr = .ok (.string ⟨(hexP l).toArray⟩) wr := conv_owned hown.out
      clear hall hr hown
      go_wp2
      go_ret
      exact ⟨rfl, hbr⟩
end Go.Proofs.YtipbakdodbmfjaaGreatDoor

/- The walk of law14.CacheMost. -/
import Derived.Test.YtpemdieejgldiaaMostlaw
namespace Go.Proofs.Ytpemdieejgldiaa
open Go.ChangeShapes Go.WideShapes Go.ChangeAt Go.RowKit

theorem one_byte (w : World) (z : Int) : (convert 31 9 (.slice (some ⟨w.heap.size, 0, none⟩) 1 1)).run Try.prog (w.alloc (.cells #[.int .u8 z] 5)) = .ok (.string ⟨#[UInt8.ofNat z.toNat]⟩) (w.alloc (.cells #[.int .u8 z] 5)) := by
  have hb : Blk (w.alloc (.cells #[.int .u8 z] 5)) w.heap.size #[.int .u8 z] 5 := heap_alloc_new w _
  have := run_convert_bytes_arg (P := Try.prog) (w.alloc (.cells #[.int .u8 z] 5)) 31 5 Try.underlying31 Try.underlying5 w.heap.size 0 1 1 [z] rfl (fun i hi => by
    obtain rfl : i = 0 := by omega
    exact hb.cell 0) 9 Try.underlying9
  rw [this]
  simp [strOfNums]
def hPet (P Y : Nat) : FactH := ⟨some ⟨P, 0, none⟩, 1, 1, some ⟨Y, 0, none⟩, 1, 1, none, 0, 0, noDH⟩
theorem named_is {w : World} {h : FactH} {f : FactP} (hf : IsFact (tagged fT w) w h f) {N : Nat} {s : ByteArray} (hN : Blk w N #[.string s] 9) (hs : s.size ≤ 9223372036854775807) :
    IsFact (tagged fT w) w { h with na := some ⟨N, 0, none⟩, nl := 1, nc := 1 } { f with name := [s] } :=
  ⟨⟨⟨rfl, Nat.le_refl _, by show (1 : Nat) ≤ _; decide, by show (1 : Nat) ≤ _; decide, (fun h => nomatch h), fun _ => ⟨N, 0, rfl, fun i hi => by
    obtain rfl : i = 0 := by simp at hi; omega
    exact hN.cell 0⟩⟩, fun x hx => by rw [List.mem_singleton] at hx; subst hx; exact hs⟩, fun _ a e => by cases e; exact ⟨_, _, hN, by decide⟩, hf.typ, hf.kind, hf.rank, hf.got, hf.ttl, hf.set, hf.zone, hf.zoneIn, hf.soa, hf.soaIn⟩
theorem pet_is (W2 : World) : IsFact (tagged fT ((((W2.alloc (.cells #[.string ⟨#[112, 101, 116]⟩] 9)).alloc (.cells #[.int .u8 1, .int .u8 2, .int .u8 3, .int .u8 4] 5)).alloc (.cells #[.slice (some ⟨W2.heap.size + 1, 0, none⟩) 4 4, .slice none 0 0, .slice none 0 0, .slice none 0 0, .slice none 0 0] 34)).alloc (.cells (factC (hPet W2.heap.size (W2.heap.size + 1 + 1)) petF) 36)))
    ((((W2.alloc (.cells #[.string ⟨#[112, 101, 116]⟩] 9)).alloc (.cells #[.int .u8 1, .int .u8 2, .int .u8 3, .int .u8 4] 5)).alloc (.cells #[.slice (some ⟨W2.heap.size + 1, 0, none⟩) 4 4, .slice none 0 0, .slice none 0 0, .slice none 0 0, .slice none 0 0] 34)).alloc (.cells (factC (hPet W2.heap.size (W2.heap.size + 1 + 1)) petF) 36)) (hPet W2.heap.size (W2.heap.size + 1 + 1)) petF := by
  have h1 : Blk (W2.alloc (.cells #[.string ⟨#[112, 101, 116]⟩] 9)) W2.heap.size #[.string ⟨#[112, 101, 116]⟩] 9 := heap_alloc_new W2 _
  have hz : (W2.alloc (.cells #[.string ⟨#[112, 101, 116]⟩] 9)).heap.size = W2.heap.size + 1 := by simp
  generalize W2.alloc (.cells #[.string ⟨#[112, 101, 116]⟩] 9) = W3 at h1 hz ⊢
  have h2 := two_blk W3 #[.int .u8 1, .int .u8 2, .int .u8 3, .int .u8 4] #[.slice (some ⟨W2.heap.size + 1, 0, none⟩) 4 4, .slice none 0 0, .slice none 0 0, .slice none 0 0, .slice none 0 0] 5 34
  rw [hz] at h2
  have h3 := h1.on (by rw [hz]; exact h2.2.2)
  generalize (W3.alloc (.cells #[.int .u8 1, .int .u8 2, .int .u8 3, .int .u8 4] 5)).alloc (.cells #[.slice (some ⟨W2.heap.size + 1, 0, none⟩) 4 4, .slice none 0 0, .slice none 0 0, .slice none 0 0, .slice none 0 0] 34) = W5 at h2 h3 ⊢
  have hb6 : Below W5.heap.size W5 (W5.alloc (.cells (factC (hPet W2.heap.size (W2.heap.size + 1 + 1)) petF) 36)) := (Below.refl _ _).alloc (Nat.le_refl _) _
  have hi := f0_is _ (W2.heap.size + 1) (W2.heap.size + 1 + 1) (h2.1.on hb6) (h2.2.1.on hb6)
  have h4 := h3.on hb6
  have hn := named_is hi h4 (by decide)
  exact ⟨hn.name, hn.nameIn, show wfi 1 by decide, show wfi 1 by decide, show wfi 4 by decide, show wfi 0 by decide, show wfi 100 by decide, hi.set, hi.zone, hi.zoneIn, hi.soa, hi.soaIn⟩
/-- what the loop keeps -/
structure MsSt (w wr : World) (C j n : Nat) (X : Nat) (h : FactH) : Prop where
  bel : Below w.heap.size w wr
  ca : ∃ k L, IsCache w.heap.size wr C n 0 k L ∧ k ≤ 1 + 2 * j ∧ MostInv n L
  blk : Blk wr X (factC h petF) 36
  fact : IsFact (tagged fT wr) wr h petF
theorem fact_left {B : Nat} {w w' : World} {h : FactH} {f : FactP} (hf : IsFact (tagged fT w) w h f) (hl : Left B w w') : IsFact (tagged fT w') w' h f := hf.step (hl.same.mono (fun _ _ ht => tagged_mono ht fT_gT))
set_option maxHeartbeats 64000000 in
set_option maxRecDepth 100000 in
theorem most_walk (w : World) (m : Int) (hm : 0 ≤ m ∧ m ≤ 255) (ao : Option Addr) (nl nc : Nat) (zs : List Int) (hz : Row w ao nl nc (zs.map (Value.int .u8))) (hzb : ∀ z ∈ zs, 0 ≤ z ∧ z ≤ 255) (ask : Int) :
    Calls Try.prog 4 #[.int .u8 m, .slice ao nl nc, .int .u8 ask] w fun e w' => e = .returned (.bool true) ∧ Below w.heap.size w w' := by
  obtain ⟨n, hn⟩ : ∃ n : Nat, (n : Int) = m % 5 + 1 := ⟨(m % 5 + 1).toNat, by omega⟩
  have hn1 : 1 ≤ n ∧ n ≤ 5 := by omega
  have HNW := Lib.hid (new_any w w.heap.size (Nat.le_refl _) (m % 5 + 1) 0 (by omega) (by omega) (by decide))
  have HZ := Lib.hid (And.intro hz hzb)
  have hl := hz.hlen
  have hle := hz.hle
  have hcp := hz.hcap
  have HLZ := Lib.hid hl
  clear hz hzb hl
  by_cases h100 : 100 < nl
  · go_enter Try.func4, Try.ntmps4
    go_wp2_with (first | (go_at_call 6; go_loud (refine HNW.out.mono ?_; rintro e W ⟨⟨C, rfl, hC⟩, hb⟩; have HW := Lib.hid (And.intro hb hC); clear hC hb)) | (go_at_call 7; refine (answers_any _).mono ?_; rintro e W2 ⟨rfl, hb2⟩; replace HW := Lib.hid (And.intro (below_on HW.out.1 hb2 (Nat.le_refl _)) (HW.out.2.on hb2)); clear hb2))
    go_ret
    exact ⟨rfl, HW.out.1⟩
  · go_enter Try.func4, Try.ntmps4
    go_wp2_with (first | (go_at_call 6; go_loud (refine HNW.out.mono ?_; rintro e W ⟨⟨C, rfl, hC⟩, hb⟩; have HW := Lib.hid (And.intro hb hC); clear hC hb)) | (go_at_call 7; refine (answers_any _).mono ?_; rintro e W2 ⟨rfl, hb2⟩; replace HW := Lib.hid (And.intro (below_on HW.out.1 hb2 (Nat.le_refl _)) (HW.out.2.on hb2)); clear hb2))
    go_at_call 10
    obtain ⟨W9, hW9⟩ : ∃ q, q = (((W2.alloc (.cells #[.string ⟨#[112, 101, 116]⟩] 9)).alloc (.cells #[.int .u8 1, .int .u8 2, .int .u8 3, .int .u8 4] 5)).alloc (.cells #[.slice (some ⟨W2.heap.size + 1, 0, none⟩) 4 4, .slice none 0 0, .slice none 0 0, .slice none 0 0, .slice none 0 0] 34)).alloc (.cells (factC (hPet W2.heap.size (W2.heap.size + 1 + 1)) petF) 36) := ⟨_, rfl⟩
    have hbA : Below W2.heap.size W2 W9 := by rw [hW9]; exact ((((Below.refl _ _).alloc (Nat.le_refl _) _).alloc (by simp) _).alloc (by simp; omega) _).alloc (by simp; omega) _
    have hF9 : IsFact (tagged fT W9) W9 (hPet W2.heap.size (W2.heap.size + 1 + 1)) petF := by rw [hW9]; exact pet_is W2
    have hX9 : Blk W9 (W2.heap.size + 1 + 1 + 1) (factC (hPet W2.heap.size (W2.heap.size + 1 + 1)) petF) 36 := by
      rw [hW9]
      have := heap_alloc_new (((W2.alloc (.cells #[.string ⟨#[112, 101, 116]⟩] 9)).alloc (.cells #[.int .u8 1, .int .u8 2, .int .u8 3, .int .u8 4] 5)).alloc (.cells #[.slice (some ⟨W2.heap.size + 1, 0, none⟩) 4 4, .slice none 0 0, .slice none 0 0, .slice none 0 0, .slice none 0 0] 34)) (.cells (factC (hPet W2.heap.size (W2.heap.size + 1 + 1)) petF) 36)
      simpa [Blk] using this
    rw [show ((((W2.alloc (.cells #[.string ⟨#[112, 101, 116]⟩] 9)).alloc (.cells #[.int .u8 1, .int .u8 2, .int .u8 3, .int .u8 4] 5)).alloc (.cells #[.slice (some ⟨W2.heap.size + 1, 0, none⟩) 4 4, .slice none 0 0, .slice none 0 0, .slice none 0 0, .slice none 0 0] 34)).alloc (.cells #[.slice (some ⟨W2.heap.size, 0, none⟩) 1 1, .int .i64 1, .int .i64 1, .int .i64 4, .int .i64 0, .int .i64 100, .slice (some ⟨W2.heap.size + 1 + 1, 0, none⟩) 1 1, .slice none 0 0, .slice none 0 0, .slice none 0 0, .slice none 0 0, .slice none 0 0, .slice none 0 0] 36)) = W9 from hW9.symm]
    have hCn : IsCache w.heap.size W2 C (n : Int) 0 0 [] := by rw [hn]; exact HW.out.2
    refine (put_full W9 (tagged fT W9) w.heap.size C (n : Int) 0 0 [] (hCn.on hbA) (by decide) (by decide) (hPet W2.heap.size (W2.heap.size + 1 + 1)) petF hF9 petF_len 0).mono ?_
    rintro e Z ⟨he, hl, hp⟩
    rw [pet_put] at he
    subst he
    obtain ⟨bz, kz, hca⟩ := hp.yes pet_put
    have HZZ : Hid (MsSt w Z C 0 n (W2.heap.size + 1 + 1 + 1) (hPet W2.heap.size (W2.heap.size + 1 + 1))) := Lib.hid ⟨(below_on HW.out.1 hbA (Nat.le_refl _)).trans hl.bel, ⟨1, _, hca, by omega, most_start hn1.1⟩, blk_left hX9 hl (by decide), fact_left hF9 hl⟩
    clear hl hp hca hF9 hX9 hbA hW9 hCn
    obtain ⟨XF, hXF⟩ : ∃ q, q = W2.heap.size + 1 + 1 + 1 := ⟨_, rfl⟩
    obtain ⟨XH, hXH⟩ : ∃ q, q = hPet W2.heap.size (W2.heap.size + 1 + 1) := ⟨_, rfl⟩
    go_wp2_with fail
    go_loopw [12] (fun i wr => ∃ j : Nat, j ≤ nl ∧ i = .int .i64 j ∧ Hid (MsSt w wr C j n (W2.heap.size + 1 + 1 + 1) (hPet W2.heap.size (W2.heap.size + 1 + 1)))) (fun i _ => nl - (intOf i).toNat)
    case atStart => exact ⟨0, by omega, rfl, HZZ⟩
    case round =>
      obtain ⟨j, hj, rfl, hinv⟩ := hrel
      by_cases hlt : j < nl
      · obtain ⟨b0, off, rfl⟩ := HZ.out.1.addr hlt
        obtain ⟨z, hzz⟩ : ∃ z, z = zs[j]'(by have := HLZ.out; simp at this; omega) := ⟨_, rfl⟩
        have hzr := HZ.out.2 z (by rw [hzz]; exact List.getElem_mem _)
        have hmz : wr.cell? ⟨b0, off + j, none⟩ = some (.int .u8 z) := by
          rw [cell_keep hinv.out.bel (HZ.out.1.at hlt), hzz]; simp
        have hmz2 : ∀ o, (wr.alloc o).cell? ⟨b0, off + j, none⟩ = some (.int .u8 z) := fun o => cell_keep ((Below.refl _ _).alloc (Nat.le_refl _) _) hmz
        have hone : ∀ o, (convert 31 9 (.slice (some ⟨wr.heap.size + 1, 0, none⟩) 1 1)).run Try.prog ((wr.alloc o).alloc (.cells #[.int .u8 (97 + z % 20)] 5)) = .ok (.string ⟨#[UInt8.ofNat (97 + z % 20).toNat]⟩) ((wr.alloc o).alloc (.cells #[.int .u8 (97 + z % 20)] 5)) := fun o => by
          have := one_byte (wr.alloc o) (97 + z % 20)
          rw [show (wr.alloc o).heap.size = wr.heap.size + 1 by simp] at this
          exact this
        have hblk := hinv.out.blk
        have m0 : wr.cell? ⟨W2.heap.size + 1 + 1 + 1, 0, none⟩ = some (.slice ((some ⟨W2.heap.size, 0, none⟩)) 1 1) := hblk.cell 0
        have m1 : wr.cell? ⟨W2.heap.size + 1 + 1 + 1, 1, none⟩ = some (.int .i64 1) := hblk.cell 1
        have m2 : wr.cell? ⟨W2.heap.size + 1 + 1 + 1, 2, none⟩ = some (.int .i64 1) := hblk.cell 2
        have m3 : wr.cell? ⟨W2.heap.size + 1 + 1 + 1, 3, none⟩ = some (.int .i64 4) := hblk.cell 3
        have m4 : wr.cell? ⟨W2.heap.size + 1 + 1 + 1, 4, none⟩ = some (.int .i64 0) := hblk.cell 4
        have m5 : wr.cell? ⟨W2.heap.size + 1 + 1 + 1, 5, none⟩ = some (.int .i64 100) := hblk.cell 5
        have m6 : wr.cell? ⟨W2.heap.size + 1 + 1 + 1, 6, none⟩ = some (.slice ((some ⟨W2.heap.size + 1 + 1, 0, none⟩)) 1 1) := hblk.cell 6
        have m7 : wr.cell? ⟨W2.heap.size + 1 + 1 + 1, 7, none⟩ = some (.slice none 0 0) := hblk.cell 7
        have m8 : wr.cell? ⟨W2.heap.size + 1 + 1 + 1, 8, none⟩ = some (.slice none 0 0) := hblk.cell 8
        have m9 : wr.cell? ⟨W2.heap.size + 1 + 1 + 1, 9, none⟩ = some (.slice none 0 0) := hblk.cell 9
        have m10 : wr.cell? ⟨W2.heap.size + 1 + 1 + 1, 10, none⟩ = some (.slice none 0 0) := hblk.cell 10
        have m11 : wr.cell? ⟨W2.heap.size + 1 + 1 + 1, 11, none⟩ = some (.slice none 0 0) := hblk.cell 11
        have m12 : wr.cell? ⟨W2.heap.size + 1 + 1 + 1, 12, none⟩ = some (.slice none 0 0) := hblk.cell 12
        clear hzz hblk
        obtain ⟨cc, hcc⟩ : ∃ c : UInt8, c = UInt8.ofNat (97 + z % 20).toNat := ⟨_, rfl⟩
        rw [← hcc] at hone
        clear hcc
        go_wp2_with fail
        clear m0 m1 m2 m3 m4 m5 m6 m7 m8 m9 m10 m11 m12 hone hmz hmz2
        go_at_call 10
        obtain ⟨W8, hW8⟩ : ∃ q, q = ((wr.alloc (.cells #[.slice (some ⟨wr.heap.size + 1 + 1, 0, none⟩) 1 1, .int .i64 1, .int .i64 1, .int .i64 4, .int .i64 0, .int .i64 100, .slice (some ⟨W2.heap.size + 1 + 1, 0, none⟩) 1 1, .slice none 0 0, .slice none 0 0, .slice none 0 0, .slice none 0 0, .slice none 0 0, .slice none 0 0] 36)).alloc (.cells #[.int .u8 (97 + z % 20)] 5)).alloc (.cells #[.string ⟨#[cc]⟩] 9) := ⟨_, rfl⟩
        rw [show ((wr.alloc (.cells #[.slice (some ⟨wr.heap.size + 1 + 1, 0, none⟩) 1 1, .int .i64 1, .int .i64 1, .int .i64 4, .int .i64 0, .int .i64 100, .slice (some ⟨W2.heap.size + 1 + 1, 0, none⟩) 1 1, .slice none 0 0, .slice none 0 0, .slice none 0 0, .slice none 0 0, .slice none 0 0, .slice none 0 0] 36)).alloc (.cells #[.int .u8 (97 + z % 20)] 5)).alloc (.cells #[.string ⟨#[cc]⟩] 9) = W8 from hW8.symm]
        have hb8 : Below wr.heap.size wr W8 := by rw [hW8]; exact (((Below.refl _ _).alloc (Nat.le_refl _) _).alloc (by simp) _).alloc (by simp; omega) _
        have hN8 : Blk W8 (wr.heap.size + 1 + 1) #[.string ⟨#[cc]⟩] 9 := by
          rw [hW8]
          have := heap_alloc_new ((wr.alloc (.cells #[.slice (some ⟨wr.heap.size + 1 + 1, 0, none⟩) 1 1, .int .i64 1, .int .i64 1, .int .i64 4, .int .i64 0, .int .i64 100, .slice (some ⟨W2.heap.size + 1 + 1, 0, none⟩) 1 1, .slice none 0 0, .slice none 0 0, .slice none 0 0, .slice none 0 0, .slice none 0 0, .slice none 0 0] 36)).alloc (.cells #[.int .u8 (97 + z % 20)] 5)) (.cells #[.string ⟨#[cc]⟩] 9)
          simpa [Blk] using this
        have hG8 : Blk W8 wr.heap.size #[.slice (some ⟨wr.heap.size + 1 + 1, 0, none⟩) 1 1, .int .i64 1, .int .i64 1, .int .i64 4, .int .i64 0, .int .i64 100, .slice (some ⟨W2.heap.size + 1 + 1, 0, none⟩) 1 1, .slice none 0 0, .slice none 0 0, .slice none 0 0, .slice none 0 0, .slice none 0 0, .slice none 0 0] 36 := by
          rw [hW8]
          exact Blk.on (heap_alloc_new wr (.cells #[.slice (some ⟨wr.heap.size + 1 + 1, 0, none⟩) 1 1, .int .i64 1, .int .i64 1, .int .i64 4, .int .i64 0, .int .i64 100, .slice (some ⟨W2.heap.size + 1 + 1, 0, none⟩) 1 1, .slice none 0 0, .slice none 0 0, .slice none 0 0, .slice none 0 0, .slice none 0 0, .slice none 0 0] 36)) (((Below.refl _ _).alloc (Nat.le_refl _) _).alloc (by simp) _)
        have hF8 : IsFact (tagged fT W8) W8 { hPet W2.heap.size (W2.heap.size + 1 + 1) with na := some ⟨wr.heap.size + 1 + 1, 0, none⟩, nl := 1, nc := 1 } (oneF cc) := named_is (hinv.out.fact.step (Same.below hb8 _)) hN8 (by show (1 : Nat) ≤ _; decide)
        obtain ⟨k, L, hca, hk, hmi⟩ := hinv.out.ca
        have hput := most_put hmi cc hca
        refine (put_full W8 (tagged fT W8) w.heap.size C (n : Int) 0 k L (hca.on hb8) (by omega) (by have := hmi.len; omega) { hPet W2.heap.size (W2.heap.size + 1 + 1) with na := some ⟨wr.heap.size + 1 + 1, 0, none⟩, nl := 1, nc := 1 } (oneF cc) hF8 (oneF_len cc) 0).mono ?_
        rintro e Z ⟨he, hl, hp⟩
        rw [hput] at he
        subst he
        obtain ⟨bz, kz, hcz⟩ := hp.yes hput
        obtain ⟨x1, x2, x3, x4⟩ := most_next hn1.1 hmi cc hcz
        generalize trimL (n : Int) (offL L (keyF (oneF cc)) ++ [(⟨bz, kz, oneF cc, k + 1⟩ : Slot)]) = L1 at hcz x1 x2 x3 x4
        have HCZ := Lib.hid (And.intro hcz (And.intro hk (And.intro x1 (And.intro x2 (And.intro x3 x4)))))
        have HL8 := Lib.hid ((Left.below hb8 (by have := hinv.out.bel.size; omega)).trans hl)
        have HNZ := Lib.hid (blk_left hN8 hl (by decide))
        have hGZ := blk_left hG8 hl (by decide)
        have HGZ := Lib.hid hGZ
        have hz0 : Z.cell? ⟨wr.heap.size, 0, none⟩ = some (.slice (some ⟨wr.heap.size + 1 + 1, 0, none⟩) 1 1) := hGZ.cell 0
        have hgt : decide (m % 5 + 1 < (L1.length : Int)) = false := decide_eq_false (by rw [← hn]; omega)
        clear hb8 hN8 hG8 hF8 hca hk hmi hput hl hp hcz x1 x2 x3 x4 hGZ hW8
        go_wp2_with (go_at_call 14; refine (len_any Z w.heap.size C n 0 (k + 1) L1 HCZ.out.1).mono ?_; rintro e W9 ⟨rfl, rfl⟩)
        clear hz0 hgt
        go_at_call 9
        refine (look_any W9 w.heap.size C (n : Int) 0 (k + 1) L1 HCZ.out.1 (some ⟨wr.heap.size + 1 + 1, 0, none⟩) 1 1 [⟨#[cc]⟩] 1 (named_is (fact_left hinv.out.fact HL8.out) HNZ.out (by show (1 : Nat) ≤ _; decide)).name (by show (1 : Nat) + 1 + 0 ≤ 1099511627776; decide)).mono ?_
        rintro e Z3 ⟨⟨xh, xf, xb, rfl, hxo, hxb, hxf⟩, hb3⟩
        clear hxo hxf
        rw [show keyP [(⟨#[cc]⟩ : ByteArray)] 1 = keyF (oneF cc) from rfl, HCZ.out.2.2.2.1] at hxb
        subst hxb
        simp only [factC]
        have hbY : Below Z3.heap.size Z3 (Z3.alloc (.cells (factC xh xf) 36)) := (Below.refl _ _).alloc (Nat.le_refl _) _
        have HB9 := Lib.hid (below_on hb3 hbY (Nat.le_refl _))
        clear hb3 hbY
        go_wp2_with fail
        have HL9 := Lib.hid (HL8.out.trans (Left.below HB9.out (by have := hinv.out.bel.size; have := HL8.out.bel.size; omega)))
        go_at_call 15
        refine (get_any (Z3.alloc (.cells (factC xh xf) 36)) w.heap.size C (n : Int) 0 (k + 1) L1 (HCZ.out.1.on HB9.out) (by have := HCZ.out.2.1; omega) (some ⟨W2.heap.size, 0, none⟩) 1 1 petN 1 (fact_left hinv.out.fact HL9.out).name (by decide +kernel) 1).mono ?_
        obtain ⟨ob, hob⟩ : ∃ b, b = (findL L1 petN 1 (fitsF 1)).isSome := ⟨_, rfl⟩
        obtain ⟨og, hog⟩ : ∃ g, g = factO (findL L1 petN 1 (fitsF 1)) := ⟨_, rfl⟩
        rintro e Y ⟨⟨gh, rfl, hgo⟩, hca2, hl2⟩
        clear hgo
        rw [← hob, ← hog]
        simp only [factC]
        have hbY2 : Below Y.heap.size Y (Y.alloc (.cells (factC gh og) 36)) := (Below.refl _ _).alloc (Nat.le_refl _) _
        have HLT := Lib.hid ((HL9.out.trans hl2).trans (Left.below hbY2 (by have := hinv.out.bel.size; have := HL9.out.bel.size; have := hl2.bel.size; omega)))
        have HC3 := Lib.hid (hca2.on hbY2)
        have HOB := Lib.hid hob
        clear hca2 hl2 hbY2 hob hog
        have HNX := Lib.hid (show MsSt w (Y.alloc (.cells (factC gh og) 36)) C (j + 1) n (W2.heap.size + 1 + 1 + 1) (hPet W2.heap.size (W2.heap.size + 1 + 1)) from
          ⟨hinv.out.bel.trans HLT.out.bel, ⟨_, _, HC3.out, by have := HCZ.out.2.1; unfold usedK; split <;> omega, HCZ.out.2.2.2.2.2⟩, blk_left hinv.out.blk HLT.out (by decide), fact_left hinv.out.fact HLT.out⟩)
        simp only [factC] at HNX
        by_cases hn2 : 1 < n
        · have e1 : decide (1 < m % 5 + 1) = true := decide_eq_true (by omega)
          have e2 : ob = true := HOB.out.trans (HCZ.out.2.2.2.2.1 hn2)
          subst e2
          clear hn2
          go_wp2_with fail
          go_roundw
          case rel => exact ⟨j + 1, by omega, by go_num, HNX⟩
          case measure => simp [intOf]; omega
        · have e1 : decide (1 < m % 5 + 1) = false := decide_eq_false (by omega)
          clear hn2
          go_wp2_with fail
          go_roundw
          case rel => exact ⟨j + 1, by omega, by go_num, HNX⟩
          case measure => simp [intOf]; omega
      · go_wp2_with fail
        go_ret
        exact ⟨rfl, hinv.out.bel⟩
end Go.Proofs.Ytpemdieejgldiaa

/- The contract of name.Lower. -/
import Derived.Test.YtgfibbjifbghdaaGreatLists
namespace Go.Proofs.YtgfibbjifbghdaaGreat
open Go.ChangeShapes Go.WideShapes Go.ChangeAt Go.RowKit

theorem lower_any (w : World) (ao : Option Addr) (len cap : Nat) (ss : List ByteArray) (hs : Strs w ao len cap ss) (hb : len * 16 ≤ 140737488355328) :
    Calls Tryz.prog 117 #[.slice ao len cap] w (StrsRes w (ss.map small)) := by
  have hl := hs.len
  have hcap := hs.row.hcap
  have hle := hs.row.hle
  obtain ⟨i0, hi, hz0, hz1, hz2⟩ := info_parts strInfo
  obtain ⟨w1, hmk, hown0, hgr0⟩ := run_make_own (P := Tryz.prog) (w := w) w.heap.size 29 9 i0 _ 1 Tryz.underlying29 hi hz0 hz1 .i64 .i64 len (by rw [hz2]; omega) (by unfold maxLen; omega) (Nat.le_refl _)
  have hb1 : Below w.heap.size w w1 := (Below.refl _ _).grown hgr0 (Nat.le_refl _) (by intro k hk; cases hk)
  clear hgr0
  have HI := Lib.hid (And.intro hi (And.intro hz0 (And.intro hz1 hz2)))
  clear hi hz0 hz1 hz2
  have HB := Lib.hid hb
  have hb' : len ≤ 8796093022208 := by omega
  clear hb
  have HO := Lib.hid hown0; clear hown0
  go_enter Tryz.func117, Tryz.ntmps117
  go_wp2
  clear hmk
  go_loopw [3, 11, 5] (fun v i _ wr => ∃ k : Nat, k ≤ len ∧ i = .int .i64 k ∧ Below w.heap.size w wr ∧ Hid (wr.ownsRow w.heap.size 9 1 v k ((ss.take k).map fun s => .string (small s)))) (fun _ i _ _ => len - (intOf i).toNat)
  case atStart => exact ⟨0, Nat.zero_le _, rfl, hb1, by simpa [Hid] using HO.out⟩
  case round =>
    obtain ⟨k, hk, rfl, hbr, hown⟩ := hrel
    clear HO hb1
    by_cases hlt : k < len
    · obtain ⟨b, off, rfl⟩ := hs.row.addr hlt
      have hc := (hs.below hbr (Nat.le_refl _)).at hlt
      have h3 := hs.get_small (i := k) (by omega)
      have h8 := List.take_succ_eq_append_getElem (l := ss) (i := k) (by omega)
      obtain ⟨s, hsk⟩ : ∃ s, s = ss[k] := ⟨_, rfl⟩
      rw [← hsk] at hc h3 h8
      have H8 := Lib.hid h8
      clear hsk h8
      go_wp2_with fail
      refine (small_any _ _ h3).mono ?_
      rintro e w2 ⟨rfl, hb2⟩
      have hown2 := Lib.hid (owns_keep hown.out hb2)
      have hb3 := below_on hbr hb2 (Nat.le_refl _)
      clear hown hbr hb2 hc
      have hz : w.heap.size ≤ w2.heap.size := hb3.size
      obtain ⟨i1, g1, g2, g3⟩ := (⟨i0, HI.out.1, HI.out.2.1, HI.out.2.2⟩ : ∃ i, Tryz.prog.info? 9 = some i ∧ i.zero = some (.string ByteArray.empty) ∧ i.size = 1 ∧ i.bytes = 16)
      obtain ⟨v', w3, hrun, hown3, hgr3⟩ := append_row (P := Tryz.prog) (w2.alloc (.cells #[.string (small s)] 9)) w.heap.size 29 29 9 i1 _ 16 Tryz.underlying29 g1 g2 g3.1 g3.2 rfl _ k _ (hown2.out.alloc _) (some ⟨w2.heap.size, 0, none⟩) 1 1 [.string (small s)] (row_one w2 _ _) (by intro u hu; simp at hu; subst hu; rfl) (by omega) (by have := HB.out; omega) (by simp; omega)
      have hb4 : Below w.heap.size w w3 := (hb3.alloc hz _).grown hgr3 (by simp; omega) (fun j hj => (hown2.out.lt j hj).1)
      have HR := Lib.hid hrun
      have HO3 := Lib.hid hown3
      clear hrun hown3 hgr3 g1 g2 g3 hown2 hb3 hz
      go_wp2_with (at_builtin; refine wpList_append_run rfl _ _ _ rfl _ _ rfl rfl HR.out ?_)
      go_roundw
      case rel => exact ⟨k + 1, by omega, by go_num, hb4, by rw [H8.out]; simpa [Hid] using HO3.out⟩
      case measure => simp [intOf]; omega
    · have hke : k = len := by omega
      subst hke
      have hall : (ss.take k).map (fun s => Value.string (small s)) = (ss.map small).map .string := by rw [List.take_of_length_le (by omega)]; simp
      have ho := hown.out
      rw [hall] at ho
      obtain ⟨ao', cap', rfl, hst⟩ := strs_of_owns ho hs.row.hmax (by
        intro s hs'
        obtain ⟨x, hx, rfl⟩ := List.mem_map.1 hs'
        rw [small_size]; exact hs.small x hx)
      have HH := Lib.hid hst
      clear ho hall hst hown
      go_wp2
      go_ret
      exact ⟨ao', cap', by rw [List.length_map, hl]; rfl, by rw [List.length_map, hl]; exact HH.out, hbr⟩

end Go.Proofs.YtgfibbjifbghdaaGreat

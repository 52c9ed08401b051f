/- Contracts of the statements' own helpers of layer 2: own, light. -/
import Derived.Test.YtelikppfiaobcaaDoorLists
namespace Go.Proofs.YtelikppfiaobcaaDoor
open Go.ChangeShapes Go.WideShapes Go.ChangeAt Go.RowKit


theorem own_any (w : World) (ao : Option Addr) (len cap : Nat) (ss : List ByteArray) (hs : Strs w ao len cap ss) (hb : len * 16 ≤ 140737488355328) :
    Calls Tryd.prog 13 #[.slice ao len cap] w (StrsRes w ss) := by
  have hl := hs.len
  obtain ⟨i0, hi, hz0, hz1, hz2⟩ := info_parts strInfo
  have hbel : Below w.heap.size w (w.alloc (.cells #[] 9)) := (Below.refl _ _).alloc (Nat.le_refl _) _
  obtain ⟨v', w1, hrun, hown, hgrow⟩ := append_row (P := Tryd.prog) (w.alloc (.cells #[] 9)) w.heap.size 22 22 9 i0 _ 16 Tryd.underlying22 hi hz0 hz1 hz2 rfl (.slice (some ⟨w.heap.size, 0, none⟩) 0 0) 0 []
    (World.ownsRow_made w #[] 0 (Nat.le_refl _) (by unfold maxLen; omega) rfl) ao len cap (ss.map .string) (hs.row.below hbel (Nat.le_refl _)) (strings_oneCell ss) (by omega) (by omega) (by simp)
  have hg := Lib.hid (hbel.grown hgrow (by simp) (by intro k hk; simp [Value.ownBlock] at hk; omega))
  clear hgrow hbel
  rw [List.nil_append, Nat.zero_add] at hown
  obtain ⟨ao', cap', rfl, hs'⟩ := strs_of_owns hown hs.row.hmax hs.small
  clear hown hi hz0 hz1 hz2 hb
  have HL := Lib.hid hl; clear hl
  have HR := Lib.hid hrun; clear hrun
  have hbs : ∀ w : World, (Instr.buildSlice 22 0 #[]).run Tryd.prog w = .ok (.slice (some ⟨w.heap.size, 0, none⟩) 0 0) (w.alloc (.cells #[] 9)) := fun _ => by kernel_rfl
  go_enter Tryd.func13, Tryd.ntmps13
  go_wp2_with (at_builtin; refine wpList_append_run rfl _ _ _ rfl _ _ rfl rfl HR.out ?_)
  go_ret
  exact ⟨ao', cap', by rw [HL.out]; rfl, by rw [HL.out]; exact hs', hg.out⟩

/-- not too large -/
def lightB (ss : List ByteArray) : Bool := ss.all (fun s => decide (s.size ≤ 3000)) && (decide (ss.length ≤ 600) && decide (sizeN ss < 20000 + ss.length))
theorem lightB_out {ss : List ByteArray} (h : lightB ss = true) : ss.length ≤ 600 ∧ sizeN ss < 20600 ∧ ∀ s ∈ ss, s.size ≤ 3000 := by
  simp only [lightB, Bool.and_eq_true, List.all_eq_true, decide_eq_true_eq] at h
  exact ⟨h.2.1, by omega, h.1⟩
theorem sizeN_bound (ss : List ByteArray) (h : ∀ s ∈ ss, s.size ≤ 3000) : sizeN ss ≤ 3001 * ss.length := by
  induction ss with
  | nil => simp [sizeN]
  | cons s ss ih =>
    have := ih fun x hx => h x (by simp [hx])
    have := h s (by simp)
    simp only [sizeN, List.length_cons]
    omega

theorem light_any (w : World) (ao : Option Addr) (len cap : Nat) (ss : List ByteArray) (hs : Strs w ao len cap ss) (hb : len * 16 ≤ 140737488355328) :
    Calls Tryd.prog 11 #[.slice ao len cap] w fun e w' => e = .returned (.bool (lightB ss)) ∧ w = w' := by
  have hl := hs.len
  have hcap := hs.row.hcap
  have hle := hs.row.hle
  have hb' : len ≤ 8796093022208 := by omega
  clear hb
  go_enter Tryd.func11, Tryd.ntmps11
  go_wp2
  go_loop [3, 4] (fun t i => ∃ k : Nat, k ≤ len ∧ i = .int .i64 k ∧ t = .int .i64 (sizeN (ss.take k) - k) ∧ Hid (∀ s ∈ ss.take k, s.size ≤ 3000)) (fun _ i => len - (intOf i).toNat)
  case atStart => exact ⟨0, Nat.zero_le _, rfl, by simp [sizeN], fun s hs => by simp at hs⟩
  case round =>
    obtain ⟨k, hk, rfl, rfl, hall⟩ := hrel
    have h5 := sizeN_bound (ss.take k) hall.out
    have h6 : (ss.take k).length = k := by simp; omega
    rw [h6] at h5
    have h7 : k ≤ sizeN (ss.take k) := by
      clear h5 hall
      have : ∀ l : List ByteArray, l.length ≤ sizeN l := by
        intro l
        induction l with
        | nil => simp
        | cons s l ih => simp only [sizeN, List.length_cons]; omega
      have := this (ss.take k)
      omega
    clear h6
    by_cases hlt : k < len
    · obtain ⟨b, off, rfl⟩ := hs.row.addr hlt
      have hc := hs.at hlt
      have h1 := sizeN_take_succ ss k (by omega)
      have h3 := hs.get_small (i := k) (by omega)
      have h8 := List.take_succ_eq_append_getElem (l := ss) (i := k) (by omega)
      have hm : ss[k] ∈ ss := List.getElem_mem _
      obtain ⟨s, hsk⟩ : ∃ s, s = ss[k] := ⟨_, rfl⟩
      rw [← hsk] at hc h1 h3 h8 hm
      have H1 := Lib.hid h1
      have H8 := Lib.hid h8
      have HM := Lib.hid hm
      clear h1 h8 hsk hm
      by_cases hx : s.size ≤ 3000
      · go_wp2
        go_round
        case rel =>
          refine ⟨k + 1, by omega, by go_num, by rw [H1.out]; go_num, ?_⟩
          rw [H8.out]
          intro x hx'
          rcases List.mem_append.1 hx' with h | h
          · exact hall.out x h
          · simp at h; rw [h]; exact hx
        case measure => simp [intOf]; omega
      · have HN : Hid (lightB ss = false) := by
          have : ss.all (fun s => decide (s.size ≤ 3000)) = false := by
            simp only [List.all_eq_false]
            exact ⟨s, HM.out, by simpa using hx⟩
          simp [Hid, lightB, this]
        go_wp2
        go_ret
        exact ⟨ret_bool HN.out.symm, rfl⟩
    · have HK : Hid (ss.take k = ss) := List.take_of_length_le (by omega)
      have hke : k = len := by omega
      subst hke
      have HA : Hid (ss.all (fun s => decide (s.size ≤ 3000)) = true) := by
        have h := hall.out
        rw [HK.out] at h
        show ss.all _ = true
        simpa using h
      by_cases h9 : k ≤ 600
      · go_wp2
        go_ret
        refine ⟨ret_bool ?_, rfl⟩
        simp only [lightB, HA.out, Bool.true_and, hl, HK.out, h9, decide_true]
        exact decide_eq_decide.2 (by omega)
      · go_wp2
        go_ret
        refine ⟨ret_bool ?_, rfl⟩
        have : decide (k ≤ 600) = false := by simpa using h9
        simp only [lightB, HA.out, Bool.true_and, hl, this, Bool.false_and]
end Go.Proofs.YtelikppfiaobcaaDoor

/- Contracts of the reference's three and Text. -/
import Derived.Test.YtipbakdodbmfjaaGreatDoorText
import Derived.WalkSpells
import Derived.WalkLawsBesides
set_option linter.unusedVariables false
namespace Go.Proofs.YtipbakdodbmfjaaGreatDoor
open Go.ChangeShapes Go.WideShapes Go.ChangeAt Go.RowKit

theorem three_conv (w : World) (n : Nat) (hn : n < 256) :
    (convert 29 9 (.slice (some ⟨w.heap.size, 0, none⟩) 3 3)).run Tryz.prog (w.alloc (.cells #[.int .u8 (48 + (n : Int) / 100), .int .u8 (48 + (n : Int) / 10 % 10), .int .u8 (48 + (n : Int) % 10)] 5)) =
      .ok (.string ⟨#[dig (n / 100), dig (n / 10 % 10), dig (n % 10)]⟩) (w.alloc (.cells #[.int .u8 (48 + (n : Int) / 100), .int .u8 (48 + (n : Int) / 10 % 10), .int .u8 (48 + (n : Int) % 10)] 5)) := by
  have h := run_convert_bytes_arg (P := Tryz.prog) (w.alloc (.cells #[.int .u8 (48 + (n : Int) / 100), .int .u8 (48 + (n : Int) / 10 % 10), .int .u8 (48 + (n : Int) % 10)] 5)) 29 5 Tryz.underlying29 Tryz.underlying5 w.heap.size 0 3 3 [48 + (n : Int) / 100, 48 + (n : Int) / 10 % 10, 48 + (n : Int) % 10] rfl (fun i hi => by
    rw [Nat.zero_add, World.cell?_alloc_new]
    match i, hi with
    | 0, _ => rfl
    | 1, _ => rfl
    | 2, _ => rfl) 9 Tryz.underlying9
  rw [h]
  congr 2

theorem three_any (w : World) (n : Nat) (hn : n < 256) :
    Calls Tryz.prog 115 #[.int .u8 (n : Int)] w fun e w' => e = .returned (.string ⟨#[dig (n / 100), dig (n / 10 % 10), dig (n % 10)]⟩) ∧ Below w.heap.size w w' := by
  have hconv := three_conv w n hn
  go_enter Tryz.func115, Tryz.ntmps115
  go_wp2
  go_ret
  exact ⟨rfl, (Below.refl _ _).alloc (Nat.le_refl _) _⟩

theorem cat_list {a b : ByteArray} {la lb : List UInt8} (ha : a.data.toList = la) (hb : b.data.toList = lb) : (a ++ b).data.toList = la ++ lb := by
  rw [← ha, ← hb]; simp [ByteArray.data_append]
theorem size_of {a : ByteArray} {l : List UInt8} (h : a.data.toList = l) : a.size = l.length := by rw [← h]; simp
theorem ext_one (s : ByteArray) (j : Nat) (h : j < s.size) : (s.extract j (j + 1)).data.toList = [s[j]] := by
  simp [ByteArray.data_extract]
  rw [List.drop_eq_getElem_cons (by simpa using h)]
  rfl

theorem rt_step {p q : ByteArray} {A L E L' : List UInt8} (hp : p.data.toList = A ++ L) (hq : q.data.toList = E) (hL : L' = L ++ E) (hz : (A ++ L).length + E.length ≤ 140737488355328) : (p ++ q).data.toList = A ++ L' ∧ (p ++ q).size ≤ 140737488355328 := by
  have h := cat_list hp hq
  refine ⟨by rw [h, hL, List.append_assoc], ?_⟩
  rw [size_of h, List.length_append]; exact hz
theorem rt_step3 {p q r : ByteArray} {A L E L' : List UInt8} (hp : p.data.toList = A ++ L) (hq : q.data.toList ++ r.data.toList = E) (hL : L' = L ++ E) (hz : (A ++ L).length + E.length ≤ 140737488355328) : (p ++ q ++ r).data.toList = A ++ L' ∧ (p ++ q ++ r).size ≤ 140737488355328 := by
  have h : (p ++ q ++ r).data.toList = (A ++ L) ++ E := by rw [cat_list (cat_list hp rfl) rfl, List.append_assoc, hq]
  refine ⟨by rw [h, hL, List.append_assoc], ?_⟩
  rw [size_of h, List.length_append]; exact hz
theorem escN_dot {n : Nat} (h : n = 46 ∨ n = 92) : escN n = [92, UInt8.ofNat n] := by rw [escN, if_pos h]
theorem escN_num {n : Nat} (h1 : ¬ n = 46) (h2 : ¬ n = 92) (h : n < 33 ∨ 126 < n) : escN n = [92, dig (n / 100), dig (n / 10 % 10), dig (n % 10)] := by
  rw [escN, if_neg (by omega), if_pos h]
theorem escN_plain {n : Nat} (h1 : ¬ n = 46) (h2 : ¬ n = 92) (h3 : 33 ≤ n) (h4 : n ≤ 126) : escN n = [UInt8.ofNat n] := by
  rw [escN, if_neg (by omega), if_neg (by omega)]

set_option maxHeartbeats 2000000 in
theorem rtext_any (w : World) (ao : Option Addr) (len cap : Nat) (ss : List ByteArray) (hs : Strs w ao len cap ss) (hb : 4 * sizeN ss ≤ 140737488355328) :
    Calls Tryz.prog 74 #[.slice ao len cap] w fun e w' => e = .returned (.string ⟨(textT ss).toArray⟩) ∧ Below w.heap.size w w' := by
  have hl := hs.len
  have hcap := hs.row.hcap
  have hle := hs.row.hle
  have HB := Lib.hid hb; clear hb
  by_cases h0 : len = 0
  · have hT0 : Hid (textT ss = [46]) := by simp only [Hid, textT]; rw [if_pos (by omega)]
    have hq : ((len : Int) == 0) = true := by rw [beq_iff_eq]; omega
    go_enter Tryz.func74, Tryz.ntmps74
    go_wp2
    go_ret
    exact ⟨ret_str (by rw [hT0.out]), Below.refl _ _⟩
  · have hT0 : Hid (textT ss = bodyT ss) := by simp only [Hid, textT]; rw [if_neg (by omega)]
    have hq : ((len : Int) == 0) = false := by rw [beq_eq_false_iff_ne]; omega
    have hpos : 0 < len := by omega
    clear h0
    go_enter Tryz.func74, Tryz.ntmps74
    go_wp2
    go_loopw [3, 4, 5, 6] (fun t i _ _ wr => ∃ (k : Nat) (o : ByteArray), k ≤ len ∧ i = .int .i64 k ∧ t = .string o ∧ Hid (o.data.toList = bodyT (ss.take k)) ∧ o.size ≤ 140737488355328 ∧ Below w.heap.size w wr) (fun _ i _ _ _ => len - (intOf i).toNat)
    case atStart => exact ⟨0, ⟨#[]⟩, Nat.zero_le _, rfl, rfl, rfl, by decide, Below.refl _ _⟩
    case round =>
      obtain ⟨k, o, hk, rfl, rfl, ho, hoz, hbr⟩ := hrel
      by_cases hlt : k < len
      · obtain ⟨b, off, rfl⟩ := hs.row.addr hlt
        have h3 := hs.get_small (i := k) (by omega)
        have hsn := bodyT_snoc ss k (by omega)
        obtain ⟨s, hsk⟩ : ∃ s, s = ss[k] := ⟨_, rfl⟩
        have hs' := Lib.hid (show ∀ w' (h : Below w.heap.size w w'), w'.cell? ⟨b, off + k, none⟩ = some (.string s) from fun w' h => by rw [hsk]; exact (hs.below h (Nat.le_refl _)).at hlt)
        rw [← hsk] at h3 hsn
        clear hsk
        have HSN := Lib.hid hsn; clear hsn
        have hfin := bodyT_len (ss.take (k + 1))
        have hfin2 := sizeN_take_le ss (k + 1)
        have HF := Lib.hid (show (bodyT (ss.take (k + 1))).length ≤ 140737488355328 by have := HB.out; omega)
        clear hfin hfin2
        go_wp2
        obtain ⟨wo, rfl⟩ : ∃ wo : World, wo = wr := ⟨_, rfl⟩
        go_loopw [3, 5, 6] (fun t i _ wr => ∃ (j : Nat) (o : ByteArray), j ≤ s.size ∧ i = .int .i64 j ∧ t = .string o ∧ Hid (o.data.toList = bodyT (ss.take k) ++ labT (s.data.toList.take j)) ∧ o.size ≤ 140737488355328 ∧ Below w.heap.size w wr) (fun _ i _ _ => s.size - (intOf i).toNat)
        case atStart => exact ⟨0, o, Nat.zero_le _, rfl, rfl, by have := ho.out; simpa [Hid, labT] using this, hoz, hbr⟩
        case round =>
          clear hbr ho hoz
          obtain ⟨j, p, hj, rfl, rfl, hp, hpz, hbr⟩ := hrel
          have hc := hs'.out _ hbr
          by_cases hjl : j < s.size
          · have hsn2 := labT_snoc s.data.toList j (by simpa using hjl)
            have hsz : (bodyT (ss.take k) ++ labT (s.data.toList.take j)).length + (escN (s[j]).toNat).length ≤ 140737488355328 := by
              have e1 := congrArg List.length hsn2
              have e2 := labT_take s.data.toList (j + 1)
              have e3 := congrArg List.length HSN.out
              have e4 := HF.out
              simp only [List.length_append, List.length_cons, List.length_nil] at e1 e3 ⊢
              have e5 : (s.data.toList[j]'(by simpa using hjl)) = s[j] := rfl
              rw [e5] at e1
              omega
            have HS2 := Lib.hid hsn2; clear hsn2
            have HZ := Lib.hid hsz; clear hsz
            rcases (show s[j].toNat = 46 ∨ s[j].toNat = 92 ∨ (¬ s[j].toNat = 46 ∧ ¬ s[j].toNat = 92 ∧ (s[j].toNat < 33 ∨ 126 < s[j].toNat)) ∨ (33 ≤ s[j].toNat ∧ s[j].toNat ≤ 126 ∧ ¬ s[j].toNat = 46 ∧ ¬ s[j].toNat = 92) by omega) with h | h | h | h
            · have q1 : ((s[j].toNat : Int) == 46) = true := by rw [beq_iff_eq]; omega
              have HH := Lib.hid h; clear h
              go_wp2
              go_roundw
              case rel =>
                have R := rt_step (q := ⟨#[92, 46]⟩) (E := escN s[j].toNat) hp.out (by rw [escN_dot (.inl HH.out), HH.out]; rfl) HS2.out HZ.out
                exact ⟨j + 1, _, by omega, by go_num, rfl, R.1, R.2, hbr⟩
              case measure => simp [intOf]; omega
            · have q1 : ((s[j].toNat : Int) == 46) = false := by rw [beq_eq_false_iff_ne]; omega
              have q2 : ((s[j].toNat : Int) == 92) = true := by rw [beq_iff_eq]; omega
              have HH := Lib.hid h; clear h
              go_wp2
              go_roundw
              case rel =>
                have R := rt_step (q := ⟨#[92, 92]⟩) (E := escN s[j].toNat) hp.out (by rw [escN_dot (.inr HH.out), HH.out]; rfl) HS2.out HZ.out
                exact ⟨j + 1, _, by omega, by go_num, rfl, R.1, R.2, hbr⟩
              case measure => simp [intOf]; omega
            · obtain ⟨h1, h2, h4⟩ := h
              have q1 : ((s[j].toNat : Int) == 46) = false := by rw [beq_eq_false_iff_ne]; omega
              have q2 : ((s[j].toNat : Int) == 92) = false := by rw [beq_eq_false_iff_ne]; omega
              have HE := Lib.hid (escN_num h1 h2 h4)
              have h5 : p.size + 1 ≤ 9223372036854775807 := by omega
              have h6 : p.size + 1 + 3 ≤ 9223372036854775807 := by omega
              clear h1 h2
              rcases h4 with h4 | h4
              · have q3 : decide ((s[j].toNat : Int) < 33) = true := by rw [decide_eq_true_iff]; omega
                clear h4
                go_wp2_with fail
                refine (three_any _ _ s[j].toNat_lt).mono ?_
                rintro e w2 ⟨rfl, hb2⟩
                have hbe := below_on hbr hb2 (Nat.le_refl _)
                clear hb2 hc
                go_wp2
                go_roundw
                case rel =>
                  have R := rt_step3 (q := ⟨#[92]⟩) (r := ⟨#[dig (s[j].toNat / 100), dig (s[j].toNat / 10 % 10), dig (s[j].toNat % 10)]⟩) (E := escN s[j].toNat) hp.out (by rw [HE.out]; rfl) HS2.out HZ.out
                  exact ⟨j + 1, _, by omega, by go_num, rfl, R.1, R.2, hbe⟩
                case measure => simp [intOf]; omega
              · have q3 : decide ((s[j].toNat : Int) < 33) = false := by rw [decide_eq_false_iff_not]; omega
                have q4 : decide ((126 : Int) < (s[j].toNat : Int)) = true := by rw [decide_eq_true_iff]; omega
                clear h4
                go_wp2_with fail
                refine (three_any _ _ s[j].toNat_lt).mono ?_
                rintro e w2 ⟨rfl, hb2⟩
                have hbe := below_on hbr hb2 (Nat.le_refl _)
                clear hb2 hc
                go_wp2
                go_roundw
                case rel =>
                  have R := rt_step3 (q := ⟨#[92]⟩) (r := ⟨#[dig (s[j].toNat / 100), dig (s[j].toNat / 10 % 10), dig (s[j].toNat % 10)]⟩) (E := escN s[j].toNat) hp.out (by rw [HE.out]; rfl) HS2.out HZ.out
                  exact ⟨j + 1, _, by omega, by go_num, rfl, R.1, R.2, hbe⟩
                case measure => simp [intOf]; omega
            · obtain ⟨h3', h4', h1, h2⟩ := h
              have q1 : ((s[j].toNat : Int) == 46) = false := by rw [beq_eq_false_iff_ne]; omega
              have q2 : ((s[j].toNat : Int) == 92) = false := by rw [beq_eq_false_iff_ne]; omega
              have q3 : decide ((s[j].toNat : Int) < 33) = false := by rw [decide_eq_false_iff_not]; omega
              have q4 : decide ((126 : Int) < (s[j].toNat : Int)) = false := by rw [decide_eq_false_iff_not]; omega
              have HE := Lib.hid (escN_plain h1 h2 h3' h4')
              clear h1 h2 h3' h4'
              have hxs := size_of (ext_one s j hjl)
              have hx2 : p.size + (s.extract j (j + 1)).size ≤ 9223372036854775807 := by rw [hxs]; simp; omega
              clear hxs
              go_wp2
              go_roundw
              case rel =>
                have R := rt_step (q := s.extract j (j + 1)) (E := escN s[j].toNat) hp.out (by rw [HE.out, ext_one s j hjl]; simp) HS2.out HZ.out
                exact ⟨j + 1, _, by omega, by go_num, rfl, R.1, R.2, hbr⟩
              case measure => simp [intOf]; omega
          · have HA : Hid (s.data.toList.take j = s.data.toList) := take_bytes s j (by omega)
            go_wp2
            go_roundw
            case rel =>
              have e := hp.out
              rw [HA.out] at e
              have R := cat_list (b := ⟨#[46]⟩) e rfl
              have R2 := R.trans HSN.out.symm
              exact ⟨k + 1, _, by omega, by go_num, rfl, R2, by rw [size_of R2]; exact HF.out, hbr⟩
            case measure => simp [intOf]; omega
      · have HA : Hid (ss.take k = ss) := List.take_of_length_le (by omega)
        go_wp2
        go_ret
        refine ⟨ret_str ?_, hbr⟩
        have e := ho.out
        rw [HA.out] at e
        rw [hT0.out, ← e]
end Go.Proofs.YtipbakdodbmfjaaGreatDoor

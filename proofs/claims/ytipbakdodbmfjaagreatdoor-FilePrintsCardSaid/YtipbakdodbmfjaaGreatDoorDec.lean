/- Contracts of the reference's udec, Udec and Dec: a number's numeral. -/
import Derived.Test.YtipbakdodbmfjaaGreatDoorNum
import Derived.Test.YtipbakdodbmfjaaGreatDoorSmall
import Derived.Test.YtipbakdodbmfjaaGreatDoorLists
import Derived.IntWalk
namespace Go.Proofs.YtipbakdodbmfjaaGreatDoor
open Go.ChangeShapes Go.WideShapes Go.ChangeAt Go.RowKit

theorem conv_byte (w : World) (n : Nat) (x : UInt8) (hx : x.toNat = n) : (convert 29 9 (.slice (some ⟨w.heap.size, 0, none⟩) 1 1)).run Tryz.prog (w.alloc (.cells #[.int .u8 (n : Int)] 5)) = .ok (.string ⟨#[x]⟩) (w.alloc (.cells #[.int .u8 (n : Int)] 5)) := by
  have h := row_one w (.int .u8 (n : Int)) 5
  have := run_convert_bytes_arg (P := Tryz.prog) (w.alloc (.cells #[.int .u8 (n : Int)] 5)) 29 5 Tryz.underlying29 Tryz.underlying5 w.heap.size 0 1 1 [(n : Int)] rfl (fun i hi => by
    have := h.at hi
    rw [Nat.zero_add] at this ⊢
    rw [this]
    obtain rfl : i = 0 := by omega
    rfl) 9 Tryz.underlying9
  rw [this]
  subst hx
  have e := strOfNums_bytes [x]
  simp only [List.map_cons, List.map_nil] at e
  rw [e]
theorem cat_cons (x : UInt8) (L : ByteArray) : ((⟨#[x]⟩ : ByteArray) ++ L).data.toList = x :: L.data.toList ∧ ((⟨#[x]⟩ : ByteArray) ++ L).size = L.size + 1 := by
  constructor
  · rw [ByteArray.data_append, Array.toList_append]; rfl
  · rw [ByteArray.size_append]; show 1 + L.size = _; omega
theorem bytes_eq (L : ByteArray) (l : List UInt8) (h : L.data.toList = l) : L = ⟨l.toArray⟩ := by
  subst h
  cases L
  simp
theorem dec_len : ∀ (k u : Nat), u < 10 ^ (k + 1) → (Lib.decDigits u).length ≤ k + 1
  | 0, u, h => by rw [dec_one u (by omega)]; simp
  | k + 1, u, h => by
    by_cases h10 : u < 10
    · rw [dec_one u h10]; simp
    · rw [dec_step u h10, List.length_append]
      have := dec_len k (u / 10) (by rw [Nat.pow_succ] at h; omega)
      simp; omega
theorem dec_len20 (u : Nat) (h : u < 18446744073709551616) : (Lib.decDigits u).length ≤ 20 := dec_len 19 u (by omega)

set_option maxHeartbeats 1000000 in
set_option maxRecDepth 100000 in
theorem udec_any (w : World) (u : Nat) (hu : u < 18446744073709551616) :
    Calls Tryz.prog 45 #[.int .u64 (u : Int)] w fun e w' => e = .returned (.string ⟨(Lib.decDigits u).toArray⟩) ∧ Below w.heap.size w w' := by
  have h20 := dec_len20 u hu
  have hu' : Hid (u < 18446744073709551616) := hu
  clear hu
  obtain ⟨D, hD⟩ : ∃ D, D = Lib.decDigits u := ⟨_, rfl⟩
  rw [← hD] at h20 ⊢
  have HD := Lib.hid hD; clear hD
  go_enter Tryz.func45, Tryz.ntmps45
  go_wp2
  go_loopw [0, 3] (fun uv sv wr => ∃ (v : Nat) (L : ByteArray), uv = .int .u64 (v : Int) ∧ sv = .string L ∧ Below w.heap.size w wr ∧ Hid (v ≤ u ∧ D = Lib.decDigits v ++ L.data.toList)) (fun uv _ _ => (intOf uv).toNat)
  case atStart => exact ⟨u, _, rfl, rfl, Below.refl _ _, Nat.le_refl _, by rw [HD.out]; show _ = _ ++ []; simp⟩
  case round =>
    obtain ⟨v, L, rfl, rfl, hbr, hinv⟩ := hrel
    have hlen : L.size ≤ 20 := by
      have h1 := congrArg List.length hinv.out.2
      rw [List.length_append] at h1
      have h2 : L.data.toList.length = L.size := by simp
      omega
    have hv : v < 18446744073709551616 := Nat.lt_of_le_of_lt hinv.out.1 hu'.out
    have hx : (UInt8.ofNat (48 + v % 10)).toNat = 48 + v % 10 := dig_nat _ (by omega)
    have hcat := cat_cons (UInt8.ofNat (48 + v % 10)) L
    have hcv := conv_byte wr (48 + v % 10) _ hx
    obtain ⟨x, hxe⟩ : ∃ x, x = UInt8.ofNat (48 + v % 10) := ⟨_, rfl⟩
    rw [← hxe] at hcat hcv
    have HXE := Lib.hid hxe; clear hxe hx
    have HC := Lib.hid hcat; clear hcat
    obtain ⟨r, hr⟩ : ∃ r, r = v % 10 := ⟨_, rfl⟩
    obtain ⟨q, hq⟩ : ∃ q, q = v / 10 := ⟨_, rfl⟩
    have a1 : IntKind.u8.wrap (48 + (r : Int)) = 48 + (r : Int) := IntWalk.u8_in _ (by omega)
    have a2 : ((v : Int) % 10) = (r : Int) := by omega
    have a3 : ((v : Int) / 10) = (q : Int) := by omega
    have a4 : (r : Int) < 10 := by omega
    have a5 : IntKind.u8.wrap (r : Int) = (r : Int) := IntWalk.u8_in _ (by omega)
    rw [← hr] at hcv
    have hcv' : (convert 29 9 (.slice (some ⟨wr.heap.size, 0, none⟩) 1 1)).run Tryz.prog (wr.alloc (.cells #[.int .u8 (48 + (r : Int))] 5)) = .ok (.string ⟨#[x]⟩) (wr.alloc (.cells #[.int .u8 (48 + (r : Int))] 5)) := by
      have e : ((48 + r : Nat) : Int) = 48 + (r : Int) := by omega
      rw [e] at hcv; exact hcv
    clear hcv
    have HR := Lib.hid hr; clear hr
    have HQ := Lib.hid hq; clear hq
    have hbn : Below w.heap.size w (wr.alloc (.cells #[.int .u8 (48 + (r : Int))] 5)) := hbr.alloc hbr.size _
    have HBN := Lib.hid hbn; clear hbn
    by_cases h0 : q = 0
    · have hfin : Hid (D = x :: L.data.toList) := by
        show D = _
        rw [hinv.out.2, dec_one v (by have := HQ.out; omega), HXE.out, show v % 10 = v from by have := HQ.out; omega]; rfl
      have q0 : ((q : Int) == 0) = true := by rw [beq_iff_eq]; omega
      clear h0
      go_wp2
      go_ret
      exact ⟨ret_str (bytes_eq _ _ (by rw [HC.out.1, hfin.out])), HBN.out⟩
    · have hfin : Hid (q ≤ u ∧ D = Lib.decDigits q ++ ((⟨#[x]⟩ : ByteArray) ++ L).data.toList) := by
        refine ⟨by have := HQ.out; have := hinv.out.1; omega, ?_⟩
        rw [hinv.out.2, dec_step v (by have := HQ.out; omega), HC.out.1, HXE.out, ← HQ.out]; simp
      have q0 : ((q : Int) == 0) = false := by rw [beq_eq_false_iff_ne]; omega
      have hlt : q < v := by have := HQ.out; omega
      go_wp2
      go_roundw
      case rel => exact ⟨q, _, rfl, rfl, HBN.out, hfin.out⟩
      case measure => simp [intOf]; omega
theorem udec2_any (w : World) (u : Nat) (hu : u < 18446744073709551616) :
    Calls Tryz.prog 75 #[.int .u64 (u : Int)] w fun e w' => e = .returned (.string ⟨(Lib.decDigits u).toArray⟩) ∧ Below w.heap.size w w' := by
  have H := Lib.hid (fun w' => udec_any w' u hu)
  clear hu
  go_enter Tryz.func75, Tryz.ntmps75
  go_wp2_with fail
  refine (H.out _).mono ?_
  rintro e w1 ⟨rfl, hb⟩
  go_wp2
  go_ret
  exact ⟨rfl, hb⟩
set_option maxRecDepth 100000 in
theorem dec_any (w : World) (n : Int) (h0 : -9223372036854775808 ≤ n) (h1 : n ≤ 9223372036854775807) :
    Calls Tryz.prog 17 #[.int .i64 n] w fun e w' => e = .returned (.string ⟨(Lib.itoa n).toArray⟩) ∧ Below w.heap.size w w' := by
  by_cases hn : n < 0
  · obtain ⟨m, rfl⟩ : ∃ m : Nat, n = -((m : Int) + 1) := ⟨(-n - 1).toNat, by omega⟩
    have hH := fun w' => udec_any w' (m + 1) (by omega)
    have ec : ((m + 1 : Nat) : Int) = (m : Int) + 1 := by omega
    simp only [ec] at hH
    have H := Lib.hid hH
    clear ec hH
    have hi : Lib.itoa (-((m : Int) + 1)) = 45 :: Lib.decDigits (m + 1) := by
      have := Lib.itoa_neg (m + 1) (by omega)
      simpa using this
    have HI := Lib.hid hi
    have a1 : wrap64 (m : Int) = (m : Int) := IntWalk.wrap64_in _ (by omega)
    have b1 : wrap64 (-((m : Int) + 1) + 1) = -(m : Int) := by rw [IntWalk.wrap64_in _ (by omega)]; omega
    have a3 : IntKind.u64.wrap (m : Int) = (m : Int) := IntWalk.u64_in _ (by omega)
    have a4 : IntKind.u64.wrap ((m : Int) + 1) = (m : Int) + 1 := IntWalk.u64_in _ (by omega)
    have h20 := dec_len20 (m + 1) (by omega)
    have d0 : decide (-((m : Int) + 1) < 0) = true := by rw [decide_eq_true_iff]; omega
    obtain ⟨D, hD⟩ : ∃ D, D = Lib.decDigits (m + 1) := ⟨_, rfl⟩
    rw [← hD] at H HI h20
    have hsz : (⟨D.toArray⟩ : ByteArray).size ≤ 20 := by show D.toArray.size ≤ 20; simpa using h20
    obtain ⟨T, hT⟩ : ∃ T : ByteArray, T = ⟨D.toArray⟩ := ⟨_, rfl⟩
    rw [← hT] at H hsz
    have HT := Lib.hid hT
    clear hi h0 h1 hD h20 hT
    go_enter Tryz.func17, Tryz.ntmps17
    go_wp2_with fail
    refine (H.out _).mono ?_
    rintro e w1 ⟨rfl, hb⟩
    go_wp2
    go_ret
    refine ⟨ret_str (bytes_eq _ _ ?_), hb⟩
    rw [HI.out, (cat_cons 45 _).1, HT.out]
  · obtain ⟨m, rfl⟩ : ∃ m : Nat, n = (m : Int) := ⟨n.toNat, by omega⟩
    have H := Lib.hid (fun w' => udec_any w' m (by omega))
    have HI := Lib.hid (Lib.itoa_nonneg m)
    have a3 : IntKind.u64.wrap (m : Int) = (m : Int) := IntWalk.u64_in _ (by omega)
    clear h0 h1 hn
    go_enter Tryz.func17, Tryz.ntmps17
    go_wp2_with fail
    refine (H.out _).mono ?_
    rintro e w1 ⟨rfl, hb⟩
    go_wp2
    go_ret
    exact ⟨ret_str (by rw [HI.out]), hb⟩
end Go.Proofs.YtipbakdodbmfjaaGreatDoor

/- The contract of script.unhex: the bytes that are written. -/
import Derived.Test.YtipbakdodbmfjaaGreatDoorPu16
import Derived.Test.YtipbakdodbmfjaaGreatDoorParse
import Derived.Test.YtipbakdodbmfjaaGreatDoorHex
import Derived.Test.YtipbakdodbmfjaaGreatDoorEnv
import Derived.Test.YtipbakdodbmfjaaGreatDoorLhex
import Derived.WalkSpells
namespace Go.Proofs.YtipbakdodbmfjaaGreatDoor
open Go.ChangeShapes Go.WideShapes Go.ChangeAt Go.RowKit

def hexDigits : List UInt8 := [48, 49, 50, 51, 52, 53, 54, 55, 56, 57, 97, 98, 99, 100, 101, 102]
theorem contains_hex (x : UInt8) : hexDigits.contains x = isHex x := by
  have key : ∀ n : Fin 256, hexDigits.contains (UInt8.ofNat n.val) = isHex (UInt8.ofNat n.val) := by decide +kernel
  have := key ⟨x.toNat, x.toNat_lt⟩
  rwa [UInt8.ofNat_toNat] at this
theorem trim_nil (l cs : List UInt8) : Lib.trimS l cs = [] ↔ l.all (cs.contains ·) = true := by
  have kill : ∀ l : List UInt8, l.dropWhile (cs.contains ·) = [] ↔ l.all (cs.contains ·) = true := by
    intro l
    induction l with
    | nil => simp
    | cons x l ih =>
      rw [List.dropWhile_cons, List.all_cons]
      cases h : cs.contains x
      · simp
      · simpa using ih
  unfold Lib.trimS Lib.trimLeftS
  rw [kill]
  unfold Lib.trimRightS
  constructor
  · intro h
    by_cases h2 : l.all (cs.contains ·) = true
    · exact h2
    · exfalso
      -- the last byte that is none stays
      have h3 : l.reverse.dropWhile (cs.contains ·) ≠ [] := by
        intro e
        rw [kill, List.all_reverse] at e
        exact h2 e
      cases hd : l.reverse.dropWhile (cs.contains ·) with
      | nil => exact h3 hd
      | cons x r =>
        have h4 : cs.contains x = false := by
          have := List.head?_dropWhile_not (cs.contains ·) l.reverse
          rw [hd] at this
          simpa using this
        rw [hd, List.all_reverse, List.all_cons, h4] at h
        simp at h
  · intro h
    have : l.reverse.dropWhile (cs.contains ·) = [] := (kill l.reverse).2 (by rw [List.all_reverse]; exact h)
    rw [this]; rfl
theorem pairs_snoc : ∀ (k : Nat) (r : List UInt8) (c d : UInt8) (t : List UInt8), r.drop (2 * k) = c :: d :: t → pairs (r.take (2 * (k + 1))) = pairs (r.take (2 * k)) ++ [UInt8.ofNat (hexV c * 16 + hexV d)]
  | 0, r, c, d, t, h => by
    simp only [Nat.mul_zero, List.drop_zero] at h
    subst h
    simp [pairs]
  | k + 1, r, c, d, t, h => by
    match r with
    | [] => exact absurd (congrArg List.length h) (by simp)
    | [x] => exact absurd (congrArg List.length h) (by rw [List.length_drop]; simp; omega)
    | x :: y :: r =>
      have h2 : r.drop (2 * k) = c :: d :: t := by
        rw [show 2 * (k + 1) = 2 * k + 1 + 1 from by omega] at h
        exact h
      have ih := pairs_snoc k r c d t h2
      have e1 : (x :: y :: r).take (2 * (k + 1 + 1)) = x :: y :: r.take (2 * (k + 1)) := by rw [show 2 * (k + 1 + 1) = 2 * (k + 1) + 1 + 1 from by omega]; rfl
      have e2 : (x :: y :: r).take (2 * (k + 1)) = x :: y :: r.take (2 * k) := by rw [show 2 * (k + 1) = 2 * k + 1 + 1 from by omega]; rfl
      rw [e1, e2, pairs, pairs, ih]
      rfl
theorem pairs_le : ∀ (n : Nat) (r : List UInt8), r.length ≤ n → (pairs r).length ≤ r.length
  | _, [], _ => Nat.le_refl _
  | _, [_], _ => by simp [pairs]
  | 0, _ :: _ :: _, h => by simp at h
  | n + 1, c :: d :: r, h => by
    have := pairs_le n r (by simp at h; omega)
    simp only [pairs, List.length_cons]; omega
/-- what is handed back behind a reading of bytes -/
def UnhexRes (w : World) (r : Option (List UInt8)) (e : Ending) (w' : World) : Prop :=
  match r with
  | some b => ∃ ao n cap, e = .returned (.tuple #[.slice ao n cap, .bool true]) ∧ Byts w' ao n cap b ∧ Below w.heap.size w w' ∧ ∀ a, ao = some a → w.heap.size ≤ a.block
  | none => e = .returned (.tuple #[.slice none 0 0, .bool false]) ∧ Below w.heap.size w w'
theorem UnhexRes.no {w w' : World} {r : Option (List UInt8)} (hr : r = none) (hb : Below w.heap.size w w') : UnhexRes w r (.returned (.tuple #[.slice none 0 0, .bool false])) w' := by
  subst hr; exact ⟨rfl, hb⟩
theorem UnhexRes.yes {w w' : World} {r : Option (List UInt8)} {b : List UInt8} {ao : Option Addr} {n cap : Nat} (hr : r = some b) (hs : Byts w' ao n cap b) (hb : Below w.heap.size w w') (hf : ∀ a, ao = some a → w.heap.size ≤ a.block) : UnhexRes w r (.returned (.tuple #[.slice ao n cap, .bool true])) w' := by
  subst hr; exact ⟨ao, n, cap, rfl, hs, hb, hf⟩
theorem prefix_x (l : List UInt8) : (Lib.hasPrefix l [120] = true ∧ ∃ r, l = 120 :: r ∧ Lib.trimPrefix l [120] = r) ∨ (Lib.hasPrefix l [120] = false ∧ unhexP l = none) := by
  cases l with
  | nil => exact Or.inr ⟨rfl, rfl⟩
  | cons c r =>
    by_cases h : c = 120
    · subst h
      exact Or.inl ⟨by simp [Lib.hasPrefix], r, rfl, by simp [Lib.trimPrefix, Lib.hasPrefix]⟩
    · refine Or.inr ⟨?_, by simp [unhexP, h]⟩
      have : ((120 : UInt8) == c) = false := by rw [beq_eq_false_iff_ne]; exact fun e => h e.symm
      simp [Lib.hasPrefix, List.isPrefixOf, this]

set_option maxHeartbeats 2000000 in
set_option maxRecDepth 100000 in
theorem unhex_any (w : World) (s : ByteArray) (hs : s.size ≤ 1099511627776) :
    Calls Tryz.prog 120 #[.string s] w (UnhexRes w (unhexP s.data.toList)) := by
  have hsl : s.data.toList.length = s.size := by simp
  have HCP := Lib.hid (Tryz.strings_CutPrefix s ⟨#[120]⟩ w)
  have h1 : (⟨#[120]⟩ : ByteArray).data.toList = [120] := rfl
  rcases prefix_x s.data.toList with ⟨hp, r, hr, htp⟩ | ⟨hp, hn⟩
  · rw [h1, hp, htp] at HCP
    have hrl : r.length + 1 = s.size := by rw [← hsl, hr]; rfl
    rw [hr]
    obtain ⟨T, hT⟩ : ∃ T : ByteArray, T = ⟨r.toArray⟩ := ⟨_, rfl⟩
    have hTd : T.data.toList = r := by rw [hT]
    have hTs : T.size = r.length := by rw [hT]; show r.toArray.size = _; simp
    rw [← hT] at HCP
    clear hp hr htp hsl h1 hT
    have HTR := Lib.hid (Tryz.strings_Trim_ascii T ⟨#[48, 49, 50, 51, 52, 53, 54, 55, 56, 57, 97, 98, 99, 100, 101, 102]⟩ w (by omega) (by decide) (ascii_of_all (by decide)))
    have hcut : (⟨#[48, 49, 50, 51, 52, 53, 54, 55, 56, 57, 97, 98, 99, 100, 101, 102]⟩ : ByteArray).data.toList = hexDigits := rfl
    rw [hcut, hTd] at HTR
    clear hcut
    have HTD := Lib.hid hTd; clear hTd
    obtain ⟨m, hm⟩ : ∃ m, m = r.length := ⟨_, rfl⟩
    rw [← hm] at hrl hTs
    have HM := Lib.hid hm; clear hm
    have HTS := Lib.hid hTs; clear hTs
    have hmm : T.size ≤ 1099511627776 := by have := HTS.out; omega
    have a1 : (T.size : Int).tmod 2 = (T.size : Int) % 2 := Int.tmod_eq_emod_of_nonneg (by omega)
    by_cases hodd : T.size % 2 = 0
    · have d1 : decide ((0 : Int) < (T.size : Int) % 2) = false := by rw [decide_eq_false_iff_not]; omega
      by_cases hall : r.all isHex = true
      · have hem : Lib.trimS r hexDigits = [] := by
          rw [trim_nil, ← hall]; congr 1; funext x; exact contains_hex x
        have hU : unhexP (120 :: r) = some (pairs r) := by
          simp only [unhexP]
          rw [if_pos ⟨trivial, by rw [← HM.out, ← HTS.out]; exact hodd, hall⟩]
        rw [hem] at HTR
        have HU := Lib.hid hU; clear hU
        have HAL := Lib.hid hall; clear hall
        have HOD := Lib.hid hodd; clear hodd
        clear hem
        go_enter Tryz.func120, Tryz.ntmps120
        go_wp2_with fail
        refine HCP.out.mono ?_
        rintro e w1 ⟨rfl, hw1⟩
        obtain rfl : w = w1 := hw1.symm
        go_wp2_with fail
        refine HTR.out.mono ?_
        rintro e w2 ⟨rfl, hb⟩
        go_wp2_with fail
        have HB0 := Lib.hid hb; clear hb
        go_loopw [0, 5] (fun sv ov wr => ∃ (j : Nat) (L : ByteArray), sv = .string L ∧ L.size + 2 * j = T.size ∧ Hid (Below w.heap.size w wr ∧ L.data.toList = r.drop (2 * j) ∧ wr.ownsRow w.heap.size 5 1 ov (pairs (r.take (2 * j))).length ((pairs (r.take (2 * j))).map fun c => Value.int .u8 (c.toNat : Int)))) (fun sv _ _ => match sv with | .string L => L.size | _ => 0)
        case atStart => exact ⟨0, T, rfl, by omega, HB0.out, by rw [HTD.out]; rfl, World.ownsRow_nil _ _ _ _⟩
        case round =>
          obtain ⟨j, L, rfl, hLs, hinv⟩ := hrel
          have hLd : L.data.toList.length = L.size := by simp
          by_cases h0 : L.size = 0
          · have hnil : L.data.toList = [] := List.eq_nil_of_length_eq_zero (by omega)
            have e1 : L.toList = [] := by rw [ByteArray.toList_eq]; exact hnil
            have e2 : (!L.toList.isEmpty) = false := by rw [e1]; rfl
            have hfull : r.take (2 * j) = r := List.take_of_length_le (by have := HM.out; have := HTS.out; omega)
            have hown := hinv.out.2.2
            rw [hfull] at hown
            obtain ⟨ao, cap, rfl, hrow⟩ := row_of_owns hown (by
              have h5 : (pairs r).length ≤ r.length := pairs_le r.length r (Nat.le_refl _)
              have := HM.out; have := HTS.out; omega)
            have HRW := Lib.hid hrow
            have HFR := Lib.hid (owns_fresh hown)
            clear hown hrow hfull hnil hLd
            go_wp2
            go_ret2
            exact UnhexRes.yes HU.out HRW.out hinv.out.1 HFR.out
          · have h2 : 2 ≤ L.size := by have := HOD.out; omega
            obtain ⟨c, d, t, hcd⟩ : ∃ c d t, L.data.toList = c :: d :: t := by
              match hl : L.data.toList with
              | [] => rw [hl] at hLd; simp at hLd; omega
              | [_] => rw [hl] at hLd; simp at hLd; omega
              | c :: d :: t => exact ⟨c, d, t, rfl⟩
            have e1 : ¬ L.toList = [] := by rw [ByteArray.toList_eq, hcd]; simp
            have e2 : (!L.toList.isEmpty) = true := by rw [ByteArray.toList_eq, hcd]; rfl
            have e3 : L.toList.isEmpty = false := by rw [ByteArray.toList_eq, hcd]; rfl
            have hdr : r.drop (2 * j) = c :: d :: t := by rw [← hinv.out.2.1]; exact hcd
            have hin : ∀ x ∈ c :: d :: t, isHex x = true := by
              intro x hx
              have h5 := List.all_eq_true.1 HAL.out
              exact h5 x (List.mem_of_mem_drop (by rw [hdr]; exact hx))
            have hx2 : (L.extract 0 2).data.toList = [c, d] := by rw [extract_head, hcd]; rfl
            have HP := Lib.hid (fun w' => pu16_any w' (L.extract 0 2) c d hx2 (hin c (by simp)) (hin d (by simp)))
            have hv : hexV c * 16 + hexV d ≤ 255 := by
              have a := (hexV_back c (hin c (by simp))).1
              have b := (hexV_back d (hin d (by simp))).1
              omega
            obtain ⟨n, hn⟩ : ∃ n, n = hexV c * 16 + hexV d := ⟨_, rfl⟩
            have hps := pairs_snoc j r c d t hdr
            rw [← hn] at hv HP hps
            have hLd2 : (L.extract 2 L.size).data.toList = r.drop (2 * (j + 1)) := by
              have := extract_tail L 2
              rw [this, hinv.out.2.1, List.drop_drop]
              congr 1
            have hLs2 : (L.extract 2 L.size).size = L.size - 2 := by rw [ByteArray.size_extract]; omega
            have hnn : (UInt8.ofNat n).toNat = n := by rw [UInt8.toNat_ofNat']; omega
            have HPS := Lib.hid hps
            have HL2 := Lib.hid hLd2
            have HLS2 := Lib.hid hLs2
            have HNN := Lib.hid hnn
            have hlen2 : (pairs (r.take (2 * j))).length ≤ 1099511627776 := by
              have h5 := pairs_le (r.take (2 * j)).length (r.take (2 * j)) (Nat.le_refl _)
              rw [List.length_take] at h5
              have := HM.out; have := HTS.out; omega
            clear hcd hdr hin hx2 hn hps hLd2 hLs2 hnn hLd
            go_wp2_with fail
            refine (HP.out _).mono ?_
            rintro e w3 ⟨rfl, hb3⟩
            obtain ⟨i0, hi, hz0, hz1, hz2⟩ := info_parts infoByte
            have hbB := hinv.out.1
            have hb5 := below_on hbB hb3 (Nat.le_refl _)
            obtain ⟨v', w4, hrun, hown4, _, hb4⟩ := append_one (P := Tryz.prog) w3 w w.heap.size 29 29 5 i0 _ 1 Tryz.underlying29 hi hz0 hz1 hz2 rfl _ _ _ (owns_keep hinv.out.2.2 hb3) (.int .u8 (n : Int)) rfl (by omega) (by omega) hb5 hb5.size
            have HR := Lib.hid hrun
            have HO : Hid (w4.ownsRow w.heap.size 5 1 v' (pairs (r.take (2 * (j + 1)))).length ((pairs (r.take (2 * (j + 1)))).map fun c => Value.int .u8 (c.toNat : Int))) := by
              show w4.ownsRow _ _ _ _ _ _
              rw [HPS.out]
              simpa [HNN.out] using hown4
            clear hrun hown4 hi hz0 hz1 hz2 hbB hb5
            go_wp2_with (at_builtin; refine wpList_append_run rfl _ _ _ rfl _ _ rfl rfl HR.out ?_)
            go_roundw
            case rel => exact ⟨j + 1, _, rfl, by rw [HLS2.out]; omega, hb4, HL2.out, HO.out⟩
            case measure => show (L.extract 2 L.size).size < L.size; rw [HLS2.out]; omega
      · have hne : Lib.trimS r hexDigits ≠ [] := by
          intro e
          rw [trim_nil] at e
          exact hall (by rw [← e]; congr 1; funext x; exact (contains_hex x).symm)
        have hU : unhexP (120 :: r) = none := by
          simp only [unhexP]; rw [if_neg (by simp [hall])]
        obtain ⟨D, hD⟩ : ∃ D : ByteArray, D = ⟨(Lib.trimS r hexDigits).toArray⟩ := ⟨_, rfl⟩
        have hDe : D.toList.isEmpty = false := by
          rw [ByteArray.toList_eq, hD]
          cases h : Lib.trimS r hexDigits with
          | nil => exact absurd h hne
          | cons c t => rfl
        have hDe2 : ¬ D.toList = [] := by
          intro e; rw [e] at hDe; simp at hDe
        rw [← hD] at HTR
        clear hne hD hall
        have HU := Lib.hid hU; clear hU
        go_enter Tryz.func120, Tryz.ntmps120
        go_wp2_with fail
        refine HCP.out.mono ?_
        rintro e w1 ⟨rfl, rfl⟩
        go_wp2_with fail
        refine HTR.out.mono ?_
        rintro e w2 ⟨rfl, hb⟩
        go_wp2
        go_ret2
        exact UnhexRes.no HU.out hb
    · have d1 : decide ((0 : Int) < (T.size : Int) % 2) = true := by rw [decide_eq_true_iff]; omega
      have hU : unhexP (120 :: r) = none := by
        simp only [unhexP]; rw [if_neg (by have := HM.out; have := HTS.out; rw [← HM.out]; omega)]
      have HU := Lib.hid hU; clear hU
      go_enter Tryz.func120, Tryz.ntmps120
      go_wp2_with fail
      refine HCP.out.mono ?_
      rintro e w1 ⟨rfl, rfl⟩
      go_wp2
      go_ret2
      exact UnhexRes.no HU.out (Below.refl _ _)
  · rw [h1, hp] at HCP
    obtain ⟨T, hT⟩ : ∃ T : ByteArray, T = ⟨(Lib.trimPrefix s.data.toList [120]).toArray⟩ := ⟨_, rfl⟩
    rw [← hT] at HCP
    have HN := Lib.hid hn
    clear hT hp hn h1 hsl
    go_enter Tryz.func120, Tryz.ntmps120
    go_wp2_with fail
    refine HCP.out.mono ?_
    rintro e w1 ⟨rfl, rfl⟩
    go_wp2
    go_ret2
    exact UnhexRes.no HN.out (Below.refl _ _)
end Go.Proofs.YtipbakdodbmfjaaGreatDoor

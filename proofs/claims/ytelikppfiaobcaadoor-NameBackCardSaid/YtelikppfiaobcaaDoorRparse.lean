/- The contracts of the reference's give and Parse: a text is read as parseB says. -/
import Derived.Test.YtelikppfiaobcaaDoorParse
import Derived.BigQuiet
import Derived.IntWalk
import Derived.Deep.QuietTactic
namespace Go.Proofs.YtelikppfiaobcaaDoor
open Go.ChangeShapes Go.WideShapes Go.ChangeAt Go.RowKit

theorem give_yes (w : World) (ao : Option Addr) (len cap : Nat) (ss : List ByteArray) (hs : Strs w ao len cap ss) (h : soundB ss = true) :
    Calls Tryd.prog 45 #[.slice ao len cap] w fun e w' => e = .returned (.tuple #[.slice ao len cap, .bool true]) ∧ w = w' := by
  have HS := Lib.hid h; clear h
  go_enter Tryd.func45, Tryd.ntmps45
  go_wp2_with (go_at_call 14; refine (rsound_any _ _ _ _ _ hs).mono ?_; rw [HS.out]; rintro e w' ⟨rfl, rfl⟩)
  go_ret2
  exact ⟨rfl, rfl⟩
theorem give_no (w : World) (ao : Option Addr) (len cap : Nat) (ss : List ByteArray) (hs : Strs w ao len cap ss) (h : soundB ss = false) :
    Calls Tryd.prog 45 #[.slice ao len cap] w fun e w' => e = .returned (.tuple #[.slice none 0 0, .bool false]) ∧ w = w' := by
  have HS := Lib.hid h; clear h
  go_enter Tryd.func45, Tryd.ntmps45
  go_wp2_with (go_at_call 14; refine (rsound_any _ _ _ _ _ hs).mono ?_; rw [HS.out]; rintro e w' ⟨rfl, rfl⟩)
  go_ret2
  exact ⟨rfl, rfl⟩

structure RSt (B : Nat) (w0 : World) (R : Option (List ByteArray)) (l : List UInt8) (k : Nat) (outs : List ByteArray) (L : ByteArray) (ov : Value) (w : World) : Prop where
  out : w.ownsRow B 9 1 ov outs.length (outs.map .string)
  bel : Below B w0 w
  le : B ≤ w0.heap.size
  small : ∀ s ∈ outs, s.size ≤ 9223372036854775807
  at' : R = par (l.drop k) outs L.data.toList
  len : outs.length ≤ k
  lab : L.size ≤ k
theorem RSt.label {B : Nat} {w0 w : World} {R : Option (List ByteArray)} {l : List UInt8} {k : Nat} {outs : List ByteArray} {L : ByteArray} {ov : Value} (h : RSt B w0 R l k outs L ov w) (hk : k < 1099511627776) :
    ∃ ao n cap w', (Builtin.append_ #[22, 22] 22 #[ov, .slice (some ⟨w.heap.size, 0, none⟩) 1 1]).run Tryd.prog (w.alloc (.cells #[.string L] 9)) = .ok (.slice ao n cap) w' ∧
      Strs w' ao n cap (outs ++ [L]) ∧ (∀ a, ao = some a → B ≤ a.block) ∧ Below B w0 w' ∧ w'.ownsRow B 9 1 (.slice ao n cap) (outs ++ [L]).length ((outs ++ [L]).map .string) ∧ ∀ s ∈ outs ++ [L], s.size ≤ 9223372036854775807 := by
  have h1 := h.len
  have h2 := h.lab
  obtain ⟨i0, hi, hz0, hz1, hz2⟩ := info_parts strInfo
  obtain ⟨v', w', h1, h2, h3, h4⟩ := append_one (P := Tryd.prog) w w0 B 22 22 9 i0 _ 16 Tryd.underlying22 hi hz0 hz1 hz2 rfl ov _ _ h.out (.string L) rfl (by omega) (by omega) h.bel (Nat.le_trans h.le h.bel.size)
  have e : outs.map Value.string ++ [.string L] = (outs ++ [L]).map Value.string := by simp
  rw [e] at h2
  have hsm : ∀ s ∈ outs ++ [L], s.size ≤ 9223372036854775807 := by
    intro s hs
    rcases List.mem_append.1 hs with hs | hs
    · exact h.small s hs
    · simp at hs; subst hs; omega
  obtain ⟨ao, cap, rfl, hs⟩ := strs_of_owns h2 (by omega) hsm
  exact ⟨ao, _, cap, w', h1, hs, owns_fresh h2, h4, by rw [List.length_append]; exact h2, hsm⟩
theorem extract_one (s : ByteArray) (k : Nat) (h : k < s.size) : (s.extract k (k + 1)).data.toList = [s[k]] := by
  rw [Lib.extract_data, show k + 1 - k = 1 from by omega, List.drop_eq_getElem_cons (by simpa using h)]
  rfl
theorem cat_one (L s : ByteArray) (k : Nat) (h : k < s.size) : (L ++ s.extract k (k + 1)).data.toList = L.data.toList ++ [s[k]] ∧ (L ++ s.extract k (k + 1)).size = L.size + 1 := by
  constructor
  · rw [ByteArray.data_append, Array.toList_append, extract_one s k h]
  · rw [ByteArray.size_append, ByteArray.size_extract]; omega
theorem cat_at (L s : ByteArray) (k j : Nat) (h : k < s.size) (hj : j = k + 1) : (L ++ s.extract k j).data.toList = L.data.toList ++ [s[k]] ∧ (L ++ s.extract k j).size = L.size + 1 := by
  subst hj; exact cat_one L s k h
theorem unesc_short {c : UInt8} {r : List UInt8} (h : digB c = true) (hr : r.length < 2) : unesc (c :: r) = none := by
  simp only [unesc, h, if_true]
  match r, hr with
  | [], _ => rfl
  | [_], _ => rfl
theorem cat_lit (L : ByteArray) (x : UInt8) : (L ++ (⟨#[x]⟩ : ByteArray)).data.toList = L.data.toList ++ [x] ∧ (L ++ (⟨#[x]⟩ : ByteArray)).size = L.size + 1 := by
  constructor
  · rw [ByteArray.data_append, Array.toList_append]
  · rw [ByteArray.size_append]; rfl
theorem conv_one (w : World) (n : Nat) (x : UInt8) (hx : x.toNat = n) : (convert 33 9 (.slice (some ⟨w.heap.size, 0, none⟩) 1 1)).run Tryd.prog (w.alloc (.cells #[.int .u8 (n : Int)] 5)) = .ok (.string ⟨#[x]⟩) (w.alloc (.cells #[.int .u8 (n : Int)] 5)) := by
  have h := row_one w (.int .u8 (n : Int)) 5
  have := run_convert_bytes_arg (P := Tryd.prog) (w.alloc (.cells #[.int .u8 (n : Int)] 5)) 33 5 Tryd.underlying33 Tryd.underlying5 w.heap.size 0 1 1 [(n : Int)] rfl (fun i hi => by
    have := h.at hi
    rw [Nat.zero_add] at this ⊢
    rw [this]
    obtain rfl : i = 0 := by omega
    rfl) 9 Tryd.underlying9
  rw [this]
  subst hx
  have e := strOfNums_bytes [x]
  simp only [List.map_cons, List.map_nil] at e
  rw [e]

set_option maxHeartbeats 4000000 in
set_option maxRecDepth 100000 in
theorem rparse_any (w : World) (s : ByteArray) (hs : s.size ≤ 1099511627775) :
    Calls Tryd.prog 29 #[.string s] w (ParseRes w (parseB s.data.toList)) := by
  have hsl : s.data.toList.length = s.size := by simp
  by_cases hdot : s = ⟨#[46]⟩
  · subst hdot
    go_enter Tryd.func29, Tryd.ntmps29
    go_wp2
    go_ret2
    exact ParseRes.yes (ss := []) (by decide) ⟨Row.empty (by omega) (fun _ => rfl), fun s hs => by cases hs⟩ (Below.refl _ _) (fun a ha => by cases ha)
  · have hT : (s.toList == (⟨#[46]⟩ : ByteArray).toList) = false := by rw [toList_beq]; exact decide_eq_false hdot
    have hd46 : (⟨#[46]⟩ : ByteArray).toList = [46] := by rw [ByteArray.toList_eq]
    rw [hd46] at hT
    clear hd46
    have hR : Hid (parseB s.data.toList = par s.data.toList [] []) := by
      have h1 : s.data.toList ≠ [46] := fun e => hdot (by
        cases s with
        | mk d => cases d with | mk l => (simp at e; rw [e]))
      show parseB _ = _
      rw [parseB, if_neg h1]
    clear hdot
    have HSL := Lib.hid hsl; clear hsl
    rw [hR.out]
    clear hR
    obtain ⟨R, hRd⟩ : ∃ R, R = par s.data.toList [] [] := ⟨_, rfl⟩
    rw [← hRd]
    have H0 : Hid (RSt w.heap.size w R s.data.toList 0 [] ⟨#[]⟩ (.slice none 0 0) w) := ⟨World.ownsRow_nil _ _ _ _, Below.refl _ _, Nat.le_refl _, fun s h => (by cases h), hRd, Nat.le_refl _, Nat.le_refl _⟩
    clear hRd
    go_enter Tryd.func29, Tryd.ntmps29
    go_wp2
    go_loopw [4, 5, 6, 7, 8, 9] (fun ov lv iv _ _ _ wr => ∃ (k : Nat) (outs : List ByteArray) (L : ByteArray), k ≤ s.size ∧ iv = .int .i64 k ∧ lv = .string L ∧ Hid (RSt w.heap.size w R s.data.toList k outs L ov wr)) (fun _ _ iv _ _ _ _ => s.size - (intOf iv).toNat)
    case atStart => exact ⟨0, [], _, Nat.zero_le _, rfl, rfl, H0.out⟩
    case round =>
      obtain ⟨k, outs, L, hk, rfl, rfl, hat⟩ := hrel
      have hLs : L.size ≤ 1099511627775 := Nat.le_trans hat.out.lab (by omega)
      have hbw : Below w.heap.size w wr := hat.out.bel
      by_cases hlt : k < s.size
      · have hkl : k < s.data.toList.length := by have := HSL.out; omega
        have hdr : s.data.toList.drop k = s[k] :: s.data.toList.drop (k + 1) := List.drop_eq_getElem_cons hkl
        have hcat := cat_one L s k hlt
        obtain ⟨c, hc⟩ : ∃ c, c = s[k] := ⟨_, rfl⟩
        rw [← hc] at hdr hcat
        have hpar := hat.out.at'
        rw [hdr] at hpar
        obtain ⟨n, hn⟩ : ∃ n, c.toNat = n := ⟨_, rfl⟩
        have hix : (s[k]).toNat = n := by rw [← hc]; exact hn
        have HN := Lib.hid hn
        have HP := Lib.hid hpar
        have HCT := Lib.hid hcat
        clear hn hdr hpar hc hcat
        by_cases h46 : n = 46
        · subst h46
          obtain ⟨ao, m, cap, w2, hrun, hss, hfr, hb2, hown, hsm⟩ := hat.out.label (by omega)
          have HR2 := Lib.hid hrun
          have HSS := Lib.hid hss
          have HFR := Lib.hid hfr
          have HO := Lib.hid (And.intro hown hsm)
          clear hrun hss hfr hown hsm
          by_cases hend : k + 1 = s.size
          · have q3 : ((k : Int) + 1 == (s.size : Int)) = true := by rw [beq_iff_eq]; omega
            have hdn : s.data.toList.drop (k + 1) = [] := List.drop_eq_nil_of_le (by have := HSL.out; omega)
            have HR := HP.out
            rw [hdn, par_end _ _ HN.out] at HR
            cases hso : soundB (outs ++ [L])
            · rw [fin, hso] at HR
              have HR' : Hid (R = none) := HR
              have HSO := Lib.hid hso
              clear hso hdn hend HR
              go_wp2_with (first | (at_builtin; refine wpList_append_run rfl _ _ _ rfl _ _ rfl rfl HR2.out ?_) | (go_at_call 45; refine (give_no _ _ _ _ _ HSS.out HSO.out).mono ?_; rintro e w' ⟨rfl, rfl⟩))
              go_ret2
              exact ParseRes.no HR'.out hb2
            · rw [fin, hso] at HR
              have HR' : Hid (R = some (outs ++ [L])) := HR
              have HSO := Lib.hid hso
              clear hso hdn hend HR
              go_wp2_with (first | (at_builtin; refine wpList_append_run rfl _ _ _ rfl _ _ rfl rfl HR2.out ?_) | (go_at_call 45; refine (give_yes _ _ _ _ _ HSS.out HSO.out).mono ?_; rintro e w' ⟨rfl, rfl⟩))
              go_ret2
              exact ParseRes.yes HR'.out HSS.out hb2 HFR.out
          · have q3 : ((k : Int) + 1 == (s.size : Int)) = false := by rw [beq_eq_false_iff_ne]; omega
            have hdn : s.data.toList.drop (k + 1) ≠ [] := by rw [ne_eq, List.drop_eq_nil_iff]; have := HSL.out; omega
            have HR : Hid (R = par (s.data.toList.drop (k + 1)) (outs ++ [L]) []) := HP.out.trans (par_dot outs _ HN.out hdn)
            have HX : Hid (RSt w.heap.size w R s.data.toList (k + 1) (outs ++ [L]) ⟨#[]⟩ (.slice ao m cap) w2) := ⟨HO.out.1, hb2, Nat.le_refl _, HO.out.2, HR.out, by have := hat.out.len; simp; omega, Nat.zero_le _⟩
            clear hdn hend
            go_wp2_with (at_builtin; refine wpList_append_run rfl _ _ _ rfl _ _ rfl rfl HR2.out ?_)
            go_roundw
            case rel => exact ⟨k + 1, _, _, by omega, by go_num, rfl, HX.out⟩
            case measure => simp [intOf]; omega
        · have q2 : ((n : Int) == 46) = false := by rw [beq_eq_false_iff_ne]; omega
          by_cases hbad : n < 33 ∨ 126 < n
          · have HR : Hid (R = none) := HP.out.trans (par_bad outs _ (by have := HN.out; omega))
            rcases hbad with hbad | hbad
            · have d1 : decide ((n : Int) < 33) = true := by rw [decide_eq_true_iff]; omega
              go_wp2
              go_ret2
              exact ParseRes.no HR.out hbw
            · have d1 : decide ((n : Int) < 33) = false := by rw [decide_eq_false_iff_not]; omega
              have d2 : decide ((126 : Int) < (n : Int)) = true := by rw [decide_eq_true_iff]; omega
              go_wp2
              go_ret2
              exact ParseRes.no HR.out hbw
          have d1 : decide ((n : Int) < 33) = false := by rw [decide_eq_false_iff_not]; omega
          have d2 : decide ((126 : Int) < (n : Int)) = false := by rw [decide_eq_false_iff_not]; omega
          by_cases h92 : n = 92
          · subst h92
            by_cases hlast : s.size ≤ k + 1
            · have hdn : s.data.toList.drop (k + 1) = [] := List.drop_eq_nil_of_le (by have := HSL.out; omega)
              have HR : Hid (R = none) := HP.out.trans (par_esc_none outs _ HN.out (by rw [hdn]; rfl))
              clear hdn
              go_wp2
              go_ret2
              exact ParseRes.no HR.out hbw
            have hlt1 : k + 1 < s.size := by omega
            have hd1 : s.data.toList.drop (k + 1) = s[k + 1] :: s.data.toList.drop (k + 2) := List.drop_eq_getElem_cons (by have := HSL.out; omega)
            have hcat1 := cat_at L s (k + 1) (k + 2) hlt1 rfl
            obtain ⟨d, hd⟩ : ∃ d, d = s[k + 1] := ⟨_, rfl⟩
            rw [← hd] at hd1 hcat1
            obtain ⟨m, hm⟩ : ∃ m, d.toNat = m := ⟨_, rfl⟩
            have hix1 : (s[k + 1]).toNat = m := by rw [← hd]; exact hm
            have HM := Lib.hid hm
            have HD1 := Lib.hid hd1
            have HCT1 := Lib.hid hcat1
            clear hd hd1 hm hcat1 hlast
            cases hdd : digB d
            · have hx : m < 48 ∨ 57 < m := by simp only [digB, decide_eq_false_iff_not] at hdd; have := HM.out; omega
              have HX : Hid (RSt w.heap.size w R s.data.toList (k + 2) outs (L ++ s.extract (k + 1) (k + 2)) _ wr) := ⟨hat.out.out, hbw, Nat.le_refl _, hat.out.small, by rw [HCT1.out.1, HP.out, par_esc outs _ HN.out (x := d) (k := 1) (by rw [HD1.out]; simp only [unesc, hdd]; rfl), HD1.out]; rfl, by have := hat.out.len; omega, by rw [HCT1.out.2]; have := hat.out.lab; omega⟩
              clear hdd
              rcases hx with hx | hx
              · have f1 : decide ((m : Int) < 48) = true := by rw [decide_eq_true_iff]; omega
                go_wp2
                go_roundw
                case rel => exact ⟨k + 2, outs, _, by omega, by go_num, rfl, HX.out⟩
                case measure => simp [intOf]; omega
              · have f1 : decide ((m : Int) < 48) = false := by rw [decide_eq_false_iff_not]; omega
                have f2 : decide ((57 : Int) < (m : Int)) = true := by rw [decide_eq_true_iff]; omega
                go_wp2
                go_roundw
                case rel => exact ⟨k + 2, outs, _, by omega, by go_num, rfl, HX.out⟩
                case measure => simp [intOf]; omega
            have hm1 : 48 ≤ m := by have := digB_le hdd; have := HM.out; omega
            have hm2 : m ≤ 57 := by have := digB_le hdd; have := HM.out; omega
            have f1 : decide ((m : Int) < 48) = false := by rw [decide_eq_false_iff_not]; omega
            have f2 : decide ((57 : Int) < (m : Int)) = false := by rw [decide_eq_false_iff_not]; omega
            have HDD := Lib.hid hdd; clear hdd
            by_cases h3 : s.size ≤ k + 3
            · have hsh : (s.data.toList.drop (k + 2)).length < 2 := by rw [List.length_drop]; have := HSL.out; omega
              have HR : Hid (R = none) := HP.out.trans (par_esc_none outs _ HN.out (by
                rw [HD1.out]
                exact unesc_short HDD.out hsh))
              have e1 : decide ((s.size : Int) ≤ (k : Int) + 3) = true := by rw [decide_eq_true_iff]; omega
              clear hsh
              go_wp2
              go_ret2
              exact ParseRes.no HR.out hbw
            have e1 : decide ((s.size : Int) ≤ (k : Int) + 3) = false := by rw [decide_eq_false_iff_not]; omega
            have hlt2 : k + 2 < s.size := by omega
            have hlt3 : k + 3 < s.size := by omega
            have hd2 : s.data.toList.drop (k + 2) = s[k + 2] :: s[k + 3] :: s.data.toList.drop (k + 4) := by
              rw [List.drop_eq_getElem_cons (by have := HSL.out; omega), List.drop_eq_getElem_cons (by have := HSL.out; omega)]
              rfl
            obtain ⟨e, he⟩ : ∃ e, e = s[k + 2] := ⟨_, rfl⟩
            obtain ⟨f, hf⟩ : ∃ f, f = s[k + 3] := ⟨_, rfl⟩
            rw [← he, ← hf] at hd2
            obtain ⟨u, hu⟩ : ∃ u, e.toNat = u := ⟨_, rfl⟩
            obtain ⟨v, hv⟩ : ∃ v, f.toNat = v := ⟨_, rfl⟩
            have hix2 : (s[k + 2]).toNat = u := by rw [← he]; exact hu
            have hix3 : (s[k + 3]).toNat = v := by rw [← hf]; exact hv
            have HU := Lib.hid hu
            have HV := Lib.hid hv
            have HD2 := Lib.hid hd2
            clear he hf hd2 hu hv h3
            cases hde : digB e
            · have hx : u < 48 ∨ 57 < u := by simp only [digB, decide_eq_false_iff_not] at hde; have := HU.out; omega
              have HR : Hid (R = none) := HP.out.trans (par_esc_none outs _ HN.out (by
                rw [HD1.out, HD2.out]; simp only [unesc, HDD.out, hde, if_true, Bool.false_and]; rfl))
              clear hde
              rcases hx with hx | hx
              · have g1 : decide ((u : Int) < 48) = true := by rw [decide_eq_true_iff]; omega
                go_wp2
                go_ret2
                exact ParseRes.no HR.out hbw
              · have g1 : decide ((u : Int) < 48) = false := by rw [decide_eq_false_iff_not]; omega
                have g2 : decide ((57 : Int) < (u : Int)) = true := by rw [decide_eq_true_iff]; omega
                go_wp2
                go_ret2
                exact ParseRes.no HR.out hbw
            have hu1 : 48 ≤ u := by have := digB_le hde; have := HU.out; omega
            have hu2 : u ≤ 57 := by have := digB_le hde; have := HU.out; omega
            have g1 : decide ((u : Int) < 48) = false := by rw [decide_eq_false_iff_not]; omega
            have g2 : decide ((57 : Int) < (u : Int)) = false := by rw [decide_eq_false_iff_not]; omega
            have HDE := Lib.hid hde; clear hde
            cases hdf : digB f
            · have hx : v < 48 ∨ 57 < v := by simp only [digB, decide_eq_false_iff_not] at hdf; have := HV.out; omega
              have HR : Hid (R = none) := HP.out.trans (par_esc_none outs _ HN.out (by
                rw [HD1.out, HD2.out]; simp only [unesc, HDD.out, HDE.out, hdf, if_true, Bool.false_and, Bool.and_false]; rfl))
              clear hdf
              rcases hx with hx | hx
              · have i1 : decide ((v : Int) < 48) = true := by rw [decide_eq_true_iff]; omega
                go_wp2
                go_ret2
                exact ParseRes.no HR.out hbw
              · have i1 : decide ((v : Int) < 48) = false := by rw [decide_eq_false_iff_not]; omega
                have i2 : decide ((57 : Int) < (v : Int)) = true := by rw [decide_eq_true_iff]; omega
                go_wp2
                go_ret2
                exact ParseRes.no HR.out hbw
            have hv1 : 48 ≤ v := by have := digB_le hdf; have := HV.out; omega
            have hv2 : v ≤ 57 := by have := digB_le hdf; have := HV.out; omega
            have i1 : decide ((v : Int) < 48) = false := by rw [decide_eq_false_iff_not]; omega
            have i2 : decide ((57 : Int) < (v : Int)) = false := by rw [decide_eq_false_iff_not]; omega
            have HDF := Lib.hid hdf; clear hdf
            obtain ⟨t, ht⟩ : ∃ t, num3 d e f = t := ⟨_, rfl⟩
            have htv : ((m : Int) - 48) * 100 + ((u : Int) - 48) * 10 + ((v : Int) - 48) = (t : Int) := by
              have := HM.out; have := HU.out; have := HV.out
              rw [← ht]; unfold num3; omega
            have ht2 : t ≤ 999 := by omega
            have HT := Lib.hid ht; clear ht
            have hz1 : (0 : Int) ≤ (k : Int) + 2 := by omega
            have hz2 : ((k : Int) + 2).toNat = k + 2 := by omega
            have hz3 : (0 : Int) ≤ (k : Int) + 3 := by omega
            have hz4 : ((k : Int) + 3).toNat = k + 3 := by omega
            have hz5 : (k : Int) + 2 < (s.size : Int) := by omega
            have hz6 : (k : Int) + 3 < (s.size : Int) := by omega
            have a1 : IntKind.u8.wrap ((m : Int) - 48) = (m : Int) - 48 := IntWalk.u8_in _ (by omega)
            have a2 : IntKind.u8.wrap ((u : Int) - 48) = (u : Int) - 48 := IntWalk.u8_in _ (by omega)
            have a3 : IntKind.u8.wrap ((v : Int) - 48) = (v : Int) - 48 := IntWalk.u8_in _ (by omega)
            go_wp2_with fail
            go_quiet (fail)
            clear htv a1 a2 a3 hz1 hz2 hz3 hz4 hz5 hz6
            by_cases ht255 : t ≤ 255
            · have hx : (UInt8.ofNat t).toNat = t := by rw [UInt8.toNat_ofNat']; omega
              have HX : Hid (∀ w', Below wr.heap.size wr w' → RSt w.heap.size w R s.data.toList (k + 4) outs (L ++ ⟨#[UInt8.ofNat t]⟩) _ w') := fun w' hb' => ⟨owns_keep hat.out.out hb', below_on hbw hb' (Nat.le_refl _), Nat.le_refl _, hat.out.small, by
                rw [(cat_lit L _).1, HP.out, par_esc outs _ HN.out (x := UInt8.ofNat t) (k := 3) (by rw [HD1.out, HD2.out]; simp only [unesc, HDD.out, HDE.out, HDF.out, HT.out, ht255, if_true, decide_true, Bool.and_self]), HD1.out, HD2.out]; rfl, by have := hat.out.len; omega, by rw [(cat_lit L _).2]; have := hat.out.lab; omega⟩
              have hcv : (convert 33 9 (.slice (some ⟨wr.heap.size, 0, none⟩) 1 1)).run Tryd.prog ((wr.drewN nq).alloc (.cells #[.int .u8 (t : Int)] 5)) = .ok (.string ⟨#[UInt8.ofNat t]⟩) ((wr.drewN nq).alloc (.cells #[.int .u8 (t : Int)] 5)) := conv_one (wr.drewN nq) t _ hx
              have HBq : Hid (Below wr.heap.size wr ((wr.drewN nq).alloc (.cells #[.int .u8 (t : Int)] 5))) := (below_drewN (Below.refl _ _) nq).alloc (Nat.le_refl _) _
              clear hx
              go_wp2
              go_roundw
              case rel => exact ⟨k + 4, outs, _, by omega, by go_num, rfl, HX.out _ HBq.out⟩
              case measure => simp [intOf]; omega
            · have HR : Hid (R = none) := HP.out.trans (par_esc_none outs _ HN.out (by
                rw [HD1.out, HD2.out]; simp only [unesc, HDD.out, HDE.out, HDF.out, HT.out, ht255, if_true, decide_false, Bool.and_self, Bool.and_false]; rfl))
              go_wp2
              go_ret2
              exact ParseRes.no HR.out (below_drewN hbw _)
          · have q4 : ((n : Int) != 92) = true := by rw [bne_iff_ne]; omega
            have HX : Hid (RSt w.heap.size w R s.data.toList (k + 1) outs (L ++ s.extract k (k + 1)) _ wr) := ⟨hat.out.out, hbw, Nat.le_refl _, hat.out.small, by rw [HCT.out.1]; exact HP.out.trans (par_plain outs _ (by have := HN.out; omega) (by have := HN.out; omega) (by have := HN.out; omega) (by have := HN.out; omega)), by have := hat.out.len; omega, by rw [HCT.out.2]; have := hat.out.lab; omega⟩
            go_wp2
            go_roundw
            case rel => exact ⟨k + 1, outs, _, by omega, by go_num, rfl, HX.out⟩
            case measure => simp [intOf]; omega
      · have hdn : s.data.toList.drop k = [] := List.drop_eq_nil_of_le (by have := HSL.out; omega)
        have HR := hat.out.at'
        rw [hdn, par_nil] at HR
        obtain ⟨ao, m, cap, w2, hrun, hss, hfr, hb2, hown, hsm⟩ := hat.out.label (by omega)
        have HR2 := Lib.hid hrun
        have HSS := Lib.hid hss
        have HFR := Lib.hid hfr
        clear hrun hss hfr hown hsm hdn
        cases hso : soundB (outs ++ [L])
        · rw [fin, hso] at HR
          have HR' : Hid (R = none) := HR
          have HSO := Lib.hid hso
          clear hso HR
          go_wp2_with (first | (at_builtin; refine wpList_append_run rfl _ _ _ rfl _ _ rfl rfl HR2.out ?_) | (go_at_call 45; refine (give_no _ _ _ _ _ HSS.out HSO.out).mono ?_; rintro e w' ⟨rfl, rfl⟩))
          go_ret2
          exact ParseRes.no HR'.out hb2
        · rw [fin, hso] at HR
          have HR' : Hid (R = some (outs ++ [L])) := HR
          have HSO := Lib.hid hso
          clear hso HR
          go_wp2_with (first | (at_builtin; refine wpList_append_run rfl _ _ _ rfl _ _ rfl rfl HR2.out ?_) | (go_at_call 45; refine (give_yes _ _ _ _ _ HSS.out HSO.out).mono ?_; rintro e w' ⟨rfl, rfl⟩))
          go_ret2
          exact ParseRes.yes HR'.out HSS.out hb2 HFR.out
end Go.Proofs.YtelikppfiaobcaaDoor

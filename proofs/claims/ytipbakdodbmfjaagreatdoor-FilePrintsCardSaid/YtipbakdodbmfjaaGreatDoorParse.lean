/- The contract of name.Parse, from the contract of name.unescape: a text is read as parseB says. -/
import Derived.Test.YtipbakdodbmfjaaGreatDoorUnescape
import Derived.Test.YtipbakdodbmfjaaGreatDoorLists
import Derived.Test.YtipbakdodbmfjaaGreatDoorBase2
namespace Go.Proofs.YtipbakdodbmfjaaGreatDoor
open Go.ChangeShapes Go.WideShapes Go.ChangeAt Go.RowKit

theorem owns_apart {w : World} {b1 b2 : Nat} {e1 e2 : TypeId} {s1 s2 : Nat} {v1 v2 : Value} {n1 n2 : Nat} {xs1 xs2 : List Value} (h1 : w.ownsRow b1 e1 s1 v1 n1 xs1) (h2 : w.ownsRow b2 e2 s2 v2 n2 xs2) (hne : e1 ≠ e2) : v1.ownBlock = none ∨ v1.ownBlock ≠ v2.ownBlock := by
  rcases h1.2 with ⟨rfl, _⟩ | ⟨g1, c1, cur1, rfl, _, hh1, _⟩
  · exact .inl rfl
  · rcases h2.2 with ⟨rfl, _⟩ | ⟨g2, c2, cur2, rfl, _, hh2, _⟩
    · exact .inr (by simp [Value.ownBlock])
    · refine .inr fun e => ?_
      simp [Value.ownBlock] at e
      subst e
      rw [hh1] at hh2
      simp at hh2
      exact hne hh2.2
theorem byte_oneCell (l : List UInt8) : ∀ u ∈ l.map (fun c => Value.int .u8 (c.toNat : Int)), u.oneCell' = true := by
  intro u hu
  obtain ⟨s, _, rfl⟩ := List.mem_map.1 hu
  rfl
/-- one element appended to what the call owns -/
theorem append_one {P : Program} (w w0 : World) (base : Nat) (t ty e : TypeId) (i : TypeInfo) (z : Value) (bytes : Nat) (ht : P.underlying t = some (.slice e)) (hi : P.info? e = some i) (hz : i.zero = some z)
    (hsize : i.size = 1) (hby : i.bytes = bytes) (hzs : z.cells.size = 1) (v : Value) (n : Nat) (xs : List Value) (hown : w.ownsRow base e 1 v n xs) (x : Value)
    (hx : x.oneCell' = true) (h63 : n + 1 ≤ 9223372036854775807) (hbytes : (n + 1) * bytes ≤ 140737488355328) (hb : Below base w0 w) (hbase : base ≤ w.heap.size) :
    ∃ v' w', (Builtin.append_ #[t, t] ty #[v, .slice (some ⟨w.heap.size, 0, none⟩) 1 1]).run P (w.alloc (.cells #[x] e)) = .ok v' w' ∧ w'.ownsRow base e 1 v' (n + 1) (xs ++ [x]) ∧ (w.alloc (.cells #[x] e)).grownBy w' v.ownBlock ∧ Below base w0 w' := by
  obtain ⟨v', w', h1, h2, h3⟩ := append_row (P := P) (w.alloc (.cells #[x] e)) base t ty e i z bytes ht hi hz hsize hby hzs v n xs (hown.alloc _) (some ⟨w.heap.size, 0, none⟩) 1 1 [x] (row_one w x e) (by intro u hu; simp at hu; subst hu; exact hx) h63 hbytes (by simp; omega)
  exact ⟨v', w', h1, h2, h3, (hb.alloc hbase _).grown h3 (by simp; omega) (fun j hj => (hown.lt j hj).1)⟩

/-- what is read so far: the labels, and the bytes of the next one -/
structure PSt (B : Nat) (w0 : World) (outs : List ByteArray) (lab : List UInt8) (ov lv : Value) (w : World) : Prop where
  out : w.ownsRow B 9 1 ov outs.length (outs.map .string)
  lab : w.ownsRow B 5 1 lv lab.length (lab.map fun c => Value.int .u8 (c.toNat : Int))
  bel : Below B w0 w
  le : B ≤ w0.heap.size
  small : ∀ s ∈ outs, s.size ≤ 9223372036854775807
theorem PSt.le' {B : Nat} {w0 w : World} {outs : List ByteArray} {lab : List UInt8} {ov lv : Value} (h : PSt B w0 outs lab ov lv w) : B ≤ w.heap.size := Nat.le_trans h.le h.bel.size
theorem PSt.on {B : Nat} {w0 w w' : World} {outs : List ByteArray} {lab : List UInt8} {ov lv : Value} (h : PSt B w0 outs lab ov lv w) (hb : Below w.heap.size w w') : PSt B w0 outs lab ov lv w' :=
  ⟨owns_keep h.out hb, owns_keep h.lab hb, below_on h.bel hb h.le, h.le, h.small⟩
theorem PSt.start (w : World) : PSt w.heap.size w [] [] (.slice none 0 0) (.slice none 0 0) w :=
  ⟨World.ownsRow_nil _ _ _ _, World.ownsRow_nil _ _ _ _, Below.refl _ _, Nat.le_refl _, fun s h => by cases h⟩

theorem PSt.byte {B : Nat} {w0 w : World} {outs : List ByteArray} {lab : List UInt8} {ov lv : Value} (h : PSt B w0 outs lab ov lv w) (c : UInt8) (n : Nat) (hn : c.toNat = n) (hl : lab.length + 1 ≤ 140737488355328) :
    ∃ v' w', (Builtin.append_ #[29, 29] 29 #[lv, .slice (some ⟨w.heap.size, 0, none⟩) 1 1]).run Tryz.prog (w.alloc (.cells #[.int .u8 (n : Int)] 5)) = .ok v' w' ∧ PSt B w0 outs (lab ++ [c]) ov v' w' := by
  subst hn
  obtain ⟨i0, hi, hz0, hz1, hz2⟩ := info_parts infoByte
  obtain ⟨v', w', h1, h2, h3, h4⟩ := append_one (P := Tryz.prog) w w0 B 29 29 5 i0 _ 1 Tryz.underlying29 hi hz0 hz1 hz2 rfl lv _ _ h.lab (.int .u8 (c.toNat : Int)) rfl (by omega) (by omega) h.bel h.le'
  refine ⟨v', w', h1, (h.out.alloc _).kept h3 (owns_apart h.out h.lab (by decide)), by simpa using h2, h4, h.le, h.small⟩

theorem PSt.label {B : Nat} {w0 w : World} {outs : List ByteArray} {lab : List UInt8} {ov lv : Value} (h : PSt B w0 outs lab ov lv w) (hl : lab.length ≤ 140737488355328) (ho : (outs.length + 1) * 16 ≤ 140737488355328) :
    (convert 29 9 lv).run Tryz.prog w = .ok (.string ⟨lab.toArray⟩) w ∧
    ∃ ao n cap w', (Builtin.append_ #[30, 30] 30 #[ov, .slice (some ⟨w.heap.size, 0, none⟩) 1 1]).run Tryz.prog (w.alloc (.cells #[.string ⟨lab.toArray⟩] 9)) = .ok (.slice ao n cap) w' ∧
      Strs w' ao n cap (outs ++ [⟨lab.toArray⟩]) ∧ (∀ a, ao = some a → B ≤ a.block) ∧ PSt B w0 (outs ++ [⟨lab.toArray⟩]) [] (.slice ao n cap) (.slice none 0 0) w' := by
  have hsz : (⟨lab.toArray⟩ : ByteArray).size = lab.length := by show lab.toArray.size = _; simp
  constructor
  · obtain ⟨ao, cap, rfl, hr⟩ := row_of_owns h.lab hl
    cases ao with
    | none =>
      have hc := hr.hnil rfl
      have hm : lab.length = 0 := by have := hr.hle; omega
      have hn : lab = [] := List.eq_nil_of_length_eq_zero hm
      subst hn
      exact run_convert_bytes_nil (P := Tryz.prog) (w := w) 29 5 Tryz.underlying29 Tryz.underlying5 _ _ 9 Tryz.underlying9
    | some a =>
      rcases h.lab.2 with ⟨he, _⟩ | ⟨g, cap', cur, he, _⟩
      · cases he
      · cases he
        have := run_convert_bytes_arg (P := Tryz.prog) w 29 5 Tryz.underlying29 Tryz.underlying5 g 0 lab.length cap (lab.map fun c => (c.toNat : Int)) (by simp) (fun i hi => by
          rw [Nat.zero_add]
          have h2 := h.lab.cellAt i (by omega)
          rw [h2]
          simp [List.getD, hi]) 9 Tryz.underlying9
        rw [this, strOfNums_bytes]
  · obtain ⟨i0, hi, hz0, hz1, hz2⟩ := info_parts strInfo
    obtain ⟨v', w', h1, h2, h3, h4⟩ := append_one (P := Tryz.prog) w w0 B 30 30 9 i0 _ 16 Tryz.underlying30 hi hz0 hz1 hz2 rfl ov _ _ h.out (.string ⟨lab.toArray⟩) rfl (by omega) ho h.bel h.le'
    have e : outs.map Value.string ++ [.string ⟨lab.toArray⟩] = (outs ++ [(⟨lab.toArray⟩ : ByteArray)]).map Value.string := by simp
    rw [e] at h2
    have hsm : ∀ s ∈ outs ++ [(⟨lab.toArray⟩ : ByteArray)], s.size ≤ 9223372036854775807 := by
      intro s hs
      rcases List.mem_append.1 hs with hs | hs
      · exact h.small s hs
      · simp at hs; subst hs; omega
    obtain ⟨ao, cap, rfl, hs⟩ := strs_of_owns h2 (by omega) hsm
    refine ⟨ao, _, cap, w', h1, hs, owns_fresh h2, ?_, World.ownsRow_nil _ _ _ _, h4, h.le, hsm⟩
    rw [List.length_append]
    exact h2

/-- what a reading of a text hands back -/
def ParseRes (w : World) (r : Option (List ByteArray)) (e : Ending) (w' : World) : Prop :=
  match r with
  | some ss => ∃ ao n cap, e = .returned (.tuple #[.slice ao n cap, .bool true]) ∧ Strs w' ao n cap ss ∧ Below w.heap.size w w' ∧ ∀ a, ao = some a → w.heap.size ≤ a.block
  | none => e = .returned (.tuple #[.slice none 0 0, .bool false]) ∧ Below w.heap.size w w'
theorem ParseRes.yes {w w' : World} {r : Option (List ByteArray)} {ss : List ByteArray} {ao : Option Addr} {n cap : Nat} (hr : r = some ss) (hs : Strs w' ao n cap ss) (hb : Below w.heap.size w w') (hf : ∀ a, ao = some a → w.heap.size ≤ a.block) : ParseRes w r (.returned (.tuple #[.slice ao n cap, .bool true])) w' := by
  subst hr; exact ⟨ao, n, cap, rfl, hs, hb, hf⟩
theorem ParseRes.no {w w' : World} {r : Option (List ByteArray)} (hr : r = none) (hb : Below w.heap.size w w') : ParseRes w r (.returned (.tuple #[.slice none 0 0, .bool false])) w' := by
  subst hr; exact ⟨rfl, hb⟩

/-- the loop's state at byte k -/
def PAt (B : Nat) (w0 : World) (R : Option (List ByteArray)) (l : List UInt8) (k : Nat) (outs : List ByteArray) (lab : List UInt8) (ov lv : Value) (w : World) : Prop :=
  PSt B w0 outs lab ov lv w ∧ R = par (l.drop k) outs lab ∧ outs.length ≤ k ∧ lab.length ≤ k
theorem extract_tail (s : ByteArray) (k : Nat) : (s.extract k s.size).data.toList = s.data.toList.drop k := by
  rw [Lib.extract_data, List.take_of_length_le]
  rw [List.length_drop, Array.length_toList]
  show s.data.size - k ≤ s.data.size - k
  omega

theorem ext_size (s : ByteArray) (k : Nat) (h : s.size ≤ 1099511627776) : (s.extract (k + 1) s.size).size ≤ 1099511627776 := by
  rw [ByteArray.size_extract]; omega
set_option maxHeartbeats 4000000 in
set_option maxRecDepth 100000 in
theorem parse_any (w : World) (s : ByteArray) (hs : s.size ≤ 1099511627776) (hE : Errs w) :
    Calls Tryz.prog 118 #[.string s] w (ParseRes w (parseB s.data.toList)) := by
  have hsl : s.data.toList.length = s.size := by simp
  by_cases hdot : s = ⟨#[46]⟩
  · subst hdot
    go_enter Tryz.func118, Tryz.ntmps118
    go_wp2
    go_ret2
    exact ParseRes.yes (ss := []) (by decide) ⟨Row.empty (by omega) (fun _ => rfl), fun s hs => by cases hs⟩ (Below.refl _ _) (fun a ha => by cases ha)
  · have hT : (s.toList == (⟨#[46]⟩ : ByteArray).toList) = false := by rw [toList_beq]; exact decide_eq_false hdot
    have hd46 : (⟨#[46]⟩ : ByteArray).toList = [46] := by rw [ByteArray.toList_eq]
    rw [hd46] at hT
    clear hd46
    have hR : Hid (parseB s.data.toList = par s.data.toList [] []) := by
      have h1 : s.data.toList ≠ [46] := fun e => hdot (by
        cases s with
        | mk d => cases d with | mk l => (simp at e; rw [e]))
      show parseB _ = _
      rw [parseB, if_neg h1]
    clear hdot
    have H0 := Lib.hid (PSt.start w)
    have HSL := Lib.hid hsl; clear hsl
    rw [hR.out]
    clear hR
    obtain ⟨R, hRd⟩ : ∃ R, R = par s.data.toList [] [] := ⟨_, rfl⟩
    rw [← hRd]
    have HRd := Lib.hid hRd; clear hRd
    go_enter Tryz.func118, Tryz.ntmps118
    go_wp2
    go_loopw [4, 5, 6, 7, 8, 9] (fun ov lv iv _ _ _ wr => ∃ (k : Nat) (outs : List ByteArray) (lab : List UInt8), k ≤ s.size ∧ iv = .int .i64 k ∧ Hid (PAt w.heap.size w R s.data.toList k outs lab ov lv wr)) (fun _ _ iv _ _ _ _ => s.size - (intOf iv).toNat)
    case atStart => exact ⟨0, [], [], Nat.zero_le _, rfl, H0.out, HRd.out, Nat.le_refl _, Nat.le_refl _⟩
    case round =>
      obtain ⟨k, outs, lab, hk, rfl, hat⟩ := hrel
      obtain ⟨hst, hpar, hol, hll⟩ := hat.out
      by_cases hlt : k < s.size
      · have hkl : k < s.data.toList.length := by have := HSL.out; omega
        have hdr : s.data.toList.drop k = s[k] :: s.data.toList.drop (k + 1) := List.drop_eq_getElem_cons hkl
        obtain ⟨c, hc⟩ : ∃ c, c = s[k] := ⟨_, rfl⟩
        rw [← hc] at hdr
        rw [hdr] at hpar
        obtain ⟨n, hn⟩ : ∃ n, c.toNat = n := ⟨_, rfl⟩
        have hix : (s[k]).toNat = n := by rw [← hc]; exact hn
        have HN := Lib.hid hn
        have HC := Lib.hid hc; clear hc
        have HP := Lib.hid hpar
        have HST := Lib.hid hst
        clear hn hdr hpar
        have hbw : Below w.heap.size w wr := hst.bel
        have hEr := Lib.hid (hE.on hbw)
        clear hst
        by_cases h92 : n = 92
        · subst h92
          cases hu : unesc (s.data.toList.drop (k + 1)) with
          | none =>
            have HR : Hid (R = none) := HP.out.trans (par_esc_none outs lab HN.out hu)
            have HU : Hid (unesc (s.extract (k + 1) s.size).data.toList = none) := by show _ = _; rw [extract_tail]; exact hu
            clear hu
            go_wp2_with fail
            refine (unescape_none _ (s.extract (k + 1) s.size) (ext_size s k hs) HU.out hEr.out).mono ?_
            rintro e w1 ⟨rfl, hb1⟩
            go_wp2
            go_ret2
            exact ParseRes.no HR.out (below_on hbw hb1 (Nat.le_refl _))
          | some xk =>
            obtain ⟨x, kk⟩ := xk
            obtain ⟨hk1, hk2, hk3⟩ := unesc_le hu
            have hk4 : k + 1 + kk ≤ s.size := by have := HSL.out; rw [List.length_drop] at hk3; omega
            clear hk3
            have HR : Hid (R = par (s.data.toList.drop (k + kk + 1)) outs (lab ++ [x])) := by
              have := HP.out.trans (par_esc outs lab HN.out hu)
              rw [List.drop_drop] at this
              rw [show k + kk + 1 = k + 1 + kk from by omega]
              exact this
            have HU : Hid (unesc (s.extract (k + 1) s.size).data.toList = some (x, kk)) := by show _ = _; rw [extract_tail]; exact hu
            clear hu
            have hq : ((kk : Int) == 0) = false := by rw [beq_eq_false_iff_ne]; omega
            go_wp2_with fail
            refine (unescape_some _ (s.extract (k + 1) s.size) x kk (ext_size s k hs) HU.out hEr.out).mono ?_
            rintro e w1 ⟨rfl, hb1⟩
            obtain ⟨v', w2, hrun, hst2⟩ := (HST.out.on hb1).byte x x.toNat rfl (by omega)
            have HR2 := Lib.hid hrun
            have HS2 := Lib.hid hst2
            clear hrun hst2
            go_wp2_with (at_builtin; refine wpList_append_run rfl _ _ _ rfl _ _ rfl rfl HR2.out ?_)
            go_roundw
            case rel => exact ⟨k + kk + 1, outs, lab ++ [x], by omega, by go_num, HS2.out, HR.out, by omega, by simp; omega⟩
            case measure => simp [intOf]; omega
        · have q1 : ((n : Int) == 92) = false := by rw [beq_eq_false_iff_ne]; omega
          by_cases h46 : n = 46
          · subst h46
            obtain ⟨hcv, ao, m, cap, w2, hrun, hss, hfr, hst2⟩ := HST.out.label (by omega) (by omega)
            have HR2 := Lib.hid hrun
            have HS2 := Lib.hid hst2
            have HSS := Lib.hid hss
            have HFR := Lib.hid hfr
            clear hrun hst2 hss hfr
            by_cases hend : k + 1 = s.size
            · have q3 : ((k : Int) == (s.size : Int) - 1) = true := by rw [beq_iff_eq]; omega
              have hdn : s.data.toList.drop (k + 1) = [] := List.drop_eq_nil_of_le (by have := HSL.out; omega)
              cases hso : soundB (outs ++ [⟨lab.toArray⟩])
              · have HR : Hid (R = par (s.data.toList.drop (k + 1)) (outs ++ [⟨lab.toArray⟩]) []) := HP.out.trans (par_dot_bad outs lab HN.out hdn hso)
                have HSO := Lib.hid hso
                clear hso hdn hend
                go_wp2_with (first | (at_builtin; refine wpList_append_run rfl _ _ _ rfl _ _ rfl rfl HR2.out ?_) | (go_at_call 59; refine (sound_any _ _ _ _ _ HSS.out).mono ?_; rw [HSO.out]; rintro e w' ⟨rfl, rfl⟩))
                go_roundw
                case rel => exact ⟨k + 1, _, [], by omega, by go_num, HS2.out, HR.out, by simp; omega, by simp⟩
                case measure => simp [intOf]; omega
              · have HR : Hid (R = some (outs ++ [⟨lab.toArray⟩])) := by
                  have := HP.out
                  rw [hdn, par_end _ _ HN.out, fin, if_pos hso] at this
                  exact this
                have HSO := Lib.hid hso
                clear hso hdn hend
                go_wp2_with (first | (at_builtin; refine wpList_append_run rfl _ _ _ rfl _ _ rfl rfl HR2.out ?_) | (go_at_call 59; refine (sound_any _ _ _ _ _ HSS.out).mono ?_; rw [HSO.out]; rintro e w' ⟨rfl, rfl⟩))
                go_ret2
                exact ParseRes.yes HR.out HSS.out HS2.out.bel HFR.out
            · have q3 : ((k : Int) == (s.size : Int) - 1) = false := by rw [beq_eq_false_iff_ne]; omega
              have hdn : s.data.toList.drop (k + 1) ≠ [] := by rw [ne_eq, List.drop_eq_nil_iff]; have := HSL.out; omega
              have HR : Hid (R = par (s.data.toList.drop (k + 1)) (outs ++ [⟨lab.toArray⟩]) []) := HP.out.trans (par_dot outs lab HN.out hdn)
              clear hdn hend
              go_wp2_with (at_builtin; refine wpList_append_run rfl _ _ _ rfl _ _ rfl rfl HR2.out ?_)
              go_roundw
              case rel => exact ⟨k + 1, _, [], by omega, by go_num, HS2.out, HR.out, by simp; omega, by simp⟩
              case measure => simp [intOf]; omega
          · have q2 : ((n : Int) == 46) = false := by rw [beq_eq_false_iff_ne]; omega
            by_cases hbad : n < 33 ∨ 126 < n
            · have HR : Hid (R = none) := HP.out.trans (par_bad outs lab (by have := HN.out; omega))
              rcases hbad with hbad | hbad
              · have d1 : decide ((n : Int) < 33) = true := by rw [decide_eq_true_iff]; omega
                go_wp2
                go_ret2
                exact ParseRes.no HR.out hbw
              · have d1 : decide ((n : Int) < 33) = false := by rw [decide_eq_false_iff_not]; omega
                have d2 : decide ((126 : Int) < (n : Int)) = true := by rw [decide_eq_true_iff]; omega
                go_wp2
                go_ret2
                exact ParseRes.no HR.out hbw
            · have d1 : decide ((n : Int) < 33) = false := by rw [decide_eq_false_iff_not]; omega
              have d2 : decide ((126 : Int) < (n : Int)) = false := by rw [decide_eq_false_iff_not]; omega
              have HR : Hid (R = par (s.data.toList.drop (k + 1)) outs (lab ++ [c])) := HP.out.trans (par_plain outs lab (by have := HN.out; omega) (by have := HN.out; omega) (by have := HN.out; omega) (by have := HN.out; omega))
              obtain ⟨v', w2, hrun, hst2⟩ := HST.out.byte c n HN.out (by omega)
              have HR2 := Lib.hid hrun
              have HS2 := Lib.hid hst2
              clear hrun hst2
              go_wp2_with (at_builtin; refine wpList_append_run rfl _ _ _ rfl _ _ rfl rfl HR2.out ?_)
              go_roundw
              case rel => exact ⟨k + 1, outs, lab ++ [c], by omega, by go_num, HS2.out, HR.out, by omega, by simp; omega⟩
              case measure => simp [intOf]; omega
      · have hke : k = s.size := by omega
        have hdn : s.data.toList.drop k = [] := List.drop_eq_nil_of_le (by have := HSL.out; omega)
        rw [hdn, par_nil] at hpar
        have hbw : Below w.heap.size w wr := hst.bel
        obtain ⟨hcv, ao, m, cap, w2, hrun, hss, hfr, hst2⟩ := hst.label (by omega) (by omega)
        have HR2 := Lib.hid hrun
        have HS2 := Lib.hid hst2
        have HSS := Lib.hid hss
        have HFR := Lib.hid hfr
        have HP := Lib.hid hpar
        clear hrun hst2 hss hfr hdn hpar hke hst
        cases hso : soundB (outs ++ [⟨lab.toArray⟩])
        · have HSO := Lib.hid hso
          have HR : Hid (R = none) := by have := HP.out; rw [fin, hso] at this; exact this
          clear hso
          go_wp2_with (first | (at_builtin; refine wpList_append_run rfl _ _ _ rfl _ _ rfl rfl HR2.out ?_) | (go_at_call 59; refine (sound_any _ _ _ _ _ HSS.out).mono ?_; rw [HSO.out]; rintro e w' ⟨rfl, rfl⟩))
          go_ret2
          exact ParseRes.no HR.out HS2.out.bel
        · have HSO := Lib.hid hso
          have HR : Hid (R = some (outs ++ [⟨lab.toArray⟩])) := by have := HP.out; rw [fin, hso] at this; exact this
          clear hso
          go_wp2_with (first | (at_builtin; refine wpList_append_run rfl _ _ _ rfl _ _ rfl rfl HR2.out ?_) | (go_at_call 59; refine (sound_any _ _ _ _ _ HSS.out).mono ?_; rw [HSO.out]; rintro e w' ⟨rfl, rfl⟩))
          go_ret2
          exact ParseRes.yes HR.out HSS.out HS2.out.bel HFR.out
end Go.Proofs.YtipbakdodbmfjaaGreatDoor

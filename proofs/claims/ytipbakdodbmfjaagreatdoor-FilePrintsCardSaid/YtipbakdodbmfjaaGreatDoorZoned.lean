/- The contracts of file.Line, file.Print and the statements' own Line and Print; a row's frame. -/
import Derived.Test.YtipbakdodbmfjaaGreatDoorZonea
import Derived.Test.YtipbakdodbmfjaaGreatDoorReadm
import Derived.Test.YtipbakdodbmfjaaGreatDoorTypeName
import Derived.Test.YtipbakdodbmfjaaGreatDoorZoneb
import Derived.Test.YtipbakdodbmfjaaGreatDoorShelfB
import Derived.Test.YtipbakdodbmfjaaGreatDoorOpen
import Derived.HandedShaped
import Derived.Handed
import Derived.Shelf.Vars
namespace Go.Proofs.YtipbakdodbmfjaaGreatDoor
section
section
open Go.ChangeShapes Go.WideShapes Go.ChangeAt Go.RowKit

def lineW (r : RRP) : List (List UInt8) := [ftextP r.name, Lib.itoa r.ttl, [73, 78], typeNameP r.kind] ++ wordsL r.kind r.data
def lineOk (r : RRP) : Bool := rrB r && decide (r.cls = 1)
def lineT (r : RRP) : ByteArray := if lineOk r then strOf (joinP 32 (lineW r)) else ⟨#[]⟩
theorem words_len {k : Int} {d : DataP} (h : dataB k d = true) (hl : LightData d) (hf : ∀ z ∈ d.nums, wfi z) : (wordsL k d).length ≤ 72 ∧ ∀ v ∈ wordsL k d, v.length ≤ 10000 := by
  have hdec : ∀ v ∈ d.nums.map Lib.itoa, v.length ≤ 10000 := by
    intro v hv
    obtain ⟨z, hz, rfl⟩ := List.mem_map.1 hv
    have := hf z hz
    have := Lib.itoa_length_le z this.1 this.2
    omega
  have hn := hl.nums
  have hft : ∀ ss, soundB ss = true → (ftextP ss).length ≤ 10000 := by
    intro ss hs
    have := ftextP_len ss
    have := sound_size hs
    omega
  have host : ∀ k, (k = 2 ∨ k = 5 ∨ k = 12 ∨ k = 15 ∨ k = 33) → soundB d.host = true → (wordsL k d).length ≤ 72 ∧ ∀ v ∈ wordsL k d, v.length ≤ 10000 := by
    intro k hk hs
    have e : wordsL k d = d.nums.map Lib.itoa ++ [ftextP d.host] := by rcases hk with rfl | rfl | rfl | rfl | rfl <;> rfl
    rw [e]
    refine ⟨by simp; omega, fun v hv => ?_⟩
    rcases List.mem_append.1 hv with hv | hv
    · exact hdec v hv
    · simp at hv; rw [hv]; exact hft _ hs
  rcases kind_cases k with hk | rfl | rfl | hk | rfl | rfl | rfl | rfl | ⟨⟨k1, k2⟩, hk⟩
  · rw [dataB_out hk] at h; cases h
  · refine ⟨by show 1 ≤ 72; omega, fun v hv => ?_⟩
    have hv' : v = joinP 46 (d.bytes.map fun c => Lib.decDigits c.toNat) := by simpa [wordsL] using hv
    rw [hv']
    have := joinP_len 46 20 (d.bytes.map fun c => Lib.decDigits c.toNat) (by intro x hx; obtain ⟨c, _, rfl⟩ := List.mem_map.1 hx; exact dec_len20 _ (by have := c.toNat_lt; omega))
    rw [List.length_map, data_1 h] at this
    omega
  · refine ⟨by show 1 ≤ 72; omega, fun v hv => ?_⟩
    have hv' : v = joinP 58 ((pairsP d.bytes).map groupP) := by simpa [wordsL] using hv
    rw [hv']
    have := joinP_len 58 4 ((pairsP d.bytes).map groupP) (by intro x hx; obtain ⟨u, hu, rfl⟩ := List.mem_map.1 hx; exact groupP_len u (pairs_lt _ u hu))
    rw [List.length_map, pairs_len 8 _ (data_28 h)] at this
    omega
  · exact host k (by omega) (data_host hk h).1
  · exact host 15 (by omega) (data_15 h)
  · have h6 := data_6 h
    have e : wordsL 6 d = [ftextP d.host, ftextP d.mail] ++ d.nums.map Lib.itoa := rfl
    rw [e]
    refine ⟨by simp; omega, fun v hv => ?_⟩
    rcases List.mem_append.1 hv with hv | hv
    · simp at hv
      rcases hv with rfl | rfl
      · exact hft _ h6.1
      · exact hft _ h6.2.1
    · exact hdec v hv
  · exact host 33 (by omega) (data_33 h)
  · have e : wordsL 16 d = d.texts.map fun t => quotedP t.data.toList := rfl
    rw [e]
    refine ⟨by simp; have := hl.texts; omega, fun v hv => ?_⟩
    obtain ⟨t, ht, rfl⟩ := List.mem_map.1 hv
    have h1 := quotedP_len t.data.toList
    have h2 := hl.text t ht
    have h3 : t.data.toList.length = t.size := by simp
    omega
  · rw [wordsL_other hk]
    unfold rawP
    have hb := hl.bytes
    refine ⟨by split <;> simp, fun v hv => ?_⟩
    have hil := itoa_nat_len d.bytes.length (by omega)
    have hx := hexB_len d.bytes
    split at hv
    · simp at hv
      rcases hv with rfl | rfl
      · simp
      · omega
    · simp at hv
      rcases hv with rfl | rfl | rfl
      · simp
      · omega
      · omega
theorem cap_small : ∀ n, n ≤ 72 → 1 ≤ n → Builtin.nextslicecap (4 + n) 4 * 16 ≤ 281474976710656 := by decide +kernel
theorem tname_size (k : Int) (h1 : -9223372036854775808 ≤ k) (h2 : k ≤ 9223372036854775807) : (typeNameP k).length ≤ 30 := by
  unfold typeNameP
  split
  · simp
  · split
    · rename_i t h
      have hm := List.mem_of_find?_eq_some h
      have : ∀ t ∈ typesP, t.2.length ≤ 30 := by decide
      exact this t hm
    · have := Lib.itoa_length_le k h1 h2
      simp [TYPEP]
      omega
theorem rrB_parts {r : RRP} (h : rrB r = true) : soundB r.name = true ∧ dataB r.kind r.data = true := by
  simp only [rrB, Bool.and_eq_true] at h
  exact ⟨h.1, h.2.1⟩
set_option maxHeartbeats 8000000 in
set_option maxRecDepth 100000 in
theorem fline_any (w : World) (h : RRH) (r : RRP) (hr : IsRR w h r) (hl : LightData r.data) (hE : Env w) (hT : Types w) (hBu : Bru w) :
    Calls Tryz.prog 27 #[.agg (rrC h r)] w fun e w' => e = .returned (.tuple #[.string (lineT r), .bool (lineOk r)]) ∧ Below w.heap.size w w' := by
  have hwa : Below w.heap.size w (w.alloc (.cells (rrC h r) 48)) := (Below.refl _ _).alloc (Nat.le_refl _) _
  have hA : Blk (w.alloc (.cells (rrC h r) 48)) w.heap.size (rrC h r) 48 := heap_alloc_new w _
  have HWA := Lib.hid hwa
  have HA := Lib.hid hA
  have HSO := Lib.hid (rrsound_any _ h r (hr.on hwa))
  have HR := Lib.hid hr
  have HE := Lib.hid hE
  have HT := Lib.hid hT
  have HB := Lib.hid hBu
  have HLI := Lib.hid hl
  obtain ⟨S, hS⟩ : ∃ S, S = rrB r := ⟨_, rfl⟩
  rw [← hS] at HSO
  have HSS := Lib.hid hS
  clear hwa hA hr hE hT hBu hl hS
  obtain ⟨na, nl, nc, ⟨ba, bl, bc, ha, hl, hc, ma, ml, mc, xa, xl, xc, ta, tl, tc⟩⟩ := h
  simp only [rrC] at HWA HA HSO
  have c0 := HA.out.cell 0
  have c1 := HA.out.cell 1
  have c2 := HA.out.cell 2
  have c3 := HA.out.cell 3
  have c4 := HA.out.cell 4
  have c5 := HA.out.cell 5
  have c6 := HA.out.cell 6
  have c7 := HA.out.cell 7
  have c8 := HA.out.cell 8
  simp at c0 c1 c2 c3 c4 c5 c6 c7 c8
  go_enter Tryz.func27, Tryz.ntmps27
  simp only [rrC]
  go_wp2_with fail
  clear c0 c1 c2 c3 c4 c5 c6 c7 c8
  refine HSO.out.mono ?_
  rintro e w2 ⟨rfl, hb2⟩
  have HB2 := Lib.hid (below_on HWA.out hb2 (Nat.le_refl _))
  have HA2 := Lib.hid (HA.out.on hb2)
  have HR2 := Lib.hid (HR.out.on HB2.out)
  have HE2 := Lib.hid (HE.out.on HB2.out)
  have HT2 := Lib.hid (HT.out.on HB2.out)
  have HBU := Lib.hid (HB.out.on HB2.out)
  have c2 := HA2.out.cell 2
  simp at c2
  clear hb2 HA HWA HR HE HT HB HSO
  cases S
  · have hno : lineOk r = false := by rw [lineOk, ← HSS.out]; rfl
    have HNO := Lib.hid (show lineT r = ⟨#[]⟩ by rw [lineT, hno]; rfl)
    have HNO2 := Lib.hid hno
    clear hno
    go_wp2_with fail
    go_ret2
    exact ⟨by rw [HNO.out, HNO2.out]; rfl, HB2.out⟩
  by_cases hc1 : r.cls = 1
  case neg =>
    have hno : lineOk r = false := by rw [lineOk, ← HSS.out]; simp [hc1]
    have HNO := Lib.hid (show lineT r = ⟨#[]⟩ by rw [lineT, hno]; rfl)
    have HNO2 := Lib.hid hno
    have q1 : (r.cls != 1) = true := by rw [bne_iff_ne]; exact hc1
    clear hno hc1
    go_wp2_with fail
    go_ret2
    exact ⟨by rw [HNO.out, HNO2.out]; rfl, HB2.out⟩
  have hok : lineOk r = true := by rw [lineOk, ← HSS.out]; simp [hc1]
  have hp := rrB_parts HSS.out.symm
  have hwl := words_len hp.2 HLI.out HR2.out.data.fits
  have hws := words_some (k := r.kind) (d := r.data) hp.2
  obtain ⟨us, hus⟩ : ∃ us, us = (wordsL r.kind r.data).map strOf := ⟨_, rfl⟩
  obtain ⟨n, hn⟩ : ∃ n, n = us.length := ⟨_, rfl⟩
  have hnl : n = (wordsL r.kind r.data).length := by rw [hn, hus]; simp
  have hn72 : n ≤ 72 := by omega
  have hnpos : 1 ≤ n := by rw [hnl]; exact words_pos hp.2
  rw [← hus] at hws
  have HUS := Lib.hid hws
  have HN := Lib.hid hn
  have HUE := Lib.hid hus
  have HWL := Lib.hid hwl.2
  have HSZ := Lib.hid (show 8 * sizeN r.name + 2 ≤ 70368744177664 by have := sound_size hp.1; omega)
  have HOK := Lib.hid hok
  have HP := Lib.hid hp
  obtain ⟨A, hA⟩ : ∃ A, A = strOf (ftextP r.name) := ⟨_, rfl⟩
  obtain ⟨TN, hT⟩ : ∃ A, A = strOf (Lib.itoa r.ttl) := ⟨_, rfl⟩
  obtain ⟨KN, hKN⟩ : ∃ A, A = strOf (typeNameP r.kind) := ⟨_, rfl⟩
  have HEA := Lib.hid hA
  have HET := Lib.hid hT
  have HEK := Lib.hid hKN
  have HC0 := Lib.hid (show w2.drew.cell? ⟨w.heap.size, 0, none⟩ = some (.slice na nl nc) from HA2.out.cell 0)
  have HC1 := Lib.hid (show w2.drew.cell? ⟨w.heap.size, 1, none⟩ = some (.int .i64 r.kind) from HA2.out.cell 1)
  have HC2 := Lib.hid (show w2.drew.cell? ⟨w.heap.size, 2, none⟩ = some (.int .i64 r.cls) from HA2.out.cell 2)
  have HC3 := Lib.hid (show w2.drew.cell? ⟨w.heap.size, 3, none⟩ = some (.int .i64 r.ttl) from HA2.out.cell 3)
  have HC4 := Lib.hid (show w2.drew.cell? ⟨w.heap.size, 4, none⟩ = some (.slice ba bl bc) from HA2.out.cell 4)
  have HC5 := Lib.hid (show w2.drew.cell? ⟨w.heap.size, 5, none⟩ = some (.slice ha hl hc) from HA2.out.cell 5)
  have HC6 := Lib.hid (show w2.drew.cell? ⟨w.heap.size, 6, none⟩ = some (.slice ma ml mc) from HA2.out.cell 6)
  have HC7 := Lib.hid (show w2.drew.cell? ⟨w.heap.size, 7, none⟩ = some (.slice xa xl xc) from HA2.out.cell 7)
  have HC8 := Lib.hid (show w2.drew.cell? ⟨w.heap.size, 8, none⟩ = some (.slice ta tl tc) from HA2.out.cell 8)
  have q1 : (r.cls != 1) = false := by rw [bne_eq_false_iff_eq]; exact hc1
  clear hok hp hwl hws hus hn hnl hA hT hKN hc1
  go_wp2_with fail
  refine wp_soup0 (m := 31) (by kernel_rfl) (fun x y => Below x.heap.size x y) (fun i v xw => match i with | 0 => v = .pointer (some ⟨w.heap.size, 0, none⟩) | 1 => v = .slice na nl nc | 2 => v = .string A | 3 => v = .pointer (some ⟨w.heap.size, 3, none⟩) | 4 => v = .int .i64 r.ttl | 5 => v = .string TN | 6 => v = .pointer (some ⟨w.heap.size, 1, none⟩) | 7 => v = .int .i64 r.kind | 8 => v = .string KN | 9 => ∃ g, v = .slice (some ⟨g, 0, none⟩) 4 4 ∧ Row xw (some ⟨g, 0, none⟩) 4 4 [.string A, .string TN, .string ⟨#[73, 78]⟩, .string KN] | 10 => v = .pointer (some ⟨w.heap.size, 1, none⟩) | 11 => v = .int .i64 r.kind | 12 => v = .pointer (some ⟨w.heap.size, 4, none⟩) | 13 => v = .agg #[.slice ba bl bc, .slice ha hl hc, .slice ma ml mc, .slice xa xl xc, .slice ta tl tc] | 14 => ∃ ao cap, v = .slice ao n cap ∧ Strs xw ao n cap us | 15 => ∃ a c, v = .slice (some a) (4 + n) c ∧ Row xw (some a) (4 + n) c ([.string A, .string TN, .string ⟨#[73, 78]⟩, .string KN] ++ us.map .string) | 16 => ∃ a c, v = .slice (some a) (4 + n) c ∧ Row xw (some a) (4 + n) c ([.string A, .string TN, .string ⟨#[73, 78]⟩, .string KN] ++ us.map .string) | _ => True) rfl (by kernel_rfl) (fun _ _ _ h1 h2 => below_on h1 h2 (Nat.le_refl _)) (Below.refl _ _) (by intro i v x y h hxy; match i, h with | 0, h => exact h | 1, h => exact h | 2, h => exact h | 3, h => exact h | 4, h => exact h | 5, h => exact h | 6, h => exact h | 7, h => exact h | 8, h => exact h | 9, ⟨g, e, hr⟩ => exact ⟨g, e, hr.below hxy (Nat.le_refl _)⟩ | 10, h => exact h | 11, h => exact h | 12, h => exact h | 13, h => exact h | 14, ⟨a, c, e, hr⟩ => exact ⟨a, c, e, hr.below hxy (Nat.le_refl _)⟩ | 15, ⟨a, c, e, hr⟩ => exact ⟨a, c, e, hr.below hxy (Nat.le_refl _)⟩ | 16, ⟨a, c, e, hr⟩ => exact ⟨a, c, e, hr.below hxy (Nat.le_refl _)⟩ | _ + 17, _ => trivial) (dst_but 17 (by kernel_rfl) (fun _ _ h => h)) ?_ ?_
  rotate_left
  · intro a W hR hS hdep
    obtain ⟨a9, c9, q, r9⟩ := hdep 16 (by decide +kernel)
    have e4 : a.tmps.getD 4 undef = .slice (some a9) (4 + n) c9 := q
    clear q
    obtain ⟨T, df⟩ := a
    obtain rfl : df = [] := hS.defers
    have hT : T = #[T.getD 0 undef, T.getD 1 undef, T.getD 2 undef, T.getD 3 undef, T.getD 4 undef, T.getD 5 undef, T.getD 6 undef, T.getD 7 undef, T.getD 8 undef, T.getD 9 undef, T.getD 10 undef, T.getD 11 undef, T.getD 12 undef, T.getD 13 undef, T.getD 14 undef, T.getD 15 undef, T.getD 16 undef, T.getD 17 undef, T.getD 18 undef, T.getD 19 undef, T.getD 20 undef, T.getD 21 undef, T.getD 22 undef, T.getD 23 undef, T.getD 24 undef, T.getD 25 undef, T.getD 26 undef, T.getD 27 undef, T.getD 28 undef, T.getD 29 undef, T.getD 30 undef] := arr_eta T 31 hS.size
    have k4 : T.getD 4 undef = .slice (some a9) (4 + n) c9 := e4
    clear hS hdep
    rw [hT]
    rw [k4]
    clear k4 e4
    clear hT
    generalize T.getD 0 undef = u0
    generalize T.getD 1 undef = u1
    generalize T.getD 2 undef = u2
    generalize T.getD 3 undef = u3
    generalize T.getD 5 undef = u5
    generalize T.getD 6 undef = u6
    generalize T.getD 7 undef = u7
    generalize T.getD 8 undef = u8
    generalize T.getD 9 undef = u9
    generalize T.getD 10 undef = u10
    generalize T.getD 11 undef = u11
    generalize T.getD 12 undef = u12
    generalize T.getD 13 undef = u13
    generalize T.getD 14 undef = u14
    generalize T.getD 15 undef = u15
    generalize T.getD 16 undef = u16
    generalize T.getD 17 undef = u17
    generalize T.getD 18 undef = u18
    generalize T.getD 19 undef = u19
    generalize T.getD 20 undef = u20
    generalize T.getD 21 undef = u21
    generalize T.getD 22 undef = u22
    generalize T.getD 23 undef = u23
    generalize T.getD 24 undef = u24
    generalize T.getD 25 undef = u25
    generalize T.getD 26 undef = u26
    generalize T.getD 27 undef = u27
    generalize T.getD 28 undef = u28
    generalize T.getD 29 undef = u29
    generalize T.getD 30 undef = u30
    obtain ⟨jb, jo, je⟩ := r9.addr (k := 0) (by omega)
    simp only [Option.some.injEq] at je
    subst je
    have hxl : ([A, TN, ⟨#[73, 78]⟩, KN] ++ us).length = 4 + n := by rw [List.length_append, HN.out]; rfl
    have hmap : ([A, TN, ⟨#[73, 78]⟩, KN] ++ us).map (·.data.toList) = lineW r := by
      rw [HUE.out, HEA.out, HET.out, HEK.out, lineW]
      simp only [List.map_append, List.map_map, List.map_cons, List.map_nil]
      rw [show List.map ((fun x : ByteArray => x.data.toList) ∘ strOf) (wordsL r.kind r.data) = wordsL r.kind r.data from (List.map_congr_left (g := id) (fun _ _ => rfl)).trans (List.map_id _)]
      rfl
    have hjoin : Lib.join (([A, TN, ⟨#[73, 78]⟩, KN] ++ us).map (·.data.toList)) (⟨#[32]⟩ : ByteArray).data.toList = joinP 32 (lineW r) := by
      rw [hmap, show (⟨#[32]⟩ : ByteArray).data.toList = [32] from rfl, join_one]
    have hall : ∀ v ∈ lineW r, v.length ≤ 10000 := by
      intro v hv
      rcases List.mem_append.1 hv with hv | hv
      · simp only [List.mem_cons, List.not_mem_nil, or_false] at hv
        rcases hv with rfl | rfl | rfl | rfl
        · have h1 := ftextP_len r.name
          have h2 := sound_size HP.out.1
          omega
        · have := Lib.itoa_length_le r.ttl HR2.out.ttl.1 HR2.out.ttl.2
          omega
        · simp
        · have := tname_size r.kind HR2.out.kind.1 HR2.out.kind.2
          omega
      · exact HWL.out v hv
    have hjl := joinP_len 32 10000 (lineW r) hall
    have hlw : (lineW r).length = 4 + n := by rw [← hmap, List.length_map]; exact hxl
    rw [hlw] at hjl
    have hcall := Tryz.strings_Join jb jo c9 ([A, TN, ⟨#[73, 78]⟩, KN] ++ us) ⟨#[32]⟩ W (by
      intro i y hy
      obtain ⟨hi, e⟩ := List.getElem?_eq_some_iff.1 hy
      have h1 := r9.at (i := i) (by omega)
      rw [h1]
      congr 1
      rw [← e]
      have h2 : [Value.string A, .string TN, .string ⟨#[73, 78]⟩, .string KN] ++ us.map .string = ([A, TN, ⟨#[73, 78]⟩, KN] ++ us).map .string := by simp
      simp only [h2, List.getElem_map]) (r9.lt (by omega)) (by omega) (by have := r9.hle; omega) (by rw [hjoin]; have hm : (4 + n) * (10000 + 1) ≤ 76 * 10001 := Nat.mul_le_mul (by omega) (Nat.le_refl _); omega)
    rw [hjoin, hxl] at hcall
    have HCALL := Lib.hid hcall
    have HBX := Lib.hid (below_on (B := w2.heap.size) (Below.drew (Below.refl _ _)) hR (Nat.le_refl _))
    have HLT := Lib.hid (show lineT r = strOf (joinP 32 (lineW r)) by rw [lineT, HOK.out]; rfl)
    clear r9 hR hcall hjl hall hjoin hmap hlw hxl
    go_wp2_with fail
    refine HCALL.out.mono ?_
    rintro e w5 ⟨rfl, hb5⟩
    go_wp2_with fail
    go_ret2
    exact ⟨by rw [HLT.out, HOK.out]; rfl, below_on HB2.out (below_on HBX.out hb5 (Nat.le_refl _)) (Nat.le_refl _)⟩
  refine soup_cons rfl rfl (fun a W hR hS hdep K hK => ?_) ?_
  · have e1 : a.tmps[1]?.getD undef = .pointer (some ⟨w.heap.size, 0, none⟩) := slot_of (hS.keep 1 (by kernel_rfl))
    go_simp
    exact hK _ _ (Below.refl _ _) rfl
  refine soup_cons rfl rfl (fun a W hR hS hdep K hK => ?_) ?_
  · have e13 : a.tmps[13]?.getD undef = .pointer (some ⟨w.heap.size, 0, none⟩) := slot_of (hdep 0 (by decide +kernel))
    have q1 := cell_keep hR HC0.out
    go_simp
    exact hK _ _ (Below.refl _ _) rfl
  refine soup_cons rfl rfl (fun a W hR hS hdep K hK => ?_) ?_
  · have e14 : a.tmps[14]?.getD undef = .slice na nl nc := slot_of (hdep 1 (by decide +kernel))
    have hbW := below_on (B := w2.heap.size) (Below.drew (Below.refl _ _)) hR (Nat.le_refl _)
    go_simp
    refine (ftext_any W na nl nc r.name (HR2.out.name.below hbW (Nat.le_refl _)) HSZ.out ((HE2.out.on hbW).tab)).mono ?_
    rintro e W' ⟨rfl, hb⟩
    exact hK _ _ hb (congrArg Value.string HEA.out.symm)
  refine soup_cons rfl rfl (fun a W hR hS hdep K hK => ?_) ?_
  · have e1 : a.tmps[1]?.getD undef = .pointer (some ⟨w.heap.size, 0, none⟩) := slot_of (hS.keep 1 (by kernel_rfl))
    go_simp
    exact hK _ _ (Below.refl _ _) rfl
  refine soup_cons rfl rfl (fun a W hR hS hdep K hK => ?_) ?_
  · have e16 : a.tmps[16]?.getD undef = .pointer (some ⟨w.heap.size, 3, none⟩) := slot_of (hdep 3 (by decide +kernel))
    have q1 := cell_keep hR HC3.out
    go_simp
    exact hK _ _ (Below.refl _ _) rfl
  refine soup_cons rfl rfl (fun a W hR hS hdep K hK => ?_) ?_
  · have e17 : a.tmps[17]?.getD undef = .int .i64 r.ttl := slot_of (hdep 4 (by decide +kernel))
    have hbW := below_on (B := w2.heap.size) (Below.drew (Below.refl _ _)) hR (Nat.le_refl _)
    go_simp
    refine (itoa_below (w := W) HR2.out.ttl.1 HR2.out.ttl.2 ((HE2.out.on hbW).tab)).mono ?_
    rintro e W' ⟨rfl, hb⟩
    exact hK _ _ hb (congrArg Value.string HET.out.symm)
  refine soup_cons rfl rfl (fun a W hR hS hdep K hK => ?_) ?_
  · have e1 : a.tmps[1]?.getD undef = .pointer (some ⟨w.heap.size, 0, none⟩) := slot_of (hS.keep 1 (by kernel_rfl))
    go_simp
    exact hK _ _ (Below.refl _ _) rfl
  refine soup_cons rfl rfl (fun a W hR hS hdep K hK => ?_) ?_
  · have e19 : a.tmps[19]?.getD undef = .pointer (some ⟨w.heap.size, 1, none⟩) := slot_of (hdep 6 (by decide +kernel))
    have q1 := cell_keep hR HC1.out
    go_simp
    exact hK _ _ (Below.refl _ _) rfl
  refine soup_cons rfl rfl (fun a W hR hS hdep K hK => ?_) ?_
  · have e20 : a.tmps[20]?.getD undef = .int .i64 r.kind := slot_of (hdep 7 (by decide +kernel))
    have hbW := below_on (B := w2.heap.size) (Below.drew (Below.refl _ _)) hR (Nat.le_refl _)
    go_simp
    refine (typename_any W r.kind HR2.out.kind.1 HR2.out.kind.2 (HE2.out.on hbW) (HT2.out.on hbW)).mono ?_
    rintro e W' ⟨rfl, hb⟩
    exact hK _ _ hb (congrArg Value.string HEK.out.symm)
  refine soup_cons rfl rfl (fun a W hR hS hdep K hK => ?_) ?_
  · have e15 : a.tmps[15]?.getD undef = .string A := slot_of (hdep 2 (by decide +kernel))
    have e18 : a.tmps[18]?.getD undef = .string TN := slot_of (hdep 5 (by decide +kernel))
    have e21 : a.tmps[21]?.getD undef = .string KN := slot_of (hdep 8 (by decide +kernel))
    go_simp
    exact hK _ _ ((Below.refl _ _).alloc (Nat.le_refl _) _) ⟨_, rfl, row_lit W [.string A, .string TN, .string ⟨#[73, 78]⟩, .string KN] 9 (by simp)⟩
  refine soup_cons rfl rfl (fun a W hR hS hdep K hK => ?_) ?_
  · have e1 : a.tmps[1]?.getD undef = .pointer (some ⟨w.heap.size, 0, none⟩) := slot_of (hS.keep 1 (by kernel_rfl))
    go_simp
    exact hK _ _ (Below.refl _ _) rfl
  refine soup_cons rfl rfl (fun a W hR hS hdep K hK => ?_) ?_
  · have e23 : a.tmps[23]?.getD undef = .pointer (some ⟨w.heap.size, 1, none⟩) := slot_of (hdep 10 (by decide +kernel))
    have q1 := cell_keep hR HC1.out
    go_simp
    exact hK _ _ (Below.refl _ _) rfl
  refine soup_cons rfl rfl (fun a W hR hS hdep K hK => ?_) ?_
  · have e1 : a.tmps[1]?.getD undef = .pointer (some ⟨w.heap.size, 0, none⟩) := slot_of (hS.keep 1 (by kernel_rfl))
    go_simp
    exact hK _ _ (Below.refl _ _) rfl
  refine soup_cons rfl rfl (fun a W hR hS hdep K hK => ?_) ?_
  · have e25 : a.tmps[25]?.getD undef = .pointer (some ⟨w.heap.size, 4, none⟩) := slot_of (hdep 12 (by decide +kernel))
    have q4 := cell_keep hR HC4.out
    have q5 := cell_keep hR HC5.out
    have q6 := cell_keep hR HC6.out
    have q7 := cell_keep hR HC7.out
    have q8 := cell_keep hR HC8.out
    go_simp
    exact hK _ _ (Below.refl _ _) rfl
  refine soup_cons rfl rfl (fun a W hR hS hdep K hK => ?_) ?_
  · have e24 : a.tmps[24]?.getD undef = .int .i64 r.kind := slot_of (hdep 11 (by decide +kernel))
    have e26 : a.tmps[26]?.getD undef = .agg #[.slice ba bl bc, .slice ha hl hc, .slice ma ml mc, .slice xa xl xc, .slice ta tl tc] := slot_of (hdep 13 (by decide +kernel))
    have hbW := below_on (B := w2.heap.size) (Below.drew (Below.refl _ _)) hR (Nat.le_refl _)
    go_simp
    refine (fwords_any W r.kind ⟨ba, bl, bc, ha, hl, hc, ma, ml, mc, xa, xl, xc, ta, tl, tc⟩ r.data (HR2.out.data.on hbW) HLI.out (HE2.out.on hbW).tab (HBU.out.on hbW)).mono ?_
    rintro e W' ⟨ao, cap, rfl, hs, hb⟩
    rw [HUS.out] at hs ⊢
    exact hK _ _ hb ⟨ao, cap, by rw [HN.out], by rw [HN.out]; exact hs⟩
  refine soup_cons rfl rfl (fun a W hR hS hdep K hK => ?_) ?_
  · obtain ⟨g, q, r9⟩ := hdep 9 (by decide +kernel)
    have e22 : a.tmps[22]?.getD undef = .slice (some ⟨g, 0, none⟩) 4 4 := slot_of (q)
    clear q
    obtain ⟨ao, cap, q, hs⟩ := hdep 14 (by decide +kernel)
    have e27 : a.tmps[27]?.getD undef = .slice ao n cap := slot_of (q)
    clear q
    obtain ⟨i0, hi, hz0, hz1, hz2⟩ := info_parts strInfo
    obtain ⟨a', c', w', hrun, hrow', hb⟩ := append_full (P := Tryz.prog) W 30 30 9 i0 _ 16 Tryz.underlying30 hi hz0 hz1 hz2 g 4 _ r9 ao n cap _ hs.row hnpos (cap_small n hn72 hnpos) (by omega)
    rw [if_pos (by rfl)]
    refine wp_append_run _ _ _ rfl _ _ (Array.getD_eq_getD_getElem?.trans e22) (Array.getD_eq_getD_getElem?.trans e27) hrun ?_
    exact hK _ _ hb ⟨_, _, rfl, hrow'⟩
  refine soup_cons rfl rfl (fun a W hR hS hdep K hK => ?_) ?_
  · obtain ⟨a8, c8, q, r8⟩ := hdep 15 (by decide +kernel)
    have e28 : a.tmps[28]?.getD undef = .slice (some a8) (4 + n) c8 := slot_of (q)
    clear q
    go_simp
    exact hK _ _ (Below.refl _ _) ⟨_, _, rfl, r8⟩
  exact fun j h1 h2 => absurd h1 (by simp only [List.size_toArray, List.length_cons, List.length_nil]; omega)
end
section
open Go.ChangeShapes Go.WideShapes Go.ChangeAt Go.RowKit

theorem joinP_snoc (c : UInt8) (x : List UInt8) : ∀ ws : List (List UInt8), ws ≠ [] → joinP c (ws ++ [x]) = joinP c ws ++ c :: x
  | [], h => absurd rfl h
  | [w], _ => rfl
  | w :: v :: ws, _ => by
    have ih := joinP_snoc c x (v :: ws) (by simp)
    simp only [List.cons_append, joinP] at ih ⊢
    rw [ih]
    simp
/-- a line's first four words -/
def headW (r : RRP) : List (List UInt8) := [ftextP r.name, Lib.itoa r.ttl, [73, 78], typeNameP r.kind]
theorem head_step (r : RRP) {k : Nat} (h : k < (wordsL r.kind r.data).length) : joinP 32 (headW r ++ (wordsL r.kind r.data).take (k + 1)) = joinP 32 (headW r ++ (wordsL r.kind r.data).take k) ++ 32 :: (wordsL r.kind r.data)[k] := by
  rw [List.take_succ_eq_append_getElem h, ← List.append_assoc, joinP_snoc]
  simp [headW]
theorem head_all (r : RRP) : joinP 32 (headW r ++ (wordsL r.kind r.data).take (wordsL r.kind r.data).length) = joinP 32 (lineW r) := by
  rw [List.take_length]; rfl
set_option maxHeartbeats 8000000 in
set_option maxRecDepth 100000 in
theorem rline_any (w : World) (h : RRH) (r : RRP) (hr : IsRR w h r) (hl : LightData r.data) :
    Calls Tryz.prog 28 #[.agg (rrC h r)] w fun e w' => e = .returned (.tuple #[.string (lineT r), .bool (lineOk r)]) ∧ Below w.heap.size w w' := by
  have hwa : Below w.heap.size w (w.alloc (.cells (rrC h r) 48)) := (Below.refl _ _).alloc (Nat.le_refl _) _
  have hA : Blk (w.alloc (.cells (rrC h r) 48)) w.heap.size (rrC h r) 48 := heap_alloc_new w _
  have HWA := Lib.hid hwa
  have HA := Lib.hid hA
  have HSO := Lib.hid (r3sound_any _ h r (hr.on hwa))
  have HR := Lib.hid hr
  have HLI := Lib.hid hl
  obtain ⟨S, hS⟩ : ∃ S, S = rrB r := ⟨_, rfl⟩
  rw [← hS] at HSO
  have HSS := Lib.hid hS
  clear hwa hA hr hl hS
  obtain ⟨na, nl, nc, ⟨ba, bl, bc, ha, hl, hc, ma, ml, mc, xa, xl, xc, ta, tl, tc⟩⟩ := h
  simp only [rrC] at HWA HA HSO
  have c0 := HA.out.cell 0
  have c1 := HA.out.cell 1
  have c2 := HA.out.cell 2
  have c3 := HA.out.cell 3
  have c4 := HA.out.cell 4
  have c5 := HA.out.cell 5
  have c6 := HA.out.cell 6
  have c7 := HA.out.cell 7
  have c8 := HA.out.cell 8
  simp at c0 c1 c2 c3 c4 c5 c6 c7 c8
  go_enter Tryz.func28, Tryz.ntmps28
  simp only [rrC]
  go_wp2_with fail
  clear c0 c1 c2 c3 c4 c5 c6 c7 c8
  refine HSO.out.mono ?_
  rintro e w2 ⟨rfl, hb2⟩
  have HB2 := Lib.hid (below_on HWA.out hb2 (Nat.le_refl _))
  have HA2 := Lib.hid (HA.out.on hb2)
  have HR2 := Lib.hid (HR.out.on HB2.out)
  have c2 := HA2.out.cell 2
  simp at c2
  clear hb2 HA HWA HR HSO
  cases S
  · have hno : lineOk r = false := by rw [lineOk, ← HSS.out]; rfl
    have HNO := Lib.hid (show lineT r = ⟨#[]⟩ by rw [lineT, hno]; rfl)
    have HNO2 := Lib.hid hno
    clear hno
    go_wp2_with fail
    go_ret2
    exact ⟨by rw [HNO.out, HNO2.out]; rfl, HB2.out⟩
  by_cases hc1 : r.cls = 1
  case neg =>
    have hno : lineOk r = false := by rw [lineOk, ← HSS.out]; simp [hc1]
    have HNO := Lib.hid (show lineT r = ⟨#[]⟩ by rw [lineT, hno]; rfl)
    have HNO2 := Lib.hid hno
    have q1 : (r.cls != 1) = true := by rw [bne_iff_ne]; exact hc1
    clear hno hc1
    go_wp2_with fail
    go_ret2
    exact ⟨by rw [HNO.out, HNO2.out]; rfl, HB2.out⟩
  have hok : lineOk r = true := by rw [lineOk, ← HSS.out]; simp [hc1]
  have hp := rrB_parts HSS.out.symm
  have hwl := words_len hp.2 HLI.out HR2.out.data.fits
  have hws := words_some (k := r.kind) (d := r.data) hp.2
  obtain ⟨us, hus⟩ : ∃ us, us = (wordsL r.kind r.data).map strOf := ⟨_, rfl⟩
  obtain ⟨n, hn⟩ : ∃ n, n = us.length := ⟨_, rfl⟩
  have hnl : n = (wordsL r.kind r.data).length := by rw [hn, hus]; simp
  have hn72 : n ≤ 72 := by omega
  rw [← hus] at hws
  have HUS := Lib.hid hws
  have HN := Lib.hid hn
  have HNL := Lib.hid hnl
  have HUE := Lib.hid hus
  have HWL := Lib.hid hwl.2
  have hsn := sound_size hp.1
  have HSZ := Lib.hid (show 8 * sizeN r.name + 2 ≤ 70368744177664 by omega)
  have HOK := Lib.hid hok
  obtain ⟨A, hA⟩ : ∃ A, A = strOf (ftextP r.name) := ⟨_, rfl⟩
  obtain ⟨TN, hT⟩ : ∃ A, A = strOf (Lib.itoa r.ttl) := ⟨_, rfl⟩
  obtain ⟨KN, hKN⟩ : ∃ A, A = strOf (typeNameP r.kind) := ⟨_, rfl⟩
  have HEA := Lib.hid hA
  have HET := Lib.hid hT
  have HEK := Lib.hid hKN
  have lA : A.data.toList = ftextP r.name := by rw [hA]; rfl
  have lT : TN.data.toList = Lib.itoa r.ttl := by rw [hT]; rfl
  have lK : KN.data.toList = typeNameP r.kind := by rw [hKN]; rfl
  have zA := size_of lA
  have zT := size_of lT
  have zK := size_of lK
  have y1 := ftextP_len r.name
  have y2 := Lib.itoa_length_le r.ttl HR2.out.ttl.1 HR2.out.ttl.2
  have y3 := tname_size r.kind HR2.out.kind.1 HR2.out.kind.2
  obtain ⟨E1, q1⟩ : ∃ E, A ++ ⟨#[32]⟩ = E := ⟨_, rfl⟩
  obtain ⟨E2, q2⟩ : ∃ E, E1 ++ TN = E := ⟨_, rfl⟩
  obtain ⟨E3, q3⟩ : ∃ E, E2 ++ ⟨#[32, 73, 78, 32]⟩ = E := ⟨_, rfl⟩
  obtain ⟨E4, q4⟩ : ∃ E, E3 ++ KN = E := ⟨_, rfl⟩
  have l1 := cat_list lA (show (⟨#[32]⟩ : ByteArray).data.toList = [32] from rfl)
  rw [q1] at l1
  have l2 := cat_list l1 lT
  rw [q2] at l2
  have l3 := cat_list l2 (show (⟨#[32, 73, 78, 32]⟩ : ByteArray).data.toList = [32, 73, 78, 32] from rfl)
  rw [q3] at l3
  have l4 := cat_list l3 lK
  rw [q4] at l4
  have z1 := size_of l1
  have z2 := size_of l2
  have z3 := size_of l3
  have z4 := size_of l4
  simp only [List.length_append, List.length_cons, List.length_nil] at z1 z2 z3 z4
  have HE4 := Lib.hid (show E4.data.toList = joinP 32 (headW r ++ (wordsL r.kind r.data).take 0) by
    rw [l4]; simp [headW, joinP])
  have zE : E4.size ≤ 20000 := by omega
  replace zA : A.size ≤ 10000 := by omega
  replace zT : TN.size ≤ 10000 := by omega
  replace zK : KN.size ≤ 10000 := by omega
  replace z1 : E1.size ≤ 20000 := by omega
  replace z2 : E2.size ≤ 20000 := by omega
  replace z3 : E3.size ≤ 20000 := by omega
  have HC0 := Lib.hid (show w2.drew.cell? ⟨w.heap.size, 0, none⟩ = some (.slice na nl nc) from HA2.out.cell 0)
  have HC1 := Lib.hid (show w2.drew.cell? ⟨w.heap.size, 1, none⟩ = some (.int .i64 r.kind) from HA2.out.cell 1)
  have HC3 := Lib.hid (show w2.drew.cell? ⟨w.heap.size, 3, none⟩ = some (.int .i64 r.ttl) from HA2.out.cell 3)
  have q0 : (r.cls != 1) = false := by rw [bne_eq_false_iff_eq]; exact hc1
  clear hok hp hwl hws hus hn hnl hA hT hKN hc1 hsn lA lT lK y1 y2 y3 l1 l2 l3 l4 z4
  go_wp2_with fail
  refine wp_soup0 (m := 47) (by kernel_rfl) (fun x y => Below x.heap.size x y) (fun i v xw => match i with | 0 => v = .pointer (some ⟨w.heap.size, 0, none⟩) | 1 => v = .slice na nl nc | 2 => v = .string A | 3 => v = .string E1 | 4 => v = .pointer (some ⟨w.heap.size, 3, none⟩) | 5 => v = .int .i64 r.ttl | 6 => v = .string TN | 7 => v = .string E2 | 8 => v = .string E3 | 9 => v = .pointer (some ⟨w.heap.size, 1, none⟩) | 10 => v = .int .i64 r.kind | 11 => v = .string KN | 12 => v = .string E4 | 13 => v = .string E4 | _ => True) rfl (by kernel_rfl) (fun _ _ _ h1 h2 => below_on h1 h2 (Nat.le_refl _)) (Below.refl _ _) (by intro i v x y h hxy; match i, h with | 0, h => exact h | 1, h => exact h | 2, h => exact h | 3, h => exact h | 4, h => exact h | 5, h => exact h | 6, h => exact h | 7, h => exact h | 8, h => exact h | 9, h => exact h | 10, h => exact h | 11, h => exact h | 12, h => exact h | 13, h => exact h | _ + 14, _ => trivial) (dst_but 14 (by kernel_rfl) (fun _ _ h => h)) ?_ ?_
  rotate_left
  · intro a W hR hS hdep
    have e1 : a.tmps.getD 1 undef = .pointer (some ⟨w.heap.size, 0, none⟩) := hS.keep 1 (by kernel_rfl)
    have e4 : a.tmps.getD 4 undef = .string E4 := hdep 13 (by decide +kernel)
    obtain ⟨T, df⟩ := a
    obtain rfl : df = [] := hS.defers
    have hT : T = #[T.getD 0 undef, T.getD 1 undef, T.getD 2 undef, T.getD 3 undef, T.getD 4 undef, T.getD 5 undef, T.getD 6 undef, T.getD 7 undef, T.getD 8 undef, T.getD 9 undef, T.getD 10 undef, T.getD 11 undef, T.getD 12 undef, T.getD 13 undef, T.getD 14 undef, T.getD 15 undef, T.getD 16 undef, T.getD 17 undef, T.getD 18 undef, T.getD 19 undef, T.getD 20 undef, T.getD 21 undef, T.getD 22 undef, T.getD 23 undef, T.getD 24 undef, T.getD 25 undef, T.getD 26 undef, T.getD 27 undef, T.getD 28 undef, T.getD 29 undef, T.getD 30 undef, T.getD 31 undef, T.getD 32 undef, T.getD 33 undef, T.getD 34 undef, T.getD 35 undef, T.getD 36 undef, T.getD 37 undef, T.getD 38 undef, T.getD 39 undef, T.getD 40 undef, T.getD 41 undef, T.getD 42 undef, T.getD 43 undef, T.getD 44 undef, T.getD 45 undef, T.getD 46 undef] := arr_eta T 47 hS.size
    have k1 : T.getD 1 undef = .pointer (some ⟨w.heap.size, 0, none⟩) := e1
    have k4 : T.getD 4 undef = .string E4 := e4
    clear hS hdep
    rw [hT]
    rw [k1]
    clear k1 e1
    rw [k4]
    clear k4 e4
    clear hT
    generalize T.getD 0 undef = u0
    generalize T.getD 2 undef = u2
    generalize T.getD 3 undef = u3
    generalize T.getD 5 undef = u5
    generalize T.getD 6 undef = u6
    generalize T.getD 7 undef = u7
    generalize T.getD 8 undef = u8
    generalize T.getD 9 undef = u9
    generalize T.getD 10 undef = u10
    generalize T.getD 11 undef = u11
    generalize T.getD 12 undef = u12
    generalize T.getD 13 undef = u13
    generalize T.getD 14 undef = u14
    generalize T.getD 15 undef = u15
    generalize T.getD 16 undef = u16
    generalize T.getD 17 undef = u17
    generalize T.getD 18 undef = u18
    generalize T.getD 19 undef = u19
    generalize T.getD 20 undef = u20
    generalize T.getD 21 undef = u21
    generalize T.getD 22 undef = u22
    generalize T.getD 23 undef = u23
    generalize T.getD 24 undef = u24
    generalize T.getD 25 undef = u25
    generalize T.getD 26 undef = u26
    generalize T.getD 27 undef = u27
    generalize T.getD 28 undef = u28
    generalize T.getD 29 undef = u29
    generalize T.getD 30 undef = u30
    generalize T.getD 31 undef = u31
    generalize T.getD 32 undef = u32
    generalize T.getD 33 undef = u33
    generalize T.getD 34 undef = u34
    generalize T.getD 35 undef = u35
    generalize T.getD 36 undef = u36
    generalize T.getD 37 undef = u37
    generalize T.getD 38 undef = u38
    generalize T.getD 39 undef = u39
    generalize T.getD 40 undef = u40
    generalize T.getD 41 undef = u41
    generalize T.getD 42 undef = u42
    generalize T.getD 43 undef = u43
    generalize T.getD 44 undef = u44
    generalize T.getD 45 undef = u45
    generalize T.getD 46 undef = u46
    have HBX := Lib.hid (below_on (B := w2.heap.size) (Below.drew (Below.refl _ _)) hR (Nat.le_refl _))
    have hA3 := HA2.out.on HBX.out
    have c1 := hA3.cell 1
    have c4 := hA3.cell 4
    have c5 := hA3.cell 5
    have c6 := hA3.cell 6
    have c7 := hA3.cell 7
    have c8 := hA3.cell 8
    simp at c1 c4 c5 c6 c7 c8
    have HWO := Lib.hid (rwords_any W r.kind ⟨ba, bl, bc, ha, hl, hc, ma, ml, mc, xa, xl, xc, ta, tl, tc⟩ r.data (HR2.out.data.on HBX.out) HLI.out)
    simp only [dataC] at HWO
    clear hA3 q1 q2 q3 q4 zA zT zK z1 z2 z3
    go_wp2_with fail
    refine HWO.out.mono ?_
    rintro e w5 ⟨ao, cap, rfl, hs5, hb5⟩
    rw [HUS.out] at hs5 ⊢
    rw [← HN.out] at hs5 ⊢
    have HS5 := Lib.hid hs5
    have HB5 := Lib.hid (below_on HBX.out hb5 (Nat.le_refl _))
    have hcap := hs5.row.hcap
    have hle := hs5.row.hle
    clear hs5 hb5 HWO c1 c4 c5 c6 c7 c8 hR
    go_wp2_with fail
    go_loopw [6, 4] (fun i s wr => ∃ (k : Nat) (p : ByteArray), k ≤ n ∧ i = .int .i64 (k : Int) ∧ s = .string p ∧ p.size ≤ 20000 + k * 20000 ∧ Hid (p.data.toList = joinP 32 (headW r ++ (wordsL r.kind r.data).take k) ∧ Below w5.heap.size w5 wr)) (fun i _ _ => n - (intOf i).toNat)
    case atStart => exact ⟨0, E4, Nat.zero_le _, rfl, rfl, by omega, HE4.out, Below.refl _ _⟩
    case round =>
      obtain ⟨k, p, hk, rfl, rfl, hps, hinv⟩ := hrel
      have hk3 : 20000 + k * 20000 ≤ 20000 + 72 * 20000 := by omega
      by_cases hlt : k < n
      · obtain ⟨b, off, rfl⟩ := HS5.out.row.addr hlt
        have hc1 := (HS5.out.below hinv.out.2 (Nat.le_refl _)).at hlt
        have hkw : k < (wordsL r.kind r.data).length := by have := HNL.out; omega
        obtain ⟨u, hu⟩ : ∃ x, x = us[k]'(by have := HN.out; omega) := ⟨_, rfl⟩
        rw [← hu] at hc1
        have hud : u.data.toList = (wordsL r.kind r.data)[k] := by
          rw [hu]
          simp only [HUE.out, List.getElem_map]
          rfl
        have hus2 : u.size ≤ 10000 := by
          have := HWL.out _ (List.getElem_mem hkw)
          rw [size_of hud]; exact this
        obtain ⟨F1, q1⟩ : ∃ E, p ++ ⟨#[32]⟩ = E := ⟨_, rfl⟩
        obtain ⟨F2, q2⟩ : ∃ E, F1 ++ u = E := ⟨_, rfl⟩
        have l1 := cat_list hinv.out.1 (show (⟨#[32]⟩ : ByteArray).data.toList = [32] from rfl)
        rw [q1] at l1
        have l2 := cat_list l1 hud
        rw [q2] at l2
        have z1 : F1.size = p.size + 1 := by rw [← q1]; exact ByteArray.size_append
        have z2 : F2.size = F1.size + u.size := by rw [← q2]; exact ByteArray.size_append
        have HF2 := Lib.hid (show F2.data.toList = joinP 32 (headW r ++ (wordsL r.kind r.data).take (k + 1)) by rw [l2, head_step r hkw]; simp)
        clear hu hud l1 l2
        go_wp2_with fail
        refine ⟨⟨k + 1, F2, by omega, rfl, rfl, by omega, HF2.out, hinv.out.2⟩, ?_⟩
        simp [intOf]; omega
      · have hE := Lib.hid (show p = strOf (joinP 32 (lineW r)) by
          refine bytes_eq _ _ ?_
          rw [hinv.out.1, show k = (wordsL r.kind r.data).length by have := HNL.out; omega, head_all])
        have HLT := Lib.hid (show lineT r = strOf (joinP 32 (lineW r)) by rw [lineT, HOK.out]; rfl)
        go_wp2_with fail
        go_ret2
        exact ⟨by rw [HLT.out, HOK.out, hE.out]; rfl, below_on HB2.out (below_on HB5.out hinv.out.2 (Nat.le_refl _)) (Nat.le_refl _)⟩
  refine soup_cons rfl rfl (fun a W hR hS hdep K hK => ?_) ?_
  · have e1 : a.tmps[1]?.getD undef = .pointer (some ⟨w.heap.size, 0, none⟩) := slot_of (hS.keep 1 (by kernel_rfl))
    go_simp
    exact hK _ _ (Below.refl _ _) rfl
  refine soup_cons rfl rfl (fun a W hR hS hdep K hK => ?_) ?_
  · have e15 : a.tmps[15]?.getD undef = .pointer (some ⟨w.heap.size, 0, none⟩) := slot_of (hdep 0 (by decide +kernel))
    have q1 := cell_keep hR HC0.out
    go_simp
    exact hK _ _ (Below.refl _ _) rfl
  refine soup_cons rfl rfl (fun a W hR hS hdep K hK => ?_) ?_
  · have e16 : a.tmps[16]?.getD undef = .slice na nl nc := slot_of (hdep 1 (by decide +kernel))
    have hbW := below_on (B := w2.heap.size) (Below.drew (Below.refl _ _)) hR (Nat.le_refl _)
    go_simp
    refine (rftext_any W na nl nc r.name (HR2.out.name.below hbW (Nat.le_refl _)) HSZ.out).mono ?_
    rintro e W' ⟨rfl, hb⟩
    exact hK _ _ hb (congrArg Value.string HEA.out.symm)
  refine soup_cons rfl rfl (fun a W hR hS hdep K hK => ?_) ?_
  · have e17 : a.tmps[17]?.getD undef = .string A := slot_of (hdep 2 (by decide +kernel))
    go_simp
    rw [if_neg (by omega)]
    exact hK _ _ (Below.refl _ _) rfl
  refine soup_cons rfl rfl (fun a W hR hS hdep K hK => ?_) ?_
  · have e1 : a.tmps[1]?.getD undef = .pointer (some ⟨w.heap.size, 0, none⟩) := slot_of (hS.keep 1 (by kernel_rfl))
    go_simp
    exact hK _ _ (Below.refl _ _) rfl
  refine soup_cons rfl rfl (fun a W hR hS hdep K hK => ?_) ?_
  · have e19 : a.tmps[19]?.getD undef = .pointer (some ⟨w.heap.size, 3, none⟩) := slot_of (hdep 4 (by decide +kernel))
    have q1 := cell_keep hR HC3.out
    go_simp
    exact hK _ _ (Below.refl _ _) rfl
  refine soup_cons rfl rfl (fun a W hR hS hdep K hK => ?_) ?_
  · have e20 : a.tmps[20]?.getD undef = .int .i64 r.ttl := slot_of (hdep 5 (by decide +kernel))
    have hbW := below_on (B := w2.heap.size) (Below.drew (Below.refl _ _)) hR (Nat.le_refl _)
    go_simp
    refine (dec_any W r.ttl HR2.out.ttl.1 HR2.out.ttl.2).mono ?_
    rintro e W' ⟨rfl, hb⟩
    exact hK _ _ hb (congrArg Value.string HET.out.symm)
  refine soup_cons rfl rfl (fun a W hR hS hdep K hK => ?_) ?_
  · have e18 : a.tmps[18]?.getD undef = .string E1 := slot_of (hdep 3 (by decide +kernel))
    have e21 : a.tmps[21]?.getD undef = .string TN := slot_of (hdep 6 (by decide +kernel))
    go_simp
    rw [if_neg (by omega)]
    exact hK _ _ (Below.refl _ _) rfl
  refine soup_cons rfl rfl (fun a W hR hS hdep K hK => ?_) ?_
  · have e22 : a.tmps[22]?.getD undef = .string E2 := slot_of (hdep 7 (by decide +kernel))
    go_simp
    rw [if_neg (by omega)]
    exact hK _ _ (Below.refl _ _) rfl
  refine soup_cons rfl rfl (fun a W hR hS hdep K hK => ?_) ?_
  · have e1 : a.tmps[1]?.getD undef = .pointer (some ⟨w.heap.size, 0, none⟩) := slot_of (hS.keep 1 (by kernel_rfl))
    go_simp
    exact hK _ _ (Below.refl _ _) rfl
  refine soup_cons rfl rfl (fun a W hR hS hdep K hK => ?_) ?_
  · have e24 : a.tmps[24]?.getD undef = .pointer (some ⟨w.heap.size, 1, none⟩) := slot_of (hdep 9 (by decide +kernel))
    have q1 := cell_keep hR HC1.out
    go_simp
    exact hK _ _ (Below.refl _ _) rfl
  refine soup_cons rfl rfl (fun a W hR hS hdep K hK => ?_) ?_
  · have e25 : a.tmps[25]?.getD undef = .int .i64 r.kind := slot_of (hdep 10 (by decide +kernel))
    have hbW := below_on (B := w2.heap.size) (Below.drew (Below.refl _ _)) hR (Nat.le_refl _)
    go_simp
    refine (rtypename_any W r.kind HR2.out.kind.1 HR2.out.kind.2).mono ?_
    rintro e W' ⟨rfl, hb⟩
    exact hK _ _ hb (congrArg Value.string HEK.out.symm)
  refine soup_cons rfl rfl (fun a W hR hS hdep K hK => ?_) ?_
  · have e23 : a.tmps[23]?.getD undef = .string E3 := slot_of (hdep 8 (by decide +kernel))
    have e26 : a.tmps[26]?.getD undef = .string KN := slot_of (hdep 11 (by decide +kernel))
    go_simp
    rw [if_neg (by omega)]
    exact hK _ _ (Below.refl _ _) rfl
  refine soup_cons rfl rfl (fun a W hR hS hdep K hK => ?_) ?_
  · have e27 : a.tmps[27]?.getD undef = .string E4 := slot_of (hdep 12 (by decide +kernel))
    go_simp
    exact hK _ _ (Below.refl _ _) rfl
  exact fun j h1 h2 => absurd h1 (by simp only [List.size_toArray, List.length_cons, List.length_nil]; omega)
end
section
open Go.ChangeShapes Go.WideShapes Go.ChangeAt Go.RowKit

def headL (n : List ByteArray) : List UInt8 := [36, 79, 82, 73, 71, 73, 78, 32] ++ ftextP n ++ [10, 36, 84, 84, 76, 32, 51, 54, 48, 48, 10]
def bodyL (rs : List RRP) : List UInt8 := rs.flatMap fun r => (lineT r).data.toList ++ [10]
def printL (z : ZP) : List UInt8 := headL z.name ++ bodyL z.recs
def printT (z : ZP) : ByteArray := if zoneB z then strOf (printL z) else ⟨#[]⟩
def printE (z : ZP) : Value := if zoneB z then (if 262144 < (printL z).length then .tuple #[.string ⟨#[]⟩, .int .i64 4] else .tuple #[.string (strOf (printL z)), .int .i64 0]) else .tuple #[.string ⟨#[]⟩, .int .i64 2]
theorem line_size {r : RRP} (hl : LightData r.data) (hf : ∀ z ∈ r.data.nums, wfi z) (ht : wfi r.ttl) (hk : wfi r.kind) : (lineT r).size ≤ 800000 := by
  unfold lineT
  split
  · rename_i hok
    have hp := rrB_parts (show rrB r = true by simp only [lineOk, Bool.and_eq_true] at hok; exact hok.1)
    have hwl := words_len hp.2 hl hf
    have hall : ∀ v ∈ lineW r, v.length ≤ 10000 := by
      intro v hv
      rcases List.mem_append.1 hv with hv | hv
      · simp only [List.mem_cons, List.not_mem_nil, or_false] at hv
        rcases hv with rfl | rfl | rfl | rfl
        · have h1 := ftextP_len r.name
          have h2 := sound_size hp.1
          omega
        · have := Lib.itoa_length_le r.ttl ht.1 ht.2
          omega
        · simp
        · have := tname_size r.kind hk.1 hk.2
          omega
      · exact hwl.2 v hv
    have h1 := joinP_len 32 10000 (lineW r) hall
    have h2 : (lineW r).length ≤ 76 := by simp only [lineW, List.length_append, List.length_cons, List.length_nil]; omega
    have h3 : (lineW r).length * (10000 + 1) ≤ 76 * (10000 + 1) := Nat.mul_le_mul h2 (Nat.le_refl _)
    show (joinP 32 (lineW r)).toArray.size ≤ 800000
    simp only [List.size_toArray]
    omega
  · show 0 ≤ _
    omega
theorem body_step {rs : List RRP} {k : Nat} (h : k < rs.length) : bodyL (rs.take (k + 1)) = bodyL (rs.take k) ++ ((lineT rs[k]).data.toList ++ [10]) := by
  rw [bodyL, List.take_succ_eq_append_getElem h, List.flatMap_append]
  simp [bodyL]
theorem IsZone.light {w : World} {h : ZH} {z : ZP} (hz : IsZone w h z) (hl : ∀ r ∈ z.recs, LightData r.data) : ∀ r ∈ z.recs, (lineT r).size ≤ 800000 := by
  intro r hr
  obtain ⟨i, hi, rfl⟩ := List.getElem_of_mem hr
  obtain ⟨b, off, e, hc⟩ := hz.recs.hcells (by have := hz.recs.hlen; omega)
  obtain ⟨k, _, hk⟩ := hc i hi
  exact line_size (hl _ hr) hk.data.fits hk.ttl hk.kind
theorem body_len : ∀ {rs : List RRP}, (∀ r ∈ rs, (lineT r).size ≤ 800000) → (bodyL rs).length ≤ rs.length * 800001
  | [], _ => by simp [bodyL]
  | r :: rs, h => by
    have ih := body_len (rs := rs) (fun x hx => h x (by simp [hx]))
    have h1 := h r (by simp)
    have h2 : (lineT r).data.toList.length = (lineT r).size := by simp
    have h3 : (bodyL (r :: rs)).length = ((lineT r).data.toList.length + 1) + (bodyL rs).length := by
      have h4 : bodyL (r :: rs) = ((lineT r).data.toList ++ [10]) ++ bodyL rs := rfl
      rw [h4, List.length_append, List.length_append]
      rfl
    rw [h3, List.length_cons]
    rw [Nat.add_mul]
    omega
set_option maxHeartbeats 8000000 in
set_option maxRecDepth 100000 in
theorem rprint_any (w : World) (h : ZH) (z : ZP) (hz : IsZone w h z) (hl : ∀ r ∈ z.recs, LightData r.data) (hn : z.recs.length ≤ 60) :
    Calls Tryz.prog 31 #[.agg (zoneC h)] w fun e w' => e = .returned (.tuple #[.string (printT z), .bool (zoneB z)]) ∧ Below w.heap.size w w' := by
  have hwa : Below w.heap.size w (w.alloc (.cells (zoneC h) 56)) := (Below.refl _ _).alloc (Nat.le_refl _) _
  have hA : Blk (w.alloc (.cells (zoneC h) 56)) w.heap.size (zoneC h) 56 := heap_alloc_new w _
  have HWA := Lib.hid hwa
  have HZ := Lib.hid hz
  have HA := Lib.hid hA
  have HS := Lib.hid (r17sound_any _ h z (hz.on hwa))
  have HLI := Lib.hid hl
  have HLS := Lib.hid (hz.light hl)
  have hlen := hz.recs.hlen
  have hle := hz.recs.hle
  have hmx := hz.recs.hmax
  have HL := Lib.hid hlen
  obtain ⟨S, hS⟩ : ∃ S, S = zoneB z := ⟨_, rfl⟩
  rw [← hS] at HS
  have HSS := Lib.hid hS
  rw [← hS]
  obtain ⟨PT, hPT⟩ : ∃ S, S = printT z := ⟨_, rfl⟩
  have HPT := Lib.hid hPT
  rw [← hPT]
  clear hwa hA hz hl hS hPT
  obtain ⟨za, zl, zc, ra, n, rc⟩ := h
  simp only [zoneC] at HWA HA HS HZ
  simp only at hle hmx HL hlen
  have hn60 : n ≤ 60 := by omega
  clear hn hlen
  have c0 := HA.out.cell 0
  have c1 := HA.out.cell 1
  simp at c0 c1
  go_enter Tryz.func31, Tryz.ntmps31
  simp only [zoneC]
  go_wp2_with fail
  clear c0 c1
  refine HS.out.mono ?_
  rintro e w2 ⟨rfl, hb2⟩
  have HB2 := Lib.hid (below_on HWA.out hb2 (Nat.le_refl _))
  have HA2 := Lib.hid (HA.out.on hb2)
  have HZ2 := Lib.hid (HZ.out.on HB2.out)
  have c0 := HA2.out.cell 0
  have c1 := HA2.out.cell 1
  simp at c0 c1
  clear hb2 HS
  cases S
  · have HP0 := Lib.hid (show PT = ⟨#[]⟩ by rw [HPT.out, printT, ← HSS.out]; rfl)
    go_wp2_with fail
    go_ret2
    exact ⟨by rw [HP0.out]; rfl, HB2.out⟩
  have hsn : soundB z.name = true := by
    have := HSS.out
    rw [zoneB] at this
    rcases hh : soundB z.name with _ | _
    · rw [hh] at this; cases this
    · rfl
  have hsz := sound_size hsn
  have hfl := ftextP_len z.name
  have HT := Lib.hid (fun (w' : World) (q : Strs w' za zl zc z.name) => rftext_any w' za zl zc z.name q (by omega))
  obtain ⟨A, hA⟩ : ∃ A : ByteArray, A = ⟨(ftextP z.name).toArray⟩ := ⟨_, rfl⟩
  rw [← hA] at HT
  have lA : A.data.toList = ftextP z.name := by rw [hA]
  have zA := size_of lA
  obtain ⟨E1, q1⟩ : ∃ E, (⟨#[36, 79, 82, 73, 71, 73, 78, 32]⟩ : ByteArray) ++ A = E := ⟨_, rfl⟩
  obtain ⟨E2, q2⟩ : ∃ E, E1 ++ ⟨#[10, 36, 84, 84, 76, 32, 51, 54, 48, 48, 10]⟩ = E := ⟨_, rfl⟩
  have l1 := cat_list (show (⟨#[36, 79, 82, 73, 71, 73, 78, 32]⟩ : ByteArray).data.toList = [36, 79, 82, 73, 71, 73, 78, 32] from rfl) lA
  rw [q1] at l1
  have l2 := cat_list l1 (show (⟨#[10, 36, 84, 84, 76, 32, 51, 54, 48, 48, 10]⟩ : ByteArray).data.toList = [10, 36, 84, 84, 76, 32, 51, 54, 48, 48, 10] from rfl)
  rw [q2] at l2
  have z1 := size_of l1
  have z2 := size_of l2
  simp only [List.length_append, List.length_cons, List.length_nil] at z1 z2
  replace zA : A.size ≤ 10000 := by omega
  replace z1 : E1.size ≤ 20000 := by omega
  replace z2 : E2.size ≤ 20000 := by omega
  have HE2 := Lib.hid (show E2.data.toList = headL z.name ++ bodyL (z.recs.take 0) by rw [l2]; simp [headL, bodyL])
  clear hsn hsz hfl hA lA l1 l2
  go_wp2_with fail
  clear c0 c1
  refine (HT.out _ HZ2.out.name).mono ?_
  rintro e w3 ⟨rfl, hb3⟩
  have HB3 := Lib.hid (below_on HB2.out hb3 (Nat.le_refl _))
  have HA3 := Lib.hid (HA2.out.on hb3)
  have HZ3 := Lib.hid (HZ2.out.on hb3)
  clear hb3 HA2 HB2 HZ2 HT HA HWA HZ
  go_wp2_with fail
  go_loopw [5, 4, 6, 7] (fun i s _ _ wr => ∃ (k : Nat) (p : ByteArray), k ≤ n ∧ i = .int .i64 (k : Int) ∧ s = .string p ∧ p.size ≤ 60000000 ∧ Hid (p.size ≤ 20000 + k * 800001 ∧ p.data.toList = headL z.name ++ bodyL (z.recs.take k) ∧ Below w3.heap.size w3 wr)) (fun i _ _ _ _ => n - (intOf i).toNat)
  case atStart => exact ⟨0, E2, Nat.zero_le _, rfl, rfl, by omega, by omega, HE2.out, Below.refl _ _⟩
  case round =>
    obtain ⟨k, p, hk, rfl, rfl, hps, hinv⟩ := hrel
    have HAr := Lib.hid (HA3.out.on hinv.out.2.2)
    have HBr := Lib.hid (below_on HB3.out hinv.out.2.2 (Nat.le_refl _))
    have c1 := HAr.out.cell 1
    simp at c1
    by_cases hlt : k < n
    · have hkr : k < z.recs.length := by have := HL.out; omega
      obtain ⟨b, off, rfl⟩ : ∃ b off, ra = some ⟨b, off, none⟩ := HZ3.out.recs.addr hlt
      obtain ⟨h, hc, ho⟩ := (HZ3.out.on hinv.out.2.2).recs.at hlt
      have hlr := HLI.out _ (List.getElem_mem hkr)
      have hls := HLS.out _ (List.getElem_mem hkr)
      have hst := body_step hkr
      obtain ⟨r, hrx⟩ : ∃ o, o = z.recs[k] := ⟨_, rfl⟩
      rw [← hrx] at hc ho hlr hls hst
      have HST := Lib.hid hst
      have HC := Lib.hid (rline_any wr h r ho hlr)
      obtain ⟨T, hT⟩ : ∃ T, T = lineT r := ⟨_, rfl⟩
      rw [← hT] at hls HC
      have HTT := Lib.hid hT
      have e0 := hc 0 (by omega)
      have e1 := hc 1 (by omega)
      have e2 := hc 2 (by omega)
      have e3 := hc 3 (by omega)
      have e4 := hc 4 (by omega)
      have e5 := hc 5 (by omega)
      have e6 := hc 6 (by omega)
      have e7 := hc 7 (by omega)
      have e8 := hc 8 (by omega)
      clear hc ho
      obtain ⟨na, nl, nc, ⟨ba, bl, bc, ha, hl, hc, ma, ml, mc, xa, xl, xc, ta, tl, tc⟩⟩ := h
      simp only [rrC] at HC
      simp [rrC] at e0 e1 e2 e3 e4 e5 e6 e7 e8
      obtain ⟨F1, q1⟩ : ∃ E, p ++ T = E := ⟨_, rfl⟩
      obtain ⟨F2, q2⟩ : ∃ E, F1 ++ ⟨#[10]⟩ = E := ⟨_, rfl⟩
      have l1 := cat_list hinv.out.2.1 (show T.data.toList = (lineT r).data.toList by rw [hT])
      rw [q1] at l1
      have l2 := cat_list l1 (show (⟨#[10]⟩ : ByteArray).data.toList = [10] from rfl)
      rw [q2] at l2
      have z1 : F1.size = p.size + T.size := by rw [← q1]; exact ByteArray.size_append
      have z2 : F2.size = F1.size + 1 := by rw [← q2]; exact ByteArray.size_append
      have HZ2 := Lib.hid (show F2.size ≤ 20000 + (k + 1) * 800001 by have := hinv.out.1; omega)
      replace z2 : F2.size ≤ 60000000 := by have := HZ2.out; have h4 : (k + 1) * 800001 ≤ 60 * 800001 := Nat.mul_le_mul (by omega) (Nat.le_refl _); omega
      replace z1 : F1.size ≤ 60000000 := by have := HZ2.out; have h4 : k * 800001 ≤ 59 * 800001 := Nat.mul_le_mul (by omega) (Nat.le_refl _); have := hinv.out.1; omega
      have HF2 := Lib.hid (show F2.data.toList = headL z.name ++ bodyL (z.recs.take (k + 1)) by rw [l2, HST.out]; simp)
      clear hlr hrx hst hT l1 l2
      go_wp2_with fail
      clear e0 e1 e2 e3 e4 e5 e6 e7 e8 c1
      refine HC.out.mono ?_
      rintro e w5 ⟨rfl, hb5⟩
      have HB5 := Lib.hid (below_on hinv.out.2.2 hb5 (Nat.le_refl _))
      clear hb5
      go_wp2_with fail
      refine ⟨⟨k + 1, F2, by omega, rfl, rfl, z2, HZ2.out, HF2.out, HB5.out⟩, ?_⟩
      simp [intOf]; omega
    · have HE := Lib.hid (show PT = p by
        rw [HPT.out, printT, ← HSS.out]
        refine (bytes_eq _ _ ?_).symm
        rw [hinv.out.2.1, show k = z.recs.length by have := HL.out; omega, List.take_length]
        rfl)
      go_wp2_with fail
      go_ret2
      exact ⟨by rw [HE.out]; rfl, HBr.out⟩
end
section
open Go.ChangeShapes Go.WideShapes Go.ChangeAt Go.RowKit

set_option maxHeartbeats 8000000 in
set_option maxRecDepth 100000 in
theorem fprint_any (w : World) (h : ZH) (z : ZP) (hz : IsZone w h z) (hl : ∀ r ∈ z.recs, LightData r.data) (hn : z.recs.length ≤ 60) (hE : Env w) (hT : Types w) (hBu : Bru w) :
    Calls Tryz.prog 29 #[.agg (zoneC h)] w fun e w' => e = .returned (printE z) ∧ Below w.heap.size w w' := by
  have hwa : Below w.heap.size w (w.alloc (.cells (zoneC h) 46)) := (Below.refl _ _).alloc (Nat.le_refl _) _
  have hA : Blk (w.alloc (.cells (zoneC h) 46)) w.heap.size (zoneC h) 46 := heap_alloc_new w _
  have HWA := Lib.hid hwa
  have HZ := Lib.hid hz
  have HA := Lib.hid hA
  have HE := Lib.hid hE
  have HTY := Lib.hid hT
  have HBU := Lib.hid hBu
  have HS := Lib.hid (zsound_any _ h z (hz.on hwa))
  have HLI := Lib.hid hl
  have HLS := Lib.hid (hz.light hl)
  have hlen := hz.recs.hlen
  have hle := hz.recs.hle
  have hmx := hz.recs.hmax
  have HL := Lib.hid hlen
  obtain ⟨S, hS⟩ : ∃ S, S = zoneB z := ⟨_, rfl⟩
  rw [← hS] at HS
  have HSS := Lib.hid hS
  obtain ⟨PE, hPE⟩ : ∃ S, S = printE z := ⟨_, rfl⟩
  have HPE := Lib.hid hPE
  rw [← hPE]
  clear hwa hA hz hl hS hPE hE hT hBu
  obtain ⟨za, zl, zc, ra, n, rc⟩ := h
  simp only [zoneC] at HWA HA HS HZ
  simp only at hle hmx HL hlen
  have hn60 : n ≤ 60 := by omega
  clear hn hlen
  have c0 := HA.out.cell 0
  have c1 := HA.out.cell 1
  simp at c0 c1
  go_enter Tryz.func29, Tryz.ntmps29
  simp only [zoneC]
  go_wp2_with fail
  clear c0 c1
  refine HS.out.mono ?_
  rintro e w2 ⟨rfl, hb2⟩
  have HB2 := Lib.hid (below_on HWA.out hb2 (Nat.le_refl _))
  have HA2 := Lib.hid (HA.out.on hb2)
  clear hb2 HS
  cases S
  · have HP0 := Lib.hid (show PE = .tuple #[.string ⟨#[]⟩, .int .i64 2] by rw [HPE.out, printE, ← HSS.out]; rfl)
    go_wp2_with fail
    go_ret2
    exact ⟨by rw [HP0.out]; rfl, HB2.out⟩
  have hsn : soundB z.name = true := by
    have := HSS.out
    rw [zoneB] at this
    rcases hh : soundB z.name with _ | _
    · rw [hh] at this; cases this
    · rfl
  have hsz := sound_size hsn
  have hfl := ftextP_len z.name
  have HT := Lib.hid (fun (w' : World) (q : Strs w' za zl zc z.name) (t : Env w') => ftext_any w' za zl zc z.name q (by omega) t.tab)
  have HI := Lib.hid (fun (w' : World) (t : Env w') => itoa_below (w := w') (n := 3600) (by omega) (by omega) t.tab)
  obtain ⟨A, hA⟩ : ∃ A : ByteArray, A = ⟨(ftextP z.name).toArray⟩ := ⟨_, rfl⟩
  rw [← hA] at HT
  obtain ⟨TN, hTN⟩ : ∃ A : ByteArray, A = ⟨(Lib.itoa 3600).toArray⟩ := ⟨_, rfl⟩
  rw [← hTN] at HI
  have lA : A.data.toList = ftextP z.name := by rw [hA]
  have lT : TN.data.toList = [51, 54, 48, 48] := by rw [hTN]; decide +kernel
  have zA := size_of lA
  have zT := size_of lT
  obtain ⟨E1, q1⟩ : ∃ E, (⟨#[36, 79, 82, 73, 71, 73, 78, 32]⟩ : ByteArray) ++ A = E := ⟨_, rfl⟩
  obtain ⟨E2, q2⟩ : ∃ E, E1 ++ ⟨#[10, 36, 84, 84, 76, 32]⟩ = E := ⟨_, rfl⟩
  obtain ⟨E3, q3⟩ : ∃ E, E2 ++ TN = E := ⟨_, rfl⟩
  obtain ⟨E4, q4⟩ : ∃ E, E3 ++ ⟨#[10]⟩ = E := ⟨_, rfl⟩
  have l1 := cat_list (show (⟨#[36, 79, 82, 73, 71, 73, 78, 32]⟩ : ByteArray).data.toList = [36, 79, 82, 73, 71, 73, 78, 32] from rfl) lA
  rw [q1] at l1
  have l2 := cat_list l1 (show (⟨#[10, 36, 84, 84, 76, 32]⟩ : ByteArray).data.toList = [10, 36, 84, 84, 76, 32] from rfl)
  rw [q2] at l2
  have l3 := cat_list l2 lT
  rw [q3] at l3
  have l4 := cat_list l3 (show (⟨#[10]⟩ : ByteArray).data.toList = [10] from rfl)
  rw [q4] at l4
  have z1 := size_of l1
  have z2 := size_of l2
  have z3 := size_of l3
  have z4 := size_of l4
  simp only [List.length_append, List.length_cons, List.length_nil] at z1 z2 z3 z4 zT
  replace zA : A.size ≤ 10000 := by omega
  replace z1 : E1.size ≤ 20000 := by omega
  replace z2 : E2.size ≤ 20000 := by omega
  replace z3 : E3.size ≤ 20000 := by omega
  replace z4 : E4.size ≤ 20000 := by omega
  have hlL : (headL z.name).length ≤ 20000 := by simp only [headL, List.length_append, List.length_cons, List.length_nil]; omega
  have HLL := Lib.hid hlL
  have HE4 := Lib.hid (show E4 = ⟨(headL z.name ++ bodyL (z.recs.take 0)).toArray⟩ from bytes_eq _ _ (by rw [l4]; simp [headL, bodyL]))
  clear hsn hsz hfl hA lA l1 l2 l3 l4 lT hTN hlL
  have hst := bld_start w2
  have hbA : Below w2.heap.size w2 (w2.alloc (.cells #[.pointer none, .slice none 0 0] 94)) := (Below.refl _ _).alloc (Nat.le_refl _) _
  have hA3 := HA2.out.on hbA
  have c0 := hA3.cell 0
  simp at c0
  have HBL := Lib.hid hst
  clear hst hbA hA3
  go_wp2_with fail
  clear c0
  refine (HT.out _ (HZ.out.on (below_on HB2.out HBL.out.bel (Nat.le_refl _))).name (HE.out.on (below_on HB2.out HBL.out.bel (Nat.le_refl _)))).mono ?_
  rintro e w3 ⟨rfl, hb3⟩
  have HBL3 := Lib.hid (bld_quiet HBL.out hb3)
  clear hb3 HBL HT
  go_wp2_with fail
  refine (HI.out _ (HE.out.on (below_on HB2.out HBL3.out.bel (Nat.le_refl _)))).mono ?_
  rintro e w4 ⟨rfl, hb4⟩
  have HBL4 := Lib.hid (bld_quiet HBL3.out hb4)
  clear hb4 HBL3 HI
  go_wp2_with fail
  refine (writeString_any _ _ _ _ _ HBL4.out.is (by simp only [Lib.byteCells, List.map_nil, List.length_nil]; omega) HBL4.out.le).mono ?_
  rintro e w5 ⟨rfl, hat, hb5⟩
  rw [HE4.out] at hat
  have HBL5 := Lib.hid (bld_str HBL4.out _ hat hb5)
  have HA5 := Lib.hid (HA2.out.on HBL5.out.bel)
  have HB5 := Lib.hid (below_on HB2.out HBL5.out.bel (Nat.le_refl _))
  have HZ5 := Lib.hid (HZ.out.on HB5.out)
  have c1 := HA5.out.cell 1
  simp at c1
  clear hat hb5 HBL4 HE4 q1 q2 q3 q4 z1 z2 z3 z4 zA zT
  go_wp2_with fail
  clear c1
  go_loopw [24, 6, 7, 8] (fun i _ _ _ wr => ∃ k : Nat, k ≤ n ∧ i = .int .i64 (k : Int) ∧ Hid (Bld w2.heap.size w2.heap.size w2 (headL z.name ++ bodyL (z.recs.take k)) wr)) (fun i _ _ _ _ => n - (intOf i).toNat)
  case atStart => exact ⟨0, Nat.zero_le _, rfl, HBL5.out⟩
  case round =>
    obtain ⟨k, hk, rfl, hinv⟩ := hrel
    have HBr := Lib.hid (below_on HB2.out hinv.out.bel (Nat.le_refl _))
    have hbl1 := body_len (rs := z.recs.take k) (fun r hr => HLS.out r (List.mem_of_mem_take hr))
    have hbl2 : (z.recs.take k).length * 800001 ≤ 60 * 800001 := Nat.mul_le_mul (by simp; omega) (Nat.le_refl _)
    have HLEN := Lib.hid (show (headL z.name ++ bodyL (z.recs.take k)).length ≤ 50000000 by rw [List.length_append]; have := HLL.out; omega)
    clear hbl1 hbl2
    by_cases hlt : k < n
    · have hkr : k < z.recs.length := by have := HL.out; omega
      obtain ⟨b, off, rfl⟩ : ∃ b off, ra = some ⟨b, off, none⟩ := HZ.out.recs.addr hlt
      obtain ⟨h, hc, ho⟩ := (HZ.out.on HBr.out).recs.at hlt
      have hlr := HLI.out _ (List.getElem_mem hkr)
      have hls := HLS.out _ (List.getElem_mem hkr)
      have hst := body_step hkr
      obtain ⟨r, hrx⟩ : ∃ o, o = z.recs[k] := ⟨_, rfl⟩
      rw [← hrx] at hc ho hlr hls hst
      have HST := Lib.hid hst
      have hbA : Below wr.heap.size wr (wr.alloc (.cells (rrC h r) 48)) := (Below.refl _ _).alloc (Nat.le_refl _) _
      have hBx := below_on HBr.out hbA (Nat.le_refl _)
      have HC := Lib.hid (fline_any _ h r (ho.on hbA) hlr (HE.out.on hBx) (HTY.out.on hBx) (HBU.out.on hBx))
      have HBLA := Lib.hid (bld_quiet hinv.out hbA)
      have hA6 : Blk (wr.alloc (.cells (rrC h r) 48)) wr.heap.size (rrC h r) 48 := heap_alloc_new wr _
      have HA6 := Lib.hid hA6
      obtain ⟨T, hT⟩ : ∃ T, T = lineT r := ⟨_, rfl⟩
      rw [← hT] at hls HC
      have HTT := Lib.hid hT
      have e0 := hc 0 (by omega)
      have e1 := hc 1 (by omega)
      have e2 := hc 2 (by omega)
      have e3 := hc 3 (by omega)
      have e4 := hc 4 (by omega)
      have e5 := hc 5 (by omega)
      have e6 := hc 6 (by omega)
      have e7 := hc 7 (by omega)
      have e8 := hc 8 (by omega)
      clear hc ho hbA hBx hA6
      obtain ⟨na, nl, nc, ⟨ba, bl, bc, ha, hl, hc, ma, ml, mc, xa, xl, xc, ta, tl, tc⟩⟩ := h
      simp only [rrC] at HC HBLA HA6
      simp [rrC] at e0 e1 e2 e3 e4 e5 e6 e7 e8
      obtain ⟨F1, q1⟩ : ∃ E, T ++ ⟨#[10]⟩ = E := ⟨_, rfl⟩
      have l1 := cat_list (show T.data.toList = (lineT r).data.toList by rw [hT]) (show (⟨#[10]⟩ : ByteArray).data.toList = [10] from rfl)
      rw [q1] at l1
      have z1 : F1.size = T.size + 1 := by rw [← q1]; exact ByteArray.size_append
      replace z1 : F1.size ≤ 900000 := by omega
      have HF1 := Lib.hid (show F1 = ⟨((lineT r).data.toList ++ [10]).toArray⟩ from bytes_eq _ _ l1)
      clear hlr hrx hst hT l1
      go_wp2_with fail
      clear e0 e1 e2 e3 e4 e5 e6 e7 e8
      refine HC.out.mono ?_
      rintro e w6 ⟨rfl, hb6⟩
      have HBL6 := Lib.hid (bld_quiet HBLA.out hb6)
      clear hb6 HBLA HC
      go_wp2_with fail
      refine (writeString_any _ _ _ _ _ HBL6.out.is (by rw [bytes_len]; have := HLEN.out; omega) HBL6.out.le).mono ?_
      rintro e w7 ⟨rfl, hat, hb7⟩
      rw [HF1.out] at hat
      have hbl7 := bld_str HBL6.out _ hat hb7
      rw [List.append_assoc, ← HST.out] at hbl7
      have HBL7 := Lib.hid hbl7
      clear hat hb7 hbl7
      go_wp2_with fail
      go_roundw
      case rel => exact ⟨k + 1, by omega, by go_num, HBL7.out⟩
      case measure => simp [intOf]; omega
    · have hall : headL z.name ++ bodyL (z.recs.take k) = printL z := by rw [show k = z.recs.length by have := HL.out; omega, List.take_length]; rfl
      have hbl := hinv.out
      rw [hall] at hbl HLEN
      have HBL := Lib.hid hbl
      have hlen := Tryz.Builder_Len _ _ _ _ hbl.is
      rw [bytes_len] at hlen
      obtain ⟨m, hm⟩ : ∃ m, m = (printL z).length := ⟨_, rfl⟩
      rw [← hm] at hlen
      have HLE := Lib.hid hlen
      have HM := Lib.hid hm
      clear hall hbl hlen hm
      by_cases hbig : 262144 < m
      · have hdb : decide ((262144 : Int) < (m : Int)) = true := by rw [decide_eq_true_eq]; omega
        have HP0 := Lib.hid (show PE = .tuple #[.string ⟨#[]⟩, .int .i64 4] by rw [HPE.out, printE, ← HSS.out, if_pos rfl, if_pos (by rw [← HM.out]; exact hbig)])
        go_wp2_with fail
        refine HLE.out.mono ?_
        rintro e w8 ⟨rfl, rfl⟩
        go_wp2_with fail
        go_ret2
        exact ⟨by rw [HP0.out]; rfl, HBr.out⟩
      · have hdb : decide ((262144 : Int) < (m : Int)) = false := by rw [decide_eq_false_iff_not]; omega
        have HP0 := Lib.hid (show PE = .tuple #[.string (strOf (printL z)), .int .i64 0] by rw [HPE.out, printE, ← HSS.out, if_pos rfl, if_neg (by rw [← HM.out]; exact hbig)])
        go_wp2_with fail
        refine HLE.out.mono ?_
        rintro e w8 ⟨rfl, rfl⟩
        go_wp2_with fail
        refine (Tryz.Builder_String_any _ _ _ _ HBL.out.is HBL.out.le).mono ?_
        rintro e w9 ⟨rfl, hb9⟩
        have HB9 := Lib.hid (below_on HB2.out (HBL.out.bel.trans hb9) (Nat.le_refl _))
        go_wp2_with fail
        go_ret2
        exact ⟨by rw [HP0.out]; rfl, HB9.out⟩
end
end
section
open Go.ChangeShapes Go.WideShapes Go.ChangeAt Go.RowKit

theorem wrap_and_shaped {H : Type} {enc : TypeId × Value → H} {a : Assume} {C : Checked} {os : Os} {f : FuncId} {fn : Func} {s : ChangeSpec} {conds : List PathCond} {apart fresh handsOn again : Bool} {X : World → Array Value → Prop}
    (hX : ∀ (w w' : World) (args : Array Value), w.heap = w'.heap → X w args → X w' args)
    (own : ownKnob C.prog.godebug = none) (started : os.Started) (noInit : C.prog.inits.idxOf? f = none) (hfn : C.prog.funcs[f]? = some fn)
    (witness : ∃ (w : World) (tape : Tape) (i : Input), w.os = os ∧ (w.forCall tape i).Shaped C.prog ∧ i.vars = [] ∧ Input.okWide C.prog (w.forCall tape i) .any w.heap.size f i ∧
      ((s.pre enc C.prog fn conds apart (w.forCall tape i).memory i.args ∧ X (w.forCall tape i).memory i.args) ∧ sizedMet enc C.prog fn (OpenSpec.ofChange s) apart (w.forCall tape i).memory i.args) ∧ a.holds C.prog (lone (Frame.enter C.prog f i.args .normal) [] (w.forCall tape i)))
    (contract : ∀ (W : World) (base : Nat) (args : Array Value) (ds gs : List (DataW H)) (before : List MemPlace),
      (∀ (j : Nat) t v, fn.params[j]? = some t → args[j]? = some v → Value.okWide C.prog W .any base t v) →
      DataW.Whole enc C.prog fn.params.toList s.vars apart W args.toList ds gs before →
      conds.all (PathCond.test C.prog ⟨fn.params.toList, ds, s.plain.varTypes C.prog, gs⟩) = true →
      (DataW.weightsEach C.prog (fn.params.toList ++ s.plain.varTypes C.prog) (ds ++ gs)).all (· ≤ reachBytes) = true → X W args →
      W.ShapedOpen C.prog →
      a.holds C.prog (lone (Frame.enter C.prog f args .normal) [] W) →
      Calls C.prog f args W fun e W' => ∃ v, e = .returned v ∧ s.post enc C.prog fn apart fresh handsOn again W args v W') :
    ReturnsInHanded a C os f .any (fun w args => (s.pre enc C.prog fn conds apart w args ∧ X w args) ∧ sizedMet enc C.prog fn (OpenSpec.ofChange s) apart w args) (s.post enc C.prog fn apart fresh handsOn again) := by
  refine returnsInHanded_of_calls own started noInit witness ?_
  intro w tape i _ hsh _ hok hpre hholds
  obtain ⟨_, _, _, fn', hfn', _, _, _, _, hval⟩ := hok
  have e : fn' = fn := Option.some.inj (hfn'.symm.trans hfn)
  subst e
  obtain ⟨⟨⟨ds, gs, before, hw, hc⟩, hx⟩, hz⟩ := hpre
  have hw' := DataW.Whole.of_heap (w' := w.forCall tape i) (by rfl) hw
  refine (contract (w.forCall tape i) w.heap.size i.args ds gs before hval hw' hc (hz.weights hw) (hX _ _ _ (by rfl) hx) hsh hholds).mono fun e W' ⟨v, he, hp⟩ => ?_
  subst he
  exact ChangeSpec.post_blind hp
/-- the library's own number, of whatever value -/
theorem max_of_shape {W : World} (h : W.ShapedOpen Tryz.prog) : ∃ m, W.cell? ⟨1, 0, none⟩ = some (.int .i64 m) :=
  cell_of_shapedOpen_int (P := Tryz.prog) (g := 1) (t := 3) (zero := #[.int .i64 0]) h (of_decide_eq_true (by kernel_rfl)) (by kernel_rfl) rfl (by kernel_rfl) (by kernel_rfl) Tryz.underlying3
end
end Go.Proofs.YtipbakdodbmfjaaGreatDoor

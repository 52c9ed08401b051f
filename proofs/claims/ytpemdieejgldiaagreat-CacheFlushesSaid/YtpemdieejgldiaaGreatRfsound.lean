/- Contracts of the reference's Sound of facts. -/
import Derived.Test.YtpemdieejgldiaaGreatFsound
import Derived.Test.YtpemdieejgldiaaGreatSoupo
import Derived.Test.YtpemdieejgldiaaGreatTmpsSame
namespace Go.Proofs.YtpemdieejgldiaaGreat
open Go.ChangeShapes Go.WideShapes Go.ChangeAt Go.RowKit

theorem neg_eval {k typ ttl : Int} {sl : Nat} {TB ZB UB AB : Bool} (h23 : k = 2 ∨ k = 3) (hT : typ = 0 → TB = false) :
    ((((((((((((((k == 2) == TB) && ((k == 2) || (typ == 0)))) && (((sl : Int)) == 0))) && (decide (ttl ≤ 10800)))) && ZB)) && UB)) && AB)) = (decide (ttl ≤ 10800) && (decide (sl = 0) && (ZB && (UB && (AB && ((decide (k = 2) && TB) || (decide (k = 3) && decide (typ = 0)))))))) := by
  have hs : ((sl : Int) == 0) = decide (sl = 0) := by rw [Bool.eq_iff_iff]; simp
  have ht : (typ == 0) = decide (typ = 0) := by rw [Bool.eq_iff_iff]; simp
  rw [hs, ht]
  generalize decide (sl = 0) = s1
  generalize decide (ttl ≤ 10800) = s2
  rcases h23 with rfl | rfl
  · generalize decide (typ = 0) = s3
    cases s1 <;> cases s2 <;> cases s3 <;> cases TB <;> cases ZB <;> cases UB <;> cases AB <;> rfl
  · by_cases h0 : typ = 0
    · rw [hT h0, decide_eq_true h0]
      cases s1 <;> cases s2 <;> cases ZB <;> cases UB <;> cases AB <;> rfl
    · rw [decide_eq_false h0]
      cases s1 <;> cases s2 <;> cases TB <;> cases ZB <;> cases UB <;> cases AB <;> rfl
set_option maxHeartbeats 16000000 in
set_option maxRecDepth 100000 in
theorem rfsound_any (w : World) (S : Nat → Prop) (h : FactH) (f : FactP) (hf : IsFact S w h f) :
    Calls Tryz.prog 16 #[.agg (factC h f)] w fun e w' => e = .returned (.bool (factB f)) ∧ Below w.heap.size w w' := by
  have hb1 : Below w.heap.size w (w.alloc (.cells (factC h f) 36)) := (Below.refl _ _).alloc (Nat.le_refl _) _
  have hA : Blk (w.alloc (.cells (factC h f) 36)) w.heap.size (factC h f) 36 := heap_alloc_new w _
  have HF0 := Lib.hid (hf.on hb1)
  have HA0 := Lib.hid hA
  have HB0 := Lib.hid hb1
  have HY0 := Lib.hid (Below.refl (w.alloc (.cells (factC h f) 36)).heap.size (w.alloc (.cells (factC h f) 36)))
  have hls := hf.set.hlen
  have hlz := hf.zone.len
  have hsm := hf.set.hmax
  have hsl := hf.set.hle
  have hzm := hf.zone.row.hmax
  obtain ⟨NB, hNB⟩ : ∃ q, q = soundB f.name := ⟨_, rfl⟩
  obtain ⟨GB, hGB⟩ : ∃ q, q = timeB f.got := ⟨_, rfl⟩
  obtain ⟨TB, hTB⟩ : ∃ q, q = typedB f.typ := ⟨_, rfl⟩
  obtain ⟨DB, hDB⟩ : ∃ q, q = distinctB f.typ [] f.set := ⟨_, rfl⟩
  obtain ⟨OB, hOB⟩ : ∃ q, q = noneB f.soa := ⟨_, rfl⟩
  obtain ⟨ZB, hZB⟩ : ∃ q, q = soundB f.zone := ⟨_, rfl⟩
  obtain ⟨UB, hUB⟩ : ∃ q, q = underB f.name f.zone := ⟨_, rfl⟩
  obtain ⟨AB, hAB⟩ : ∃ q, q = dataB 6 f.soa := ⟨_, rfl⟩
  obtain ⟨B, hB⟩ : ∃ q, q = factB f := ⟨_, rfl⟩
  have HNB := Lib.hid (rsound_any _ _ _ _ _ HF0.out.name)
  rw [← hNB] at HNB
  have HGB := Lib.hid (fun w' => rtime_any f.got w')
  rw [← hGB] at HGB
  have HTB := Lib.hid (fun w' => rtyped_any w' f.typ)
  rw [← hTB] at HTB
  have HZB := Lib.hid (fun w' (p : Strs w' h.za h.zl h.zc f.zone) => rsound_any w' _ _ _ _ p)
  rw [← hZB] at HZB
  have HUB := Lib.hid (fun w' (p : Strs w' h.na h.nl h.nc f.name) (q : Strs w' h.za h.zl h.zc f.zone) => runder_any w' _ _ _ _ _ _ _ _ p q)
  rw [← hUB] at HUB
  have HAB := Lib.hid (fun w' (p : IsData w' h.d f.soa) => rdata_any w' 6 _ _ p)
  rw [← hAB] at HAB
  have HDB := Lib.hid hDB
  have HTBD := Lib.hid hTB
  have HOB := Lib.hid (show OB = (decide (h.d.bl = 0) && (decide (h.d.hl = 0) && (decide (h.d.ml = 0) && (decide (h.d.nl = 0) && decide (h.d.tl = 0))))) by
    have hl := hf.soa.len
    rw [hOB, noneB, hl.bytes, hl.host, hl.mail, hl.nums, hl.texts, Bool.eq_iff_iff]
    simp only [Bool.and_eq_true, decide_eq_true_eq]
    omega)
  have HE0 := Lib.hid (show B = (NB && (decide (1 ≤ f.rank) && (decide (f.rank ≤ 4) && (GB && (decide (0 ≤ f.ttl) && (decide (f.ttl ≤ 604800) && (if f.kind = 1 then (TB && (decide (1 ≤ h.sl) && (decide (h.sl ≤ 64) && (DB && (decide (h.zl = 0) && OB))))) else ((decide (f.ttl ≤ 10800) && (decide (h.sl = 0) && (ZB && (UB && AB)))) && ((decide (f.kind = 2) && TB) || (decide (f.kind = 3) && decide (f.typ = 0))))))))))) by
    rw [hB, factB, headB, hasB, negB, hNB, hGB, hTB, hDB, hOB, hZB, hUB, hAB, hls, hlz]
    simp only [Bool.and_assoc])
  rw [← hB]
  have HLS := Lib.hid hls
  have HTY := Lib.hid (And.intro hf.typ hf.kind)
  clear hb1 hA hf hls hlz hB hNB hGB hTB hDB hOB hZB hUB hAB
  obtain ⟨na, nl, nc, sa, sl, sc, za, zl, zc, ⟨ba, bl, bc, ha, hl, hc, ma, ml, mc, xa, xl, xc, ta, tl, tc⟩⟩ := h
  simp only [factC] at HF0 HA0 HB0 HY0 HNB
  simp only at hsm hsl hzm HE0 HOB HZB HUB HAB HLS
  simp only [dataC] at HAB
  go_enter Tryz.func16, Tryz.ntmps16
  simp only [factC]
  go_wp2_with fail
  refine (HNB.out).mono ?_
  rintro e w' ⟨rfl, rfl⟩
  cases NB
  · have HF := Lib.hid (show B = false by rw [HE0.out]; rfl)
    go_wp2_with fail
    go_ret
    exact ⟨ret_bool (HF.out).symm, HB0.out⟩
  have HE1 := Lib.hid (show B = (decide (1 ≤ f.rank) && (decide (f.rank ≤ 4) && (GB && (decide (0 ≤ f.ttl) && (decide (f.ttl ≤ 604800) && ((if f.kind = 1 then (TB && (decide (1 ≤ sl) && (decide (sl ≤ 64) && (DB && (decide (zl = 0) && OB))))) else ((decide (f.ttl ≤ 10800) && (decide (sl = 0) && (ZB && (UB && AB)))) && ((decide (f.kind = 2) && TB) || (decide (f.kind = 3) && decide (f.typ = 0))))))))))) by rw [HE0.out]; rfl)
  clear HE0
  by_cases h1 : 1 ≤ f.rank
  case neg =>
    have d1 : decide (f.rank < 1) = true := decide_eq_true (by omega)
    have HF := Lib.hid (show B = false by rw [HE1.out, decide_eq_false h1]; rfl)
    clear h1
    go_wp2_with fail
    go_ret
    exact ⟨ret_bool (HF.out).symm, HB0.out⟩
  have d1 : decide (f.rank < 1) = false := decide_eq_false (by omega)
  have HE2 := Lib.hid (show B = (decide (f.rank ≤ 4) && (GB && (decide (0 ≤ f.ttl) && (decide (f.ttl ≤ 604800) && ((if f.kind = 1 then (TB && (decide (1 ≤ sl) && (decide (sl ≤ 64) && (DB && (decide (zl = 0) && OB))))) else ((decide (f.ttl ≤ 10800) && (decide (sl = 0) && (ZB && (UB && AB)))) && ((decide (f.kind = 2) && TB) || (decide (f.kind = 3) && decide (f.typ = 0)))))))))) by rw [HE1.out, decide_eq_true h1]; rfl)
  clear HE1
  clear h1
  by_cases h2 : f.rank ≤ 4
  case neg =>
    have d2 : decide (4 < f.rank) = true := decide_eq_true (by omega)
    have HF := Lib.hid (show B = false by rw [HE2.out, decide_eq_false h2]; rfl)
    clear h2
    go_wp2_with fail
    go_ret
    exact ⟨ret_bool (HF.out).symm, HB0.out⟩
  have d2 : decide (4 < f.rank) = false := decide_eq_false (by omega)
  have HE3 := Lib.hid (show B = (GB && (decide (0 ≤ f.ttl) && (decide (f.ttl ≤ 604800) && ((if f.kind = 1 then (TB && (decide (1 ≤ sl) && (decide (sl ≤ 64) && (DB && (decide (zl = 0) && OB))))) else ((decide (f.ttl ≤ 10800) && (decide (sl = 0) && (ZB && (UB && AB)))) && ((decide (f.kind = 2) && TB) || (decide (f.kind = 3) && decide (f.typ = 0))))))))) by rw [HE2.out, decide_eq_true h2]; rfl)
  clear HE2
  clear h2
  go_wp2_with fail
  refine (HGB.out _).mono ?_
  rintro e w' ⟨rfl, rfl⟩
  cases GB
  · have HF := Lib.hid (show B = false by rw [HE3.out]; rfl)
    go_wp2_with fail
    go_ret
    exact ⟨ret_bool (HF.out).symm, HB0.out⟩
  have HE4 := Lib.hid (show B = (decide (0 ≤ f.ttl) && (decide (f.ttl ≤ 604800) && ((if f.kind = 1 then (TB && (decide (1 ≤ sl) && (decide (sl ≤ 64) && (DB && (decide (zl = 0) && OB))))) else ((decide (f.ttl ≤ 10800) && (decide (sl = 0) && (ZB && (UB && AB)))) && ((decide (f.kind = 2) && TB) || (decide (f.kind = 3) && decide (f.typ = 0)))))))) by rw [HE3.out]; rfl)
  clear HE3
  by_cases h3 : 0 ≤ f.ttl
  case neg =>
    have d3 : decide (f.ttl < 0) = true := decide_eq_true (by omega)
    have HF := Lib.hid (show B = false by rw [HE4.out, decide_eq_false h3]; rfl)
    clear h3
    go_wp2_with fail
    go_ret
    exact ⟨ret_bool (HF.out).symm, HB0.out⟩
  have d3 : decide (f.ttl < 0) = false := decide_eq_false (by omega)
  have HE5 := Lib.hid (show B = (decide (f.ttl ≤ 604800) && ((if f.kind = 1 then (TB && (decide (1 ≤ sl) && (decide (sl ≤ 64) && (DB && (decide (zl = 0) && OB))))) else ((decide (f.ttl ≤ 10800) && (decide (sl = 0) && (ZB && (UB && AB)))) && ((decide (f.kind = 2) && TB) || (decide (f.kind = 3) && decide (f.typ = 0))))))) by rw [HE4.out, decide_eq_true h3]; rfl)
  clear HE4
  clear h3
  by_cases h4 : f.ttl ≤ 604800
  case neg =>
    have d4 : decide (604800 < f.ttl) = true := decide_eq_true (by omega)
    have HF := Lib.hid (show B = false by rw [HE5.out, decide_eq_false h4]; rfl)
    clear h4
    go_wp2_with fail
    go_ret
    exact ⟨ret_bool (HF.out).symm, HB0.out⟩
  have d4 : decide (604800 < f.ttl) = false := decide_eq_false (by omega)
  have HE6 := Lib.hid (show B = ((if f.kind = 1 then (TB && (decide (1 ≤ sl) && (decide (sl ≤ 64) && (DB && (decide (zl = 0) && OB))))) else ((decide (f.ttl ≤ 10800) && (decide (sl = 0) && (ZB && (UB && AB)))) && ((decide (f.kind = 2) && TB) || (decide (f.kind = 3) && decide (f.typ = 0)))))) by rw [HE5.out, decide_eq_true h4]; rfl)
  clear HE5
  clear h4
  have hbD : Below (w.alloc (.cells #[.slice na nl nc, .int .i64 f.typ, .int .i64 f.kind, .int .i64 f.rank, .int .i64 f.got, .int .i64 f.ttl, .slice sa sl sc, .slice za zl zc, .slice ba bl bc, .slice ha hl hc, .slice ma ml mc, .slice xa xl xc, .slice ta tl tc] 36)).heap.size (w.alloc (.cells #[.slice na nl nc, .int .i64 f.typ, .int .i64 f.kind, .int .i64 f.rank, .int .i64 f.got, .int .i64 f.ttl, .slice sa sl sc, .slice za zl zc, .slice ba bl bc, .slice ha hl hc, .slice ma ml mc, .slice xa xl xc, .slice ta tl tc] 36)) ((w.alloc (.cells #[.slice na nl nc, .int .i64 f.typ, .int .i64 f.kind, .int .i64 f.rank, .int .i64 f.got, .int .i64 f.ttl, .slice sa sl sc, .slice za zl zc, .slice ba bl bc, .slice ha hl hc, .slice ma ml mc, .slice xa xl xc, .slice ta tl tc] 36)).alloc (.cells #[.slice ba bl bc, .slice ha hl hc, .slice ma ml mc, .slice xa xl xc, .slice ta tl tc] 34)) := (Below.refl _ _).alloc (Nat.le_refl _) _
  have hsD : (w.alloc (.cells #[.slice na nl nc, .int .i64 f.typ, .int .i64 f.kind, .int .i64 f.rank, .int .i64 f.got, .int .i64 f.ttl, .slice sa sl sc, .slice za zl zc, .slice ba bl bc, .slice ha hl hc, .slice ma ml mc, .slice xa xl xc, .slice ta tl tc] 36)).heap.size = w.heap.size + 1 := by simp
  have hD0 : Blk ((w.alloc (.cells #[.slice na nl nc, .int .i64 f.typ, .int .i64 f.kind, .int .i64 f.rank, .int .i64 f.got, .int .i64 f.ttl, .slice sa sl sc, .slice za zl zc, .slice ba bl bc, .slice ha hl hc, .slice ma ml mc, .slice xa xl xc, .slice ta tl tc] 36)).alloc (.cells #[.slice ba bl bc, .slice ha hl hc, .slice ma ml mc, .slice xa xl xc, .slice ta tl tc] 34)) (w.heap.size + 1) #[.slice ba bl bc, .slice ha hl hc, .slice ma ml mc, .slice xa xl xc, .slice ta tl tc] 34 := by rw [← hsD]; exact heap_alloc_new _ _
  have HD := Lib.hid hD0
  have HA2 := Lib.hid (HA0.out.on hbD)
  have HF2 := Lib.hid (HF0.out.on hbD)
  have HB2 := Lib.hid (below_on HB0.out hbD (Nat.le_refl _))
  clear hbD hsD hD0 HA0 HF0 HB0 HY0
  by_cases hk : f.kind = 1
  · have HEa := Lib.hid (show B = (TB && (decide (1 ≤ sl) && (decide (sl ≤ 64) && (decide (zl = 0) && (decide (bl = 0) && (decide (hl = 0) && (decide (ml = 0) && (decide (xl = 0) && (decide (tl = 0) && DB))))))))) by
      rw [HE6.out, if_pos hk, HOB.out]
      generalize decide (bl = 0) = y1, decide (hl = 0) = y2, decide (ml = 0) = y3, decide (xl = 0) = y4, decide (tl = 0) = y5, decide (zl = 0) = y6
      cases DB <;> simp)
    have qk : (f.kind == 1) = true := by rw [hk]; rfl
    clear hk HE6
    have HE0 := Lib.hid HEa.out
    clear HEa
    go_wp2_with fail
    refine (HTB.out _).mono ?_
    rintro e w' ⟨rfl, rfl⟩
    cases TB
    · have HF := Lib.hid (show B = false by rw [HE0.out]; rfl)
      go_wp2_with fail
      go_ret
      exact ⟨ret_bool (HF.out).symm, HB2.out⟩
    have HE1 := Lib.hid (show B = (decide (1 ≤ sl) && (decide (sl ≤ 64) && (decide (zl = 0) && (decide (bl = 0) && (decide (hl = 0) && (decide (ml = 0) && (decide (xl = 0) && (decide (tl = 0) && (DB))))))))) by rw [HE0.out]; rfl)
    clear HE0
    by_cases h5 : 1 ≤ sl
    case neg =>
      have p1 : decide ((sl : Int) < 1) = true := decide_eq_true (by omega)
      have HF := Lib.hid (show B = false by rw [HE1.out, decide_eq_false h5]; rfl)
      clear h5
      go_wp2_with fail
      go_ret
      exact ⟨ret_bool (HF.out).symm, HB2.out⟩
    have p1 : decide ((sl : Int) < 1) = false := decide_eq_false (by omega)
    have HE2 := Lib.hid (show B = (decide (sl ≤ 64) && (decide (zl = 0) && (decide (bl = 0) && (decide (hl = 0) && (decide (ml = 0) && (decide (xl = 0) && (decide (tl = 0) && (DB)))))))) by rw [HE1.out, decide_eq_true h5]; rfl)
    clear HE1
    clear h5
    by_cases h6 : sl ≤ 64
    case neg =>
      have p2 : decide ((64 : Int) < (sl : Int)) = true := decide_eq_true (by omega)
      have HF := Lib.hid (show B = false by rw [HE2.out, decide_eq_false h6]; rfl)
      clear h6
      go_wp2_with fail
      go_ret
      exact ⟨ret_bool (HF.out).symm, HB2.out⟩
    have p2 : decide ((64 : Int) < (sl : Int)) = false := decide_eq_false (by omega)
    have HE3 := Lib.hid (show B = (decide (zl = 0) && (decide (bl = 0) && (decide (hl = 0) && (decide (ml = 0) && (decide (xl = 0) && (decide (tl = 0) && (DB))))))) by rw [HE2.out, decide_eq_true h6]; rfl)
    clear HE2
    clear h6
    by_cases g0 : zl = 0
    case neg =>
      have p3 : 0 < zl := by omega
      have HF := Lib.hid (show B = false by rw [HE3.out, decide_eq_false g0]; rfl)
      clear g0
      go_wp2_with fail
      go_ret
      exact ⟨ret_bool (HF.out).symm, HB2.out⟩
    have HE4 := Lib.hid (show B = (decide (bl = 0) && (decide (hl = 0) && (decide (ml = 0) && (decide (xl = 0) && (decide (tl = 0) && (DB)))))) by rw [HE3.out, decide_eq_true g0]; rfl)
    clear HE3
    subst g0
    by_cases g1 : bl = 0
    case neg =>
      have p4 : 0 < bl := by omega
      have HF := Lib.hid (show B = false by rw [HE4.out, decide_eq_false g1]; rfl)
      clear g1
      go_wp2_with fail
      go_ret
      exact ⟨ret_bool (HF.out).symm, HB2.out⟩
    have HE5 := Lib.hid (show B = (decide (hl = 0) && (decide (ml = 0) && (decide (xl = 0) && (decide (tl = 0) && (DB))))) by rw [HE4.out, decide_eq_true g1]; rfl)
    clear HE4
    subst g1
    by_cases g2 : hl = 0
    case neg =>
      have p5 : 0 < hl := by omega
      have HF := Lib.hid (show B = false by rw [HE5.out, decide_eq_false g2]; rfl)
      clear g2
      go_wp2_with fail
      go_ret
      exact ⟨ret_bool (HF.out).symm, HB2.out⟩
    have HE6 := Lib.hid (show B = (decide (ml = 0) && (decide (xl = 0) && (decide (tl = 0) && (DB)))) by rw [HE5.out, decide_eq_true g2]; rfl)
    clear HE5
    subst g2
    by_cases g3 : ml = 0
    case neg =>
      have p6 : 0 < ml := by omega
      have HF := Lib.hid (show B = false by rw [HE6.out, decide_eq_false g3]; rfl)
      clear g3
      go_wp2_with fail
      go_ret
      exact ⟨ret_bool (HF.out).symm, HB2.out⟩
    have HE7 := Lib.hid (show B = (decide (xl = 0) && (decide (tl = 0) && (DB))) by rw [HE6.out, decide_eq_true g3]; rfl)
    clear HE6
    subst g3
    by_cases g4 : xl = 0
    case neg =>
      have p7 : 0 < xl := by omega
      have HF := Lib.hid (show B = false by rw [HE7.out, decide_eq_false g4]; rfl)
      clear g4
      go_wp2_with fail
      go_ret
      exact ⟨ret_bool (HF.out).symm, HB2.out⟩
    have HE8 := Lib.hid (show B = (decide (tl = 0) && (DB)) by rw [HE7.out, decide_eq_true g4]; rfl)
    clear HE7
    subst g4
    by_cases g5 : tl = 0
    case neg =>
      have p8 : 0 < tl := by omega
      have HF := Lib.hid (show B = false by rw [HE8.out, decide_eq_false g5]; rfl)
      clear g5
      go_wp2_with fail
      go_ret
      exact ⟨ret_bool (HF.out).symm, HB2.out⟩
    have HE9 := Lib.hid (show B = (DB) by rw [HE8.out, decide_eq_true g5]; rfl)
    clear HE8
    subst g5
    have HBD := Lib.hid (show B = distinctB f.typ (f.set.take 0) (f.set.drop 0) by rw [HE9.out, HDB.out]; rfl)
    clear HE9
    go_wp2_with fail
    go_loopw [4] (fun i wr => ∃ j : Nat, j ≤ sl ∧ i = .int .i64 j ∧ Hid (Below ((w.alloc (.cells #[.slice na nl nc, .int .i64 f.typ, .int .i64 f.kind, .int .i64 f.rank, .int .i64 f.got, .int .i64 f.ttl, .slice sa sl sc, .slice za 0 zc, .slice ba 0 bc, .slice ha 0 hc, .slice ma 0 mc, .slice xa 0 xc, .slice ta 0 tc] 36)).alloc (.cells #[.slice ba 0 bc, .slice ha 0 hc, .slice ma 0 mc, .slice xa 0 xc, .slice ta 0 tc] 34)).heap.size ((w.alloc (.cells #[.slice na nl nc, .int .i64 f.typ, .int .i64 f.kind, .int .i64 f.rank, .int .i64 f.got, .int .i64 f.ttl, .slice sa sl sc, .slice za 0 zc, .slice ba 0 bc, .slice ha 0 hc, .slice ma 0 mc, .slice xa 0 xc, .slice ta 0 tc] 36)).alloc (.cells #[.slice ba 0 bc, .slice ha 0 hc, .slice ma 0 mc, .slice xa 0 xc, .slice ta 0 tc] 34)) wr ∧ B = distinctB f.typ (f.set.take j) (f.set.drop j))) (fun i _ => sl - (intOf i).toNat)
    case atStart => exact ⟨0, Nat.zero_le _, rfl, Below.refl _ _, HBD.out⟩
    case round =>
      obtain ⟨j, hj, rfl, hinv⟩ := hrel
      clear HBD
      have hAr := HA2.out.on hinv.out.1
      by_cases hlt : j < sl
      · obtain ⟨b, off, rfl⟩ : ∃ b off, sa = some ⟨b, off, none⟩ := HF2.out.set.addr hlt
        have hset := HF2.out.set.on hinv.out.1
        obtain ⟨h, hc, ho, _⟩ := data_elem (hset.at hlt)
        obtain ⟨o, hox⟩ : ∃ o, o = f.set[j]'(by have := HLS.out; omega) := ⟨_, rfl⟩
        rw [← hox] at ho
        obtain ⟨ZV, hZ⟩ : ∃ q, q = dataB f.typ o := ⟨_, rfl⟩
        obtain ⟨YV, hY⟩ : ∃ q, q = sameAny (f.set.take j) o := ⟨_, rfl⟩
        have HE := Lib.hid (show B = (ZV && (!YV && distinctB f.typ (f.set.take (j + 1)) (f.set.drop (j + 1)))) by rw [hinv.out.2, distinct_at (by have := HLS.out; omega), hZ, hY, hox])
        have HZ5 := Lib.hid (fun w' (p : IsData w' h o) => rdata_any w' f.typ h o p)
        rw [← hZ] at HZ5
        have HY5 := Lib.hid (fun w' (p : Datas S w' (some ⟨b, off, none⟩) j sc (f.set.take j)) (q : IsData w' h o) => rin_any w' S _ _ _ _ p h o q)
        rw [← hY] at HY5
        have HO := Lib.hid ho
        have HTK := Lib.hid (hset.take (k := j) (by omega))
        have HM1 := Lib.hid (show wr.drew.cell? ⟨w.heap.size, 1, none⟩ = some (.int .i64 f.typ) from hAr.cell 1)
        have HM6 := Lib.hid (show wr.drew.cell? ⟨w.heap.size, 6, none⟩ = some (.slice (some ⟨b, off, none⟩) sl sc) from hAr.cell 6)
        obtain ⟨ba', bl', bc', ha', hl', hc', ma', ml', mc', xa', xl', xc', ta', tl', tc'⟩ := h
        have HN0 := Lib.hid (show wr.drew.cell? ⟨b, off + j * 5, none⟩ = some (.slice ba' bl' bc') from hc 0 (by omega))
        have HN1 := Lib.hid (show wr.drew.cell? ⟨b, off + j * 5 + 1, none⟩ = some (.slice ha' hl' hc') from hc 1 (by omega))
        have HN2 := Lib.hid (show wr.drew.cell? ⟨b, off + j * 5 + 2, none⟩ = some (.slice ma' ml' mc') from hc 2 (by omega))
        have HN3 := Lib.hid (show wr.drew.cell? ⟨b, off + j * 5 + 3, none⟩ = some (.slice xa' xl' xc') from hc 3 (by omega))
        have HN4 := Lib.hid (show wr.drew.cell? ⟨b, off + j * 5 + 4, none⟩ = some (.slice ta' tl' tc') from hc 4 (by omega))
        have m6 := hAr.cell 6
        simp at m6
        simp only [dataC] at HZ5 HY5
        have hjc : j ≤ sc := by omega
        clear hc ho hox hZ hY hset hAr
        go_wp2_with fail
        clear m6
        obtain ⟨V9, hV9⟩ : ∃ q : Bool, q = (!ZV) := ⟨_, rfl⟩
        have HV9 := Lib.hid hV9
        clear hV9
        obtain ⟨V20, hV20⟩ : ∃ q : Bool, q = (V9 || YV) := ⟨_, rfl⟩
        have HV20 := Lib.hid hV20
        clear hV20
        refine wp_soup0 (m := 168) (by kernel_rfl) (fun x y => Below x.heap.size x y) (fun i v xw => match i with | 0 => v = .pointer (some ⟨w.heap.size, 1, none⟩) | 1 => v = .int .i64 f.typ | 2 => v = .pointer (some ⟨w.heap.size, 6, none⟩) | 3 => v = .slice ((some ⟨b, off, none⟩)) sl sc | 4 => v = .int .i64 ((j : Int)) | 5 => v = .pointer (some ⟨b, off + j * 5, none⟩) | 6 => v = .agg #[.slice ba' bl' bc', .slice ha' hl' hc', .slice ma' ml' mc', .slice xa' xl' xc', .slice ta' tl' tc'] | 7 => v = .bool ZV | 8 => v = .bool (!ZV) | 9 => v = .bool V9 | 10 => v = (bif V9 then undef else (.pointer (some ⟨w.heap.size, 6, none⟩))) | 11 => v = (bif V9 then undef else (.slice ((some ⟨b, off, none⟩)) sl sc)) | 12 => v = (bif V9 then undef else (.int .i64 ((j : Int)))) | 13 => v = (bif V9 then undef else (.slice ((some ⟨b, off, none⟩)) j sc)) | 14 => v = (bif V9 then undef else (.pointer (some ⟨w.heap.size, 6, none⟩))) | 15 => v = (bif V9 then undef else (.slice ((some ⟨b, off, none⟩)) sl sc)) | 16 => v = (bif V9 then undef else (.int .i64 ((j : Int)))) | 17 => v = (bif V9 then undef else (.pointer (some ⟨b, off + j * 5, none⟩))) | 18 => v = (bif V9 then undef else (.agg #[.slice ba' bl' bc', .slice ha' hl' hc', .slice ma' ml' mc', .slice xa' xl' xc', .slice ta' tl' tc'])) | 19 => v = (bif V9 then undef else (.bool YV)) | 20 => v = .bool V20 | _ => True) rfl (by kernel_rfl) (fun _ _ _ h1 h2 => below_on h1 h2 (Nat.le_refl _)) (Below.refl _ _) (fun _ _ _ _ h _ => h) (dst_but 21 (by kernel_rfl) (fun _ _ h => h)) ?_ ?_
        rotate_left
        · intro a W hR hS hdep
          have e120 : a.tmps.getD 120 undef = .bool V20 := hdep 20 (by decide +kernel)
          obtain ⟨T, df⟩ := a
          obtain rfl : df = [] := hS.defers
          have hT := tmps_same hS 168 rfl [100, 101, 102, 103, 104, 105, 106, 107, 108, 109, 110, 111, 112, 113, 114, 115, 116, 117, 118, 119, 120] (by kernel_rfl)
          simp only [List.foldl_cons, List.foldl_nil, List.setIfInBounds_toArray, List.set_cons_succ, List.set_cons_zero] at hT
          have k120 : T.getD 120 undef = .bool V20 := e120
          clear hS hdep
          rw [hT]
          rw [k120]
          clear k120 e120
          clear hT
          generalize T.getD 100 undef = u100
          generalize T.getD 101 undef = u101
          generalize T.getD 102 undef = u102
          generalize T.getD 103 undef = u103
          generalize T.getD 104 undef = u104
          generalize T.getD 105 undef = u105
          generalize T.getD 106 undef = u106
          generalize T.getD 107 undef = u107
          generalize T.getD 108 undef = u108
          generalize T.getD 109 undef = u109
          generalize T.getD 110 undef = u110
          generalize T.getD 111 undef = u111
          generalize T.getD 112 undef = u112
          generalize T.getD 113 undef = u113
          generalize T.getD 114 undef = u114
          generalize T.getD 115 undef = u115
          generalize T.getD 116 undef = u116
          generalize T.getD 117 undef = u117
          generalize T.getD 118 undef = u118
          generalize T.getD 119 undef = u119
          have HR := Lib.hid (below_on hinv.out.1 (below_on (B := wr.heap.size) (Below.drew (Below.refl _ _)) hR (Nat.le_refl _)) (Nat.le_refl _))
          have HVV := Lib.hid (show V20 = (!ZV || YV) by simp only [HV20.out, HV9.out])
          clear hR
          cases V20
          · have HF := Lib.hid (show B = distinctB f.typ (f.set.take (j + 1)) (f.set.drop (j + 1)) by
              have h1 := HVV.out
              rw [HE.out]
              cases ZV <;> cases YV <;> simp at h1 ⊢)
            go_wp2_with fail
            go_roundw
            case rel => exact ⟨j + 1, by omega, by go_num, HR.out, HF.out⟩
            case measure => simp [intOf]; omega
          · have HF := Lib.hid (show B = false by
              have h1 := HVV.out
              rw [HE.out]
              cases ZV <;> cases YV <;> simp at h1 ⊢)
            go_wp2_with fail
            go_ret
            exact ⟨ret_bool HF.out.symm, below_on HB2.out HR.out (Nat.le_refl _)⟩
        refine soup_cons rfl rfl (fun a W hR hS hdep K hK => ?_) ?_
        · have e1 : a.tmps[1]?.getD undef = .pointer (some ⟨w.heap.size, 0, none⟩) := slot_of (hS.keep 1 (by kernel_rfl))
          go_simp
          exact hK _ _ (Below.refl _ _) (by first | rfl | simp)
        refine soup_cons rfl rfl (fun a W hR hS hdep K hK => ?_) ?_
        · have e100 : a.tmps[100]?.getD undef = .pointer (some ⟨w.heap.size, 1, none⟩) := slot_of (hdep 0 (by decide +kernel))
          have m0 := cell_keep hR HM1.out
          go_simp
          exact hK _ _ (Below.refl _ _) (by first | rfl | simp)
        refine soup_cons rfl rfl (fun a W hR hS hdep K hK => ?_) ?_
        · have e1 : a.tmps[1]?.getD undef = .pointer (some ⟨w.heap.size, 0, none⟩) := slot_of (hS.keep 1 (by kernel_rfl))
          go_simp
          exact hK _ _ (Below.refl _ _) (by first | rfl | simp)
        refine soup_cons rfl rfl (fun a W hR hS hdep K hK => ?_) ?_
        · have e102 : a.tmps[102]?.getD undef = .pointer (some ⟨w.heap.size, 6, none⟩) := slot_of (hdep 2 (by decide +kernel))
          have m0 := cell_keep hR HM6.out
          go_simp
          exact hK _ _ (Below.refl _ _) (by first | rfl | simp)
        refine soup_cons rfl rfl (fun a W hR hS hdep K hK => ?_) ?_
        · have e4 : a.tmps[4]?.getD undef = .int .i64 ((j : Int)) := slot_of (hS.keep 4 (by kernel_rfl))
          go_simp
          exact hK _ _ (Below.refl _ _) (by first | rfl | simp)
        refine soup_cons rfl rfl (fun a W hR hS hdep K hK => ?_) ?_
        · have e103 : a.tmps[103]?.getD undef = .slice ((some ⟨b, off, none⟩)) sl sc := slot_of (hdep 3 (by decide +kernel))
          have e104 : a.tmps[104]?.getD undef = .int .i64 ((j : Int)) := slot_of (hdep 4 (by decide +kernel))
          go_simp
          exact hK _ _ (Below.refl _ _) (by first | rfl | simp)
        refine soup_cons rfl rfl (fun a W hR hS hdep K hK => ?_) ?_
        · have e105 : a.tmps[105]?.getD undef = .pointer (some ⟨b, off + j * 5, none⟩) := slot_of (hdep 5 (by decide +kernel))
          have m0 := cell_keep hR HN0.out
          have m1 := cell_keep hR HN1.out
          have m2 := cell_keep hR HN2.out
          have m3 := cell_keep hR HN3.out
          have m4 := cell_keep hR HN4.out
          go_simp
          exact hK _ _ (Below.refl _ _) (by first | rfl | simp)
        refine soup_cons rfl rfl (fun a W hR hS hdep K hK => ?_) ?_
        · have e101 : a.tmps[101]?.getD undef = .int .i64 f.typ := slot_of (hdep 1 (by decide +kernel))
          have e106 : a.tmps[106]?.getD undef = .agg #[.slice ba' bl' bc', .slice ha' hl' hc', .slice ma' ml' mc', .slice xa' xl' xc', .slice ta' tl' tc'] := slot_of (hdep 6 (by decide +kernel))
          go_simp
          have hbx := below_on (B := wr.heap.size) (Below.drew (Below.refl _ _)) hR (Nat.le_refl _)
          refine (HZ5.out _ (HO.out.on hbx)).mono ?_
          rintro e W' ⟨rfl, hb⟩
          exact hK _ _ hb rfl
        refine soup_cons rfl rfl (fun a W hR hS hdep K hK => ?_) ?_
        · have e107 : a.tmps[107]?.getD undef = .bool ZV := slot_of (hdep 7 (by decide +kernel))
          go_simp
          exact hK _ _ (Below.refl _ _) (by first | rfl | simp)
        refine soup_cons rfl rfl (fun a W hR hS hdep K hK => ?_) ?_
        · have e108 : a.tmps[108]?.getD undef = .bool (!ZV) := slot_of (hdep 8 (by decide +kernel))
          go_simp
          exact hK _ _ (Below.refl _ _) (by first | rfl | (rw [HV9.out]; rfl) | (rw [HV9.out]; simp) | simp [HV9.out])
        refine soup_cons rfl rfl (fun a W hR hS hdep K hK => ?_) ?_
        · have e1 : a.tmps[1]?.getD undef = .pointer (some ⟨w.heap.size, 0, none⟩) := slot_of (hS.keep 1 (by kernel_rfl))
          have e109 : a.tmps[109]?.getD undef = .bool V9 := slot_of (hdep 9 (by decide +kernel))
          have g109 : a.tmps[109]? = some (.bool V9) := slot_at (show _ = 168 from hS.size) (by decide) (hdep 9 (by decide +kernel))
          try clear hS
          all_goals (cases V9)
          all_goals
            try dsimp only [cond] at *
            go_simp
            exact hK _ _ (Below.refl _ _) (by first | rfl | simp)
        refine soup_cons rfl rfl (fun a W hR hS hdep K hK => ?_) ?_
        · have e110 : a.tmps[110]?.getD undef = (bif V9 then undef else (.pointer (some ⟨w.heap.size, 6, none⟩))) := slot_of (hdep 10 (by decide +kernel))
          have e109 : a.tmps[109]?.getD undef = .bool V9 := slot_of (hdep 9 (by decide +kernel))
          have g109 : a.tmps[109]? = some (.bool V9) := slot_at (show _ = 168 from hS.size) (by decide) (hdep 9 (by decide +kernel))
          have m0 := cell_keep hR HM6.out
          try clear hS
          all_goals (cases V9)
          all_goals
            try dsimp only [cond] at *
            go_simp
            exact hK _ _ (Below.refl _ _) (by first | rfl | simp)
        refine soup_cons rfl rfl (fun a W hR hS hdep K hK => ?_) ?_
        · have e4 : a.tmps[4]?.getD undef = .int .i64 ((j : Int)) := slot_of (hS.keep 4 (by kernel_rfl))
          have e109 : a.tmps[109]?.getD undef = .bool V9 := slot_of (hdep 9 (by decide +kernel))
          have g109 : a.tmps[109]? = some (.bool V9) := slot_at (show _ = 168 from hS.size) (by decide) (hdep 9 (by decide +kernel))
          try clear hS
          all_goals (cases V9)
          all_goals
            try dsimp only [cond] at *
            go_simp
            exact hK _ _ (Below.refl _ _) (by first | rfl | simp)
        refine soup_cons rfl rfl (fun a W hR hS hdep K hK => ?_) ?_
        · have e111 : a.tmps[111]?.getD undef = (bif V9 then undef else (.slice ((some ⟨b, off, none⟩)) sl sc)) := slot_of (hdep 11 (by decide +kernel))
          have e112 : a.tmps[112]?.getD undef = (bif V9 then undef else (.int .i64 ((j : Int)))) := slot_of (hdep 12 (by decide +kernel))
          have e109 : a.tmps[109]?.getD undef = .bool V9 := slot_of (hdep 9 (by decide +kernel))
          have g109 : a.tmps[109]? = some (.bool V9) := slot_at (show _ = 168 from hS.size) (by decide) (hdep 9 (by decide +kernel))
          try clear hS
          all_goals (cases V9)
          all_goals
            try dsimp only [cond] at *
            go_simp
            exact hK _ _ (Below.refl _ _) (by first | rfl | simp)
        refine soup_cons rfl rfl (fun a W hR hS hdep K hK => ?_) ?_
        · have e1 : a.tmps[1]?.getD undef = .pointer (some ⟨w.heap.size, 0, none⟩) := slot_of (hS.keep 1 (by kernel_rfl))
          have e109 : a.tmps[109]?.getD undef = .bool V9 := slot_of (hdep 9 (by decide +kernel))
          have g109 : a.tmps[109]? = some (.bool V9) := slot_at (show _ = 168 from hS.size) (by decide) (hdep 9 (by decide +kernel))
          try clear hS
          all_goals (cases V9)
          all_goals
            try dsimp only [cond] at *
            go_simp
            exact hK _ _ (Below.refl _ _) (by first | rfl | simp)
        refine soup_cons rfl rfl (fun a W hR hS hdep K hK => ?_) ?_
        · have e114 : a.tmps[114]?.getD undef = (bif V9 then undef else (.pointer (some ⟨w.heap.size, 6, none⟩))) := slot_of (hdep 14 (by decide +kernel))
          have e109 : a.tmps[109]?.getD undef = .bool V9 := slot_of (hdep 9 (by decide +kernel))
          have g109 : a.tmps[109]? = some (.bool V9) := slot_at (show _ = 168 from hS.size) (by decide) (hdep 9 (by decide +kernel))
          have m0 := cell_keep hR HM6.out
          try clear hS
          all_goals (cases V9)
          all_goals
            try dsimp only [cond] at *
            go_simp
            exact hK _ _ (Below.refl _ _) (by first | rfl | simp)
        refine soup_cons rfl rfl (fun a W hR hS hdep K hK => ?_) ?_
        · have e4 : a.tmps[4]?.getD undef = .int .i64 ((j : Int)) := slot_of (hS.keep 4 (by kernel_rfl))
          have e109 : a.tmps[109]?.getD undef = .bool V9 := slot_of (hdep 9 (by decide +kernel))
          have g109 : a.tmps[109]? = some (.bool V9) := slot_at (show _ = 168 from hS.size) (by decide) (hdep 9 (by decide +kernel))
          try clear hS
          all_goals (cases V9)
          all_goals
            try dsimp only [cond] at *
            go_simp
            exact hK _ _ (Below.refl _ _) (by first | rfl | simp)
        refine soup_cons rfl rfl (fun a W hR hS hdep K hK => ?_) ?_
        · have e115 : a.tmps[115]?.getD undef = (bif V9 then undef else (.slice ((some ⟨b, off, none⟩)) sl sc)) := slot_of (hdep 15 (by decide +kernel))
          have e116 : a.tmps[116]?.getD undef = (bif V9 then undef else (.int .i64 ((j : Int)))) := slot_of (hdep 16 (by decide +kernel))
          have e109 : a.tmps[109]?.getD undef = .bool V9 := slot_of (hdep 9 (by decide +kernel))
          have g109 : a.tmps[109]? = some (.bool V9) := slot_at (show _ = 168 from hS.size) (by decide) (hdep 9 (by decide +kernel))
          try clear hS
          all_goals (cases V9)
          all_goals
            try dsimp only [cond] at *
            go_simp
            exact hK _ _ (Below.refl _ _) (by first | rfl | simp)
        refine soup_cons rfl rfl (fun a W hR hS hdep K hK => ?_) ?_
        · have e117 : a.tmps[117]?.getD undef = (bif V9 then undef else (.pointer (some ⟨b, off + j * 5, none⟩))) := slot_of (hdep 17 (by decide +kernel))
          have e109 : a.tmps[109]?.getD undef = .bool V9 := slot_of (hdep 9 (by decide +kernel))
          have g109 : a.tmps[109]? = some (.bool V9) := slot_at (show _ = 168 from hS.size) (by decide) (hdep 9 (by decide +kernel))
          have m0 := cell_keep hR HN0.out
          have m1 := cell_keep hR HN1.out
          have m2 := cell_keep hR HN2.out
          have m3 := cell_keep hR HN3.out
          have m4 := cell_keep hR HN4.out
          try clear hS
          all_goals (cases V9)
          all_goals
            try dsimp only [cond] at *
            go_simp
            exact hK _ _ (Below.refl _ _) (by first | rfl | simp)
        refine soup_cons rfl rfl (fun a W hR hS hdep K hK => ?_) ?_
        · have e113 : a.tmps[113]?.getD undef = (bif V9 then undef else (.slice ((some ⟨b, off, none⟩)) j sc)) := slot_of (hdep 13 (by decide +kernel))
          have e118 : a.tmps[118]?.getD undef = (bif V9 then undef else (.agg #[.slice ba' bl' bc', .slice ha' hl' hc', .slice ma' ml' mc', .slice xa' xl' xc', .slice ta' tl' tc'])) := slot_of (hdep 18 (by decide +kernel))
          have e109 : a.tmps[109]?.getD undef = .bool V9 := slot_of (hdep 9 (by decide +kernel))
          have g109 : a.tmps[109]? = some (.bool V9) := slot_at (show _ = 168 from hS.size) (by decide) (hdep 9 (by decide +kernel))
          try clear hS
          all_goals (cases V9)
          all_goals
            try dsimp only [cond] at *
            first
            | (go_simp
               exact hK _ _ (Below.refl _ _) rfl)
            | (go_simp
               have hbx := below_on (B := wr.heap.size) (Below.drew (Below.refl _ _)) hR (Nat.le_refl _)
               refine (HY5.out _ (HTK.out.on hbx) (HO.out.on hbx)).mono ?_
               rintro e W' ⟨rfl, hb⟩
               exact hK _ _ hb rfl)
        refine soup_cons rfl rfl (fun a W hR hS hdep K hK => ?_) ?_
        · have e109 : a.tmps[109]?.getD undef = .bool V9 := slot_of (hdep 9 (by decide +kernel))
          have e119 : a.tmps[119]?.getD undef = (bif V9 then undef else (.bool YV)) := slot_of (hdep 19 (by decide +kernel))
          try clear hS
          all_goals (cases V9)
          all_goals
            try dsimp only [cond] at *
            go_simp
            exact hK _ _ (Below.refl _ _) (by first | rfl | (rw [HV20.out]; rfl) | (rw [HV20.out]; simp) | simp [HV20.out])
        exact fun j h1 h2 => absurd h1 (by simp only [List.size_toArray, List.length_cons, List.length_nil]; omega)
      · obtain rfl : j = sl := by omega
        have HF := Lib.hid (show B = true by rw [hinv.out.2, List.take_of_length_le (by have := HLS.out; omega), List.drop_eq_nil_of_le (by have := HLS.out; omega)]; rfl)
        have m6 := hAr.cell 6
        simp at m6
        clear hlt hAr
        go_wp2_with fail
        go_ret
        exact ⟨ret_bool HF.out.symm, below_on HB2.out hinv.out.1 (Nat.le_refl _)⟩
  · have HEa := Lib.hid (show B = (decide (f.ttl ≤ 10800) && (decide (sl = 0) && (ZB && (UB && (AB && ((decide (f.kind = 2) && TB) || (decide (f.kind = 3) && decide (f.typ = 0)))))))) by rw [HE6.out, if_neg hk]; simp only [Bool.and_assoc])
    have qk : (f.kind == 1) = false := by rw [beq_eq_false_iff_ne]; exact hk
    have HTD := Lib.hid (show TB = typedB f.typ from HTBD.out)
    clear HE6
    by_cases hk23 : f.kind = 2 ∨ f.kind = 3
    case neg =>
      have HF := Lib.hid (show B = false by rw [HEa.out, decide_eq_false (show ¬ f.kind = 2 by omega), decide_eq_false (show ¬ f.kind = 3 by omega)]; simp)
      have q2 : (f.kind == 2) = false := by rw [beq_eq_false_iff_ne]; omega
      have q3 : (f.kind == 3) = false := by rw [beq_eq_false_iff_ne]; omega
      clear hk hk23
      go_wp2_with fail
      go_ret
      exact ⟨ret_bool HF.out.symm, HB2.out⟩
    have HA0x := Lib.hid (show ((w.alloc (.cells #[.slice na nl nc, .int .i64 f.typ, .int .i64 f.kind, .int .i64 f.rank, .int .i64 f.got, .int .i64 f.ttl, .slice sa sl sc, .slice za zl zc, .slice ba bl bc, .slice ha hl hc, .slice ma ml mc, .slice xa xl xc, .slice ta tl tc] 36)).alloc (.cells #[.slice ba bl bc, .slice ha hl hc, .slice ma ml mc, .slice xa xl xc, .slice ta tl tc] 34)).drew.cell? ⟨w.heap.size, 0, none⟩ = some (.slice na nl nc) from HA2.out.cell 0)
    have HA1x := Lib.hid (show ((w.alloc (.cells #[.slice na nl nc, .int .i64 f.typ, .int .i64 f.kind, .int .i64 f.rank, .int .i64 f.got, .int .i64 f.ttl, .slice sa sl sc, .slice za zl zc, .slice ba bl bc, .slice ha hl hc, .slice ma ml mc, .slice xa xl xc, .slice ta tl tc] 36)).alloc (.cells #[.slice ba bl bc, .slice ha hl hc, .slice ma ml mc, .slice xa xl xc, .slice ta tl tc] 34)).drew.cell? ⟨w.heap.size, 1, none⟩ = some (.int .i64 f.typ) from HA2.out.cell 1)
    have HA2x := Lib.hid (show ((w.alloc (.cells #[.slice na nl nc, .int .i64 f.typ, .int .i64 f.kind, .int .i64 f.rank, .int .i64 f.got, .int .i64 f.ttl, .slice sa sl sc, .slice za zl zc, .slice ba bl bc, .slice ha hl hc, .slice ma ml mc, .slice xa xl xc, .slice ta tl tc] 36)).alloc (.cells #[.slice ba bl bc, .slice ha hl hc, .slice ma ml mc, .slice xa xl xc, .slice ta tl tc] 34)).drew.cell? ⟨w.heap.size, 2, none⟩ = some (.int .i64 f.kind) from HA2.out.cell 2)
    have HA3x := Lib.hid (show ((w.alloc (.cells #[.slice na nl nc, .int .i64 f.typ, .int .i64 f.kind, .int .i64 f.rank, .int .i64 f.got, .int .i64 f.ttl, .slice sa sl sc, .slice za zl zc, .slice ba bl bc, .slice ha hl hc, .slice ma ml mc, .slice xa xl xc, .slice ta tl tc] 36)).alloc (.cells #[.slice ba bl bc, .slice ha hl hc, .slice ma ml mc, .slice xa xl xc, .slice ta tl tc] 34)).drew.cell? ⟨w.heap.size, 3, none⟩ = some (.int .i64 f.rank) from HA2.out.cell 3)
    have HA4x := Lib.hid (show ((w.alloc (.cells #[.slice na nl nc, .int .i64 f.typ, .int .i64 f.kind, .int .i64 f.rank, .int .i64 f.got, .int .i64 f.ttl, .slice sa sl sc, .slice za zl zc, .slice ba bl bc, .slice ha hl hc, .slice ma ml mc, .slice xa xl xc, .slice ta tl tc] 36)).alloc (.cells #[.slice ba bl bc, .slice ha hl hc, .slice ma ml mc, .slice xa xl xc, .slice ta tl tc] 34)).drew.cell? ⟨w.heap.size, 4, none⟩ = some (.int .i64 f.got) from HA2.out.cell 4)
    have HA5x := Lib.hid (show ((w.alloc (.cells #[.slice na nl nc, .int .i64 f.typ, .int .i64 f.kind, .int .i64 f.rank, .int .i64 f.got, .int .i64 f.ttl, .slice sa sl sc, .slice za zl zc, .slice ba bl bc, .slice ha hl hc, .slice ma ml mc, .slice xa xl xc, .slice ta tl tc] 36)).alloc (.cells #[.slice ba bl bc, .slice ha hl hc, .slice ma ml mc, .slice xa xl xc, .slice ta tl tc] 34)).drew.cell? ⟨w.heap.size, 5, none⟩ = some (.int .i64 f.ttl) from HA2.out.cell 5)
    have HA6x := Lib.hid (show ((w.alloc (.cells #[.slice na nl nc, .int .i64 f.typ, .int .i64 f.kind, .int .i64 f.rank, .int .i64 f.got, .int .i64 f.ttl, .slice sa sl sc, .slice za zl zc, .slice ba bl bc, .slice ha hl hc, .slice ma ml mc, .slice xa xl xc, .slice ta tl tc] 36)).alloc (.cells #[.slice ba bl bc, .slice ha hl hc, .slice ma ml mc, .slice xa xl xc, .slice ta tl tc] 34)).drew.cell? ⟨w.heap.size, 6, none⟩ = some (.slice sa sl sc) from HA2.out.cell 6)
    have HA7x := Lib.hid (show ((w.alloc (.cells #[.slice na nl nc, .int .i64 f.typ, .int .i64 f.kind, .int .i64 f.rank, .int .i64 f.got, .int .i64 f.ttl, .slice sa sl sc, .slice za zl zc, .slice ba bl bc, .slice ha hl hc, .slice ma ml mc, .slice xa xl xc, .slice ta tl tc] 36)).alloc (.cells #[.slice ba bl bc, .slice ha hl hc, .slice ma ml mc, .slice xa xl xc, .slice ta tl tc] 34)).drew.cell? ⟨w.heap.size, 7, none⟩ = some (.slice za zl zc) from HA2.out.cell 7)
    have HD0x := Lib.hid (show ((w.alloc (.cells #[.slice na nl nc, .int .i64 f.typ, .int .i64 f.kind, .int .i64 f.rank, .int .i64 f.got, .int .i64 f.ttl, .slice sa sl sc, .slice za zl zc, .slice ba bl bc, .slice ha hl hc, .slice ma ml mc, .slice xa xl xc, .slice ta tl tc] 36)).alloc (.cells #[.slice ba bl bc, .slice ha hl hc, .slice ma ml mc, .slice xa xl xc, .slice ta tl tc] 34)).drew.cell? ⟨(w.heap.size + 1), 0, none⟩ = some (.slice ba bl bc) from HD.out.cell 0)
    have HD1x := Lib.hid (show ((w.alloc (.cells #[.slice na nl nc, .int .i64 f.typ, .int .i64 f.kind, .int .i64 f.rank, .int .i64 f.got, .int .i64 f.ttl, .slice sa sl sc, .slice za zl zc, .slice ba bl bc, .slice ha hl hc, .slice ma ml mc, .slice xa xl xc, .slice ta tl tc] 36)).alloc (.cells #[.slice ba bl bc, .slice ha hl hc, .slice ma ml mc, .slice xa xl xc, .slice ta tl tc] 34)).drew.cell? ⟨(w.heap.size + 1), 1, none⟩ = some (.slice ha hl hc) from HD.out.cell 1)
    have HD2x := Lib.hid (show ((w.alloc (.cells #[.slice na nl nc, .int .i64 f.typ, .int .i64 f.kind, .int .i64 f.rank, .int .i64 f.got, .int .i64 f.ttl, .slice sa sl sc, .slice za zl zc, .slice ba bl bc, .slice ha hl hc, .slice ma ml mc, .slice xa xl xc, .slice ta tl tc] 36)).alloc (.cells #[.slice ba bl bc, .slice ha hl hc, .slice ma ml mc, .slice xa xl xc, .slice ta tl tc] 34)).drew.cell? ⟨(w.heap.size + 1), 2, none⟩ = some (.slice ma ml mc) from HD.out.cell 2)
    have HD3x := Lib.hid (show ((w.alloc (.cells #[.slice na nl nc, .int .i64 f.typ, .int .i64 f.kind, .int .i64 f.rank, .int .i64 f.got, .int .i64 f.ttl, .slice sa sl sc, .slice za zl zc, .slice ba bl bc, .slice ha hl hc, .slice ma ml mc, .slice xa xl xc, .slice ta tl tc] 36)).alloc (.cells #[.slice ba bl bc, .slice ha hl hc, .slice ma ml mc, .slice xa xl xc, .slice ta tl tc] 34)).drew.cell? ⟨(w.heap.size + 1), 3, none⟩ = some (.slice xa xl xc) from HD.out.cell 3)
    have HD4x := Lib.hid (show ((w.alloc (.cells #[.slice na nl nc, .int .i64 f.typ, .int .i64 f.kind, .int .i64 f.rank, .int .i64 f.got, .int .i64 f.ttl, .slice sa sl sc, .slice za zl zc, .slice ba bl bc, .slice ha hl hc, .slice ma ml mc, .slice xa xl xc, .slice ta tl tc] 36)).alloc (.cells #[.slice ba bl bc, .slice ha hl hc, .slice ma ml mc, .slice xa xl xc, .slice ta tl tc] 34)).drew.cell? ⟨(w.heap.size + 1), 4, none⟩ = some (.slice ta tl tc) from HD.out.cell 4)
    have HK23 := Lib.hid hk23
    clear hk hk23 qk
    have key : (f.kind == 2) = true ∨ ((f.kind == 2) = false ∧ (f.kind == 3) = true) := by
      rcases HK23.out with e | e
      · left; rw [e]; rfl
      · right; rw [e]; exact ⟨rfl, rfl⟩
    all_goals skip
    have HKEY := Lib.hid key
    clear key
    rcases HKEY.out with q2 | ⟨q2, q3⟩
    · go_wp2_with fail
      clear q2
      obtain ⟨X7, hX7⟩ : ∃ q : Bool, q = ((f.kind == 2) == TB) := ⟨_, rfl⟩
      have HX7 := Lib.hid hX7
      clear hX7
      obtain ⟨X11, hX11⟩ : ∃ q : Bool, q = (f.kind == 2) := ⟨_, rfl⟩
      have HX11 := Lib.hid hX11
      clear hX11
      obtain ⟨X15, hX15⟩ : ∃ q : Bool, q = (X11 || (f.typ == 0)) := ⟨_, rfl⟩
      have HX15 := Lib.hid hX15
      clear hX15
      obtain ⟨X16, hX16⟩ : ∃ q : Bool, q = (X7 && X15) := ⟨_, rfl⟩
      have HX16 := Lib.hid hX16
      clear hX16
      obtain ⟨X17, hX17⟩ : ∃ q : Bool, q = X16 := ⟨_, rfl⟩
      have HX17 := Lib.hid hX17
      clear hX17
      obtain ⟨X22, hX22⟩ : ∃ q : Bool, q = (X17 && (((sl : Int)) == 0)) := ⟨_, rfl⟩
      have HX22 := Lib.hid hX22
      clear hX22
      obtain ⟨X23, hX23⟩ : ∃ q : Bool, q = X22 := ⟨_, rfl⟩
      have HX23 := Lib.hid hX23
      clear hX23
      obtain ⟨X27, hX27⟩ : ∃ q : Bool, q = (X23 && (decide (f.ttl ≤ 10800))) := ⟨_, rfl⟩
      have HX27 := Lib.hid hX27
      clear hX27
      obtain ⟨X28, hX28⟩ : ∃ q : Bool, q = X27 := ⟨_, rfl⟩
      have HX28 := Lib.hid hX28
      clear hX28
      obtain ⟨X32, hX32⟩ : ∃ q : Bool, q = (X28 && ZB) := ⟨_, rfl⟩
      have HX32 := Lib.hid hX32
      clear hX32
      obtain ⟨X33, hX33⟩ : ∃ q : Bool, q = X32 := ⟨_, rfl⟩
      have HX33 := Lib.hid hX33
      clear hX33
      obtain ⟨X39, hX39⟩ : ∃ q : Bool, q = (X33 && UB) := ⟨_, rfl⟩
      have HX39 := Lib.hid hX39
      clear hX39
      obtain ⟨X40, hX40⟩ : ∃ q : Bool, q = X39 := ⟨_, rfl⟩
      have HX40 := Lib.hid hX40
      clear hX40
      obtain ⟨X43, hX43⟩ : ∃ q : Bool, q = (X40 && AB) := ⟨_, rfl⟩
      have HX43 := Lib.hid hX43
      clear hX43
      refine wp_soup0 (m := 168) (by kernel_rfl) (fun x y => Below x.heap.size x y) (fun i v xw => match i with | 0 => v = .pointer (some ⟨w.heap.size, 2, none⟩) | 1 => v = .int .i64 f.kind | 2 => v = .bool (f.kind == 2) | 3 => v = .pointer (some ⟨w.heap.size, 1, none⟩) | 4 => v = .int .i64 f.typ | 5 => v = .bool TB | 6 => v = .bool ((f.kind == 2) == TB) | 7 => v = .bool X7 | 8 => v = (bif X7 then (.pointer (some ⟨w.heap.size, 2, none⟩)) else undef) | 9 => v = (bif X7 then (.int .i64 f.kind) else undef) | 10 => v = (bif X7 then (.bool (f.kind == 2)) else undef) | 11 => v = (bif X7 then (.bool X11) else undef) | 12 => v = (bif X7 then ((bif X11 then undef else (.pointer (some ⟨w.heap.size, 1, none⟩)))) else undef) | 13 => v = (bif X7 then ((bif X11 then undef else (.int .i64 f.typ))) else undef) | 14 => v = (bif X7 then ((bif X11 then undef else (.bool (f.typ == 0)))) else undef) | 15 => v = (bif X7 then (.bool X15) else undef) | 16 => v = .bool X16 | 17 => v = .bool X17 | 18 => v = (bif X17 then (.pointer (some ⟨w.heap.size, 6, none⟩)) else undef) | 19 => v = (bif X17 then (.slice sa sl sc) else undef) | 20 => v = (bif X17 then (.int .i64 ((sl : Int))) else undef) | 21 => v = (bif X17 then (.bool (((sl : Int)) == 0)) else undef) | 22 => v = .bool X22 | 23 => v = .bool X23 | 24 => v = (bif X23 then (.pointer (some ⟨w.heap.size, 5, none⟩)) else undef) | 25 => v = (bif X23 then (.int .i64 f.ttl) else undef) | 26 => v = (bif X23 then (.bool (decide (f.ttl ≤ 10800))) else undef) | 27 => v = .bool X27 | 28 => v = .bool X28 | 29 => v = (bif X28 then (.pointer (some ⟨w.heap.size, 7, none⟩)) else undef) | 30 => v = (bif X28 then (.slice za zl zc) else undef) | 31 => v = (bif X28 then (.bool ZB) else undef) | 32 => v = .bool X32 | 33 => v = .bool X33 | 34 => v = (bif X33 then (.pointer (some ⟨w.heap.size, 0, none⟩)) else undef) | 35 => v = (bif X33 then (.slice na nl nc) else undef) | 36 => v = (bif X33 then (.pointer (some ⟨w.heap.size, 7, none⟩)) else undef) | 37 => v = (bif X33 then (.slice za zl zc) else undef) | 38 => v = (bif X33 then (.bool UB) else undef) | 39 => v = .bool X39 | 40 => v = .bool X40 | 41 => v = (bif X40 then (.agg #[.slice ba bl bc, .slice ha hl hc, .slice ma ml mc, .slice xa xl xc, .slice ta tl tc]) else undef) | 42 => v = (bif X40 then (.bool AB) else undef) | 43 => v = .bool X43 | 44 => v = .bool X43 | _ => True) rfl (by kernel_rfl) (fun _ _ _ h1 h2 => below_on h1 h2 (Nat.le_refl _)) (Below.refl _ _) (fun _ _ _ _ h _ => h) (dst_but 45 (by kernel_rfl) (fun _ _ h => h)) ?_ ?_
      rotate_left
      · intro a W hR hS hdep
        have e2 : a.tmps.getD 2 undef = .bool X43 := hdep 44 (by decide +kernel)
        obtain ⟨T, df⟩ := a
        obtain rfl : df = [] := hS.defers
        have hT : T = #[T.getD 0 undef, T.getD 1 undef, T.getD 2 undef, T.getD 3 undef, T.getD 4 undef, T.getD 5 undef, T.getD 6 undef, T.getD 7 undef, T.getD 8 undef, T.getD 9 undef, T.getD 10 undef, T.getD 11 undef, T.getD 12 undef, T.getD 13 undef, T.getD 14 undef, T.getD 15 undef, T.getD 16 undef, T.getD 17 undef, T.getD 18 undef, T.getD 19 undef, T.getD 20 undef, T.getD 21 undef, T.getD 22 undef, T.getD 23 undef, T.getD 24 undef, T.getD 25 undef, T.getD 26 undef, T.getD 27 undef, T.getD 28 undef, T.getD 29 undef, T.getD 30 undef, T.getD 31 undef, T.getD 32 undef, T.getD 33 undef, T.getD 34 undef, T.getD 35 undef, T.getD 36 undef, T.getD 37 undef, T.getD 38 undef, T.getD 39 undef, T.getD 40 undef, T.getD 41 undef, T.getD 42 undef, T.getD 43 undef, T.getD 44 undef, T.getD 45 undef, T.getD 46 undef, T.getD 47 undef, T.getD 48 undef, T.getD 49 undef, T.getD 50 undef, T.getD 51 undef, T.getD 52 undef, T.getD 53 undef, T.getD 54 undef, T.getD 55 undef, T.getD 56 undef, T.getD 57 undef, T.getD 58 undef, T.getD 59 undef, T.getD 60 undef, T.getD 61 undef, T.getD 62 undef, T.getD 63 undef, T.getD 64 undef, T.getD 65 undef, T.getD 66 undef, T.getD 67 undef, T.getD 68 undef, T.getD 69 undef, T.getD 70 undef, T.getD 71 undef, T.getD 72 undef, T.getD 73 undef, T.getD 74 undef, T.getD 75 undef, T.getD 76 undef, T.getD 77 undef, T.getD 78 undef, T.getD 79 undef, T.getD 80 undef, T.getD 81 undef, T.getD 82 undef, T.getD 83 undef, T.getD 84 undef, T.getD 85 undef, T.getD 86 undef, T.getD 87 undef, T.getD 88 undef, T.getD 89 undef, T.getD 90 undef, T.getD 91 undef, T.getD 92 undef, T.getD 93 undef, T.getD 94 undef, T.getD 95 undef, T.getD 96 undef, T.getD 97 undef, T.getD 98 undef, T.getD 99 undef, T.getD 100 undef, T.getD 101 undef, T.getD 102 undef, T.getD 103 undef, T.getD 104 undef, T.getD 105 undef, T.getD 106 undef, T.getD 107 undef, T.getD 108 undef, T.getD 109 undef, T.getD 110 undef, T.getD 111 undef, T.getD 112 undef, T.getD 113 undef, T.getD 114 undef, T.getD 115 undef, T.getD 116 undef, T.getD 117 undef, T.getD 118 undef, T.getD 119 undef, T.getD 120 undef, T.getD 121 undef, T.getD 122 undef, T.getD 123 undef, T.getD 124 undef, T.getD 125 undef, T.getD 126 undef, T.getD 127 undef, T.getD 128 undef, T.getD 129 undef, T.getD 130 undef, T.getD 131 undef, T.getD 132 undef, T.getD 133 undef, T.getD 134 undef, T.getD 135 undef, T.getD 136 undef, T.getD 137 undef, T.getD 138 undef, T.getD 139 undef, T.getD 140 undef, T.getD 141 undef, T.getD 142 undef, T.getD 143 undef, T.getD 144 undef, T.getD 145 undef, T.getD 146 undef, T.getD 147 undef, T.getD 148 undef, T.getD 149 undef, T.getD 150 undef, T.getD 151 undef, T.getD 152 undef, T.getD 153 undef, T.getD 154 undef, T.getD 155 undef, T.getD 156 undef, T.getD 157 undef, T.getD 158 undef, T.getD 159 undef, T.getD 160 undef, T.getD 161 undef, T.getD 162 undef, T.getD 163 undef, T.getD 164 undef, T.getD 165 undef, T.getD 166 undef, T.getD 167 undef] := arr_eta T 168 hS.size
        have k2 : T.getD 2 undef = .bool X43 := e2
        clear hS hdep
        rw [hT]
        rw [k2]
        clear k2 e2
        clear hT
        generalize T.getD 0 undef = u0
        generalize T.getD 1 undef = u1
        generalize T.getD 3 undef = u3
        generalize T.getD 4 undef = u4
        generalize T.getD 5 undef = u5
        generalize T.getD 6 undef = u6
        generalize T.getD 7 undef = u7
        generalize T.getD 8 undef = u8
        generalize T.getD 9 undef = u9
        generalize T.getD 10 undef = u10
        generalize T.getD 11 undef = u11
        generalize T.getD 12 undef = u12
        generalize T.getD 13 undef = u13
        generalize T.getD 14 undef = u14
        generalize T.getD 15 undef = u15
        generalize T.getD 16 undef = u16
        generalize T.getD 17 undef = u17
        generalize T.getD 18 undef = u18
        generalize T.getD 19 undef = u19
        generalize T.getD 20 undef = u20
        generalize T.getD 21 undef = u21
        generalize T.getD 22 undef = u22
        generalize T.getD 23 undef = u23
        generalize T.getD 24 undef = u24
        generalize T.getD 25 undef = u25
        generalize T.getD 26 undef = u26
        generalize T.getD 27 undef = u27
        generalize T.getD 28 undef = u28
        generalize T.getD 29 undef = u29
        generalize T.getD 30 undef = u30
        generalize T.getD 31 undef = u31
        generalize T.getD 32 undef = u32
        generalize T.getD 33 undef = u33
        generalize T.getD 34 undef = u34
        generalize T.getD 35 undef = u35
        generalize T.getD 36 undef = u36
        generalize T.getD 37 undef = u37
        generalize T.getD 38 undef = u38
        generalize T.getD 39 undef = u39
        generalize T.getD 40 undef = u40
        generalize T.getD 41 undef = u41
        generalize T.getD 42 undef = u42
        generalize T.getD 43 undef = u43
        generalize T.getD 44 undef = u44
        generalize T.getD 45 undef = u45
        generalize T.getD 46 undef = u46
        generalize T.getD 47 undef = u47
        generalize T.getD 48 undef = u48
        generalize T.getD 49 undef = u49
        generalize T.getD 50 undef = u50
        generalize T.getD 51 undef = u51
        generalize T.getD 52 undef = u52
        generalize T.getD 53 undef = u53
        generalize T.getD 54 undef = u54
        generalize T.getD 55 undef = u55
        generalize T.getD 56 undef = u56
        generalize T.getD 57 undef = u57
        generalize T.getD 58 undef = u58
        generalize T.getD 59 undef = u59
        generalize T.getD 60 undef = u60
        generalize T.getD 61 undef = u61
        generalize T.getD 62 undef = u62
        generalize T.getD 63 undef = u63
        generalize T.getD 64 undef = u64
        generalize T.getD 65 undef = u65
        generalize T.getD 66 undef = u66
        generalize T.getD 67 undef = u67
        generalize T.getD 68 undef = u68
        generalize T.getD 69 undef = u69
        generalize T.getD 70 undef = u70
        generalize T.getD 71 undef = u71
        generalize T.getD 72 undef = u72
        generalize T.getD 73 undef = u73
        generalize T.getD 74 undef = u74
        generalize T.getD 75 undef = u75
        generalize T.getD 76 undef = u76
        generalize T.getD 77 undef = u77
        generalize T.getD 78 undef = u78
        generalize T.getD 79 undef = u79
        generalize T.getD 80 undef = u80
        generalize T.getD 81 undef = u81
        generalize T.getD 82 undef = u82
        generalize T.getD 83 undef = u83
        generalize T.getD 84 undef = u84
        generalize T.getD 85 undef = u85
        generalize T.getD 86 undef = u86
        generalize T.getD 87 undef = u87
        generalize T.getD 88 undef = u88
        generalize T.getD 89 undef = u89
        generalize T.getD 90 undef = u90
        generalize T.getD 91 undef = u91
        generalize T.getD 92 undef = u92
        generalize T.getD 93 undef = u93
        generalize T.getD 94 undef = u94
        generalize T.getD 95 undef = u95
        generalize T.getD 96 undef = u96
        generalize T.getD 97 undef = u97
        generalize T.getD 98 undef = u98
        generalize T.getD 99 undef = u99
        generalize T.getD 100 undef = u100
        generalize T.getD 101 undef = u101
        generalize T.getD 102 undef = u102
        generalize T.getD 103 undef = u103
        generalize T.getD 104 undef = u104
        generalize T.getD 105 undef = u105
        generalize T.getD 106 undef = u106
        generalize T.getD 107 undef = u107
        generalize T.getD 108 undef = u108
        generalize T.getD 109 undef = u109
        generalize T.getD 110 undef = u110
        generalize T.getD 111 undef = u111
        generalize T.getD 112 undef = u112
        generalize T.getD 113 undef = u113
        generalize T.getD 114 undef = u114
        generalize T.getD 115 undef = u115
        generalize T.getD 116 undef = u116
        generalize T.getD 117 undef = u117
        generalize T.getD 118 undef = u118
        generalize T.getD 119 undef = u119
        generalize T.getD 120 undef = u120
        generalize T.getD 121 undef = u121
        generalize T.getD 122 undef = u122
        generalize T.getD 123 undef = u123
        generalize T.getD 124 undef = u124
        generalize T.getD 125 undef = u125
        generalize T.getD 126 undef = u126
        generalize T.getD 127 undef = u127
        generalize T.getD 128 undef = u128
        generalize T.getD 129 undef = u129
        generalize T.getD 130 undef = u130
        generalize T.getD 131 undef = u131
        generalize T.getD 132 undef = u132
        generalize T.getD 133 undef = u133
        generalize T.getD 134 undef = u134
        generalize T.getD 135 undef = u135
        generalize T.getD 136 undef = u136
        generalize T.getD 137 undef = u137
        generalize T.getD 138 undef = u138
        generalize T.getD 139 undef = u139
        generalize T.getD 140 undef = u140
        generalize T.getD 141 undef = u141
        generalize T.getD 142 undef = u142
        generalize T.getD 143 undef = u143
        generalize T.getD 144 undef = u144
        generalize T.getD 145 undef = u145
        generalize T.getD 146 undef = u146
        generalize T.getD 147 undef = u147
        generalize T.getD 148 undef = u148
        generalize T.getD 149 undef = u149
        generalize T.getD 150 undef = u150
        generalize T.getD 151 undef = u151
        generalize T.getD 152 undef = u152
        generalize T.getD 153 undef = u153
        generalize T.getD 154 undef = u154
        generalize T.getD 155 undef = u155
        generalize T.getD 156 undef = u156
        generalize T.getD 157 undef = u157
        generalize T.getD 158 undef = u158
        generalize T.getD 159 undef = u159
        generalize T.getD 160 undef = u160
        generalize T.getD 161 undef = u161
        generalize T.getD 162 undef = u162
        generalize T.getD 163 undef = u163
        generalize T.getD 164 undef = u164
        generalize T.getD 165 undef = u165
        generalize T.getD 166 undef = u166
        generalize T.getD 167 undef = u167
        have HR := Lib.hid (below_on HB2.out (below_on (Below.drew (Below.refl _ _)) hR (Nat.le_refl _)) (Nat.le_refl _))
        have HVB := Lib.hid (show X43 = B by
          rw [HEa.out]
          simp only [HX43.out, HX40.out, HX39.out, HX33.out, HX32.out, HX28.out, HX27.out, HX23.out, HX22.out, HX17.out, HX16.out, HX7.out, HX15.out, HX11.out]
          exact neg_eval HK23.out (fun e => by rw [HTD.out, e]; rfl))
        clear hR
        go_wp2_with fail
        go_ret
        exact ⟨ret_bool HVB.out, HR.out⟩
      refine soup_cons rfl rfl (fun a W hR hS hdep K hK => ?_) ?_
      · have e1 : a.tmps[1]?.getD undef = .pointer (some ⟨w.heap.size, 0, none⟩) := slot_of (hS.keep 1 (by kernel_rfl))
        go_simp
        exact hK _ _ (Below.refl _ _) (by first | rfl | simp)
      refine soup_cons rfl rfl (fun a W hR hS hdep K hK => ?_) ?_
      · have e124 : a.tmps[124]?.getD undef = .pointer (some ⟨w.heap.size, 2, none⟩) := slot_of (hdep 0 (by decide +kernel))
        have m0 := cell_keep hR HA2x.out
        go_simp
        exact hK _ _ (Below.refl _ _) (by first | rfl | simp)
      refine soup_cons rfl rfl (fun a W hR hS hdep K hK => ?_) ?_
      · have e125 : a.tmps[125]?.getD undef = .int .i64 f.kind := slot_of (hdep 1 (by decide +kernel))
        go_simp
        exact hK _ _ (Below.refl _ _) (by first | rfl | simp)
      refine soup_cons rfl rfl (fun a W hR hS hdep K hK => ?_) ?_
      · have e1 : a.tmps[1]?.getD undef = .pointer (some ⟨w.heap.size, 0, none⟩) := slot_of (hS.keep 1 (by kernel_rfl))
        go_simp
        exact hK _ _ (Below.refl _ _) (by first | rfl | simp)
      refine soup_cons rfl rfl (fun a W hR hS hdep K hK => ?_) ?_
      · have e127 : a.tmps[127]?.getD undef = .pointer (some ⟨w.heap.size, 1, none⟩) := slot_of (hdep 3 (by decide +kernel))
        have m0 := cell_keep hR HA1x.out
        go_simp
        exact hK _ _ (Below.refl _ _) (by first | rfl | simp)
      refine soup_cons rfl rfl (fun a W hR hS hdep K hK => ?_) ?_
      · have e128 : a.tmps[128]?.getD undef = .int .i64 f.typ := slot_of (hdep 4 (by decide +kernel))
        go_simp
        refine (HTB.out _).mono ?_
        rintro e W' ⟨rfl, rfl⟩
        exact hK _ _ (Below.refl _ _) rfl
      refine soup_cons rfl rfl (fun a W hR hS hdep K hK => ?_) ?_
      · have e126 : a.tmps[126]?.getD undef = .bool (f.kind == 2) := slot_of (hdep 2 (by decide +kernel))
        have e129 : a.tmps[129]?.getD undef = .bool TB := slot_of (hdep 5 (by decide +kernel))
        go_simp
        exact hK _ _ (Below.refl _ _) (by first | rfl | simp)
      refine soup_cons rfl rfl (fun a W hR hS hdep K hK => ?_) ?_
      · have e130 : a.tmps[130]?.getD undef = .bool ((f.kind == 2) == TB) := slot_of (hdep 6 (by decide +kernel))
        go_simp
        exact hK _ _ (Below.refl _ _) (by first | rfl | (rw [HX7.out]; rfl) | (rw [HX7.out]; simp) | simp [HX7.out])
      refine soup_cons rfl rfl (fun a W hR hS hdep K hK => ?_) ?_
      · have e1 : a.tmps[1]?.getD undef = .pointer (some ⟨w.heap.size, 0, none⟩) := slot_of (hS.keep 1 (by kernel_rfl))
        have e131 : a.tmps[131]?.getD undef = .bool X7 := slot_of (hdep 7 (by decide +kernel))
        have g131 : a.tmps[131]? = some (.bool X7) := slot_at (show _ = 168 from hS.size) (by decide) (hdep 7 (by decide +kernel))
        try clear hS
        all_goals (cases X7)
        all_goals
          try dsimp only [cond] at *
          go_simp
          exact hK _ _ (Below.refl _ _) (by first | rfl | simp)
      refine soup_cons rfl rfl (fun a W hR hS hdep K hK => ?_) ?_
      · have e132 : a.tmps[132]?.getD undef = (bif X7 then (.pointer (some ⟨w.heap.size, 2, none⟩)) else undef) := slot_of (hdep 8 (by decide +kernel))
        have e131 : a.tmps[131]?.getD undef = .bool X7 := slot_of (hdep 7 (by decide +kernel))
        have g131 : a.tmps[131]? = some (.bool X7) := slot_at (show _ = 168 from hS.size) (by decide) (hdep 7 (by decide +kernel))
        have m0 := cell_keep hR HA2x.out
        try clear hS
        all_goals (cases X7)
        all_goals
          try dsimp only [cond] at *
          go_simp
          exact hK _ _ (Below.refl _ _) (by first | rfl | simp)
      refine soup_cons rfl rfl (fun a W hR hS hdep K hK => ?_) ?_
      · have e133 : a.tmps[133]?.getD undef = (bif X7 then (.int .i64 f.kind) else undef) := slot_of (hdep 9 (by decide +kernel))
        have e131 : a.tmps[131]?.getD undef = .bool X7 := slot_of (hdep 7 (by decide +kernel))
        have g131 : a.tmps[131]? = some (.bool X7) := slot_at (show _ = 168 from hS.size) (by decide) (hdep 7 (by decide +kernel))
        try clear hS
        all_goals (cases X7)
        all_goals
          try dsimp only [cond] at *
          go_simp
          exact hK _ _ (Below.refl _ _) (by first | rfl | simp)
      refine soup_cons rfl rfl (fun a W hR hS hdep K hK => ?_) ?_
      · have e134 : a.tmps[134]?.getD undef = (bif X7 then (.bool (f.kind == 2)) else undef) := slot_of (hdep 10 (by decide +kernel))
        have e131 : a.tmps[131]?.getD undef = .bool X7 := slot_of (hdep 7 (by decide +kernel))
        have g131 : a.tmps[131]? = some (.bool X7) := slot_at (show _ = 168 from hS.size) (by decide) (hdep 7 (by decide +kernel))
        try clear hS
        all_goals (cases X7)
        all_goals
          try dsimp only [cond] at *
          go_simp
          exact hK _ _ (Below.refl _ _) (by first | rfl | (rw [HX11.out]; rfl) | (rw [HX11.out]; simp) | simp [HX11.out])
      refine soup_cons rfl rfl (fun a W hR hS hdep K hK => ?_) ?_
      · have e1 : a.tmps[1]?.getD undef = .pointer (some ⟨w.heap.size, 0, none⟩) := slot_of (hS.keep 1 (by kernel_rfl))
        have e135 : a.tmps[135]?.getD undef = (bif X7 then (.bool X11) else undef) := slot_of (hdep 11 (by decide +kernel))
        have g135 : a.tmps[135]? = some ((bif X7 then (.bool X11) else undef)) := slot_at (show _ = 168 from hS.size) (by decide) (hdep 11 (by decide +kernel))
        try clear hS
        all_goals (cases X7)
        all_goals (cases X11)
        all_goals
          try dsimp only [cond] at *
          go_simp
          exact hK _ _ (Below.refl _ _) (by first | rfl | simp)
      refine soup_cons rfl rfl (fun a W hR hS hdep K hK => ?_) ?_
      · have e136 : a.tmps[136]?.getD undef = (bif X7 then ((bif X11 then undef else (.pointer (some ⟨w.heap.size, 1, none⟩)))) else undef) := slot_of (hdep 12 (by decide +kernel))
        have e135 : a.tmps[135]?.getD undef = (bif X7 then (.bool X11) else undef) := slot_of (hdep 11 (by decide +kernel))
        have g135 : a.tmps[135]? = some ((bif X7 then (.bool X11) else undef)) := slot_at (show _ = 168 from hS.size) (by decide) (hdep 11 (by decide +kernel))
        have m0 := cell_keep hR HA1x.out
        try clear hS
        all_goals (cases X7)
        all_goals (cases X11)
        all_goals
          try dsimp only [cond] at *
          go_simp
          exact hK _ _ (Below.refl _ _) (by first | rfl | simp)
      refine soup_cons rfl rfl (fun a W hR hS hdep K hK => ?_) ?_
      · have e137 : a.tmps[137]?.getD undef = (bif X7 then ((bif X11 then undef else (.int .i64 f.typ))) else undef) := slot_of (hdep 13 (by decide +kernel))
        have e135 : a.tmps[135]?.getD undef = (bif X7 then (.bool X11) else undef) := slot_of (hdep 11 (by decide +kernel))
        have g135 : a.tmps[135]? = some ((bif X7 then (.bool X11) else undef)) := slot_at (show _ = 168 from hS.size) (by decide) (hdep 11 (by decide +kernel))
        try clear hS
        all_goals (cases X7)
        all_goals (cases X11)
        all_goals
          try dsimp only [cond] at *
          go_simp
          exact hK _ _ (Below.refl _ _) (by first | rfl | simp)
      refine soup_cons rfl rfl (fun a W hR hS hdep K hK => ?_) ?_
      · have e135 : a.tmps[135]?.getD undef = (bif X7 then (.bool X11) else undef) := slot_of (hdep 11 (by decide +kernel))
        have e138 : a.tmps[138]?.getD undef = (bif X7 then ((bif X11 then undef else (.bool (f.typ == 0)))) else undef) := slot_of (hdep 14 (by decide +kernel))
        have e131 : a.tmps[131]?.getD undef = .bool X7 := slot_of (hdep 7 (by decide +kernel))
        have g131 : a.tmps[131]? = some (.bool X7) := slot_at (show _ = 168 from hS.size) (by decide) (hdep 7 (by decide +kernel))
        try clear hS
        all_goals (cases X11)
        all_goals (cases X7)
        all_goals
          try dsimp only [cond] at *
          go_simp
          exact hK _ _ (Below.refl _ _) (by first | rfl | (rw [HX15.out]; rfl) | (rw [HX15.out]; simp) | simp [HX15.out])
      refine soup_cons rfl rfl (fun a W hR hS hdep K hK => ?_) ?_
      · have e131 : a.tmps[131]?.getD undef = .bool X7 := slot_of (hdep 7 (by decide +kernel))
        have e139 : a.tmps[139]?.getD undef = (bif X7 then (.bool X15) else undef) := slot_of (hdep 15 (by decide +kernel))
        try clear hS
        all_goals (cases X7)
        all_goals
          try dsimp only [cond] at *
          go_simp
          exact hK _ _ (Below.refl _ _) (by first | rfl | (rw [HX16.out]; rfl) | (rw [HX16.out]; simp) | simp [HX16.out])
      refine soup_cons rfl rfl (fun a W hR hS hdep K hK => ?_) ?_
      · have e140 : a.tmps[140]?.getD undef = .bool X16 := slot_of (hdep 16 (by decide +kernel))
        go_simp
        exact hK _ _ (Below.refl _ _) (by first | rfl | (rw [HX17.out]; rfl) | (rw [HX17.out]; simp) | simp [HX17.out])
      refine soup_cons rfl rfl (fun a W hR hS hdep K hK => ?_) ?_
      · have e1 : a.tmps[1]?.getD undef = .pointer (some ⟨w.heap.size, 0, none⟩) := slot_of (hS.keep 1 (by kernel_rfl))
        have e141 : a.tmps[141]?.getD undef = .bool X17 := slot_of (hdep 17 (by decide +kernel))
        have g141 : a.tmps[141]? = some (.bool X17) := slot_at (show _ = 168 from hS.size) (by decide) (hdep 17 (by decide +kernel))
        try clear hS
        all_goals (cases X17)
        all_goals
          try dsimp only [cond] at *
          go_simp
          exact hK _ _ (Below.refl _ _) (by first | rfl | simp)
      refine soup_cons rfl rfl (fun a W hR hS hdep K hK => ?_) ?_
      · have e142 : a.tmps[142]?.getD undef = (bif X17 then (.pointer (some ⟨w.heap.size, 6, none⟩)) else undef) := slot_of (hdep 18 (by decide +kernel))
        have e141 : a.tmps[141]?.getD undef = .bool X17 := slot_of (hdep 17 (by decide +kernel))
        have g141 : a.tmps[141]? = some (.bool X17) := slot_at (show _ = 168 from hS.size) (by decide) (hdep 17 (by decide +kernel))
        have m0 := cell_keep hR HA6x.out
        try clear hS
        all_goals (cases X17)
        all_goals
          try dsimp only [cond] at *
          go_simp
          exact hK _ _ (Below.refl _ _) (by first | rfl | simp)
      refine soup_cons rfl rfl (fun a W hR hS hdep K hK => ?_) ?_
      · have e143 : a.tmps[143]?.getD undef = (bif X17 then (.slice sa sl sc) else undef) := slot_of (hdep 19 (by decide +kernel))
        have e141 : a.tmps[141]?.getD undef = .bool X17 := slot_of (hdep 17 (by decide +kernel))
        have g141 : a.tmps[141]? = some (.bool X17) := slot_at (show _ = 168 from hS.size) (by decide) (hdep 17 (by decide +kernel))
        try clear hS
        all_goals (cases X17)
        all_goals
          try dsimp only [cond] at *
          go_simp
          exact hK _ _ (Below.refl _ _) (by first | rfl | simp)
      refine soup_cons rfl rfl (fun a W hR hS hdep K hK => ?_) ?_
      · have e144 : a.tmps[144]?.getD undef = (bif X17 then (.int .i64 ((sl : Int))) else undef) := slot_of (hdep 20 (by decide +kernel))
        have e141 : a.tmps[141]?.getD undef = .bool X17 := slot_of (hdep 17 (by decide +kernel))
        have g141 : a.tmps[141]? = some (.bool X17) := slot_at (show _ = 168 from hS.size) (by decide) (hdep 17 (by decide +kernel))
        try clear hS
        all_goals (cases X17)
        all_goals
          try dsimp only [cond] at *
          go_simp
          exact hK _ _ (Below.refl _ _) (by first | rfl | simp)
      refine soup_cons rfl rfl (fun a W hR hS hdep K hK => ?_) ?_
      · have e141 : a.tmps[141]?.getD undef = .bool X17 := slot_of (hdep 17 (by decide +kernel))
        have e145 : a.tmps[145]?.getD undef = (bif X17 then (.bool (((sl : Int)) == 0)) else undef) := slot_of (hdep 21 (by decide +kernel))
        try clear hS
        all_goals (cases X17)
        all_goals
          try dsimp only [cond] at *
          go_simp
          exact hK _ _ (Below.refl _ _) (by first | rfl | (rw [HX22.out]; rfl) | (rw [HX22.out]; simp) | simp [HX22.out])
      refine soup_cons rfl rfl (fun a W hR hS hdep K hK => ?_) ?_
      · have e146 : a.tmps[146]?.getD undef = .bool X22 := slot_of (hdep 22 (by decide +kernel))
        go_simp
        exact hK _ _ (Below.refl _ _) (by first | rfl | (rw [HX23.out]; rfl) | (rw [HX23.out]; simp) | simp [HX23.out])
      refine soup_cons rfl rfl (fun a W hR hS hdep K hK => ?_) ?_
      · have e1 : a.tmps[1]?.getD undef = .pointer (some ⟨w.heap.size, 0, none⟩) := slot_of (hS.keep 1 (by kernel_rfl))
        have e147 : a.tmps[147]?.getD undef = .bool X23 := slot_of (hdep 23 (by decide +kernel))
        have g147 : a.tmps[147]? = some (.bool X23) := slot_at (show _ = 168 from hS.size) (by decide) (hdep 23 (by decide +kernel))
        try clear hS
        all_goals (cases X23)
        all_goals
          try dsimp only [cond] at *
          go_simp
          exact hK _ _ (Below.refl _ _) (by first | rfl | simp)
      refine soup_cons rfl rfl (fun a W hR hS hdep K hK => ?_) ?_
      · have e148 : a.tmps[148]?.getD undef = (bif X23 then (.pointer (some ⟨w.heap.size, 5, none⟩)) else undef) := slot_of (hdep 24 (by decide +kernel))
        have e147 : a.tmps[147]?.getD undef = .bool X23 := slot_of (hdep 23 (by decide +kernel))
        have g147 : a.tmps[147]? = some (.bool X23) := slot_at (show _ = 168 from hS.size) (by decide) (hdep 23 (by decide +kernel))
        have m0 := cell_keep hR HA5x.out
        try clear hS
        all_goals (cases X23)
        all_goals
          try dsimp only [cond] at *
          go_simp
          exact hK _ _ (Below.refl _ _) (by first | rfl | simp)
      refine soup_cons rfl rfl (fun a W hR hS hdep K hK => ?_) ?_
      · have e149 : a.tmps[149]?.getD undef = (bif X23 then (.int .i64 f.ttl) else undef) := slot_of (hdep 25 (by decide +kernel))
        have e147 : a.tmps[147]?.getD undef = .bool X23 := slot_of (hdep 23 (by decide +kernel))
        have g147 : a.tmps[147]? = some (.bool X23) := slot_at (show _ = 168 from hS.size) (by decide) (hdep 23 (by decide +kernel))
        try clear hS
        all_goals (cases X23)
        all_goals
          try dsimp only [cond] at *
          go_simp
          exact hK _ _ (Below.refl _ _) (by first | rfl | simp)
      refine soup_cons rfl rfl (fun a W hR hS hdep K hK => ?_) ?_
      · have e147 : a.tmps[147]?.getD undef = .bool X23 := slot_of (hdep 23 (by decide +kernel))
        have e150 : a.tmps[150]?.getD undef = (bif X23 then (.bool (decide (f.ttl ≤ 10800))) else undef) := slot_of (hdep 26 (by decide +kernel))
        try clear hS
        all_goals (cases X23)
        all_goals
          try dsimp only [cond] at *
          go_simp
          exact hK _ _ (Below.refl _ _) (by first | rfl | (rw [HX27.out]; rfl) | (rw [HX27.out]; simp) | simp [HX27.out])
      refine soup_cons rfl rfl (fun a W hR hS hdep K hK => ?_) ?_
      · have e151 : a.tmps[151]?.getD undef = .bool X27 := slot_of (hdep 27 (by decide +kernel))
        go_simp
        exact hK _ _ (Below.refl _ _) (by first | rfl | (rw [HX28.out]; rfl) | (rw [HX28.out]; simp) | simp [HX28.out])
      refine soup_cons rfl rfl (fun a W hR hS hdep K hK => ?_) ?_
      · have e1 : a.tmps[1]?.getD undef = .pointer (some ⟨w.heap.size, 0, none⟩) := slot_of (hS.keep 1 (by kernel_rfl))
        have e152 : a.tmps[152]?.getD undef = .bool X28 := slot_of (hdep 28 (by decide +kernel))
        have g152 : a.tmps[152]? = some (.bool X28) := slot_at (show _ = 168 from hS.size) (by decide) (hdep 28 (by decide +kernel))
        try clear hS
        all_goals (cases X28)
        all_goals
          try dsimp only [cond] at *
          go_simp
          exact hK _ _ (Below.refl _ _) (by first | rfl | simp)
      refine soup_cons rfl rfl (fun a W hR hS hdep K hK => ?_) ?_
      · have e153 : a.tmps[153]?.getD undef = (bif X28 then (.pointer (some ⟨w.heap.size, 7, none⟩)) else undef) := slot_of (hdep 29 (by decide +kernel))
        have e152 : a.tmps[152]?.getD undef = .bool X28 := slot_of (hdep 28 (by decide +kernel))
        have g152 : a.tmps[152]? = some (.bool X28) := slot_at (show _ = 168 from hS.size) (by decide) (hdep 28 (by decide +kernel))
        have m0 := cell_keep hR HA7x.out
        try clear hS
        all_goals (cases X28)
        all_goals
          try dsimp only [cond] at *
          go_simp
          exact hK _ _ (Below.refl _ _) (by first | rfl | simp)
      refine soup_cons rfl rfl (fun a W hR hS hdep K hK => ?_) ?_
      · have e154 : a.tmps[154]?.getD undef = (bif X28 then (.slice za zl zc) else undef) := slot_of (hdep 30 (by decide +kernel))
        have e152 : a.tmps[152]?.getD undef = .bool X28 := slot_of (hdep 28 (by decide +kernel))
        have g152 : a.tmps[152]? = some (.bool X28) := slot_at (show _ = 168 from hS.size) (by decide) (hdep 28 (by decide +kernel))
        try clear hS
        all_goals (cases X28)
        all_goals
          try dsimp only [cond] at *
          first
          | (go_simp
             exact hK _ _ (Below.refl _ _) rfl)
          | (go_simp
             have hbx := below_on (B := ((w.alloc (.cells #[.slice na nl nc, .int .i64 f.typ, .int .i64 f.kind, .int .i64 f.rank, .int .i64 f.got, .int .i64 f.ttl, .slice sa sl sc, .slice za zl zc, .slice ba bl bc, .slice ha hl hc, .slice ma ml mc, .slice xa xl xc, .slice ta tl tc] 36)).alloc (.cells #[.slice ba bl bc, .slice ha hl hc, .slice ma ml mc, .slice xa xl xc, .slice ta tl tc] 34)).heap.size) (Below.drew (Below.refl _ _)) hR (Nat.le_refl _)
             refine (HZB.out _ (HF2.out.zone.below hbx (Nat.le_refl _))).mono ?_
             rintro e W' ⟨rfl, rfl⟩
             exact hK _ _ (Below.refl _ _) rfl)
      refine soup_cons rfl rfl (fun a W hR hS hdep K hK => ?_) ?_
      · have e152 : a.tmps[152]?.getD undef = .bool X28 := slot_of (hdep 28 (by decide +kernel))
        have e155 : a.tmps[155]?.getD undef = (bif X28 then (.bool ZB) else undef) := slot_of (hdep 31 (by decide +kernel))
        try clear hS
        all_goals (cases X28)
        all_goals
          try dsimp only [cond] at *
          go_simp
          exact hK _ _ (Below.refl _ _) (by first | rfl | (rw [HX32.out]; rfl) | (rw [HX32.out]; simp) | simp [HX32.out])
      refine soup_cons rfl rfl (fun a W hR hS hdep K hK => ?_) ?_
      · have e156 : a.tmps[156]?.getD undef = .bool X32 := slot_of (hdep 32 (by decide +kernel))
        go_simp
        exact hK _ _ (Below.refl _ _) (by first | rfl | (rw [HX33.out]; rfl) | (rw [HX33.out]; simp) | simp [HX33.out])
      refine soup_cons rfl rfl (fun a W hR hS hdep K hK => ?_) ?_
      · have e1 : a.tmps[1]?.getD undef = .pointer (some ⟨w.heap.size, 0, none⟩) := slot_of (hS.keep 1 (by kernel_rfl))
        have e157 : a.tmps[157]?.getD undef = .bool X33 := slot_of (hdep 33 (by decide +kernel))
        have g157 : a.tmps[157]? = some (.bool X33) := slot_at (show _ = 168 from hS.size) (by decide) (hdep 33 (by decide +kernel))
        try clear hS
        all_goals (cases X33)
        all_goals
          try dsimp only [cond] at *
          go_simp
          exact hK _ _ (Below.refl _ _) (by first | rfl | simp)
      refine soup_cons rfl rfl (fun a W hR hS hdep K hK => ?_) ?_
      · have e158 : a.tmps[158]?.getD undef = (bif X33 then (.pointer (some ⟨w.heap.size, 0, none⟩)) else undef) := slot_of (hdep 34 (by decide +kernel))
        have e157 : a.tmps[157]?.getD undef = .bool X33 := slot_of (hdep 33 (by decide +kernel))
        have g157 : a.tmps[157]? = some (.bool X33) := slot_at (show _ = 168 from hS.size) (by decide) (hdep 33 (by decide +kernel))
        have m0 := cell_keep hR HA0x.out
        try clear hS
        all_goals (cases X33)
        all_goals
          try dsimp only [cond] at *
          go_simp
          exact hK _ _ (Below.refl _ _) (by first | rfl | simp)
      refine soup_cons rfl rfl (fun a W hR hS hdep K hK => ?_) ?_
      · have e1 : a.tmps[1]?.getD undef = .pointer (some ⟨w.heap.size, 0, none⟩) := slot_of (hS.keep 1 (by kernel_rfl))
        have e157 : a.tmps[157]?.getD undef = .bool X33 := slot_of (hdep 33 (by decide +kernel))
        have g157 : a.tmps[157]? = some (.bool X33) := slot_at (show _ = 168 from hS.size) (by decide) (hdep 33 (by decide +kernel))
        try clear hS
        all_goals (cases X33)
        all_goals
          try dsimp only [cond] at *
          go_simp
          exact hK _ _ (Below.refl _ _) (by first | rfl | simp)
      refine soup_cons rfl rfl (fun a W hR hS hdep K hK => ?_) ?_
      · have e160 : a.tmps[160]?.getD undef = (bif X33 then (.pointer (some ⟨w.heap.size, 7, none⟩)) else undef) := slot_of (hdep 36 (by decide +kernel))
        have e157 : a.tmps[157]?.getD undef = .bool X33 := slot_of (hdep 33 (by decide +kernel))
        have g157 : a.tmps[157]? = some (.bool X33) := slot_at (show _ = 168 from hS.size) (by decide) (hdep 33 (by decide +kernel))
        have m0 := cell_keep hR HA7x.out
        try clear hS
        all_goals (cases X33)
        all_goals
          try dsimp only [cond] at *
          go_simp
          exact hK _ _ (Below.refl _ _) (by first | rfl | simp)
      refine soup_cons rfl rfl (fun a W hR hS hdep K hK => ?_) ?_
      · have e159 : a.tmps[159]?.getD undef = (bif X33 then (.slice na nl nc) else undef) := slot_of (hdep 35 (by decide +kernel))
        have e161 : a.tmps[161]?.getD undef = (bif X33 then (.slice za zl zc) else undef) := slot_of (hdep 37 (by decide +kernel))
        have e157 : a.tmps[157]?.getD undef = .bool X33 := slot_of (hdep 33 (by decide +kernel))
        have g157 : a.tmps[157]? = some (.bool X33) := slot_at (show _ = 168 from hS.size) (by decide) (hdep 33 (by decide +kernel))
        try clear hS
        all_goals (cases X33)
        all_goals
          try dsimp only [cond] at *
          first
          | (go_simp
             exact hK _ _ (Below.refl _ _) rfl)
          | (go_simp
             have hbx := below_on (B := ((w.alloc (.cells #[.slice na nl nc, .int .i64 f.typ, .int .i64 f.kind, .int .i64 f.rank, .int .i64 f.got, .int .i64 f.ttl, .slice sa sl sc, .slice za zl zc, .slice ba bl bc, .slice ha hl hc, .slice ma ml mc, .slice xa xl xc, .slice ta tl tc] 36)).alloc (.cells #[.slice ba bl bc, .slice ha hl hc, .slice ma ml mc, .slice xa xl xc, .slice ta tl tc] 34)).heap.size) (Below.drew (Below.refl _ _)) hR (Nat.le_refl _)
             refine (HUB.out _ (HF2.out.name.below hbx (Nat.le_refl _)) (HF2.out.zone.below hbx (Nat.le_refl _))).mono ?_
             rintro e W' ⟨rfl, hb⟩
             exact hK _ _ hb rfl)
      refine soup_cons rfl rfl (fun a W hR hS hdep K hK => ?_) ?_
      · have e157 : a.tmps[157]?.getD undef = .bool X33 := slot_of (hdep 33 (by decide +kernel))
        have e162 : a.tmps[162]?.getD undef = (bif X33 then (.bool UB) else undef) := slot_of (hdep 38 (by decide +kernel))
        try clear hS
        all_goals (cases X33)
        all_goals
          try dsimp only [cond] at *
          go_simp
          exact hK _ _ (Below.refl _ _) (by first | rfl | (rw [HX39.out]; rfl) | (rw [HX39.out]; simp) | simp [HX39.out])
      refine soup_cons rfl rfl (fun a W hR hS hdep K hK => ?_) ?_
      · have e163 : a.tmps[163]?.getD undef = .bool X39 := slot_of (hdep 39 (by decide +kernel))
        go_simp
        exact hK _ _ (Below.refl _ _) (by first | rfl | (rw [HX40.out]; rfl) | (rw [HX40.out]; simp) | simp [HX40.out])
      refine soup_cons rfl rfl (fun a W hR hS hdep K hK => ?_) ?_
      · have e3 : a.tmps[3]?.getD undef = .pointer (some ⟨(w.heap.size + 1), 0, none⟩) := slot_of (hS.keep 3 (by kernel_rfl))
        have e164 : a.tmps[164]?.getD undef = .bool X40 := slot_of (hdep 40 (by decide +kernel))
        have g164 : a.tmps[164]? = some (.bool X40) := slot_at (show _ = 168 from hS.size) (by decide) (hdep 40 (by decide +kernel))
        have m0 := cell_keep hR HD0x.out
        have m1 := cell_keep hR HD1x.out
        have m2 := cell_keep hR HD2x.out
        have m3 := cell_keep hR HD3x.out
        have m4 := cell_keep hR HD4x.out
        try clear hS
        all_goals (cases X40)
        all_goals
          try dsimp only [cond] at *
          go_simp
          exact hK _ _ (Below.refl _ _) (by first | rfl | simp)
      refine soup_cons rfl rfl (fun a W hR hS hdep K hK => ?_) ?_
      · have e165 : a.tmps[165]?.getD undef = (bif X40 then (.agg #[.slice ba bl bc, .slice ha hl hc, .slice ma ml mc, .slice xa xl xc, .slice ta tl tc]) else undef) := slot_of (hdep 41 (by decide +kernel))
        have e164 : a.tmps[164]?.getD undef = .bool X40 := slot_of (hdep 40 (by decide +kernel))
        have g164 : a.tmps[164]? = some (.bool X40) := slot_at (show _ = 168 from hS.size) (by decide) (hdep 40 (by decide +kernel))
        try clear hS
        all_goals (cases X40)
        all_goals
          try dsimp only [cond] at *
          first
          | (go_simp
             exact hK _ _ (Below.refl _ _) rfl)
          | (go_simp
             have hbx := below_on (B := ((w.alloc (.cells #[.slice na nl nc, .int .i64 f.typ, .int .i64 f.kind, .int .i64 f.rank, .int .i64 f.got, .int .i64 f.ttl, .slice sa sl sc, .slice za zl zc, .slice ba bl bc, .slice ha hl hc, .slice ma ml mc, .slice xa xl xc, .slice ta tl tc] 36)).alloc (.cells #[.slice ba bl bc, .slice ha hl hc, .slice ma ml mc, .slice xa xl xc, .slice ta tl tc] 34)).heap.size) (Below.drew (Below.refl _ _)) hR (Nat.le_refl _)
             refine (HAB.out _ (HF2.out.soa.on hbx)).mono ?_
             rintro e W' ⟨rfl, hb⟩
             exact hK _ _ hb rfl)
      refine soup_cons rfl rfl (fun a W hR hS hdep K hK => ?_) ?_
      · have e164 : a.tmps[164]?.getD undef = .bool X40 := slot_of (hdep 40 (by decide +kernel))
        have e166 : a.tmps[166]?.getD undef = (bif X40 then (.bool AB) else undef) := slot_of (hdep 42 (by decide +kernel))
        try clear hS
        all_goals (cases X40)
        all_goals
          try dsimp only [cond] at *
          go_simp
          exact hK _ _ (Below.refl _ _) (by first | rfl | (rw [HX43.out]; rfl) | (rw [HX43.out]; simp) | simp [HX43.out])
      refine soup_cons rfl rfl (fun a W hR hS hdep K hK => ?_) ?_
      · have e167 : a.tmps[167]?.getD undef = .bool X43 := slot_of (hdep 43 (by decide +kernel))
        go_simp
        exact hK _ _ (Below.refl _ _) (by first | rfl | simp)
      exact fun j h1 h2 => absurd h1 (by simp only [List.size_toArray, List.length_cons, List.length_nil]; omega)
    · go_wp2_with fail
      clear q2 q3
      obtain ⟨X7, hX7⟩ : ∃ q : Bool, q = ((f.kind == 2) == TB) := ⟨_, rfl⟩
      have HX7 := Lib.hid hX7
      clear hX7
      obtain ⟨X11, hX11⟩ : ∃ q : Bool, q = (f.kind == 2) := ⟨_, rfl⟩
      have HX11 := Lib.hid hX11
      clear hX11
      obtain ⟨X15, hX15⟩ : ∃ q : Bool, q = (X11 || (f.typ == 0)) := ⟨_, rfl⟩
      have HX15 := Lib.hid hX15
      clear hX15
      obtain ⟨X16, hX16⟩ : ∃ q : Bool, q = (X7 && X15) := ⟨_, rfl⟩
      have HX16 := Lib.hid hX16
      clear hX16
      obtain ⟨X17, hX17⟩ : ∃ q : Bool, q = X16 := ⟨_, rfl⟩
      have HX17 := Lib.hid hX17
      clear hX17
      obtain ⟨X22, hX22⟩ : ∃ q : Bool, q = (X17 && (((sl : Int)) == 0)) := ⟨_, rfl⟩
      have HX22 := Lib.hid hX22
      clear hX22
      obtain ⟨X23, hX23⟩ : ∃ q : Bool, q = X22 := ⟨_, rfl⟩
      have HX23 := Lib.hid hX23
      clear hX23
      obtain ⟨X27, hX27⟩ : ∃ q : Bool, q = (X23 && (decide (f.ttl ≤ 10800))) := ⟨_, rfl⟩
      have HX27 := Lib.hid hX27
      clear hX27
      obtain ⟨X28, hX28⟩ : ∃ q : Bool, q = X27 := ⟨_, rfl⟩
      have HX28 := Lib.hid hX28
      clear hX28
      obtain ⟨X32, hX32⟩ : ∃ q : Bool, q = (X28 && ZB) := ⟨_, rfl⟩
      have HX32 := Lib.hid hX32
      clear hX32
      obtain ⟨X33, hX33⟩ : ∃ q : Bool, q = X32 := ⟨_, rfl⟩
      have HX33 := Lib.hid hX33
      clear hX33
      obtain ⟨X39, hX39⟩ : ∃ q : Bool, q = (X33 && UB) := ⟨_, rfl⟩
      have HX39 := Lib.hid hX39
      clear hX39
      obtain ⟨X40, hX40⟩ : ∃ q : Bool, q = X39 := ⟨_, rfl⟩
      have HX40 := Lib.hid hX40
      clear hX40
      obtain ⟨X43, hX43⟩ : ∃ q : Bool, q = (X40 && AB) := ⟨_, rfl⟩
      have HX43 := Lib.hid hX43
      clear hX43
      refine wp_soup0 (m := 168) (by kernel_rfl) (fun x y => Below x.heap.size x y) (fun i v xw => match i with | 0 => v = .pointer (some ⟨w.heap.size, 2, none⟩) | 1 => v = .int .i64 f.kind | 2 => v = .bool (f.kind == 2) | 3 => v = .pointer (some ⟨w.heap.size, 1, none⟩) | 4 => v = .int .i64 f.typ | 5 => v = .bool TB | 6 => v = .bool ((f.kind == 2) == TB) | 7 => v = .bool X7 | 8 => v = (bif X7 then (.pointer (some ⟨w.heap.size, 2, none⟩)) else undef) | 9 => v = (bif X7 then (.int .i64 f.kind) else undef) | 10 => v = (bif X7 then (.bool (f.kind == 2)) else undef) | 11 => v = (bif X7 then (.bool X11) else undef) | 12 => v = (bif X7 then ((bif X11 then undef else (.pointer (some ⟨w.heap.size, 1, none⟩)))) else undef) | 13 => v = (bif X7 then ((bif X11 then undef else (.int .i64 f.typ))) else undef) | 14 => v = (bif X7 then ((bif X11 then undef else (.bool (f.typ == 0)))) else undef) | 15 => v = (bif X7 then (.bool X15) else undef) | 16 => v = .bool X16 | 17 => v = .bool X17 | 18 => v = (bif X17 then (.pointer (some ⟨w.heap.size, 6, none⟩)) else undef) | 19 => v = (bif X17 then (.slice sa sl sc) else undef) | 20 => v = (bif X17 then (.int .i64 ((sl : Int))) else undef) | 21 => v = (bif X17 then (.bool (((sl : Int)) == 0)) else undef) | 22 => v = .bool X22 | 23 => v = .bool X23 | 24 => v = (bif X23 then (.pointer (some ⟨w.heap.size, 5, none⟩)) else undef) | 25 => v = (bif X23 then (.int .i64 f.ttl) else undef) | 26 => v = (bif X23 then (.bool (decide (f.ttl ≤ 10800))) else undef) | 27 => v = .bool X27 | 28 => v = .bool X28 | 29 => v = (bif X28 then (.pointer (some ⟨w.heap.size, 7, none⟩)) else undef) | 30 => v = (bif X28 then (.slice za zl zc) else undef) | 31 => v = (bif X28 then (.bool ZB) else undef) | 32 => v = .bool X32 | 33 => v = .bool X33 | 34 => v = (bif X33 then (.pointer (some ⟨w.heap.size, 0, none⟩)) else undef) | 35 => v = (bif X33 then (.slice na nl nc) else undef) | 36 => v = (bif X33 then (.pointer (some ⟨w.heap.size, 7, none⟩)) else undef) | 37 => v = (bif X33 then (.slice za zl zc) else undef) | 38 => v = (bif X33 then (.bool UB) else undef) | 39 => v = .bool X39 | 40 => v = .bool X40 | 41 => v = (bif X40 then (.agg #[.slice ba bl bc, .slice ha hl hc, .slice ma ml mc, .slice xa xl xc, .slice ta tl tc]) else undef) | 42 => v = (bif X40 then (.bool AB) else undef) | 43 => v = .bool X43 | 44 => v = .bool X43 | _ => True) rfl (by kernel_rfl) (fun _ _ _ h1 h2 => below_on h1 h2 (Nat.le_refl _)) (Below.refl _ _) (fun _ _ _ _ h _ => h) (dst_but 45 (by kernel_rfl) (fun _ _ h => h)) ?_ ?_
      rotate_left
      · intro a W hR hS hdep
        have e2 : a.tmps.getD 2 undef = .bool X43 := hdep 44 (by decide +kernel)
        obtain ⟨T, df⟩ := a
        obtain rfl : df = [] := hS.defers
        have hT : T = #[T.getD 0 undef, T.getD 1 undef, T.getD 2 undef, T.getD 3 undef, T.getD 4 undef, T.getD 5 undef, T.getD 6 undef, T.getD 7 undef, T.getD 8 undef, T.getD 9 undef, T.getD 10 undef, T.getD 11 undef, T.getD 12 undef, T.getD 13 undef, T.getD 14 undef, T.getD 15 undef, T.getD 16 undef, T.getD 17 undef, T.getD 18 undef, T.getD 19 undef, T.getD 20 undef, T.getD 21 undef, T.getD 22 undef, T.getD 23 undef, T.getD 24 undef, T.getD 25 undef, T.getD 26 undef, T.getD 27 undef, T.getD 28 undef, T.getD 29 undef, T.getD 30 undef, T.getD 31 undef, T.getD 32 undef, T.getD 33 undef, T.getD 34 undef, T.getD 35 undef, T.getD 36 undef, T.getD 37 undef, T.getD 38 undef, T.getD 39 undef, T.getD 40 undef, T.getD 41 undef, T.getD 42 undef, T.getD 43 undef, T.getD 44 undef, T.getD 45 undef, T.getD 46 undef, T.getD 47 undef, T.getD 48 undef, T.getD 49 undef, T.getD 50 undef, T.getD 51 undef, T.getD 52 undef, T.getD 53 undef, T.getD 54 undef, T.getD 55 undef, T.getD 56 undef, T.getD 57 undef, T.getD 58 undef, T.getD 59 undef, T.getD 60 undef, T.getD 61 undef, T.getD 62 undef, T.getD 63 undef, T.getD 64 undef, T.getD 65 undef, T.getD 66 undef, T.getD 67 undef, T.getD 68 undef, T.getD 69 undef, T.getD 70 undef, T.getD 71 undef, T.getD 72 undef, T.getD 73 undef, T.getD 74 undef, T.getD 75 undef, T.getD 76 undef, T.getD 77 undef, T.getD 78 undef, T.getD 79 undef, T.getD 80 undef, T.getD 81 undef, T.getD 82 undef, T.getD 83 undef, T.getD 84 undef, T.getD 85 undef, T.getD 86 undef, T.getD 87 undef, T.getD 88 undef, T.getD 89 undef, T.getD 90 undef, T.getD 91 undef, T.getD 92 undef, T.getD 93 undef, T.getD 94 undef, T.getD 95 undef, T.getD 96 undef, T.getD 97 undef, T.getD 98 undef, T.getD 99 undef, T.getD 100 undef, T.getD 101 undef, T.getD 102 undef, T.getD 103 undef, T.getD 104 undef, T.getD 105 undef, T.getD 106 undef, T.getD 107 undef, T.getD 108 undef, T.getD 109 undef, T.getD 110 undef, T.getD 111 undef, T.getD 112 undef, T.getD 113 undef, T.getD 114 undef, T.getD 115 undef, T.getD 116 undef, T.getD 117 undef, T.getD 118 undef, T.getD 119 undef, T.getD 120 undef, T.getD 121 undef, T.getD 122 undef, T.getD 123 undef, T.getD 124 undef, T.getD 125 undef, T.getD 126 undef, T.getD 127 undef, T.getD 128 undef, T.getD 129 undef, T.getD 130 undef, T.getD 131 undef, T.getD 132 undef, T.getD 133 undef, T.getD 134 undef, T.getD 135 undef, T.getD 136 undef, T.getD 137 undef, T.getD 138 undef, T.getD 139 undef, T.getD 140 undef, T.getD 141 undef, T.getD 142 undef, T.getD 143 undef, T.getD 144 undef, T.getD 145 undef, T.getD 146 undef, T.getD 147 undef, T.getD 148 undef, T.getD 149 undef, T.getD 150 undef, T.getD 151 undef, T.getD 152 undef, T.getD 153 undef, T.getD 154 undef, T.getD 155 undef, T.getD 156 undef, T.getD 157 undef, T.getD 158 undef, T.getD 159 undef, T.getD 160 undef, T.getD 161 undef, T.getD 162 undef, T.getD 163 undef, T.getD 164 undef, T.getD 165 undef, T.getD 166 undef, T.getD 167 undef] := arr_eta T 168 hS.size
        have k2 : T.getD 2 undef = .bool X43 := e2
        clear hS hdep
        rw [hT]
        rw [k2]
        clear k2 e2
        clear hT
        generalize T.getD 0 undef = u0
        generalize T.getD 1 undef = u1
        generalize T.getD 3 undef = u3
        generalize T.getD 4 undef = u4
        generalize T.getD 5 undef = u5
        generalize T.getD 6 undef = u6
        generalize T.getD 7 undef = u7
        generalize T.getD 8 undef = u8
        generalize T.getD 9 undef = u9
        generalize T.getD 10 undef = u10
        generalize T.getD 11 undef = u11
        generalize T.getD 12 undef = u12
        generalize T.getD 13 undef = u13
        generalize T.getD 14 undef = u14
        generalize T.getD 15 undef = u15
        generalize T.getD 16 undef = u16
        generalize T.getD 17 undef = u17
        generalize T.getD 18 undef = u18
        generalize T.getD 19 undef = u19
        generalize T.getD 20 undef = u20
        generalize T.getD 21 undef = u21
        generalize T.getD 22 undef = u22
        generalize T.getD 23 undef = u23
        generalize T.getD 24 undef = u24
        generalize T.getD 25 undef = u25
        generalize T.getD 26 undef = u26
        generalize T.getD 27 undef = u27
        generalize T.getD 28 undef = u28
        generalize T.getD 29 undef = u29
        generalize T.getD 30 undef = u30
        generalize T.getD 31 undef = u31
        generalize T.getD 32 undef = u32
        generalize T.getD 33 undef = u33
        generalize T.getD 34 undef = u34
        generalize T.getD 35 undef = u35
        generalize T.getD 36 undef = u36
        generalize T.getD 37 undef = u37
        generalize T.getD 38 undef = u38
        generalize T.getD 39 undef = u39
        generalize T.getD 40 undef = u40
        generalize T.getD 41 undef = u41
        generalize T.getD 42 undef = u42
        generalize T.getD 43 undef = u43
        generalize T.getD 44 undef = u44
        generalize T.getD 45 undef = u45
        generalize T.getD 46 undef = u46
        generalize T.getD 47 undef = u47
        generalize T.getD 48 undef = u48
        generalize T.getD 49 undef = u49
        generalize T.getD 50 undef = u50
        generalize T.getD 51 undef = u51
        generalize T.getD 52 undef = u52
        generalize T.getD 53 undef = u53
        generalize T.getD 54 undef = u54
        generalize T.getD 55 undef = u55
        generalize T.getD 56 undef = u56
        generalize T.getD 57 undef = u57
        generalize T.getD 58 undef = u58
        generalize T.getD 59 undef = u59
        generalize T.getD 60 undef = u60
        generalize T.getD 61 undef = u61
        generalize T.getD 62 undef = u62
        generalize T.getD 63 undef = u63
        generalize T.getD 64 undef = u64
        generalize T.getD 65 undef = u65
        generalize T.getD 66 undef = u66
        generalize T.getD 67 undef = u67
        generalize T.getD 68 undef = u68
        generalize T.getD 69 undef = u69
        generalize T.getD 70 undef = u70
        generalize T.getD 71 undef = u71
        generalize T.getD 72 undef = u72
        generalize T.getD 73 undef = u73
        generalize T.getD 74 undef = u74
        generalize T.getD 75 undef = u75
        generalize T.getD 76 undef = u76
        generalize T.getD 77 undef = u77
        generalize T.getD 78 undef = u78
        generalize T.getD 79 undef = u79
        generalize T.getD 80 undef = u80
        generalize T.getD 81 undef = u81
        generalize T.getD 82 undef = u82
        generalize T.getD 83 undef = u83
        generalize T.getD 84 undef = u84
        generalize T.getD 85 undef = u85
        generalize T.getD 86 undef = u86
        generalize T.getD 87 undef = u87
        generalize T.getD 88 undef = u88
        generalize T.getD 89 undef = u89
        generalize T.getD 90 undef = u90
        generalize T.getD 91 undef = u91
        generalize T.getD 92 undef = u92
        generalize T.getD 93 undef = u93
        generalize T.getD 94 undef = u94
        generalize T.getD 95 undef = u95
        generalize T.getD 96 undef = u96
        generalize T.getD 97 undef = u97
        generalize T.getD 98 undef = u98
        generalize T.getD 99 undef = u99
        generalize T.getD 100 undef = u100
        generalize T.getD 101 undef = u101
        generalize T.getD 102 undef = u102
        generalize T.getD 103 undef = u103
        generalize T.getD 104 undef = u104
        generalize T.getD 105 undef = u105
        generalize T.getD 106 undef = u106
        generalize T.getD 107 undef = u107
        generalize T.getD 108 undef = u108
        generalize T.getD 109 undef = u109
        generalize T.getD 110 undef = u110
        generalize T.getD 111 undef = u111
        generalize T.getD 112 undef = u112
        generalize T.getD 113 undef = u113
        generalize T.getD 114 undef = u114
        generalize T.getD 115 undef = u115
        generalize T.getD 116 undef = u116
        generalize T.getD 117 undef = u117
        generalize T.getD 118 undef = u118
        generalize T.getD 119 undef = u119
        generalize T.getD 120 undef = u120
        generalize T.getD 121 undef = u121
        generalize T.getD 122 undef = u122
        generalize T.getD 123 undef = u123
        generalize T.getD 124 undef = u124
        generalize T.getD 125 undef = u125
        generalize T.getD 126 undef = u126
        generalize T.getD 127 undef = u127
        generalize T.getD 128 undef = u128
        generalize T.getD 129 undef = u129
        generalize T.getD 130 undef = u130
        generalize T.getD 131 undef = u131
        generalize T.getD 132 undef = u132
        generalize T.getD 133 undef = u133
        generalize T.getD 134 undef = u134
        generalize T.getD 135 undef = u135
        generalize T.getD 136 undef = u136
        generalize T.getD 137 undef = u137
        generalize T.getD 138 undef = u138
        generalize T.getD 139 undef = u139
        generalize T.getD 140 undef = u140
        generalize T.getD 141 undef = u141
        generalize T.getD 142 undef = u142
        generalize T.getD 143 undef = u143
        generalize T.getD 144 undef = u144
        generalize T.getD 145 undef = u145
        generalize T.getD 146 undef = u146
        generalize T.getD 147 undef = u147
        generalize T.getD 148 undef = u148
        generalize T.getD 149 undef = u149
        generalize T.getD 150 undef = u150
        generalize T.getD 151 undef = u151
        generalize T.getD 152 undef = u152
        generalize T.getD 153 undef = u153
        generalize T.getD 154 undef = u154
        generalize T.getD 155 undef = u155
        generalize T.getD 156 undef = u156
        generalize T.getD 157 undef = u157
        generalize T.getD 158 undef = u158
        generalize T.getD 159 undef = u159
        generalize T.getD 160 undef = u160
        generalize T.getD 161 undef = u161
        generalize T.getD 162 undef = u162
        generalize T.getD 163 undef = u163
        generalize T.getD 164 undef = u164
        generalize T.getD 165 undef = u165
        generalize T.getD 166 undef = u166
        generalize T.getD 167 undef = u167
        have HR := Lib.hid (below_on HB2.out (below_on (Below.drew (Below.refl _ _)) hR (Nat.le_refl _)) (Nat.le_refl _))
        have HVB := Lib.hid (show X43 = B by
          rw [HEa.out]
          simp only [HX43.out, HX40.out, HX39.out, HX33.out, HX32.out, HX28.out, HX27.out, HX23.out, HX22.out, HX17.out, HX16.out, HX7.out, HX15.out, HX11.out]
          exact neg_eval HK23.out (fun e => by rw [HTD.out, e]; rfl))
        clear hR
        go_wp2_with fail
        go_ret
        exact ⟨ret_bool HVB.out, HR.out⟩
      refine soup_cons rfl rfl (fun a W hR hS hdep K hK => ?_) ?_
      · have e1 : a.tmps[1]?.getD undef = .pointer (some ⟨w.heap.size, 0, none⟩) := slot_of (hS.keep 1 (by kernel_rfl))
        go_simp
        exact hK _ _ (Below.refl _ _) (by first | rfl | simp)
      refine soup_cons rfl rfl (fun a W hR hS hdep K hK => ?_) ?_
      · have e124 : a.tmps[124]?.getD undef = .pointer (some ⟨w.heap.size, 2, none⟩) := slot_of (hdep 0 (by decide +kernel))
        have m0 := cell_keep hR HA2x.out
        go_simp
        exact hK _ _ (Below.refl _ _) (by first | rfl | simp)
      refine soup_cons rfl rfl (fun a W hR hS hdep K hK => ?_) ?_
      · have e125 : a.tmps[125]?.getD undef = .int .i64 f.kind := slot_of (hdep 1 (by decide +kernel))
        go_simp
        exact hK _ _ (Below.refl _ _) (by first | rfl | simp)
      refine soup_cons rfl rfl (fun a W hR hS hdep K hK => ?_) ?_
      · have e1 : a.tmps[1]?.getD undef = .pointer (some ⟨w.heap.size, 0, none⟩) := slot_of (hS.keep 1 (by kernel_rfl))
        go_simp
        exact hK _ _ (Below.refl _ _) (by first | rfl | simp)
      refine soup_cons rfl rfl (fun a W hR hS hdep K hK => ?_) ?_
      · have e127 : a.tmps[127]?.getD undef = .pointer (some ⟨w.heap.size, 1, none⟩) := slot_of (hdep 3 (by decide +kernel))
        have m0 := cell_keep hR HA1x.out
        go_simp
        exact hK _ _ (Below.refl _ _) (by first | rfl | simp)
      refine soup_cons rfl rfl (fun a W hR hS hdep K hK => ?_) ?_
      · have e128 : a.tmps[128]?.getD undef = .int .i64 f.typ := slot_of (hdep 4 (by decide +kernel))
        go_simp
        refine (HTB.out _).mono ?_
        rintro e W' ⟨rfl, rfl⟩
        exact hK _ _ (Below.refl _ _) rfl
      refine soup_cons rfl rfl (fun a W hR hS hdep K hK => ?_) ?_
      · have e126 : a.tmps[126]?.getD undef = .bool (f.kind == 2) := slot_of (hdep 2 (by decide +kernel))
        have e129 : a.tmps[129]?.getD undef = .bool TB := slot_of (hdep 5 (by decide +kernel))
        go_simp
        exact hK _ _ (Below.refl _ _) (by first | rfl | simp)
      refine soup_cons rfl rfl (fun a W hR hS hdep K hK => ?_) ?_
      · have e130 : a.tmps[130]?.getD undef = .bool ((f.kind == 2) == TB) := slot_of (hdep 6 (by decide +kernel))
        go_simp
        exact hK _ _ (Below.refl _ _) (by first | rfl | (rw [HX7.out]; rfl) | (rw [HX7.out]; simp) | simp [HX7.out])
      refine soup_cons rfl rfl (fun a W hR hS hdep K hK => ?_) ?_
      · have e1 : a.tmps[1]?.getD undef = .pointer (some ⟨w.heap.size, 0, none⟩) := slot_of (hS.keep 1 (by kernel_rfl))
        have e131 : a.tmps[131]?.getD undef = .bool X7 := slot_of (hdep 7 (by decide +kernel))
        have g131 : a.tmps[131]? = some (.bool X7) := slot_at (show _ = 168 from hS.size) (by decide) (hdep 7 (by decide +kernel))
        try clear hS
        all_goals (cases X7)
        all_goals
          try dsimp only [cond] at *
          go_simp
          exact hK _ _ (Below.refl _ _) (by first | rfl | simp)
      refine soup_cons rfl rfl (fun a W hR hS hdep K hK => ?_) ?_
      · have e132 : a.tmps[132]?.getD undef = (bif X7 then (.pointer (some ⟨w.heap.size, 2, none⟩)) else undef) := slot_of (hdep 8 (by decide +kernel))
        have e131 : a.tmps[131]?.getD undef = .bool X7 := slot_of (hdep 7 (by decide +kernel))
        have g131 : a.tmps[131]? = some (.bool X7) := slot_at (show _ = 168 from hS.size) (by decide) (hdep 7 (by decide +kernel))
        have m0 := cell_keep hR HA2x.out
        try clear hS
        all_goals (cases X7)
        all_goals
          try dsimp only [cond] at *
          go_simp
          exact hK _ _ (Below.refl _ _) (by first | rfl | simp)
      refine soup_cons rfl rfl (fun a W hR hS hdep K hK => ?_) ?_
      · have e133 : a.tmps[133]?.getD undef = (bif X7 then (.int .i64 f.kind) else undef) := slot_of (hdep 9 (by decide +kernel))
        have e131 : a.tmps[131]?.getD undef = .bool X7 := slot_of (hdep 7 (by decide +kernel))
        have g131 : a.tmps[131]? = some (.bool X7) := slot_at (show _ = 168 from hS.size) (by decide) (hdep 7 (by decide +kernel))
        try clear hS
        all_goals (cases X7)
        all_goals
          try dsimp only [cond] at *
          go_simp
          exact hK _ _ (Below.refl _ _) (by first | rfl | simp)
      refine soup_cons rfl rfl (fun a W hR hS hdep K hK => ?_) ?_
      · have e134 : a.tmps[134]?.getD undef = (bif X7 then (.bool (f.kind == 2)) else undef) := slot_of (hdep 10 (by decide +kernel))
        have e131 : a.tmps[131]?.getD undef = .bool X7 := slot_of (hdep 7 (by decide +kernel))
        have g131 : a.tmps[131]? = some (.bool X7) := slot_at (show _ = 168 from hS.size) (by decide) (hdep 7 (by decide +kernel))
        try clear hS
        all_goals (cases X7)
        all_goals
          try dsimp only [cond] at *
          go_simp
          exact hK _ _ (Below.refl _ _) (by first | rfl | (rw [HX11.out]; rfl) | (rw [HX11.out]; simp) | simp [HX11.out])
      refine soup_cons rfl rfl (fun a W hR hS hdep K hK => ?_) ?_
      · have e1 : a.tmps[1]?.getD undef = .pointer (some ⟨w.heap.size, 0, none⟩) := slot_of (hS.keep 1 (by kernel_rfl))
        have e135 : a.tmps[135]?.getD undef = (bif X7 then (.bool X11) else undef) := slot_of (hdep 11 (by decide +kernel))
        have g135 : a.tmps[135]? = some ((bif X7 then (.bool X11) else undef)) := slot_at (show _ = 168 from hS.size) (by decide) (hdep 11 (by decide +kernel))
        try clear hS
        all_goals (cases X7)
        all_goals (cases X11)
        all_goals
          try dsimp only [cond] at *
          go_simp
          exact hK _ _ (Below.refl _ _) (by first | rfl | simp)
      refine soup_cons rfl rfl (fun a W hR hS hdep K hK => ?_) ?_
      · have e136 : a.tmps[136]?.getD undef = (bif X7 then ((bif X11 then undef else (.pointer (some ⟨w.heap.size, 1, none⟩)))) else undef) := slot_of (hdep 12 (by decide +kernel))
        have e135 : a.tmps[135]?.getD undef = (bif X7 then (.bool X11) else undef) := slot_of (hdep 11 (by decide +kernel))
        have g135 : a.tmps[135]? = some ((bif X7 then (.bool X11) else undef)) := slot_at (show _ = 168 from hS.size) (by decide) (hdep 11 (by decide +kernel))
        have m0 := cell_keep hR HA1x.out
        try clear hS
        all_goals (cases X7)
        all_goals (cases X11)
        all_goals
          try dsimp only [cond] at *
          go_simp
          exact hK _ _ (Below.refl _ _) (by first | rfl | simp)
      refine soup_cons rfl rfl (fun a W hR hS hdep K hK => ?_) ?_
      · have e137 : a.tmps[137]?.getD undef = (bif X7 then ((bif X11 then undef else (.int .i64 f.typ))) else undef) := slot_of (hdep 13 (by decide +kernel))
        have e135 : a.tmps[135]?.getD undef = (bif X7 then (.bool X11) else undef) := slot_of (hdep 11 (by decide +kernel))
        have g135 : a.tmps[135]? = some ((bif X7 then (.bool X11) else undef)) := slot_at (show _ = 168 from hS.size) (by decide) (hdep 11 (by decide +kernel))
        try clear hS
        all_goals (cases X7)
        all_goals (cases X11)
        all_goals
          try dsimp only [cond] at *
          go_simp
          exact hK _ _ (Below.refl _ _) (by first | rfl | simp)
      refine soup_cons rfl rfl (fun a W hR hS hdep K hK => ?_) ?_
      · have e135 : a.tmps[135]?.getD undef = (bif X7 then (.bool X11) else undef) := slot_of (hdep 11 (by decide +kernel))
        have e138 : a.tmps[138]?.getD undef = (bif X7 then ((bif X11 then undef else (.bool (f.typ == 0)))) else undef) := slot_of (hdep 14 (by decide +kernel))
        have e131 : a.tmps[131]?.getD undef = .bool X7 := slot_of (hdep 7 (by decide +kernel))
        have g131 : a.tmps[131]? = some (.bool X7) := slot_at (show _ = 168 from hS.size) (by decide) (hdep 7 (by decide +kernel))
        try clear hS
        all_goals (cases X11)
        all_goals (cases X7)
        all_goals
          try dsimp only [cond] at *
          go_simp
          exact hK _ _ (Below.refl _ _) (by first | rfl | (rw [HX15.out]; rfl) | (rw [HX15.out]; simp) | simp [HX15.out])
      refine soup_cons rfl rfl (fun a W hR hS hdep K hK => ?_) ?_
      · have e131 : a.tmps[131]?.getD undef = .bool X7 := slot_of (hdep 7 (by decide +kernel))
        have e139 : a.tmps[139]?.getD undef = (bif X7 then (.bool X15) else undef) := slot_of (hdep 15 (by decide +kernel))
        try clear hS
        all_goals (cases X7)
        all_goals
          try dsimp only [cond] at *
          go_simp
          exact hK _ _ (Below.refl _ _) (by first | rfl | (rw [HX16.out]; rfl) | (rw [HX16.out]; simp) | simp [HX16.out])
      refine soup_cons rfl rfl (fun a W hR hS hdep K hK => ?_) ?_
      · have e140 : a.tmps[140]?.getD undef = .bool X16 := slot_of (hdep 16 (by decide +kernel))
        go_simp
        exact hK _ _ (Below.refl _ _) (by first | rfl | (rw [HX17.out]; rfl) | (rw [HX17.out]; simp) | simp [HX17.out])
      refine soup_cons rfl rfl (fun a W hR hS hdep K hK => ?_) ?_
      · have e1 : a.tmps[1]?.getD undef = .pointer (some ⟨w.heap.size, 0, none⟩) := slot_of (hS.keep 1 (by kernel_rfl))
        have e141 : a.tmps[141]?.getD undef = .bool X17 := slot_of (hdep 17 (by decide +kernel))
        have g141 : a.tmps[141]? = some (.bool X17) := slot_at (show _ = 168 from hS.size) (by decide) (hdep 17 (by decide +kernel))
        try clear hS
        all_goals (cases X17)
        all_goals
          try dsimp only [cond] at *
          go_simp
          exact hK _ _ (Below.refl _ _) (by first | rfl | simp)
      refine soup_cons rfl rfl (fun a W hR hS hdep K hK => ?_) ?_
      · have e142 : a.tmps[142]?.getD undef = (bif X17 then (.pointer (some ⟨w.heap.size, 6, none⟩)) else undef) := slot_of (hdep 18 (by decide +kernel))
        have e141 : a.tmps[141]?.getD undef = .bool X17 := slot_of (hdep 17 (by decide +kernel))
        have g141 : a.tmps[141]? = some (.bool X17) := slot_at (show _ = 168 from hS.size) (by decide) (hdep 17 (by decide +kernel))
        have m0 := cell_keep hR HA6x.out
        try clear hS
        all_goals (cases X17)
        all_goals
          try dsimp only [cond] at *
          go_simp
          exact hK _ _ (Below.refl _ _) (by first | rfl | simp)
      refine soup_cons rfl rfl (fun a W hR hS hdep K hK => ?_) ?_
      · have e143 : a.tmps[143]?.getD undef = (bif X17 then (.slice sa sl sc) else undef) := slot_of (hdep 19 (by decide +kernel))
        have e141 : a.tmps[141]?.getD undef = .bool X17 := slot_of (hdep 17 (by decide +kernel))
        have g141 : a.tmps[141]? = some (.bool X17) := slot_at (show _ = 168 from hS.size) (by decide) (hdep 17 (by decide +kernel))
        try clear hS
        all_goals (cases X17)
        all_goals
          try dsimp only [cond] at *
          go_simp
          exact hK _ _ (Below.refl _ _) (by first | rfl | simp)
      refine soup_cons rfl rfl (fun a W hR hS hdep K hK => ?_) ?_
      · have e144 : a.tmps[144]?.getD undef = (bif X17 then (.int .i64 ((sl : Int))) else undef) := slot_of (hdep 20 (by decide +kernel))
        have e141 : a.tmps[141]?.getD undef = .bool X17 := slot_of (hdep 17 (by decide +kernel))
        have g141 : a.tmps[141]? = some (.bool X17) := slot_at (show _ = 168 from hS.size) (by decide) (hdep 17 (by decide +kernel))
        try clear hS
        all_goals (cases X17)
        all_goals
          try dsimp only [cond] at *
          go_simp
          exact hK _ _ (Below.refl _ _) (by first | rfl | simp)
      refine soup_cons rfl rfl (fun a W hR hS hdep K hK => ?_) ?_
      · have e141 : a.tmps[141]?.getD undef = .bool X17 := slot_of (hdep 17 (by decide +kernel))
        have e145 : a.tmps[145]?.getD undef = (bif X17 then (.bool (((sl : Int)) == 0)) else undef) := slot_of (hdep 21 (by decide +kernel))
        try clear hS
        all_goals (cases X17)
        all_goals
          try dsimp only [cond] at *
          go_simp
          exact hK _ _ (Below.refl _ _) (by first | rfl | (rw [HX22.out]; rfl) | (rw [HX22.out]; simp) | simp [HX22.out])
      refine soup_cons rfl rfl (fun a W hR hS hdep K hK => ?_) ?_
      · have e146 : a.tmps[146]?.getD undef = .bool X22 := slot_of (hdep 22 (by decide +kernel))
        go_simp
        exact hK _ _ (Below.refl _ _) (by first | rfl | (rw [HX23.out]; rfl) | (rw [HX23.out]; simp) | simp [HX23.out])
      refine soup_cons rfl rfl (fun a W hR hS hdep K hK => ?_) ?_
      · have e1 : a.tmps[1]?.getD undef = .pointer (some ⟨w.heap.size, 0, none⟩) := slot_of (hS.keep 1 (by kernel_rfl))
        have e147 : a.tmps[147]?.getD undef = .bool X23 := slot_of (hdep 23 (by decide +kernel))
        have g147 : a.tmps[147]? = some (.bool X23) := slot_at (show _ = 168 from hS.size) (by decide) (hdep 23 (by decide +kernel))
        try clear hS
        all_goals (cases X23)
        all_goals
          try dsimp only [cond] at *
          go_simp
          exact hK _ _ (Below.refl _ _) (by first | rfl | simp)
      refine soup_cons rfl rfl (fun a W hR hS hdep K hK => ?_) ?_
      · have e148 : a.tmps[148]?.getD undef = (bif X23 then (.pointer (some ⟨w.heap.size, 5, none⟩)) else undef) := slot_of (hdep 24 (by decide +kernel))
        have e147 : a.tmps[147]?.getD undef = .bool X23 := slot_of (hdep 23 (by decide +kernel))
        have g147 : a.tmps[147]? = some (.bool X23) := slot_at (show _ = 168 from hS.size) (by decide) (hdep 23 (by decide +kernel))
        have m0 := cell_keep hR HA5x.out
        try clear hS
        all_goals (cases X23)
        all_goals
          try dsimp only [cond] at *
          go_simp
          exact hK _ _ (Below.refl _ _) (by first | rfl | simp)
      refine soup_cons rfl rfl (fun a W hR hS hdep K hK => ?_) ?_
      · have e149 : a.tmps[149]?.getD undef = (bif X23 then (.int .i64 f.ttl) else undef) := slot_of (hdep 25 (by decide +kernel))
        have e147 : a.tmps[147]?.getD undef = .bool X23 := slot_of (hdep 23 (by decide +kernel))
        have g147 : a.tmps[147]? = some (.bool X23) := slot_at (show _ = 168 from hS.size) (by decide) (hdep 23 (by decide +kernel))
        try clear hS
        all_goals (cases X23)
        all_goals
          try dsimp only [cond] at *
          go_simp
          exact hK _ _ (Below.refl _ _) (by first | rfl | simp)
      refine soup_cons rfl rfl (fun a W hR hS hdep K hK => ?_) ?_
      · have e147 : a.tmps[147]?.getD undef = .bool X23 := slot_of (hdep 23 (by decide +kernel))
        have e150 : a.tmps[150]?.getD undef = (bif X23 then (.bool (decide (f.ttl ≤ 10800))) else undef) := slot_of (hdep 26 (by decide +kernel))
        try clear hS
        all_goals (cases X23)
        all_goals
          try dsimp only [cond] at *
          go_simp
          exact hK _ _ (Below.refl _ _) (by first | rfl | (rw [HX27.out]; rfl) | (rw [HX27.out]; simp) | simp [HX27.out])
      refine soup_cons rfl rfl (fun a W hR hS hdep K hK => ?_) ?_
      · have e151 : a.tmps[151]?.getD undef = .bool X27 := slot_of (hdep 27 (by decide +kernel))
        go_simp
        exact hK _ _ (Below.refl _ _) (by first | rfl | (rw [HX28.out]; rfl) | (rw [HX28.out]; simp) | simp [HX28.out])
      refine soup_cons rfl rfl (fun a W hR hS hdep K hK => ?_) ?_
      · have e1 : a.tmps[1]?.getD undef = .pointer (some ⟨w.heap.size, 0, none⟩) := slot_of (hS.keep 1 (by kernel_rfl))
        have e152 : a.tmps[152]?.getD undef = .bool X28 := slot_of (hdep 28 (by decide +kernel))
        have g152 : a.tmps[152]? = some (.bool X28) := slot_at (show _ = 168 from hS.size) (by decide) (hdep 28 (by decide +kernel))
        try clear hS
        all_goals (cases X28)
        all_goals
          try dsimp only [cond] at *
          go_simp
          exact hK _ _ (Below.refl _ _) (by first | rfl | simp)
      refine soup_cons rfl rfl (fun a W hR hS hdep K hK => ?_) ?_
      · have e153 : a.tmps[153]?.getD undef = (bif X28 then (.pointer (some ⟨w.heap.size, 7, none⟩)) else undef) := slot_of (hdep 29 (by decide +kernel))
        have e152 : a.tmps[152]?.getD undef = .bool X28 := slot_of (hdep 28 (by decide +kernel))
        have g152 : a.tmps[152]? = some (.bool X28) := slot_at (show _ = 168 from hS.size) (by decide) (hdep 28 (by decide +kernel))
        have m0 := cell_keep hR HA7x.out
        try clear hS
        all_goals (cases X28)
        all_goals
          try dsimp only [cond] at *
          go_simp
          exact hK _ _ (Below.refl _ _) (by first | rfl | simp)
      refine soup_cons rfl rfl (fun a W hR hS hdep K hK => ?_) ?_
      · have e154 : a.tmps[154]?.getD undef = (bif X28 then (.slice za zl zc) else undef) := slot_of (hdep 30 (by decide +kernel))
        have e152 : a.tmps[152]?.getD undef = .bool X28 := slot_of (hdep 28 (by decide +kernel))
        have g152 : a.tmps[152]? = some (.bool X28) := slot_at (show _ = 168 from hS.size) (by decide) (hdep 28 (by decide +kernel))
        try clear hS
        all_goals (cases X28)
        all_goals
          try dsimp only [cond] at *
          first
          | (go_simp
             exact hK _ _ (Below.refl _ _) rfl)
          | (go_simp
             have hbx := below_on (B := ((w.alloc (.cells #[.slice na nl nc, .int .i64 f.typ, .int .i64 f.kind, .int .i64 f.rank, .int .i64 f.got, .int .i64 f.ttl, .slice sa sl sc, .slice za zl zc, .slice ba bl bc, .slice ha hl hc, .slice ma ml mc, .slice xa xl xc, .slice ta tl tc] 36)).alloc (.cells #[.slice ba bl bc, .slice ha hl hc, .slice ma ml mc, .slice xa xl xc, .slice ta tl tc] 34)).heap.size) (Below.drew (Below.refl _ _)) hR (Nat.le_refl _)
             refine (HZB.out _ (HF2.out.zone.below hbx (Nat.le_refl _))).mono ?_
             rintro e W' ⟨rfl, rfl⟩
             exact hK _ _ (Below.refl _ _) rfl)
      refine soup_cons rfl rfl (fun a W hR hS hdep K hK => ?_) ?_
      · have e152 : a.tmps[152]?.getD undef = .bool X28 := slot_of (hdep 28 (by decide +kernel))
        have e155 : a.tmps[155]?.getD undef = (bif X28 then (.bool ZB) else undef) := slot_of (hdep 31 (by decide +kernel))
        try clear hS
        all_goals (cases X28)
        all_goals
          try dsimp only [cond] at *
          go_simp
          exact hK _ _ (Below.refl _ _) (by first | rfl | (rw [HX32.out]; rfl) | (rw [HX32.out]; simp) | simp [HX32.out])
      refine soup_cons rfl rfl (fun a W hR hS hdep K hK => ?_) ?_
      · have e156 : a.tmps[156]?.getD undef = .bool X32 := slot_of (hdep 32 (by decide +kernel))
        go_simp
        exact hK _ _ (Below.refl _ _) (by first | rfl | (rw [HX33.out]; rfl) | (rw [HX33.out]; simp) | simp [HX33.out])
      refine soup_cons rfl rfl (fun a W hR hS hdep K hK => ?_) ?_
      · have e1 : a.tmps[1]?.getD undef = .pointer (some ⟨w.heap.size, 0, none⟩) := slot_of (hS.keep 1 (by kernel_rfl))
        have e157 : a.tmps[157]?.getD undef = .bool X33 := slot_of (hdep 33 (by decide +kernel))
        have g157 : a.tmps[157]? = some (.bool X33) := slot_at (show _ = 168 from hS.size) (by decide) (hdep 33 (by decide +kernel))
        try clear hS
        all_goals (cases X33)
        all_goals
          try dsimp only [cond] at *
          go_simp
          exact hK _ _ (Below.refl _ _) (by first | rfl | simp)
      refine soup_cons rfl rfl (fun a W hR hS hdep K hK => ?_) ?_
      · have e158 : a.tmps[158]?.getD undef = (bif X33 then (.pointer (some ⟨w.heap.size, 0, none⟩)) else undef) := slot_of (hdep 34 (by decide +kernel))
        have e157 : a.tmps[157]?.getD undef = .bool X33 := slot_of (hdep 33 (by decide +kernel))
        have g157 : a.tmps[157]? = some (.bool X33) := slot_at (show _ = 168 from hS.size) (by decide) (hdep 33 (by decide +kernel))
        have m0 := cell_keep hR HA0x.out
        try clear hS
        all_goals (cases X33)
        all_goals
          try dsimp only [cond] at *
          go_simp
          exact hK _ _ (Below.refl _ _) (by first | rfl | simp)
      refine soup_cons rfl rfl (fun a W hR hS hdep K hK => ?_) ?_
      · have e1 : a.tmps[1]?.getD undef = .pointer (some ⟨w.heap.size, 0, none⟩) := slot_of (hS.keep 1 (by kernel_rfl))
        have e157 : a.tmps[157]?.getD undef = .bool X33 := slot_of (hdep 33 (by decide +kernel))
        have g157 : a.tmps[157]? = some (.bool X33) := slot_at (show _ = 168 from hS.size) (by decide) (hdep 33 (by decide +kernel))
        try clear hS
        all_goals (cases X33)
        all_goals
          try dsimp only [cond] at *
          go_simp
          exact hK _ _ (Below.refl _ _) (by first | rfl | simp)
      refine soup_cons rfl rfl (fun a W hR hS hdep K hK => ?_) ?_
      · have e160 : a.tmps[160]?.getD undef = (bif X33 then (.pointer (some ⟨w.heap.size, 7, none⟩)) else undef) := slot_of (hdep 36 (by decide +kernel))
        have e157 : a.tmps[157]?.getD undef = .bool X33 := slot_of (hdep 33 (by decide +kernel))
        have g157 : a.tmps[157]? = some (.bool X33) := slot_at (show _ = 168 from hS.size) (by decide) (hdep 33 (by decide +kernel))
        have m0 := cell_keep hR HA7x.out
        try clear hS
        all_goals (cases X33)
        all_goals
          try dsimp only [cond] at *
          go_simp
          exact hK _ _ (Below.refl _ _) (by first | rfl | simp)
      refine soup_cons rfl rfl (fun a W hR hS hdep K hK => ?_) ?_
      · have e159 : a.tmps[159]?.getD undef = (bif X33 then (.slice na nl nc) else undef) := slot_of (hdep 35 (by decide +kernel))
        have e161 : a.tmps[161]?.getD undef = (bif X33 then (.slice za zl zc) else undef) := slot_of (hdep 37 (by decide +kernel))
        have e157 : a.tmps[157]?.getD undef = .bool X33 := slot_of (hdep 33 (by decide +kernel))
        have g157 : a.tmps[157]? = some (.bool X33) := slot_at (show _ = 168 from hS.size) (by decide) (hdep 33 (by decide +kernel))
        try clear hS
        all_goals (cases X33)
        all_goals
          try dsimp only [cond] at *
          first
          | (go_simp
             exact hK _ _ (Below.refl _ _) rfl)
          | (go_simp
             have hbx := below_on (B := ((w.alloc (.cells #[.slice na nl nc, .int .i64 f.typ, .int .i64 f.kind, .int .i64 f.rank, .int .i64 f.got, .int .i64 f.ttl, .slice sa sl sc, .slice za zl zc, .slice ba bl bc, .slice ha hl hc, .slice ma ml mc, .slice xa xl xc, .slice ta tl tc] 36)).alloc (.cells #[.slice ba bl bc, .slice ha hl hc, .slice ma ml mc, .slice xa xl xc, .slice ta tl tc] 34)).heap.size) (Below.drew (Below.refl _ _)) hR (Nat.le_refl _)
             refine (HUB.out _ (HF2.out.name.below hbx (Nat.le_refl _)) (HF2.out.zone.below hbx (Nat.le_refl _))).mono ?_
             rintro e W' ⟨rfl, hb⟩
             exact hK _ _ hb rfl)
      refine soup_cons rfl rfl (fun a W hR hS hdep K hK => ?_) ?_
      · have e157 : a.tmps[157]?.getD undef = .bool X33 := slot_of (hdep 33 (by decide +kernel))
        have e162 : a.tmps[162]?.getD undef = (bif X33 then (.bool UB) else undef) := slot_of (hdep 38 (by decide +kernel))
        try clear hS
        all_goals (cases X33)
        all_goals
          try dsimp only [cond] at *
          go_simp
          exact hK _ _ (Below.refl _ _) (by first | rfl | (rw [HX39.out]; rfl) | (rw [HX39.out]; simp) | simp [HX39.out])
      refine soup_cons rfl rfl (fun a W hR hS hdep K hK => ?_) ?_
      · have e163 : a.tmps[163]?.getD undef = .bool X39 := slot_of (hdep 39 (by decide +kernel))
        go_simp
        exact hK _ _ (Below.refl _ _) (by first | rfl | (rw [HX40.out]; rfl) | (rw [HX40.out]; simp) | simp [HX40.out])
      refine soup_cons rfl rfl (fun a W hR hS hdep K hK => ?_) ?_
      · have e3 : a.tmps[3]?.getD undef = .pointer (some ⟨(w.heap.size + 1), 0, none⟩) := slot_of (hS.keep 3 (by kernel_rfl))
        have e164 : a.tmps[164]?.getD undef = .bool X40 := slot_of (hdep 40 (by decide +kernel))
        have g164 : a.tmps[164]? = some (.bool X40) := slot_at (show _ = 168 from hS.size) (by decide) (hdep 40 (by decide +kernel))
        have m0 := cell_keep hR HD0x.out
        have m1 := cell_keep hR HD1x.out
        have m2 := cell_keep hR HD2x.out
        have m3 := cell_keep hR HD3x.out
        have m4 := cell_keep hR HD4x.out
        try clear hS
        all_goals (cases X40)
        all_goals
          try dsimp only [cond] at *
          go_simp
          exact hK _ _ (Below.refl _ _) (by first | rfl | simp)
      refine soup_cons rfl rfl (fun a W hR hS hdep K hK => ?_) ?_
      · have e165 : a.tmps[165]?.getD undef = (bif X40 then (.agg #[.slice ba bl bc, .slice ha hl hc, .slice ma ml mc, .slice xa xl xc, .slice ta tl tc]) else undef) := slot_of (hdep 41 (by decide +kernel))
        have e164 : a.tmps[164]?.getD undef = .bool X40 := slot_of (hdep 40 (by decide +kernel))
        have g164 : a.tmps[164]? = some (.bool X40) := slot_at (show _ = 168 from hS.size) (by decide) (hdep 40 (by decide +kernel))
        try clear hS
        all_goals (cases X40)
        all_goals
          try dsimp only [cond] at *
          first
          | (go_simp
             exact hK _ _ (Below.refl _ _) rfl)
          | (go_simp
             have hbx := below_on (B := ((w.alloc (.cells #[.slice na nl nc, .int .i64 f.typ, .int .i64 f.kind, .int .i64 f.rank, .int .i64 f.got, .int .i64 f.ttl, .slice sa sl sc, .slice za zl zc, .slice ba bl bc, .slice ha hl hc, .slice ma ml mc, .slice xa xl xc, .slice ta tl tc] 36)).alloc (.cells #[.slice ba bl bc, .slice ha hl hc, .slice ma ml mc, .slice xa xl xc, .slice ta tl tc] 34)).heap.size) (Below.drew (Below.refl _ _)) hR (Nat.le_refl _)
             refine (HAB.out _ (HF2.out.soa.on hbx)).mono ?_
             rintro e W' ⟨rfl, hb⟩
             exact hK _ _ hb rfl)
      refine soup_cons rfl rfl (fun a W hR hS hdep K hK => ?_) ?_
      · have e164 : a.tmps[164]?.getD undef = .bool X40 := slot_of (hdep 40 (by decide +kernel))
        have e166 : a.tmps[166]?.getD undef = (bif X40 then (.bool AB) else undef) := slot_of (hdep 42 (by decide +kernel))
        try clear hS
        all_goals (cases X40)
        all_goals
          try dsimp only [cond] at *
          go_simp
          exact hK _ _ (Below.refl _ _) (by first | rfl | (rw [HX43.out]; rfl) | (rw [HX43.out]; simp) | simp [HX43.out])
      refine soup_cons rfl rfl (fun a W hR hS hdep K hK => ?_) ?_
      · have e167 : a.tmps[167]?.getD undef = .bool X43 := slot_of (hdep 43 (by decide +kernel))
        go_simp
        exact hK _ _ (Below.refl _ _) (by first | rfl | simp)
      exact fun j h1 h2 => absurd h1 (by simp only [List.size_toArray, List.length_cons, List.length_nil]; omega)
end Go.Proofs.YtpemdieejgldiaaGreat

/- law14.light: is a fact not too large? -/
import Derived.Test.YtpemdieejgldiaaGreatFown
namespace Go.Proofs.YtpemdieejgldiaaGreat
open Go.ChangeShapes Go.WideShapes Go.ChangeAt Go.RowKit

structure LightRes (f : FactP) (e : Ending) : Prop where
  ex : ∃ b, e = .returned (.bool b) ∧ (b = true → f.soa.texts.length ≤ 8796093022208 → FLen f)
theorem dataSize5 : (Tryz.prog.info? 34).map (·.size) = some 5 := by kernel_rfl
theorem dataC_all (k : DataH) (d : DataP) : (dataC k).all (·.oneCell') = true := Array.all_eq_true_iff_forall_mem.2 (fun v hv => dataK.one k d v (by simpa [dataK] using hv))
set_option maxHeartbeats 16000000 in
set_option maxRecDepth 100000 in
theorem light_any (w : World) (S : Nat → Prop) (h : FactH) (f : FactP) (hf : IsFact S w h f) :
    Calls Tryz.prog 7 #[.agg (factC h f)] w fun e w' => LightRes f e ∧ Below w.heap.size w w' := by
  have hb1 : Below w.heap.size w (w.alloc (.cells (factC h f) 36)) := (Below.refl _ _).alloc (Nat.le_refl _) _
  have hA : Blk (w.alloc (.cells (factC h f) 36)) w.heap.size (factC h f) 36 := heap_alloc_new w _
  have HF := Lib.hid hf
  have HA := Lib.hid hA
  have HB := Lib.hid hb1
  have HN := Lib.hid (And.intro hf.name.len hf.zone.len)
  have HD := Lib.hid hf.soa.len
  have hl := hf.set.hlen
  have hle := hf.set.hle
  have hmx := hf.set.hmax
  have HL := Lib.hid hl
  clear hf hA hb1 hl
  obtain ⟨na, nl, nc, sa, sl, sc, za, zl, zc, ⟨ba, bl, bc, ha, hl, hc, ma, ml, mc, xa, xl, xc, ta, tl, tc⟩⟩ := h
  simp only [factC] at HA HB
  simp only at HN HD hle hmx HL
  go_enter Tryz.func7, Tryz.ntmps7
  simp only [factC]
  go_wp2_with fail
  go_loopw [3] (fun i wr => ∃ j : Nat, j ≤ sl ∧ i = .int .i64 j ∧ Hid (Below w.heap.size w wr ∧ Blk wr w.heap.size #[.slice na nl nc, .int .i64 f.typ, .int .i64 f.kind, .int .i64 f.rank, .int .i64 f.got, .int .i64 f.ttl, .slice sa sl sc, .slice za zl zc, .slice ba bl bc, .slice ha hl hc, .slice ma ml mc, .slice xa xl xc, .slice ta tl tc] 36 ∧ ∀ q (hq : q < f.set.length), q < j → DLen f.set[q])) (fun i _ => sl - (intOf i).toNat)
  case atStart => exact ⟨0, Nat.zero_le _, rfl, HB.out, HA.out, fun j hj h => absurd h (by omega)⟩
  case round =>
    obtain ⟨j, hj, rfl, hinv⟩ := hrel
    have hbA := hinv.out.2.1
    have n6 : wr.cell? ⟨w.heap.size, 6, none⟩ = some (.slice sa sl sc) := hbA.cell 6
    by_cases hlt : j < sl
    · obtain ⟨b, off, rfl⟩ := HF.out.set.addr hlt
      obtain ⟨kd, hcs, ho, _⟩ := data_elem (HF.out.set.at hlt)
      obtain ⟨o, hox⟩ : ∃ o, o = f.set[j]'(by have := HL.out; omega) := ⟨_, rfl⟩
      rw [← hox] at ho
      have HOX := Lib.hid hox
      have HDL := Lib.hid ho.len
      have e0 := hcs 0 (by omega)
      have e1 := hcs 1 (by omega)
      have e2 := hcs 2 (by omega)
      have e3 := hcs 3 (by omega)
      have e4 := hcs 4 (by omega)
      clear hcs ho hox
      obtain ⟨ba', bl', bc', ha', hl', hc', ma', ml', mc', xa', xl', xc', ta', tl', tc'⟩ := kd
      simp [dataC, dataK] at e0 e1 e2 e3 e4
      replace e0 := cell_keep hinv.out.1 e0
      replace e1 := cell_keep hinv.out.1 e1
      replace e2 := cell_keep hinv.out.1 e2
      replace e3 := cell_keep hinv.out.1 e3
      replace e4 := cell_keep hinv.out.1 e4
      clear hbA
      go_wp2_with fail
      all_goals first | (go_ret; exact ⟨⟨_, rfl, fun e _ => absurd e (by simp)⟩, hinv.out.1.alloc hinv.out.1.size _⟩) | skip
      · have hdl := HDL.out
        have hx := hdl.host; have hx2 := hdl.mail; have hx3 := hdl.nums; have hx4 := hdl.texts
        simp only at hx hx2 hx3 hx4
        refine ⟨⟨j + 1, by omega, by go_num, Lib.hid ⟨hinv.out.1.alloc hinv.out.1.size _, hinv.out.2.1.on ((Below.refl _ _).alloc (Nat.le_refl _) _), fun q hq h => ?_⟩⟩, ?_⟩
        · rcases Nat.lt_succ_iff_lt_or_eq.1 h with h | rfl
          · exact hinv.out.2.2 q hq h
          · rw [← HOX.out]
            exact ⟨by omega, by omega, by omega, by omega⟩
        · simp [intOf]; omega
    · have n0 : wr.cell? ⟨w.heap.size, 0, none⟩ = some (.slice na nl nc) := hbA.cell 0
      have n7 : wr.cell? ⟨w.heap.size, 7, none⟩ = some (.slice za zl zc) := hbA.cell 7
      have n9 : wr.cell? ⟨w.heap.size, 9, none⟩ = some (.slice ha hl hc) := hbA.cell 9
      have n10 : wr.cell? ⟨w.heap.size, 10, none⟩ = some (.slice ma ml mc) := hbA.cell 10
      have n11 : wr.cell? ⟨w.heap.size, 11, none⟩ = some (.slice xa xl xc) := hbA.cell 11
      clear hbA
      go_wp2_with fail
      all_goals go_ret
      all_goals (refine ⟨⟨_, rfl, fun e ht => ?_⟩, hinv.out.1⟩)
      all_goals first | (cases e; done) | skip
      have e := of_decide_eq_true e
      have hn := HN.out
      have hd := HD.out
      have hL := HL.out
      have hx := hd.host; have hx2 := hd.mail; have hx3 := hd.nums; have hx4 := hd.texts
      simp only at hn hx hx2 hx3 hx4
      exact ⟨by omega, by omega, by omega, ⟨by omega, by omega, by omega, ht⟩, fun d hd => by
        obtain ⟨q, hq, rfl⟩ := List.mem_iff_getElem.1 hd
        exact hinv.out.2.2 q hq (by omega)⟩
end Go.Proofs.YtpemdieejgldiaaGreat

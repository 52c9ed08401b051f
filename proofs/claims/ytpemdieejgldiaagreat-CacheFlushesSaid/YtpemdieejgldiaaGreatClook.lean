/- Cache.Look: a fact, whatever the time. -/
import Derived.Test.YtpemdieejgldiaaGreatCat
import Derived.Test.YtpemdieejgldiaaGreatFown
namespace Go.Proofs.YtpemdieejgldiaaGreat
open Go.ChangeShapes Go.WideShapes Go.ChangeAt Go.RowKit

def zH : FactH := ⟨none, 0, 0, none, 0, 0, none, 0, 0, noDH⟩
def zF : FactP := ⟨[], 0, 0, 0, 0, 0, [], [], noP⟩
theorem zC : factC zH zF = noF := rfl
theorem zF_is (S : Nat → Prop) (w : World) : IsFact S w zH zF := by
  have hz : wfi 0 := by decide
  have hr : Row w none 0 0 [] := Row.empty (by decide) (fun _ => rfl)
  have hs : Strs w none 0 0 [] := ⟨hr, by simp⟩
  have hi : rowIn S none 0 := fun h => absurd h (by omega)
  exact ⟨hs, hi, hz, hz, hz, hz, hz, ⟨rfl, Nat.le_refl _, by decide, fun _ => rfl, fun h => absurd h (by decide)⟩, hs, hi, ⟨hr, hs, hs, hr, hs, by simp [zF, noP]⟩, ⟨hi, hi, hi, hi, hi⟩⟩
theorem look_results {tmps : Array Value} {w : World} {R : Nat} {k : FactH} {f : FactP} {b : Bool} (h6 : tmps[6]? = some (.pointer (some ⟨R, 0, none⟩))) (h7 : tmps[7]? = some (.bool b)) (hB : Blk w R (factC k f) 36) :
    (results Tryz.f12 tmps).run Tryz.prog w = .ok (.tuple #[.agg (factC k f), .bool b]) w := by
  have c0 := hB.cell 0
  have c1 := hB.cell 1
  have c2 := hB.cell 2
  have c3 := hB.cell 3
  have c4 := hB.cell 4
  have c5 := hB.cell 5
  have c6 := hB.cell 6
  have c7 := hB.cell 7
  have c8 := hB.cell 8
  have c9 := hB.cell 9
  have c10 := hB.cell 10
  have c11 := hB.cell 11
  have c12 := hB.cell 12
  simp [factC] at c0 c1 c2 c3 c4 c5 c6 c7 c8 c9 c10 c11 c12
  simp [results, go_sem, h6, h7, c0, c1, c2, c3, c4, c5, c6, c7, c8, c9, c10, c11, c12, factC]
set_option maxHeartbeats 16000000 in
set_option maxRecDepth 100000 in
theorem look_any (w : World) (B C : Nat) (most stale : Int) (k : Nat) (L : List Slot) (hC : IsCache B w C most stale k L) (na : Option Addr) (nl nc : Nat) (nm : List ByteArray) (typ : Int) (hn : Strs w na nl nc nm) (hz : sizeN nm ≤ 1099511627776) :
    Calls Tryz.prog 12 #[.pointer (some ⟨C, 0, none⟩), .slice na nl nc, .int .i64 typ] w fun e w' => (∃ h f b, e = .returned (.tuple #[.agg (factC h f), .bool b]) ∧ OwnF w.heap.size w' h f ∧ b = (atL L (keyP nm typ)).isSome ∧ f = ((atL L (keyP nm typ)).map (·.f)).getD zF) ∧ Below w.heap.size w w' := by
  have hN : Blk (w.alloc (.cells noF 36)) w.heap.size noF 36 := heap_alloc_new w _
  have hb1 : Below w.heap.size w (w.alloc (.cells noF 36)) := (Below.refl _ _).alloc (Nat.le_refl _) _
  have HN := Lib.hid hN
  have HB := Lib.hid hb1
  have HS := Lib.hid (show (w.alloc (.cells noF 36)).heap.size = w.heap.size + 1 by simp)
  have HAT := Lib.hid (at_any (w.alloc (.cells noF 36)) B C most stale k L (hC.on hb1) na nl nc nm typ (hn.below hb1 (Nat.le_refl _)) hz)
  have HO := Lib.hid (fun s (hs : atL L (keyP nm typ) = some s) => hC.slot s (atL_mem hs).1)
  clear hN hb1 hn hC
  cases ho : atL L (keyP nm typ) with
  | none =>
    rw [ho] at HAT
    go_enter Tryz.func12, Tryz.ntmps12
    go_wp2_with (first | (go_at_call 29; refine HAT.out.mono ?_; rintro e W ⟨rfl, hb2⟩; simp only [itemV]; have HN2 := Lib.hid (HN.out.on hb2); have HBE := Lib.hid (below_on HB.out hb2 (Nat.le_refl _)); clear hb2) | (refine wpList_store_row rfl 36 _ _ rfl w.heap.size noF rfl rfl 36 noF HN2.out factSize rfl (factC_all zH zF) ?_))
    refine bodyPost_ret (look_results (k := zH) (f := zF) rfl rfl (blk_setRow HN2.out noF)) rfl ?_
    refine ⟨⟨zH, zF, false, rfl, zF_is _ _, rfl, rfl⟩, ?_⟩
    exact HBE.out.grown (but_setRow _ _ _) (HBE.out.size) (fun k e => Nat.le_of_eq (Option.some.inj e))
  | some s =>
    rw [ho] at HAT
    obtain ⟨hsb, hsi, hsf, hsB, hsl⟩ := HO.out s ho
    have HSI := Lib.hid (hsi.on HB.out)
    have HSF := Lib.hid (hsf.on HB.out)
    clear hsi hsf hsb hsB
    go_enter Tryz.func12, Tryz.ntmps12
    go_wp2_with (first | (go_at_call 29; refine HAT.out.mono ?_; rintro e W ⟨rfl, hb2⟩; simp only [itemV]; have HN2 := Lib.hid (HN.out.on hb2); have HBE := Lib.hid (below_on HB.out hb2 (Nat.le_refl _)); have hi := HSI.out.on hb2; have HSF2 := Lib.hid (HSF.out.on hb2); clear hb2; have m0 : W.cell? ⟨s.b, 0, none⟩ = some (.slice s.h.na s.h.nl s.h.nc) := hi.cell 0; have m1 : W.cell? ⟨s.b, 1, none⟩ = some (.int .i64 s.f.typ) := hi.cell 1; have m2 : W.cell? ⟨s.b, 2, none⟩ = some (.int .i64 s.f.kind) := hi.cell 2; have m3 : W.cell? ⟨s.b, 3, none⟩ = some (.int .i64 s.f.rank) := hi.cell 3; have m4 : W.cell? ⟨s.b, 4, none⟩ = some (.int .i64 s.f.got) := hi.cell 4; have m5 : W.cell? ⟨s.b, 5, none⟩ = some (.int .i64 s.f.ttl) := hi.cell 5; have m6 : W.cell? ⟨s.b, 6, none⟩ = some (.slice s.h.sa s.h.sl s.h.sc) := hi.cell 6; have m7 : W.cell? ⟨s.b, 7, none⟩ = some (.slice s.h.za s.h.zl s.h.zc) := hi.cell 7; have m8 : W.cell? ⟨s.b, 8, none⟩ = some (.slice s.h.d.ba s.h.d.bl s.h.d.bc) := hi.cell 8; have m9 : W.cell? ⟨s.b, 9, none⟩ = some (.slice s.h.d.ha s.h.d.hl s.h.d.hc) := hi.cell 9; have m10 : W.cell? ⟨s.b, 10, none⟩ = some (.slice s.h.d.ma s.h.d.ml s.h.d.mc) := hi.cell 10; have m11 : W.cell? ⟨s.b, 11, none⟩ = some (.slice s.h.d.na s.h.d.nl s.h.d.nc) := hi.cell 11; have m12 : W.cell? ⟨s.b, 12, none⟩ = some (.slice s.h.d.ta s.h.d.tl s.h.d.tc) := hi.cell 12; clear hi) | (go_at_call 27; go_loud (refine (fown_any _ _ s.h s.f HSF2.out hsl).mono ?_; rintro e W3 ⟨⟨kk, rfl, hown⟩, hb3⟩; have HN3 := Lib.hid (HN2.out.on hb3); have HSZ := Lib.hid (show w.heap.size < W.heap.size from HN2.out.lt); have HOW := Lib.hid hown; have HBF := Lib.hid (below_on HBE.out hb3 (Nat.le_refl _)); clear hb3 hown m0 m1 m2 m3 m4 m5 m6 m7 m8 m9 m10 m11 m12)) | (refine wpList_store_row rfl 36 _ _ rfl w.heap.size (factC kk s.f) rfl rfl 36 noF HN3.out factSize rfl (factC_all kk s.f) ?_))
    refine bodyPost_ret (look_results (k := kk) (f := s.f) rfl rfl (blk_setRow HN3.out _)) rfl ?_
    refine ⟨⟨kk, s.f, true, rfl, ?_, rfl, rfl⟩, ?_⟩
    · exact (HOW.out.step (Same.grown (but_setRow _ _ _) (fun b ht e => by have := Option.some.inj e; have := HSZ.out; omega))).mono (fun b _ ht => ⟨ht.1, by have := HSZ.out; omega⟩)
    · exact HBF.out.grown (but_setRow _ _ _) (HBF.out.size) (fun k e => Nat.le_of_eq (Option.some.inj e))
end Go.Proofs.YtpemdieejgldiaaGreat

/- Merged texts: Kchase, Kknown, Kset, Klook, Kroots, Kwnew, Kwat, Kwname, Kmsg, Kmraw, Kmsound, Kquery, Kmix, Knext, Knote, Ksend, Kup, Knear, Kask, Kstep, Kans20, Kopenset. -/
import Derived.Test.YtgfibbjifbghdaaGreatWset1
import Derived.Test.YtgfibbjifbghdaaGreatClones
import Derived.Deep.RegionHeld3
import Derived.Laws.AppendOwn
import Derived.Test.YtgfibbjifbghdaaGreatTail
import Derived.Maps.Own
import Derived.RangeFuncNested
import Derived.RangeFuncBound
import Derived.RangeFuncCalls
import Derived.RangeFuncLeaves
import Derived.RangeFuncFrom
import Derived.Shelf.Abstract
import Derived.Shelf.RegionOpen
import Derived.WalkKit
import Derived.OwnWalkIn
import Derived.TacticsInMore
import Derived.LoopNIn
import Derived.LoopIn
namespace Go.Proofs.YtgfibbjifbghdaaGreat
section
open Go.ChangeShapes Go.WideShapes Go.ChangeAt Go.RowKit

/-- a block more, turned whole -/
theorem new_row (W : World) (cs cs' : Array Value) (T : TypeId) : Below W.heap.size W ((W.alloc (.cells cs T)).setRow W.heap.size cs') ∧ Blk ((W.alloc (.cells cs T)).setRow W.heap.size cs') W.heap.size cs' T := by
  have hal : Below W.heap.size W (W.alloc (.cells cs T)) := (Below.refl _ _).alloc (Nat.le_refl _) _
  have hA : Blk (W.alloc (.cells cs T)) W.heap.size cs T := heap_alloc_new W _
  exact ⟨hal.trans (below_of_but (but_setRow _ W.heap.size cs') (Nat.le_refl _) hal.size), blk_setRow hA _⟩
set_option maxHeartbeats 16000000 in
set_option maxRecDepth 100000 in
theorem final_none (w : World) (F : Nat) (fnow code : Int) (an so : Value) (st : Bool) (B K C L : Nat) (pl kn told : Int) (mem dn : Bool) (most stale : Int) (k : Nat) (hF : Blk w F (findC K fnow false code an so st) 74) (hK : KeepAt B w K C L pl kn told mem dn most stale k []) (na : Option Addr) (nl nc : Nat) (nm : List ByteArray) (typ : Int) (hn : Strs w na nl nc nm) (hz : sizeN nm ≤ 1099511627776) (hni : rowIn (fun b => ¬ tagged [92] w b) na nl) :
    Calls Tryz.prog 47 #[.pointer (some ⟨F, 0, none⟩), .slice na nl nc, .int .i64 typ] w fun e w' => e = .returned (.bool false) ∧ KeepAt B w' K C L pl (atT kn fnow) told mem dn most stale k [] ∧ Only [92] B w w' := by
  have HG := Lib.hid (fget_none w F fnow code an so st B K C L pl kn told mem dn most stale k hF hK na nl nc nm typ hn hz hni)
  have HB := Lib.hid hK.ca.B_le
  clear hF hK hn hz hni
  go_enter Tryz.func47, Tryz.ntmps47
  go_wp2_with (first | (go_at_call 48; refine HG.out.mono ?_; rintro e W1 ⟨rfl, hk1, ho1⟩; have H1 := Lib.hid (And.intro hk1 ho1); clear hk1 ho1) | (refine wpList_store_row rfl 100 _ _ rfl W1.heap.size noF rfl rfl 100 noF (heap_alloc_new W1 _) factSize rfl (factC_all zH zF) ?_; have hq := new_row W1 noF noF 100; (try change wpList _ _ _ _ _ ((W1.alloc (.cells noF 100)).setRow W1.heap.size noF)); generalize (W1.alloc (.cells noF 100)).setRow W1.heap.size noF = W2 at hq ⊢; have HQ := Lib.hid hq; clear hq))
  go_ret
  have hs := H1.out.2.bel.size
  have hb := HB.out
  exact ⟨rfl, H1.out.1.on HQ.out.1, H1.out.2.trans (Only.below HQ.out.1 (by omega))⟩
theorem atT_idem (a b : Int) : atT (atT a b) b = atT a b := by
  unfold atT
  split
  · omega
  · rfl
theorem three_new (w : World) (c1 c2 c3 : Array Value) (T1 T2 T3 : TypeId) : Below w.heap.size w (((w.alloc (.cells c1 T1)).alloc (.cells c2 T2)).alloc (.cells c3 T3)) ∧ Blk (((w.alloc (.cells c1 T1)).alloc (.cells c2 T2)).alloc (.cells c3 T3)) w.heap.size c1 T1 ∧ Blk (((w.alloc (.cells c1 T1)).alloc (.cells c2 T2)).alloc (.cells c3 T3)) (w.heap.size + 1) c2 T2 ∧ Blk (((w.alloc (.cells c1 T1)).alloc (.cells c2 T2)).alloc (.cells c3 T3)) (w.heap.size + 1 + 1) c3 T3 := by
  have h1 : Blk (w.alloc (.cells c1 T1)) w.heap.size c1 T1 := heap_alloc_new w _
  have b1 : Below w.heap.size w (w.alloc (.cells c1 T1)) := (Below.refl _ _).alloc (Nat.le_refl _) _
  have e1 : (w.alloc (.cells c1 T1)).heap.size = w.heap.size + 1 := Array.size_push _
  generalize w.alloc (.cells c1 T1) = W1 at h1 b1 e1 ⊢
  have h2 : Blk (W1.alloc (.cells c2 T2)) W1.heap.size c2 T2 := heap_alloc_new W1 _
  have b2 : Below W1.heap.size W1 (W1.alloc (.cells c2 T2)) := (Below.refl _ _).alloc (Nat.le_refl _) _
  have e2 : (W1.alloc (.cells c2 T2)).heap.size = W1.heap.size + 1 := Array.size_push _
  generalize W1.alloc (.cells c2 T2) = W2 at h2 b2 e2 ⊢
  have h3 : Blk (W2.alloc (.cells c3 T3)) W2.heap.size c3 T3 := heap_alloc_new W2 _
  have b3 : Below W2.heap.size W2 (W2.alloc (.cells c3 T3)) := (Below.refl _ _).alloc (Nat.le_refl _) _
  rw [e1] at h2
  rw [e2, e1] at h3
  exact ⟨below_on (below_on b1 b2 (Nat.le_refl _)) b3 (Nat.le_refl _), (h1.on b2).on b3, h2.on b3, h3⟩
theorem not_tagged_only {S : List TypeId} {B : Nat} {w w' : World} {ao : Option Addr} {n c : Nat} {ss : List ByteArray} (h : Strs w ao n c ss) (hi : rowIn (fun b => ¬ tagged S w b) ao n) (ho : Only S B w w') : rowIn (fun b => ¬ tagged S w' b) ao n := fun h0 a ha ht => hi h0 a ha (by
  obtain ⟨cs, t, e, k⟩ := ht
  have hl := h.row.mem_lt h0 a ha
  exact ⟨cs, t, (ho.keep _ hl (hi h0 a ha)) ▸ e, k⟩)
theorem only_set {S : List TypeId} {B : Nat} {w W : World} (h : Only S B w W) {R i : Nat} {v : Value} (hR : w.heap.size ≤ R) (hB : B ≤ w.heap.size) : Only S B w (W.setCell ⟨R, i, none⟩ v) :=
  ⟨h.bel.grown (but_set _ _ _ _) (by have := h.bel.size; omega) (fun j e => by cases e; omega), fun b hb hn => by
    rw [(but_set W R i v).block b (by have := h.bel.size; omega) (fun e => by have := Option.some.inj e; omega)]
    exact h.keep b hb hn⟩
theorem KeepAt.set {B : Nat} {w : World} {K C L : Nat} {pl kn told : Int} {mem dn : Bool} {most stale : Int} {k : Nat} {S : List Slot} (h : KeepAt B w K C L pl kn told mem dn most stale k S) {X : Nat} {old : Array Value} {T : TypeId} (hX : Blk w X old T) (h0 : T ≠ 92) (h1 : T ∉ fT) (h2 : T ≠ 131) (h3 : T ≠ 203) (i : Nat) (v : Value) : KeepAt B (w.setCell ⟨X, i, none⟩ v) K C L pl kn told mem dn most stale k S :=
  ⟨h.blk.but (but_set w X i v) (blk_ne h.blk hX (fun e => h0 e.symm)), h.ca.but (but_set w X i v) hX h1 h2 h3, h.base⟩
theorem chase_results {tmps : Array Value} {w : World} {R : Nat} {v : Value} {k : Int} (h4 : tmps[4]? = some (.pointer (some ⟨R, 0, none⟩))) (h5 : tmps[5]? = some (.int .i64 k)) (hB : Blk w R #[v] 29) :
    (results Tryz.f28 tmps).run Tryz.prog w = .ok (.tuple #[v, .int .i64 k]) w := by
  have c0 := hB.cell 0
  simp at c0
  simp [results, go_sem, h4, h5, c0]
set_option maxHeartbeats 16000000 in
set_option maxRecDepth 100000 in
theorem chase_none (w : World) (F : Nat) (fnow code : Int) (an so : Value) (st : Bool) (B K C L : Nat) (pl kn told : Int) (mem dn : Bool) (most stale : Int) (k : Nat) (hF : Blk w F (findC K fnow false code an so st) 74) (hK : KeepAt B w K C L pl kn told mem dn most stale k []) (na : Option Addr) (nl nc : Nat) (nm : List ByteArray) (typ cls : Int) (hn : Strs w na nl nc nm) (hz : sizeN nm ≤ 1099511627776) (hni : rowIn (fun b => ¬ tagged [92] w b) na nl) :
    Calls Tryz.prog 28 #[.pointer (some ⟨F, 0, none⟩), .agg #[.slice na nl nc, .int .i64 typ, .int .i64 cls]] w fun e w' => e = .returned (.tuple #[.slice na nl nc, .int .i64 1]) ∧ KeepAt B w' K C L pl (atT kn fnow) told mem dn most stale k [] ∧ Only [92] B w w' := by
  have HB := Lib.hid (And.intro hK.ca.B_le (And.intro hF (And.intro hK (And.intro hn (And.intro hz hni)))))
  clear hF hK hn hz hni
  go_enter Tryz.func28, Tryz.ntmps28
  go_wp2_with fail
  have h3 := three_new w #[.slice na nl nc, .int .i64 typ, .int .i64 cls] #[.slice na nl nc] #[.slice na nl nc] 38 29 29
  generalize ((w.alloc (.cells #[.slice na nl nc, .int .i64 typ, .int .i64 cls] 38)).alloc (.cells #[.slice na nl nc] 29)).alloc (.cells #[.slice na nl nc] 29) = W0 at h3 ⊢
  have q1 : W0.cell? ⟨w.heap.size, 1, none⟩ = some (.int .i64 typ) := h3.2.1.cell 1
  have a0 : W0.cell? ⟨w.heap.size + 1, 0, none⟩ = some (.slice na nl nc) := h3.2.2.1.cell 0
  have HFN := Lib.hid (final_none W0 F fnow code an so st B K C L pl kn told mem dn most stale k (HB.out.2.1.on h3.1) (HB.out.2.2.1.on h3.1) na nl nc nm typ (HB.out.2.2.2.1.below h3.1 (Nat.le_refl _)) HB.out.2.2.2.2.1 (not_tagged HB.out.2.2.2.1 HB.out.2.2.2.2.2 h3.1))
  have H3 := Lib.hid h3
  clear h3
  go_loopw [6] (fun s wr => s = .slice (some ⟨w.heap.size + 1 + 1, 0, none⟩) 1 1 ∧ wr = W0) (fun _ _ => 0)
  case atStart => exact ⟨rfl, rfl⟩
  case round =>
    obtain ⟨rfl, rfl⟩ := hrel
    cases h5 : (typ == 5)
    all_goals (
    go_wp2_with (first | (go_at_call 47; refine HFN.out.mono ?_; rintro e W1 ⟨rfl, hk1, ho1⟩; have q1' := (ho1.blk H3.out.2.1 (by decide)).cell 1; have a0' := (ho1.blk H3.out.2.2.1 (by decide)).cell 0; simp at q1' a0'; have H1 := Lib.hid (And.intro hk1 ho1); clear hk1 ho1 q1 a0) | (go_at_call 48; refine (fget_none W1 F fnow code an so st B K C L pl _ told mem dn most stale k (H1.out.2.blk (HB.out.2.1.on H3.out.1) (by decide)) H1.out.1 na nl nc nm 5 (strs_only (HB.out.2.2.2.1.below H3.out.1 (Nat.le_refl _)) (not_tagged HB.out.2.2.2.1 HB.out.2.2.2.2.2 H3.out.1) H1.out.2) HB.out.2.2.2.2.1 (not_tagged_only (HB.out.2.2.2.1.below H3.out.1 (Nat.le_refl _)) (not_tagged HB.out.2.2.2.1 HB.out.2.2.2.2.2 H3.out.1) H1.out.2)).mono ?_; rintro e W2 ⟨rfl, hk2, ho2⟩; rw [atT_idem] at hk2; have H2 := Lib.hid (And.intro hk2 (And.intro (H1.out.2.trans ho2) (And.intro ((H1.out.2.trans ho2).blk H3.out.2.1 (by decide)) ((H1.out.2.trans ho2).blk H3.out.2.2.1 (by decide))))); clear hk2 ho2 q1' a0') | (refine wpList_store_row rfl 100 _ _ rfl W2.heap.size noF rfl rfl 100 noF (heap_alloc_new W2 _) factSize rfl (factC_all zH zF) ?_; have hq := new_row W2 noF noF 100; (try change wpList _ _ _ _ _ ((W2.alloc (.cells noF 100)).setRow W2.heap.size noF)); generalize (W2.alloc (.cells noF 100)).setRow W2.heap.size noF = W3 at hq ⊢; have q1'' := (H2.out.2.2.1.on hq.1).cell 1; have a0'' := (H2.out.2.2.2.on hq.1).cell 0; have f0'' := (H2.out.2.2.2.on hq.1).free 0; simp at q1'' a0''; have HQ := Lib.hid hq; clear hq))
    have hA := H2.out.2.2.2.on HQ.out.1
    have hA2 := hA.set 0 (.slice na nl nc)
    have z1 := H3.out.1.size
    have z2 := H2.out.2.1.bel.size
    have z3 := HB.out.1
    exact bodyPost_ret (chase_results rfl rfl (by simpa using hA2)) rfl ⟨rfl, (H2.out.1.on HQ.out.1).set hA (by decide) (by decide) (by decide) (by decide) _ _, only_set (((Only.below H3.out.1 z3).trans H2.out.2.1).trans (Only.below HQ.out.1 (by omega))) (Nat.le_succ _) z3⟩)
end
section
open Go.ChangeShapes Go.WideShapes Go.ChangeAt Go.RowKit

def queC (na : Option Addr) (nl nc : Nat) (typ cls : Int) : Array Value := #[.slice na nl nc, .int .i64 typ, .int .i64 cls]
set_option maxHeartbeats 4000000 in
set_option maxRecDepth 100000 in
theorem fine_yes (w : World) (na : Option Addr) (nl nc : Nat) (nm : List ByteArray) (typ : Int) (hn : Strs w na nl nc nm) (hs : soundB nm = true) (ht : typedB typ = true) :
    Calls Tryz.prog 13 #[.agg (queC na nl nc typ 1)] w fun e w' => e = .returned (.bool true) ∧ Below w.heap.size w w' := by
  have hal : Below w.heap.size w (w.alloc (.cells (queC na nl nc typ 1) 38)) := (Below.refl _ _).alloc (Nat.le_refl _) _
  have HS := Lib.hid (sound_any _ na nl nc nm (hn.below hal (Nat.le_refl _)))
  rw [hs] at HS
  have HT := Lib.hid (fun w => typed_any w typ)
  rw [ht] at HT
  have HAL := Lib.hid hal
  simp only [queC] at HS HAL ⊢
  clear hal hn hs ht
  go_enter Tryz.func13, Tryz.ntmps13
  go_wp2_with (first | (go_at_call 23; refine HS.out.mono ?_; rintro e w2 ⟨rfl, rfl⟩) | (go_at_call 30; refine (HT.out _).mono ?_; rintro e w2 ⟨rfl, rfl⟩))
  go_ret
  exact ⟨rfl, HAL.out⟩
set_option maxHeartbeats 4000000 in
set_option maxRecDepth 100000 in
theorem know_any (w : World) (K C L : Nat) (pl kn told : Int) (mem dn : Bool) (hK : Blk w K (keepC C L pl kn told mem dn) 92) :
    Calls Tryz.prog 58 #[.pointer (some ⟨K, 0, none⟩)] w fun e w' => e = .returned (.int .i64 kn) ∧ w' = w := by
  have c3 : w.cell? ⟨K, 3, none⟩ = some (.int .i64 kn) := hK.cell 3
  clear hK
  go_enter Tryz.func58, Tryz.ntmps58
  go_wp2_with fail
  go_ret
  exact ⟨rfl, rfl⟩
/-- two blocks more, ahead of any draw -/
theorem two_news (w : World) (c1 c2 : Array Value) (T1 T2 : TypeId) : Below w.heap.size w ((w.alloc (.cells c1 T1)).alloc (.cells c2 T2)) ∧ Blk ((w.alloc (.cells c1 T1)).alloc (.cells c2 T2)) w.heap.size c1 T1 ∧ Blk ((w.alloc (.cells c1 T1)).alloc (.cells c2 T2)) (w.heap.size + 1) c2 T2 := by
  have h1 : Blk (w.alloc (.cells c1 T1)) w.heap.size c1 T1 := heap_alloc_new w _
  have b1 : Below w.heap.size w (w.alloc (.cells c1 T1)) := (Below.refl _ _).alloc (Nat.le_refl _) _
  have b2 : Below (w.alloc (.cells c1 T1)).heap.size (w.alloc (.cells c1 T1)) ((w.alloc (.cells c1 T1)).alloc (.cells c2 T2)) := (Below.refl _ _).alloc (Nat.le_refl _) _
  have h2 : Blk ((w.alloc (.cells c1 T1)).alloc (.cells c2 T2)) (w.alloc (.cells c1 T1)).heap.size c2 T2 := heap_alloc_new (w.alloc (.cells c1 T1)) _
  rw [show (w.alloc (.cells c1 T1)).heap.size = w.heap.size + 1 from Array.size_push _] at h2
  exact ⟨below_on b1 b2 (Nat.le_refl _), h1.on b2, h2⟩
theorem KeepAt.rowT {B : Nat} {w : World} {K C L : Nat} {pl kn told : Int} {mem dn : Bool} {most stale : Int} {k : Nat} {S : List Slot} (h : KeepAt B w K C L pl kn told mem dn most stale k S) {X : Nat} {old : Array Value} {T : TypeId} (hX : Blk w X old T) (h0 : T ≠ 92) (h1 : T ∉ fT) (h2 : T ≠ 131) (h3 : T ≠ 203) (cs : Array Value) : KeepAt B (w.setRow X cs) K C L pl kn told mem dn most stale k S :=
  ⟨h.blk.but (but_setRow w X cs) (blk_ne h.blk hX (fun e => h0 e.symm)), h.ca.but (but_setRow w X cs) hX h1 h2 h3, h.base⟩
def noRes : Array Value := #[.int .i64 0, .slice none 0 0, .slice none 0 0, .bool false]
theorem noRes_all : noRes.all (·.oneCell') = true := by simp [noRes, Value.oneCell']
theorem resSize : (Tryz.prog.info? 58).map (·.size) = some 4 := by kernel_rfl
theorem known_results {tmps : Array Value} {w : World} {R : Nat} {b : Bool} (h4 : tmps[8]? = some (.pointer (some ⟨R, 0, none⟩))) (h5 : tmps[9]? = some (.bool b)) (hB : Blk w R noRes 58) :
    (results Tryz.f31 tmps).run Tryz.prog w = .ok (.tuple #[.agg noRes, .bool b]) w := by
  have c0 := hB.cell 0
  have c1 := hB.cell 1
  have c2 := hB.cell 2
  have c3 := hB.cell 3
  simp [noRes] at c0 c1 c2 c3
  simp [results, go_sem, h4, h5, c0, c1, c2, c3, noRes]
set_option maxHeartbeats 16000000 in
set_option maxRecDepth 100000 in
theorem known_none (w : World) (B K C L : Nat) (pl kn told : Int) (mem dn : Bool) (most stale : Int) (k : Nat) (hK : KeepAt B w K C L pl kn told mem dn most stale k []) (na : Option Addr) (nl nc : Nat) (nm : List ByteArray) (typ now : Int) (hn : Strs w na nl nc nm) (hs : soundB nm = true) (ht : typedB typ = true) (hni : rowIn (fun b => ¬ tagged [92] w b) na nl) :
    Calls Tryz.prog 31 #[.pointer (some ⟨K, 0, none⟩), .agg (queC na nl nc typ 1), .int .i64 now, .bool false] w fun e w' => e = .returned (.tuple #[.agg noRes, .bool false]) ∧ KeepAt B w' K C L pl (atT kn (max now kn)) told mem dn most stale k [] ∧ Only [92] B w w' := by
  have hTW := two_news w (queC na nl nc typ 1) noRes 38 58
  have hz : sizeN nm ≤ 1099511627776 := by
    have h1 : nm.any badL = false ∧ nm.length ≤ 255 := by
      simp only [soundB, Bool.and_eq_true, decide_eq_true_eq, Bool.not_eq_true'] at hs
      exact ⟨hs.2.1, hs.1⟩
    have := sizeN_fine nm h1.1
    omega
  have HFI := Lib.hid (fine_yes _ na nl nc nm typ (hn.below hTW.1 (Nat.le_refl _)) hs ht)
  have HT := Lib.hid hTW
  have HK := Lib.hid (And.intro hK (And.intro hn (And.intro hz (And.intro hni hK.ca.B_le))))
  simp only [queC, noRes] at HFI HT
  simp only [queC]
  clear hTW hK hn hni hs ht hz
  go_enter Tryz.func31, Tryz.ntmps31
  go_wp2_with (first | (go_at_call 13; refine HFI.out.mono ?_; rintro e W1 ⟨rfl, hb1⟩; have H1 := Lib.hid (below_on HT.out.1 hb1 (Nat.le_refl _)); have r0 := (HT.out.2.1.on hb1).cell 0; have r1 := (HT.out.2.1.on hb1).cell 1; have r2 := (HT.out.2.1.on hb1).cell 2; simp at r0 r1 r2; have HRS := Lib.hid (HT.out.2.2.on hb1); clear hb1) | (go_at_call 58; refine (know_any W1 K C L pl kn told mem dn (HK.out.1.on H1.out).blk).mono ?_; rintro e W1 ⟨rfl, rfl⟩; have hbx : Below W1.heap.size W1 (W1.alloc (.cells #[.pointer (some ⟨K, 0, none⟩), .int .i64 (max now kn), .bool false, .int .i64 0, .slice none 0 0, .slice none 0 0, .bool false] 74)) := (Below.refl _ _).alloc (Nat.le_refl _) _; have s0 := cell_keep hbx r0; have s1 := cell_keep hbx r1; have s2 := cell_keep hbx r2; clear hbx r0 r1 r2) | (go_at_call 28; have hF := heap_alloc_new W1 (.cells (findC K (max now kn) false 0 (.slice none 0 0) (.slice none 0 0) false) 74); have hb2 := (Below.refl W1.heap.size W1).alloc (Nat.le_refl _) (.cells (findC K (max now kn) false 0 (.slice none 0 0) (.slice none 0 0) false) 74); (try change Calls _ _ _ (W1.alloc (.cells (findC K (max now kn) false 0 (.slice none 0 0) (.slice none 0 0) false) 74)) _); generalize W1.alloc (.cells (findC K (max now kn) false 0 (.slice none 0 0) (.slice none 0 0) false) 74) = W2 at hF hb2 ⊢; have H2 := Lib.hid (And.intro (below_on H1.out hb2 (Nat.le_refl _)) (HRS.out.on hb2)); refine (chase_none W2 W1.heap.size (max now kn) 0 _ _ false B K C L pl kn told mem dn most stale k hF (HK.out.1.on H2.out.1) na nl nc nm typ 1 (HK.out.2.1.below H2.out.1 (Nat.le_refl _)) HK.out.2.2.1 (not_tagged HK.out.2.1 HK.out.2.2.2.1 H2.out.1)).mono ?_; rintro e W3 ⟨rfl, hk3, ho3⟩; have H3 := Lib.hid (And.intro hk3 (And.intro ((Only.below H2.out.1 HK.out.2.2.2.2).trans ho3) (ho3.blk H2.out.2 (by decide)))); clear hk3 ho3 hF hb2 s0 s1 s2) | (refine wpList_store_row rfl 58 _ _ rfl (w.heap.size + 1) noRes rfl rfl 58 noRes H3.out.2.2 resSize rfl noRes_all ?_))
  refine bodyPost_ret (known_results rfl rfl (blk_setRow H3.out.2.2 noRes)) rfl ?_
  exact ⟨rfl, H3.out.1.rowT H3.out.2.2 (by decide) (by decide) (by decide) (by decide) noRes, only_row H3.out.2.1 (Nat.le_succ _) HK.out.2.2.2.2⟩
end
section
open Go.ChangeShapes Go.WideShapes Go.ChangeAt Go.RowKit

/-- slices of bytes, of strings, as elements -/
def rootK : Kind (List UInt8) where
  H := Option Addr × Nat
  size := 1
  cells := fun h x => #[.slice h.1 x.length h.2]
  is := fun S w h x => Byts w h.1 x.length h.2 x ∧ rowIn S h.1 x.length
  hsize := fun _ _ => rfl
  pos := by decide
  one := fun h x u hu => by
    simp at hu
    rcases hu with rfl
    rfl
  mono := fun h hS => ⟨h.1, h.2.mono h.1 hS⟩
  keep := fun h hs => ⟨h.1.keep h.2 hs, h.2⟩
def namesK : Kind (List ByteArray) where
  H := Option Addr × Nat
  size := 1
  cells := fun h x => #[.slice h.1 x.length h.2]
  is := fun S w h x => Strs w h.1 x.length h.2 x ∧ rowIn S h.1 x.length
  hsize := fun _ _ => rfl
  pos := by decide
  one := fun h x u hu => by
    simp at hu
    rcases hu with rfl
    rfl
  mono := fun h hS => ⟨h.1, h.2.mono h.1.row hS⟩
  keep := fun h hs => ⟨h.1.keep h.2 hs, h.2⟩
structure SetP where
  roots : List (List UInt8)
  cache : Int
  stale : Int
  timeout : Int
  tries : Int
  deadline : Int
  pending : Int
  zones : List (List ByteArray)
structure SetH where
  ra : Option Addr
  rc : Nat
  za : Option Addr
  zc : Nat
def setC (h : SetH) (s : SetP) : Array Value := #[.slice h.ra s.roots.length h.rc, .int .i64 s.cache, .int .i64 s.stale, .int .i64 s.timeout, .int .i64 s.tries, .int .i64 s.deadline, .int .i64 s.pending, .slice h.za s.zones.length h.zc]
structure IsSet (S : Nat → Prop) (w : World) (h : SetH) (s : SetP) : Prop where
  roots : Seq rootK S w h.ra s.roots.length h.rc s.roots
  zones : Seq namesK S w h.za s.zones.length h.zc s.zones
theorem IsSet.on {S : Nat → Prop} {w w' : World} {h : SetH} {s : SetP} (i : IsSet S w h s) (hb : Below w.heap.size w w') : IsSet S w' h s := ⟨i.roots.on hb, i.zones.on hb⟩
theorem IsSet.keep {S : Nat → Prop} {w w' : World} {h : SetH} {s : SetP} (i : IsSet S w h s) (hs : Same S w w') : IsSet S w' h s := ⟨i.roots.keep hs, i.zones.keep hs⟩
def bad4 (r : List UInt8) : Bool := decide ((r.length : Int) ≠ 4)
def badZ (z : List ByteArray) : Bool := !soundB z
def betwB (n most : Int) : Bool := decide (1 ≤ n) && decide (n ≤ most)
def settB (s : SetP) : Bool := decide (1 ≤ s.roots.length) && (decide (s.roots.length ≤ 16) && (!(s.roots.any bad4) && (!(s.zones.any badZ) && (betwB s.cache 4096 && (timeB s.stale && (betwB s.timeout 3600 && (betwB s.tries 8 && (betwB s.deadline 86400 && betwB s.pending 256))))))))
set_option maxHeartbeats 4000000 in
set_option maxRecDepth 100000 in
theorem root1_any (w : World) (ao : Option Addr) (c : Nat) (r : List UInt8) : Calls Tryz.prog 20 #[.slice ao r.length c] w fun e w' => e = .returned (.bool (bad4 r)) ∧ w' = w := by
  have HB := Lib.hid (show ((r.length : Int) != 4) = bad4 r by rw [bad4, Bool.eq_iff_iff]; simp)
  go_enter Tryz.func20, Tryz.ntmps20
  go_wp2_with fail
  go_ret
  exact ⟨ret_bool HB.out, rfl⟩
set_option maxHeartbeats 4000000 in
set_option maxRecDepth 100000 in
theorem zone1_any (w : World) (ao : Option Addr) (c : Nat) (z : List ByteArray) (hz : Strs w ao z.length c z) : Calls Tryz.prog 22 #[.slice ao z.length c] w fun e w' => e = .returned (.bool (badZ z)) ∧ w' = w := by
  have HS := Lib.hid (sound_any w ao z.length c z hz)
  clear hz
  go_enter Tryz.func22, Tryz.ntmps22
  go_wp2_with (go_at_call 23; refine HS.out.mono ?_; rintro e w' ⟨rfl, rfl⟩)
  go_ret
  exact ⟨rfl, rfl⟩
set_option maxHeartbeats 4000000 in
set_option maxRecDepth 100000 in
theorem within_any (w : World) (n most : Int) : Calls Tryz.prog 24 #[.int .i64 n, .int .i64 most] w fun e w' => e = .returned (.bool (betwB n most)) ∧ w' = w := by
  by_cases h : 1 ≤ n
  · have hb : decide (1 ≤ n) = true := decide_eq_true h
    have HB := Lib.hid (show decide (n ≤ most) = betwB n most by rw [betwB, hb]; rfl)
    clear h
    go_enter Tryz.func24, Tryz.ntmps24
    go_wp2_with fail
    go_ret
    exact ⟨ret_bool HB.out, rfl⟩
  · have hb : decide (1 ≤ n) = false := decide_eq_false h
    have HB := Lib.hid (show false = betwB n most by rw [betwB, hb]; rfl)
    clear h
    go_enter Tryz.func24, Tryz.ntmps24
    go_wp2_with fail
    go_ret
    exact ⟨ret_bool HB.out, rfl⟩
set_option maxHeartbeats 8000000 in
set_option maxRecDepth 100000 in
theorem indexRoots_any (w : World) (S : Nat → Prop) (ao : Option Addr) (c : Nat) (xs : List (List UInt8)) (hs : Seq rootK S w ao xs.length c xs) :
    Calls Tryz.prog 40 #[.slice ao xs.length c, .func (.func 20) #[] #[]] w fun e w' => e = .returned (.int .i64 (idxZ bad4 xs)) ∧ w' = w := by
  have hle := hs.hle
  have hcap := hs.hmax
  have HSQ := Lib.hid hs
  obtain ⟨n, hn⟩ : ∃ n, n = xs.length := ⟨_, rfl⟩
  rw [← hn] at hle ⊢
  have HN := Lib.hid hn
  clear hs hn
  go_enter Tryz.func40, Tryz.ntmps40
  go_wp2_with fail
  go_loopw [5, 8] (fun v i wr => ∃ k : Nat, k ≤ n ∧ i = .int .i64 k ∧ wr = w ∧ Hid (∀ j (hj : j < xs.length), j < k → bad4 xs[j] = false)) (fun _ i _ => n - (intOf i).toNat)
  case atStart => exact ⟨0, Nat.zero_le _, rfl, rfl, Lib.hid fun j hj h => absurd h (by omega)⟩
  case round =>
    obtain ⟨k, hk, rfl, rfl, hno⟩ := hrel
    by_cases hlt : k < n
    · have hkx : k < xs.length := by rw [← HN.out]; exact hlt
      obtain ⟨b, off, rfl⟩ := HSQ.out.addr hkx
      obtain ⟨h, hc, hi⟩ := HSQ.out.at hkx
      obtain ⟨x, hx⟩ : ∃ x, x = xs[k] := ⟨_, rfl⟩
      rw [← hx] at hc hi
      have c0 := hc 0 (by decide)
      simp [rootK] at c0
      have H1 := Lib.hid (root1_any wr h.1 h.2 x)
      cases hb : bad4 x
      all_goals
        have HX := Lib.hid (And.intro hx hb)
        rw [hb] at H1
        clear hx hb hc hi
        go_wp2_with (go_at_call 20; refine H1.out.mono ?_; rintro e w2 ⟨rfl, rfl⟩)
      · go_roundw
        case rel =>
          exact ⟨k + 1, by omega, by go_num, trivial, Lib.hid fun j hj h => by
            rcases Nat.lt_succ_iff_lt_or_eq.1 h with h | rfl
            · exact hno.out j hj h
            · rw [← HX.out.1]; exact HX.out.2⟩
        case measure => simp [intOf]; omega
      · go_ret
        exact ⟨ret_int (idxZ_found (by omega) (fun j hj => hno.out j (by omega) hj) (by rw [← HX.out.1]; exact HX.out.2)).symm, rfl⟩
    · go_wp2_with fail
      go_ret
      exact ⟨ret_int (idxZ_none fun j hj => hno.out j hj (by have := HN.out; omega)).symm, rfl⟩
set_option maxHeartbeats 4000000 in
set_option maxRecDepth 100000 in
theorem containsRoots_any (w : World) (S : Nat → Prop) (ao : Option Addr) (c : Nat) (xs : List (List UInt8)) (hs : Seq rootK S w ao xs.length c xs) :
    Calls Tryz.prog 19 #[.slice ao xs.length c, .func (.func 20) #[] #[]] w fun e w' => e = .returned (.bool (xs.any bad4)) ∧ w' = w := by
  have HI := Lib.hid (indexRoots_any w S ao c xs hs)
  clear hs
  go_enter Tryz.func19, Tryz.ntmps19
  go_wp2_with (go_at_call 40; refine HI.out.mono ?_; rintro e w' ⟨rfl, rfl⟩)
  go_ret
  exact ⟨ret_bool (idxZ_any bad4 xs), rfl⟩
set_option maxHeartbeats 8000000 in
set_option maxRecDepth 100000 in
theorem indexZones_any (w : World) (S : Nat → Prop) (ao : Option Addr) (c : Nat) (xs : List (List ByteArray)) (hs : Seq namesK S w ao xs.length c xs) :
    Calls Tryz.prog 41 #[.slice ao xs.length c, .func (.func 22) #[] #[]] w fun e w' => e = .returned (.int .i64 (idxZ badZ xs)) ∧ w' = w := by
  have hle := hs.hle
  have hcap := hs.hmax
  have HSQ := Lib.hid hs
  obtain ⟨n, hn⟩ : ∃ n, n = xs.length := ⟨_, rfl⟩
  rw [← hn] at hle ⊢
  have HN := Lib.hid hn
  clear hs hn
  go_enter Tryz.func41, Tryz.ntmps41
  go_wp2_with fail
  go_loopw [5, 8] (fun v i wr => ∃ k : Nat, k ≤ n ∧ i = .int .i64 k ∧ wr = w ∧ Hid (∀ j (hj : j < xs.length), j < k → badZ xs[j] = false)) (fun _ i _ => n - (intOf i).toNat)
  case atStart => exact ⟨0, Nat.zero_le _, rfl, rfl, Lib.hid fun j hj h => absurd h (by omega)⟩
  case round =>
    obtain ⟨k, hk, rfl, rfl, hno⟩ := hrel
    by_cases hlt : k < n
    · have hkx : k < xs.length := by rw [← HN.out]; exact hlt
      obtain ⟨b, off, rfl⟩ := HSQ.out.addr hkx
      obtain ⟨h, hc, hi⟩ := HSQ.out.at hkx
      obtain ⟨x, hx⟩ : ∃ x, x = xs[k] := ⟨_, rfl⟩
      rw [← hx] at hc hi
      have c0 := hc 0 (by decide)
      simp [namesK] at c0
      have H1 := Lib.hid (zone1_any wr h.1 h.2 x hi.1)
      cases hb : badZ x
      all_goals
        have HX := Lib.hid (And.intro hx hb)
        rw [hb] at H1
        clear hx hb hc hi
        go_wp2_with (go_at_call 22; refine H1.out.mono ?_; rintro e w2 ⟨rfl, rfl⟩)
      · go_roundw
        case rel =>
          exact ⟨k + 1, by omega, by go_num, trivial, Lib.hid fun j hj h => by
            rcases Nat.lt_succ_iff_lt_or_eq.1 h with h | rfl
            · exact hno.out j hj h
            · rw [← HX.out.1]; exact HX.out.2⟩
        case measure => simp [intOf]; omega
      · go_ret
        exact ⟨ret_int (idxZ_found (by omega) (fun j hj => hno.out j (by omega) hj) (by rw [← HX.out.1]; exact HX.out.2)).symm, rfl⟩
    · go_wp2_with fail
      go_ret
      exact ⟨ret_int (idxZ_none fun j hj => hno.out j hj (by have := HN.out; omega)).symm, rfl⟩
set_option maxHeartbeats 4000000 in
set_option maxRecDepth 100000 in
theorem containsZones_any (w : World) (S : Nat → Prop) (ao : Option Addr) (c : Nat) (xs : List (List ByteArray)) (hs : Seq namesK S w ao xs.length c xs) :
    Calls Tryz.prog 21 #[.slice ao xs.length c, .func (.func 22) #[] #[]] w fun e w' => e = .returned (.bool (xs.any badZ)) ∧ w' = w := by
  have HI := Lib.hid (indexZones_any w S ao c xs hs)
  clear hs
  go_enter Tryz.func21, Tryz.ntmps21
  go_wp2_with (go_at_call 41; refine HI.out.mono ?_; rintro e w' ⟨rfl, rfl⟩)
  go_ret
  exact ⟨ret_bool (idxZ_any badZ xs), rfl⟩
set_option maxHeartbeats 16000000 in
set_option maxRecDepth 100000 in
theorem setting_any (w : World) (S : Nat → Prop) (h : SetH) (s : SetP) (hs : IsSet S w h s) :
    Calls Tryz.prog 9 #[.agg (setC h s)] w fun e w' => e = .returned (.bool (settB s)) ∧ Below w.heap.size w w' := by
  have hal : Below w.heap.size w (w.alloc (.cells (setC h s) 25)) := (Below.refl _ _).alloc (Nat.le_refl _) _
  have HCR := Lib.hid (containsRoots_any _ S h.ra h.rc s.roots (hs.on hal).roots)
  have HCZ := Lib.hid (containsZones_any _ S h.za h.zc s.zones (hs.on hal).zones)
  have hcr := hs.roots.hmax
  have hlr := hs.roots.hle
  have HAL := Lib.hid hal
  obtain ⟨n, hn⟩ : ∃ n, n = s.roots.length := ⟨_, rfl⟩
  simp only [setC] at HCR HCZ HAL ⊢
  have HSB := Lib.hid (show settB s = (decide (1 ≤ n) && (decide (n ≤ 16) && (!(s.roots.any bad4) && (!(s.zones.any badZ) && (betwB s.cache 4096 && (timeB s.stale && (betwB s.timeout 3600 && (betwB s.tries 8 && (betwB s.deadline 86400 && (betwB s.pending 256))))))))))  by rw [settB, hn])
  rw [← hn] at hlr HCR HCZ HAL ⊢
  clear hn hs hal
  by_cases h1 : 1 ≤ n
  rotate_left
  · have HE := Lib.hid (show settB s = false by rw [HSB.out, decide_eq_false h1]; rfl)
    obtain rfl : n = 0 := by omega
    clear h1
    go_enter Tryz.func9, Tryz.ntmps9
    go_wp2_with fail
    go_ret
    exact ⟨ret_bool HE.out.symm, HAL.out⟩
  by_cases h2 : n ≤ 16
  rotate_left
  · have HE := Lib.hid (show settB s = false by rw [HSB.out, decide_eq_false h2, Bool.false_and, Bool.and_false])
    have n1 : ¬ ((n : Int) < 1) := by omega
    have n2 : (16 : Int) < (n : Int) := by omega
    clear h1 h2
    go_enter Tryz.func9, Tryz.ntmps9
    go_wp2_with fail
    go_ret
    exact ⟨ret_bool HE.out.symm, HAL.out⟩
  have n1 : ¬ ((n : Int) < 1) := by omega
  have n2 : ¬ (16 : Int) < (n : Int) := by omega
  rw [decide_eq_true h1, decide_eq_true h2, Bool.true_and, Bool.true_and] at HSB
  clear h1 h2
  cases hr : s.roots.any bad4 with
  | true =>
    have HE := Lib.hid (show settB s = false by rw [HSB.out, hr]; rfl)
    rw [hr] at HCR
    clear hr
    go_enter Tryz.func9, Tryz.ntmps9
    go_wp2_with ((go_at_call 19; refine HCR.out.mono ?_; rintro e w2 ⟨rfl, rfl⟩))
    go_ret
    exact ⟨ret_bool HE.out.symm, HAL.out⟩
  | false =>
  rw [hr] at HCR HSB
  clear hr
  cases hz : s.zones.any badZ with
  | true =>
    have HE := Lib.hid (show settB s = false by rw [HSB.out, hz]; rfl)
    rw [hz] at HCZ
    clear hz
    go_enter Tryz.func9, Tryz.ntmps9
    go_wp2_with (first | (go_at_call 19; refine HCR.out.mono ?_; rintro e w2 ⟨rfl, rfl⟩) | (go_at_call 21; refine HCZ.out.mono ?_; rintro e w2 ⟨rfl, rfl⟩))
    go_ret
    exact ⟨ret_bool HE.out.symm, HAL.out⟩
  | false =>
  rw [hz] at HCZ HSB
  clear hz
  cases q0 : betwB s.cache 4096 with
  | false =>
    have HE := Lib.hid (show settB s = false by rw [HSB.out, q0]; rfl)
    have Q0 := Lib.hid q0
    clear q0
    go_enter Tryz.func9, Tryz.ntmps9
    go_wp2_with (first | (go_at_call 19; refine HCR.out.mono ?_; rintro e w2 ⟨rfl, rfl⟩) | (go_at_call 21; refine HCZ.out.mono ?_; rintro e w2 ⟨rfl, rfl⟩) | (go_at_call 24; refine (within_any _ _ _).mono ?_; rintro e w2 ⟨rfl, rfl⟩; simp only [Q0.out]))
    go_ret
    exact ⟨ret_bool HE.out.symm, HAL.out⟩
  | true =>
  have Q0 := Lib.hid q0
  clear q0
  cases q1 : timeB s.stale with
  | false =>
    have HE := Lib.hid (show settB s = false by rw [HSB.out, Q0.out, q1]; rfl)
    have Q1 := Lib.hid q1
    clear q1
    go_enter Tryz.func9, Tryz.ntmps9
    go_wp2_with (first | (go_at_call 19; refine HCR.out.mono ?_; rintro e w2 ⟨rfl, rfl⟩) | (go_at_call 21; refine HCZ.out.mono ?_; rintro e w2 ⟨rfl, rfl⟩) | (go_at_call 25; refine (time_any _ _).mono ?_; rintro e w2 ⟨rfl, rfl⟩; rw [Q1.out]) | (go_at_call 24; refine (within_any _ _ _).mono ?_; rintro e w2 ⟨rfl, rfl⟩; simp only [Q0.out]))
    go_ret
    exact ⟨ret_bool HE.out.symm, HAL.out⟩
  | true =>
  have Q1 := Lib.hid q1
  clear q1
  cases q2 : betwB s.timeout 3600 with
  | false =>
    have HE := Lib.hid (show settB s = false by rw [HSB.out, Q0.out, Q1.out, q2]; rfl)
    have Q2 := Lib.hid q2
    clear q2
    go_enter Tryz.func9, Tryz.ntmps9
    go_wp2_with (first | (go_at_call 19; refine HCR.out.mono ?_; rintro e w2 ⟨rfl, rfl⟩) | (go_at_call 21; refine HCZ.out.mono ?_; rintro e w2 ⟨rfl, rfl⟩) | (go_at_call 25; refine (time_any _ _).mono ?_; rintro e w2 ⟨rfl, rfl⟩; rw [Q1.out]) | (go_at_call 24; refine (within_any _ _ _).mono ?_; rintro e w2 ⟨rfl, rfl⟩; simp only [Q0.out, Q2.out]))
    go_ret
    exact ⟨ret_bool HE.out.symm, HAL.out⟩
  | true =>
  have Q2 := Lib.hid q2
  clear q2
  cases q3 : betwB s.tries 8 with
  | false =>
    have HE := Lib.hid (show settB s = false by rw [HSB.out, Q0.out, Q1.out, Q2.out, q3]; rfl)
    have Q3 := Lib.hid q3
    clear q3
    go_enter Tryz.func9, Tryz.ntmps9
    go_wp2_with (first | (go_at_call 19; refine HCR.out.mono ?_; rintro e w2 ⟨rfl, rfl⟩) | (go_at_call 21; refine HCZ.out.mono ?_; rintro e w2 ⟨rfl, rfl⟩) | (go_at_call 25; refine (time_any _ _).mono ?_; rintro e w2 ⟨rfl, rfl⟩; rw [Q1.out]) | (go_at_call 24; refine (within_any _ _ _).mono ?_; rintro e w2 ⟨rfl, rfl⟩; simp only [Q0.out, Q2.out, Q3.out]))
    go_ret
    exact ⟨ret_bool HE.out.symm, HAL.out⟩
  | true =>
  have Q3 := Lib.hid q3
  clear q3
  cases q4 : betwB s.deadline 86400 with
  | false =>
    have HE := Lib.hid (show settB s = false by rw [HSB.out, Q0.out, Q1.out, Q2.out, Q3.out, q4]; rfl)
    have Q4 := Lib.hid q4
    clear q4
    go_enter Tryz.func9, Tryz.ntmps9
    go_wp2_with (first | (go_at_call 19; refine HCR.out.mono ?_; rintro e w2 ⟨rfl, rfl⟩) | (go_at_call 21; refine HCZ.out.mono ?_; rintro e w2 ⟨rfl, rfl⟩) | (go_at_call 25; refine (time_any _ _).mono ?_; rintro e w2 ⟨rfl, rfl⟩; rw [Q1.out]) | (go_at_call 24; refine (within_any _ _ _).mono ?_; rintro e w2 ⟨rfl, rfl⟩; simp only [Q0.out, Q2.out, Q3.out, Q4.out]))
    go_ret
    exact ⟨ret_bool HE.out.symm, HAL.out⟩
  | true =>
  have Q4 := Lib.hid q4
  clear q4
  cases q5 : betwB s.pending 256 with
  | false =>
    have HE := Lib.hid (show settB s = false by rw [HSB.out, Q0.out, Q1.out, Q2.out, Q3.out, Q4.out, q5]; rfl)
    have Q5 := Lib.hid q5
    clear q5
    go_enter Tryz.func9, Tryz.ntmps9
    go_wp2_with (first | (go_at_call 19; refine HCR.out.mono ?_; rintro e w2 ⟨rfl, rfl⟩) | (go_at_call 21; refine HCZ.out.mono ?_; rintro e w2 ⟨rfl, rfl⟩) | (go_at_call 25; refine (time_any _ _).mono ?_; rintro e w2 ⟨rfl, rfl⟩; rw [Q1.out]) | (go_at_call 24; refine (within_any _ _ _).mono ?_; rintro e w2 ⟨rfl, rfl⟩; simp only [Q0.out, Q2.out, Q3.out, Q4.out, Q5.out]))
    go_ret
    exact ⟨ret_bool HE.out.symm, HAL.out⟩
  | true =>
  have Q5 := Lib.hid q5
  clear q5
  have HE := Lib.hid (show settB s = true by rw [HSB.out, Q0.out, Q1.out, Q2.out, Q3.out, Q4.out, Q5.out]; rfl)
  go_enter Tryz.func9, Tryz.ntmps9
  go_wp2_with (first | (go_at_call 19; refine HCR.out.mono ?_; rintro e w2 ⟨rfl, rfl⟩) | (go_at_call 21; refine HCZ.out.mono ?_; rintro e w2 ⟨rfl, rfl⟩) | (go_at_call 25; refine (time_any _ _).mono ?_; rintro e w2 ⟨rfl, rfl⟩; rw [Q1.out]) | (go_at_call 24; refine (within_any _ _ _).mono ?_; rintro e w2 ⟨rfl, rfl⟩; simp only [Q0.out, Q2.out, Q3.out, Q4.out, Q5.out]))
  go_ret
  exact ⟨ret_bool HE.out.symm, HAL.out⟩
end
section
open Go.ChangeShapes Go.WideShapes Go.ChangeAt Go.RowKit

/-- what lies in a Walk -/
structure WalkH where
  K : Nat
  h : SetH
  na : Option Addr
  nl : Nat
  nc : Nat
  typ : Int
  begin' : Int
  sends : Int
  goals : Value
  tried : Value
  dead : Value
  out : Value
  an : Value
  ak : Value
  zone : Value
  sent : Int
  done : Bool
  res : List Value
def walkC (x : WalkH) (s : SetP) : Array Value := #[.pointer (some ⟨x.K, 0, none⟩), .slice x.h.ra s.roots.length x.h.rc, .int .i64 s.cache, .int .i64 s.stale, .int .i64 s.timeout, .int .i64 s.tries, .int .i64 s.deadline, .int .i64 s.pending, .slice x.h.za s.zones.length x.h.zc,
  .slice x.na x.nl x.nc, .int .i64 x.typ, .int .i64 1, .int .i64 x.begin', .int .i64 x.sends, x.goals, x.tried, x.dead, x.out, x.an, x.ak, x.zone, .int .i64 x.sent, .bool x.done, x.res.getD 0 undef, x.res.getD 1 undef, x.res.getD 2 undef, x.res.getD 3 undef]
set_option maxHeartbeats 16000000 in
set_option maxRecDepth 100000 in
theorem look_none (w : World) (W : Nat) (x : WalkH) (s : SetP) (hW : Blk w W (walkC x s) 60) (K : Nat) (hxK : x.K = K) (na : Option Addr) (nl nc : Nat) (typ : Int) (hxa : x.na = na) (hxl : x.nl = nl) (hxc : x.nc = nc) (hxt : x.typ = typ) (B C L : Nat) (pl kn told : Int) (mem dn : Bool) (most stale : Int) (k : Nat) (hK : KeepAt B w K C L pl kn told mem dn most stale k []) (nm : List ByteArray) (now : Int) (hn : Strs w na nl nc nm) (hs : soundB nm = true) (ht : typedB typ = true) (hni : rowIn (fun b => ¬ tagged [92] w b) na nl) :
    Calls Tryz.prog 16 #[.pointer (some ⟨W, 0, none⟩), .int .i64 now] w fun e w' => e = .returned (.tuple #[]) ∧ KeepAt B w' K C L pl (atT kn (max now kn)) told mem dn most stale k [] ∧ Only [92] B w w' := by
  subst hxK; subst hxa; subst hxl; subst hxc; subst hxt
  obtain ⟨K, hK0⟩ : ∃ K, K = x.K := ⟨_, rfl⟩
  obtain ⟨na, hna⟩ : ∃ na, na = x.na := ⟨_, rfl⟩
  obtain ⟨nl, hnl⟩ : ∃ nl, nl = x.nl := ⟨_, rfl⟩
  obtain ⟨nc, hnc⟩ : ∃ nc, nc = x.nc := ⟨_, rfl⟩
  obtain ⟨typ, hty⟩ : ∃ typ, typ = x.typ := ⟨_, rfl⟩
  rw [← hK0] at hK ⊢
  rw [← hna, ← hnl] at hni
  rw [← hna, ← hnl, ← hnc] at hn
  rw [← hty] at ht
  have hC : ∀ X, Blk X W (walkC x s) 60 → X.cell? ⟨W, 0, none⟩ = some (.pointer (some ⟨K, 0, none⟩)) ∧ X.cell? ⟨W, 9, none⟩ = some (.slice na nl nc) ∧ X.cell? ⟨W, 10, none⟩ = some (.int .i64 typ) ∧ X.cell? ⟨W, 11, none⟩ = some (.int .i64 1) := fun X h => ⟨by rw [hK0]; exact h.cell 0, by rw [hna, hnl, hnc]; exact h.cell 9, by rw [hty]; exact h.cell 10, h.cell 11⟩
  have HC := Lib.hid hC
  have hb0 : Below w.heap.size w w.drew := Below.drew (Below.refl _ _)
  have hal0 : Below w.heap.size w (w.alloc (.cells #[.int .i64 0, .slice none 0 0, .slice none 0 0, .bool false] 58)).drew := Below.drew ((Below.refl _ _).alloc (Nat.le_refl _) _)
  have c0 := hC _ (hW.on hb0)
  have c1 := hC _ (hW.on hal0)
  have hN : Blk (w.alloc (.cells #[.int .i64 0, .slice none 0 0, .slice none 0 0, .bool false] 58)) w.heap.size noRes 58 := heap_alloc_new w _
  have HK := Lib.hid (And.intro hK (And.intro hn (And.intro hs (And.intro ht (And.intro hni hK.ca.B_le)))))
  have HN := Lib.hid (And.intro hal0 (And.intro (hW.on hal0) (hN.on (Below.drew (Below.refl _ _)))))
  have HM := Lib.hid (And.intro hb0 (hW.on hb0))
  clear hK hn hs ht hni hb0 hal0 hN hC hW hK0 hna hnl hnc hty
  obtain ⟨a0, a1, a2, a3⟩ := c0
  obtain ⟨d0, d1, d2, d3⟩ := c1
  go_enter Tryz.func16, Tryz.ntmps16
  go_wp2_with fail
  go_region_held3 (fun w' => w'.cell? ⟨W, 0, none⟩ = some (.pointer (some ⟨K, 0, none⟩)) ∧ w'.cell? ⟨W, 9, none⟩ = some (.slice na nl nc) ∧ w'.cell? ⟨W, 10, none⟩ = some (.int .i64 typ) ∧ w'.cell? ⟨W, 11, none⟩ = some (.int .i64 1))
    (first | go_keep | exact ⟨a0, a1, a2, a3⟩ | exact ⟨d0, d1, d2, d3⟩ | exact hc1 | exact hc2 | exact hc3)
    (first | (go_at_call 31; refine (known_none _ B K C L pl kn told mem dn most stale k (HK.out.1.on HN.out.1) na nl nc nm typ now (HK.out.2.1.below HN.out.1 (Nat.le_refl _)) HK.out.2.2.1 HK.out.2.2.2.1 (not_tagged HK.out.2.1 HK.out.2.2.2.2.1 HN.out.1)).mono ?_; rintro e W1 ⟨rfl, hk1, ho1⟩; have hw1 := ho1.blk HN.out.2.1 (by decide); have hc1 := HC.out _ hw1; have hn1 := ho1.blk HN.out.2.2 (by decide); have hst := store_row_run (P := Tryz.prog) hn1 noRes rfl noRes_all; have hw2 := hw1.but (but_setRow W1 w.heap.size noRes) (blk_ne hw1 hn1 (by decide)); have hc2 := HC.out _ hw2; have HZ : Hid (KeepAt B (W1.setRow w.heap.size noRes) K C L pl (atT kn (max now kn)) told mem dn most stale k [] ∧ Only [92] B w (W1.setRow w.heap.size noRes)) := Lib.hid ⟨hk1.rowT hn1 (by decide) (by decide) (by decide) (by decide) noRes, only_row ((Only.below HN.out.1 HK.out.2.2.2.2.2).trans ho1) (Nat.le_refl _) HK.out.2.2.2.2.2⟩; clear hk1 ho1 hn1 hw1 hw2) | (go_at_call 31; refine (known_none _ B K C L pl kn told mem dn most stale k (HK.out.1.on HM.out.1) na nl nc nm typ now (HK.out.2.1.below HM.out.1 (Nat.le_refl _)) HK.out.2.2.1 HK.out.2.2.2.1 (not_tagged HK.out.2.1 HK.out.2.2.2.2.1 HM.out.1)).mono ?_; rintro e W1 ⟨rfl, hk1, ho1⟩; have hw1 := ho1.blk HM.out.2 (by decide); have hc1 := HC.out _ hw1; have hal : Below W1.heap.size W1 (W1.alloc (.cells #[.int .i64 0, .slice none 0 0, .slice none 0 0, .bool false] 58)) := (Below.refl _ _).alloc (Nat.le_refl _) _; have hc2 := HC.out _ (hw1.on hal); have hn1 : Blk (W1.alloc (.cells #[.int .i64 0, .slice none 0 0, .slice none 0 0, .bool false] 58)) W1.heap.size noRes 58 := heap_alloc_new W1 _; have hst := store_row_run (P := Tryz.prog) hn1 noRes rfl noRes_all; have hb3 := hal.trans (below_of_but (but_setRow (W1.alloc (.cells #[.int .i64 0, .slice none 0 0, .slice none 0 0, .bool false] 58)) W1.heap.size noRes) (Nat.le_refl _) hal.size); have hc3 := HC.out _ (hw1.on hb3); have ho2 := (Only.below HM.out.1 HK.out.2.2.2.2.2).trans ho1; have HZ : Hid (KeepAt B ((W1.alloc (.cells #[.int .i64 0, .slice none 0 0, .slice none 0 0, .bool false] 58)).setRow W1.heap.size noRes) K C L pl (atT kn (max now kn)) told mem dn most stale k [] ∧ Only [92] B w ((W1.alloc (.cells #[.int .i64 0, .slice none 0 0, .slice none 0 0, .bool false] 58)).setRow W1.heap.size noRes)) := Lib.hid ⟨hk1.on hb3, ho2.trans (Only.below hb3 (by have := ho2.bel.size; have := HK.out.2.2.2.2.2; omega))⟩; clear hk1 ho1 hn1 hw1 hb3 hal ho2))
  all_goals go_split_ands
  all_goals (
    go_wp2_with fail
    go_end0
    exact ⟨rfl, HZ.out⟩)
end
section
open Go.ChangeShapes Go.WideShapes Go.ChangeAt Go.RowKit

theorem rootInfo : (Tryz.prog.info? 28).map (fun i => (i.zero, i.size, i.bytes)) = some (some (.slice none 0 0), 1, 24) := by kernel_rfl
set_option maxHeartbeats 1000000 in
set_option maxRecDepth 100000 in
theorem clone_roots (w : World) (ao : Option Addr) (len cap : Nat) (vs : List Value) (hs : Row w ao len cap vs) (h1 : ∀ u ∈ vs, u.oneCell' = true) (hb : len * 24 ≤ 140737488355328) :
    Calls Tryz.prog 15 #[.slice ao len cap] w fun e w' => (∃ ao' c', e = .returned (.slice ao' len c') ∧ Own1 [28] w.heap.size w' ao' len c' vs) ∧ Below w.heap.size w w' := by
  have hl := hs.hlen
  have hmx := hs.hmax
  cases ao with
  | none =>
    have hc := hs.hnil rfl
    have hm : len = 0 := by have := hs.hle; omega
    have hs0 := Lib.hid hs
    subst hc; subst hm
    have hnil : ∀ w : World, (binOp .eql 22 (.slice none 0 0) (.slice none 0 0)).run Tryz.prog w = .ok (.bool true) w := fun w => by kernel_rfl
    clear hs h1 hl
    go_enter Tryz.func15, Tryz.ntmps15
    go_wp2
    go_ret
    exact ⟨⟨none, 0, rfl, hs0.out, rowIn_zero _ _⟩, Below.refl _ _⟩
  | some a =>
    obtain ⟨i0, hi, hz0, hz1, hz2⟩ := info_parts rootInfo
    have hbel : Below w.heap.size w (w.alloc (.cells #[] 28)) := (Below.refl _ _).alloc (Nat.le_refl _) _
    obtain ⟨v', w1, hrun, hown, hgrow⟩ := append_row (P := Tryz.prog) (w.alloc (.cells #[] 28)) w.heap.size 22 22 28 i0 _ 24 Tryz.underlying22 hi hz0 hz1 hz2 rfl (.slice (some ⟨w.heap.size, 0, none⟩) 0 0) 0 []
      (World.ownsRow_made w #[] 0 (Nat.le_refl _) (by unfold maxLen; omega) rfl) (some a) len cap vs (hs.below hbel (Nat.le_refl _)) h1 (by omega) (by omega) (by simp)
    have hg := Lib.hid (hbel.grown hgrow (by simp) (by intro k hk; simp [Value.ownBlock] at hk; omega))
    clear hgrow hbel
    rw [List.nil_append, Nat.zero_add] at hown
    obtain ⟨ao', cap', rfl, hs'⟩ := own1_of_owns hown hmx
    have HO := Lib.hid hs'
    clear hown hi hz0 hz1 hz2 hb hs' hs h1 hl
    have HR := Lib.hid hrun; clear hrun
    have hnil : ∀ w : World, (binOp .eql 22 (.slice (some a) len cap) (.slice none 0 0)).run Tryz.prog w = .ok (.bool false) w := fun w => Lib.run_eql_slice_nil w 22 28 (some a) len cap 0 0 Tryz.underlying22
    have hbs : ∀ w : World, (Instr.buildSlice 22 0 #[]).run Tryz.prog w = .ok (.slice (some ⟨w.heap.size, 0, none⟩) 0 0) (w.alloc (.cells #[] 28)) := fun _ => by kernel_rfl
    go_enter Tryz.func15, Tryz.ntmps15
    go_wp2_with (at_builtin; refine wpList_append_run rfl _ _ _ rfl _ _ rfl rfl HR.out ?_)
    go_ret
    exact ⟨⟨ao', cap', rfl, HO.out⟩, hg.out⟩
/-- elements of one cell as a row -/
theorem Seq.row1 {α : Type} {K : Kind α} (h1 : K.size = 1) {S : Nat → Prop} {w : World} {ao : Option Addr} {n c : Nat} {xs : List α} (h : Seq K S w ao n c xs) (hmx : n ≤ 140737488355328) : ∃ vs : List Value, Row w ao n c vs ∧ (∀ u ∈ vs, u.oneCell' = true) ∧ ∀ i (hi : i < xs.length) (hv : i < vs.length), ∃ k, K.cells k xs[i] = #[vs[i]] ∧ K.is S w k xs[i] := by
  by_cases h0 : 0 < n
  · obtain ⟨b, off, rfl, hSb, hc⟩ := h.hcells h0
    have hx : ∀ i : Nat, ∃ v : Value, v.oneCell' = true ∧ ∀ (hi : i < xs.length), w.cell? ⟨b, off + i, none⟩ = some v ∧ ∃ k, K.cells k xs[i] = #[v] ∧ K.is S w k xs[i] := by
      intro i
      by_cases hi : i < xs.length
      · obtain ⟨k, hk, hi2⟩ := hc i hi
        have hs := K.hsize k xs[i]
        rw [h1] at hs
        obtain ⟨v, hv⟩ : ∃ v, K.cells k xs[i] = #[v] := Array.size_eq_one_iff.1 hs
        have ho := K.one k xs[i] v (by rw [hv]; simp)
        have hk0 := hk 0 (by omega)
        rw [hv, h1, Nat.mul_one, Nat.add_zero] at hk0
        exact ⟨v, ho, fun _ => ⟨by simpa using hk0, k, hv, hi2⟩⟩
      · exact ⟨.bool false, rfl, fun h => absurd h hi⟩
    refine ⟨(List.range xs.length).map fun i => (hx i).choose, ⟨by simpa using h.hlen, h.hle, h.hmax, hmx, fun e => (by cases e), ?_⟩, ?_, ?_⟩
    · exact fun _ => ⟨b, off, rfl, fun i hi => by
        have hi' : i < xs.length := by have := h.hlen; simp at hi; omega
        rw [((hx i).choose_spec.2 hi').1]; simp⟩
    · intro u hu
      obtain ⟨i, _, rfl⟩ := List.mem_map.1 hu
      exact (hx i).choose_spec.1
    · intro i hi hv
      obtain ⟨k, hk⟩ := ((hx i).choose_spec.2 hi).2
      exact ⟨k, by simpa using hk⟩
  · have hn : n = 0 := by omega
    subst hn
    refine ⟨[], Row.empty h.hmax h.hnil, by simp, fun i hi hv => absurd hv (by simp)⟩
theorem Seq.of_row {α : Type} {K : Kind α} (h1 : K.size = 1) {S' : Nat → Prop} {w' : World} {ao : Option Addr} {n c : Nat} {vs : List Value} {xs : List α} (hr : Row w' ao n c vs) (hx : xs.length = n) (hS : 0 < n → ∀ a, ao = some a → S' a.block) (he : ∀ i (hi : i < xs.length) (hv : i < vs.length), ∃ k, K.cells k xs[i] = #[vs[i]] ∧ K.is S' w' k xs[i]) : Seq K S' w' ao n c xs := by
  refine ⟨hx, hr.hle, hr.hcap, hr.hnil, fun h0 => ?_⟩
  obtain ⟨b, off, e, hc⟩ := hr.hcells h0
  refine ⟨b, off, e, hS h0 _ e, fun i hi => ?_⟩
  have hv : i < vs.length := by have := hr.hlen; omega
  obtain ⟨k, hk, hi2⟩ := he i hi hv
  refine ⟨k, fun j hj => ?_, hi2⟩
  have hj0 : j = 0 := by omega
  subst hj0
  rw [h1, Nat.mul_one, Nat.add_zero, hc i hv, hk]
  rfl
end
section
open Go.ChangeShapes Go.WideShapes Go.ChangeAt Go.RowKit

set_option maxHeartbeats 16000000 in
set_option maxRecDepth 100000 in
theorem wnew_bad (w : World) (S : Nat → Prop) (K : Nat) (h : SetH) (s : SetP) (hs : IsSet S w h s) (hb : settB s = false) (na : Option Addr) (nl nc : Nat) (typ now : Int) :
    Calls Tryz.prog 7 #[.pointer (some ⟨K, 0, none⟩), .agg (setC h s), .agg (queC na nl nc typ 1), .int .i64 now] w fun e w' => e = .returned (.tuple #[.pointer none, .int .i64 1]) ∧ Below w.heap.size w w' := by
  have hTW := two_news w (setC h s) (queC na nl nc typ 1) 25 38
  have HSE := Lib.hid (setting_any _ S h s (hs.on hTW.1))
  rw [hb] at HSE
  have HT := Lib.hid hTW.1
  simp only [setC, queC] at HSE HT ⊢
  clear hTW hs hb
  go_enter Tryz.func7, Tryz.ntmps7
  go_wp2_with (go_at_call 9; refine HSE.out.mono ?_; rintro e W1 ⟨rfl, hb1⟩; have H1 := Lib.hid (below_on HT.out hb1 (Nat.le_refl _)); clear hb1)
  go_ret2
  exact ⟨rfl, H1.out⟩
/-- two maps and a struct behind a block -/
theorem four_new (w : World) (c1 c4 : Array Value) (T1 T4 : TypeId) : Below w.heap.size w ((((w.alloc (.cells c1 T1)).alloc (.map #[] 0)).alloc (.map #[] 0)).alloc (.cells c4 T4)) ∧ Blk ((((w.alloc (.cells c1 T1)).alloc (.map #[] 0)).alloc (.map #[] 0)).alloc (.cells c4 T4)) w.heap.size c1 T1 ∧ ((((w.alloc (.cells c1 T1)).alloc (.map #[] 0)).alloc (.map #[] 0)).alloc (.cells c4 T4)).heap[w.heap.size + 1]? = some (.map #[] 0) ∧ ((((w.alloc (.cells c1 T1)).alloc (.map #[] 0)).alloc (.map #[] 0)).alloc (.cells c4 T4)).heap[w.heap.size + 1 + 1]? = some (.map #[] 0) ∧ Blk ((((w.alloc (.cells c1 T1)).alloc (.map #[] 0)).alloc (.map #[] 0)).alloc (.cells c4 T4)) (w.heap.size + 1 + 1 + 1) c4 T4 := by
  have h1 : Blk (w.alloc (.cells c1 T1)) w.heap.size c1 T1 := heap_alloc_new w _
  have b1 : Below w.heap.size w (w.alloc (.cells c1 T1)) := (Below.refl _ _).alloc (Nat.le_refl _) _
  have e1 : (w.alloc (.cells c1 T1)).heap.size = w.heap.size + 1 := Array.size_push _
  generalize w.alloc (.cells c1 T1) = W1 at h1 b1 e1 ⊢
  have h2 : (W1.alloc (.map #[] 0)).heap[W1.heap.size]? = some (.map #[] 0) := heap_alloc_new W1 (.map #[] 0)
  have b2 : Below W1.heap.size W1 (W1.alloc (.map #[] 0)) := (Below.refl _ _).alloc (Nat.le_refl _) _
  have e2 : (W1.alloc (.map #[] 0)).heap.size = W1.heap.size + 1 := Array.size_push _
  generalize W1.alloc (.map #[] 0) = W2 at h2 b2 e2 ⊢
  have h3 : (W2.alloc (.map #[] 0)).heap[W2.heap.size]? = some (.map #[] 0) := heap_alloc_new W2 (.map #[] 0)
  have b3 : Below W2.heap.size W2 (W2.alloc (.map #[] 0)) := (Below.refl _ _).alloc (Nat.le_refl _) _
  have e3 : (W2.alloc (.map #[] 0)).heap.size = W2.heap.size + 1 := Array.size_push _
  generalize W2.alloc (.map #[] 0) = W3 at h3 b3 e3 ⊢
  have h4 : Blk (W3.alloc (.cells c4 T4)) W3.heap.size c4 T4 := heap_alloc_new W3 _
  have b4 : Below W3.heap.size W3 (W3.alloc (.cells c4 T4)) := (Below.refl _ _).alloc (Nat.le_refl _) _
  rw [e1] at h2 e2
  rw [e2] at h3 e3
  rw [e3] at h4
  refine ⟨below_on (below_on (below_on b1 b2 (Nat.le_refl _)) b3 (Nat.le_refl _)) b4 (Nat.le_refl _), ((h1.on b2).on b3).on b4, ?_, ?_, h4⟩
  · rw [b4.block _ (by omega), b3.block _ (by omega), h2]
  · rw [b4.block _ (by omega), h3]
theorem own_ne {w : World} {g b : Nat} {cs : Array Value} {t : TypeId} {T : List TypeId} (hg : Blk w g cs t) (ht : t ∉ T) (h : tagged T w b) (e : b = g) : False := tagged_ne hg ht h e
/-- blocks that a step that turns a Keep alone leaves as they are -/
def NK (B : Nat) (w : World) (b : Nat) : Prop := b < w.heap.size ∧ (b < B ∨ ¬ tagged [92] w b)
theorem NK.only {B : Nat} {w w' : World} (ho : Only [92] B w w') {b : Nat} (h : NK B w b) : NK B w' b ∧ w'.heap[b]? = w.heap[b]? := by
  have hl := ho.bel.size
  have hB := h.1
  rcases h.2 with h2 | h2
  · have e := ho.bel.block b h2
    exact ⟨⟨by omega, .inl h2⟩, e⟩
  · have e := ho.keep b h.1 h2
    exact ⟨⟨by omega, .inr fun ht => h2 (by obtain ⟨cs, t, a, k⟩ := ht; exact ⟨cs, t, e ▸ a, k⟩)⟩, e⟩
theorem IsSet.mono {S S' : Nat → Prop} {w : World} {h : SetH} {s : SetP} (i : IsSet S w h s) (hS : ∀ b, b < w.heap.size → S b → S' b) : IsSet S' w h s := ⟨i.roots.mono hS, i.zones.mono hS⟩
theorem IsSet.only {B : Nat} {w w' : World} {h : SetH} {s : SetP} (i : IsSet (NK B w) w h s) (ho : Only [92] B w w') : IsSet (NK B w') w' h s :=
  (i.keep (fun _ _ hb => (NK.only ho hb).2)).mono (fun _ _ hb => (NK.only ho hb).1)
theorem own_nk {w : World} {N B : Nat} {t : TypeId} {ao : Option Addr} {n c : Nat} {vs : List Value} (h : Own1 [t] N w ao n c vs) (ht : t ≠ 92) : rowIn (NK B w) ao n := fun h0 a ha => by
  obtain ⟨cs, t', e, k⟩ := (h.mem h0 a ha).1
  refine ⟨(Array.getElem?_eq_some_iff.1 e).1, .inr ?_⟩
  rintro ⟨cs2, t2, e2, k2⟩
  rw [e] at e2
  cases e2
  exact ht ((List.mem_singleton.1 k).symm.trans (List.mem_singleton.1 k2))
theorem own_not {w : World} {N : Nat} {t : TypeId} {ao : Option Addr} {n c : Nat} {vs : List Value} (h : Own1 [t] N w ao n c vs) (ht : t ≠ 92) : rowIn (fun b => ¬ tagged [92] w b) ao n := fun h0 a ha => by
  have := own_nk (B := 0) h ht h0 a ha
  rcases this.2 with h | h
  · exact absurd h (Nat.not_lt_zero _)
  · exact h
/-- a Walk behind New -/
structure NewWalk (B N : Nat) (w : World) (W K C L : Nat) (x : WalkH) (s : SetP) (pl kn told : Int) (mem dn : Bool) (most stale : Int) (k : Nat) (nm : List ByteArray) : Prop where
  blk : Blk w W (walkC x s) 60
  keep : KeepAt B w K C L pl kn told mem dn most stale k []
  hK : x.K = K
  roots : IsSet (NK B w) w x.h s
  name : Own1 [9] N w x.na x.nl x.nc (nm.map .string)
  names : Strs w x.na x.nl x.nc nm
  goal : ∃ G, x.goals = .slice (some ⟨G, 0, none⟩) 1 1 ∧ Blk w G #[.slice x.na x.nl x.nc, .int .i64 x.typ] 51 ∧ N ≤ G
  maps : ∃ M1 M2, x.tried = .map (some M1) ∧ x.dead = .map (some M2) ∧ w.heap[M1]? = some (.map #[] 0) ∧ w.heap[M2]? = some (.map #[] 0) ∧ N ≤ M1 ∧ N ≤ M2 ∧ M1 ≠ M2
  out : x.out = .pointer none
  sends : x.sends = 0
  done : x.done = false
  base : N ≤ W
set_option maxHeartbeats 16000000 in
set_option maxRecDepth 100000 in
theorem wnew_none (w : World) (h : SetH) (s : SetP) (B : Nat) (hs : IsSet (NK B w) w h s) (hb : settB s = true) (K C L : Nat) (pl kn told : Int) (mem dn : Bool) (most stale : Int) (k : Nat) (hK : KeepAt B w K C L pl kn told mem dn most stale k []) (na : Option Addr) (nl nc : Nat) (nm : List ByteArray) (typ now : Int) (hn : Strs w na nl nc nm) (hso : soundB nm = true) (ht : typedB typ = true) :
    Calls Tryz.prog 7 #[.pointer (some ⟨K, 0, none⟩), .agg (setC h s), .agg (queC na nl nc typ 1), .int .i64 now] w fun e w' => (∃ W x, e = .returned (.tuple #[.pointer (some ⟨W, 0, none⟩), .int .i64 0]) ∧ x.typ = typ ∧ x.begin' = now ∧ NewWalk B w.heap.size w' W K C L x s pl (atT kn (max now kn)) told mem dn most stale k nm) ∧ Only [92] B w w' := by
  have hTW := two_news w (setC h s) (queC na nl nc typ 1) 25 38
  have HSE := Lib.hid (setting_any _ _ h s (hs.on hTW.1))
  rw [hb] at HSE
  have HT := Lib.hid hTW
  have hmm := @run_makeMap Tryz.prog
  have hsx : nm.length ≤ 255 ∧ s.roots.length ≤ 16 := by
    constructor
    · simp only [soundB, Bool.and_eq_true, decide_eq_true_eq] at hso; exact hso.1
    · simp only [settB, Bool.and_eq_true, decide_eq_true_eq] at hb; exact hb.2.1
  have HNB := Lib.hid (show nl * 16 ≤ 140737488355328 by have := hn.len; omega)
  have HRB := Lib.hid (show s.roots.length * 24 ≤ 140737488355328 by omega)
  obtain ⟨vs, hvs⟩ := Seq.row1 rfl hs.roots (by omega)
  have HRW := Lib.hid hvs
  clear hvs hsx
  have HK := Lib.hid (And.intro hK (And.intro hn (And.intro hso (And.intro ht (And.intro hs (And.intro hb hK.ca.B_le))))))
  simp only [setC, queC] at HSE HT ⊢
  clear hTW hs hb hK hn hso ht
  go_enter Tryz.func7, Tryz.ntmps7
  go_wp2_with (first | (go_at_call 9; refine HSE.out.mono ?_; rintro e W1 ⟨rfl, hb1⟩; have H1 := Lib.hid (And.intro (below_on HT.out.1 hb1 (Nat.le_refl _)) (And.intro (HT.out.2.1.on hb1) (HT.out.2.2.on hb1))); have q0 := H1.out.2.2.cell 0; have q1 := H1.out.2.2.cell 1; have q2 := H1.out.2.2.cell 2; simp at q0 q1 q2; clear hb1) | (go_at_call 13; refine (fine_yes W1 na nl nc nm typ (HK.out.2.1.below H1.out.1 (Nat.le_refl _)) HK.out.2.2.1 HK.out.2.2.2.1).mono ?_; rintro e W2 ⟨rfl, hb2⟩; have H2 := Lib.hid (And.intro (below_on H1.out.1 hb2 (Nat.le_refl _)) (And.intro (H1.out.2.1.on hb2) (H1.out.2.2.on hb2))); have p0 := H2.out.2.2.cell 0; simp at p0; clear hb2 q0 q1 q2) | (go_at_call 14; refine (clone_strs W2 na nl nc (nm.map .string) (HK.out.2.1.row.below H2.out.1 (Nat.le_refl _)) (strings_oneCell nm) HNB.out).mono ?_; rintro e W3 ⟨⟨na', nc', rfl, ho3⟩, hb3⟩; have H3 := Lib.hid (And.intro (below_on H2.out.1 hb3 (Nat.le_refl _)) (And.intro (H2.out.2.1.on hb3) (And.intro (H2.out.2.2.on hb3) ho3))); have p1 := H3.out.2.2.1.cell 0; have f1 := H3.out.2.2.1.free 0; simp at p1; have u0 : (W3.setCell ⟨w.heap.size + 1, 0, none⟩ (.slice na' nl nc')).cell? ⟨w.heap.size, 0, none⟩ = some (.slice h.ra s.roots.length h.rc) := (H3.out.2.1.but (but_set W3 (w.heap.size + 1) 0 (.slice na' nl nc')) (Nat.ne_of_lt (Nat.lt_succ_self _))).cell 0; clear ho3 hb3 p0) | (go_at_call 15; have hq4 := H3.out.2.2.1.set 0 (.slice na' nl nc'); have hg4 := but_set W3 (w.heap.size + 1) 0 (.slice na' nl nc'); have hz4 : Hid (Below w.heap.size w (W3.setCell ⟨w.heap.size + 1, 0, none⟩ (.slice na' nl nc')) ∧ Blk (W3.setCell ⟨w.heap.size + 1, 0, none⟩ (.slice na' nl nc')) w.heap.size (setC h s) 25 ∧ Blk (W3.setCell ⟨w.heap.size + 1, 0, none⟩ (.slice na' nl nc')) (w.heap.size + 1) (queC na' nl nc' typ 1) 38 ∧ Own1 [9] w.heap.size (W3.setCell ⟨w.heap.size + 1, 0, none⟩ (.slice na' nl nc')) na' nl nc' (nm.map .string)) := Lib.hid ⟨H3.out.1.trans (below_of_but hg4 (Nat.le_succ _) H3.out.1.size), H3.out.2.1.but hg4 (Nat.ne_of_lt (Nat.lt_succ_self _)), by simpa [queC] using hq4, (H3.out.2.2.2.mono (by have := H2.out.1.size; omega)).step (Same.grown hg4 (fun b ht e => own_ne H3.out.2.2.1 (by decide) ht.1 (Option.some.inj e)))⟩; generalize W3.setCell ⟨w.heap.size + 1, 0, none⟩ (.slice na' nl nc') = W4 at hz4 ⊢; clear hq4 hg4 p1 f1 u0; refine (clone_roots W4 h.ra s.roots.length h.rc vs (HRW.out.1.below hz4.out.1 (Nat.le_refl _)) HRW.out.2.1 HRB.out).mono ?_; rintro e W5 ⟨⟨ra', rc', rfl, ho5⟩, hb5⟩; have H5 := Lib.hid (And.intro (below_on hz4.out.1 hb5 (Nat.le_refl _)) (And.intro (hz4.out.2.1.on hb5) (And.intro (hz4.out.2.2.1.on hb5) (And.intro (hz4.out.2.2.2.on hb5) (And.intro ho5 hz4.out.1.size))))); have p2 := H5.out.2.1.cell 0; have f2 := H5.out.2.1.free 0; simp [setC] at p2; have hg6 := but_set W5 w.heap.size 0 (.slice ra' s.roots.length rc'); have hs6 : Blk (W5.setCell ⟨w.heap.size, 0, none⟩ (.slice ra' s.roots.length rc')) w.heap.size (setC ⟨ra', rc', h.za, h.zc⟩ s) 25 := (by have := H5.out.2.1.set 0 (.slice ra' s.roots.length rc'); simpa [setC] using this); have hq6 : Blk (W5.setCell ⟨w.heap.size, 0, none⟩ (.slice ra' s.roots.length rc')) (w.heap.size + 1) (queC na' nl nc' typ 1) 38 := H5.out.2.2.1.but hg6 (Nat.succ_ne_self _); have s0 : (W5.setCell ⟨w.heap.size, 0, none⟩ (.slice ra' s.roots.length rc')).cell? ⟨w.heap.size, 0, none⟩ = some (.slice ra' s.roots.length rc') := hs6.cell 0; have s1 : (W5.setCell ⟨w.heap.size, 0, none⟩ (.slice ra' s.roots.length rc')).cell? ⟨w.heap.size, 1, none⟩ = some (.int .i64 s.cache) := hs6.cell 1; have s2 : (W5.setCell ⟨w.heap.size, 0, none⟩ (.slice ra' s.roots.length rc')).cell? ⟨w.heap.size, 2, none⟩ = some (.int .i64 s.stale) := hs6.cell 2; have s3 : (W5.setCell ⟨w.heap.size, 0, none⟩ (.slice ra' s.roots.length rc')).cell? ⟨w.heap.size, 3, none⟩ = some (.int .i64 s.timeout) := hs6.cell 3; have s4 : (W5.setCell ⟨w.heap.size, 0, none⟩ (.slice ra' s.roots.length rc')).cell? ⟨w.heap.size, 4, none⟩ = some (.int .i64 s.tries) := hs6.cell 4; have s5 : (W5.setCell ⟨w.heap.size, 0, none⟩ (.slice ra' s.roots.length rc')).cell? ⟨w.heap.size, 5, none⟩ = some (.int .i64 s.deadline) := hs6.cell 5; have s6 : (W5.setCell ⟨w.heap.size, 0, none⟩ (.slice ra' s.roots.length rc')).cell? ⟨w.heap.size, 6, none⟩ = some (.int .i64 s.pending) := hs6.cell 6; have s7 : (W5.setCell ⟨w.heap.size, 0, none⟩ (.slice ra' s.roots.length rc')).cell? ⟨w.heap.size, 7, none⟩ = some (.slice h.za s.zones.length h.zc) := hs6.cell 7; have t0 : (W5.setCell ⟨w.heap.size, 0, none⟩ (.slice ra' s.roots.length rc')).cell? ⟨w.heap.size + 1, 0, none⟩ = some (.slice na' nl nc') := hq6.cell 0; have t1 : (W5.setCell ⟨w.heap.size, 0, none⟩ (.slice ra' s.roots.length rc')).cell? ⟨w.heap.size + 1, 1, none⟩ = some (.int .i64 typ) := hq6.cell 1; have t2 : (W5.setCell ⟨w.heap.size, 0, none⟩ (.slice ra' s.roots.length rc')).cell? ⟨w.heap.size + 1, 2, none⟩ = some (.int .i64 1) := hq6.cell 2; have HG6 := Lib.hid (And.intro hg6 (And.intro hs6 hq6)); clear ho5 hb5 hg6 hs6 hq6) | (go_at_call 16; have e6 : (W5.setCell ⟨w.heap.size, 0, none⟩ (.slice ra' s.roots.length rc')).heap.size = W5.heap.size := (by simp); have ho6 : Only [92] B w (W5.setCell ⟨w.heap.size, 0, none⟩ (.slice ra' s.roots.length rc')) := only_set (Only.below H5.out.1 HK.out.2.2.2.2.2.2) (Nat.le_refl _) HK.out.2.2.2.2.2.2; have on6 : Own1 [9] w.heap.size (W5.setCell ⟨w.heap.size, 0, none⟩ (.slice ra' s.roots.length rc')) na' nl nc' (nm.map .string) := H5.out.2.2.2.1.step (Same.grown HG6.out.1 (fun b ht e => own_ne H5.out.2.1 (by decide) ht.1 (Option.some.inj e))); have or6 : Own1 [28] w.heap.size (W5.setCell ⟨w.heap.size, 0, none⟩ (.slice ra' s.roots.length rc')) ra' s.roots.length rc' vs := (H5.out.2.2.2.2.1.mono H5.out.2.2.2.2.2).step (Same.grown HG6.out.1 (fun b ht e => own_ne H5.out.2.1 (by decide) ht.1 (Option.some.inj e))); have bw6 : Below w.heap.size w (W5.setCell ⟨w.heap.size, 0, none⟩ (.slice ra' s.roots.length rc')) := H5.out.1.trans (below_of_but HG6.out.1 (Nat.le_refl _) H5.out.1.size); generalize (W5.setCell ⟨w.heap.size, 0, none⟩ (.slice ra' s.roots.length rc')) = W6 at e6 ho6 on6 or6 bw6 ⊢; have h4 := four_new W6 #[.slice na' nl nc', .int .i64 typ] (walkC ({ K := K, h := ⟨ra', rc', h.za, h.zc⟩, na := na', nl := nl, nc := nc', typ := typ, begin' := now, sends := 0, goals := .slice (some ⟨W5.heap.size, 0, none⟩) 1 1, tried := .map (some (W5.heap.size + 1)), dead := .map (some (W5.heap.size + 1 + 1)), out := .pointer none, an := .slice none 0 0, ak := .int .i64 0, zone := .slice none 0 0, sent := 0, done := false, res := [.int .i64 0, .slice none 0 0, .slice none 0 0, .bool false] } : WalkH) s) 51 60; (try change Calls _ _ _ ((((W6.alloc (.cells #[.slice na' nl nc', .int .i64 typ] 51)).alloc (.map #[] 0)).alloc (.map #[] 0)).alloc (.cells (walkC ({ K := K, h := ⟨ra', rc', h.za, h.zc⟩, na := na', nl := nl, nc := nc', typ := typ, begin' := now, sends := 0, goals := .slice (some ⟨W5.heap.size, 0, none⟩) 1 1, tried := .map (some (W5.heap.size + 1)), dead := .map (some (W5.heap.size + 1 + 1)), out := .pointer none, an := .slice none 0 0, ak := .int .i64 0, zone := .slice none 0 0, sent := 0, done := false, res := [.int .i64 0, .slice none 0 0, .slice none 0 0, .bool false] } : WalkH) s) 60)) _); generalize (((W6.alloc (.cells #[.slice na' nl nc', .int .i64 typ] 51)).alloc (.map #[] 0)).alloc (.map #[] 0)).alloc (.cells (walkC ({ K := K, h := ⟨ra', rc', h.za, h.zc⟩, na := na', nl := nl, nc := nc', typ := typ, begin' := now, sends := 0, goals := .slice (some ⟨W5.heap.size, 0, none⟩) 1 1, tried := .map (some (W5.heap.size + 1)), dead := .map (some (W5.heap.size + 1 + 1)), out := .pointer none, an := .slice none 0 0, ak := .int .i64 0, zone := .slice none 0 0, sent := 0, done := false, res := [.int .i64 0, .slice none 0 0, .slice none 0 0, .bool false] } : WalkH) s) 60) = W7 at h4 ⊢; rw [e6] at h4; have bw7 := below_on bw6 (h4.1.mono (by omega)) (Nat.le_refl _); have H7 := Lib.hid (And.intro h4.2 (And.intro bw7 (And.intro (ho6.trans (Only.below (h4.1.mono (by omega)) (by have := HK.out.2.2.2.2.2.2; have := bw6.size; omega))) (And.intro (on6.on (h4.1.mono (by omega))) (or6.on (h4.1.mono (by omega))))))); clear h4 bw6 bw7 ho6 on6 or6; refine (look_none W7 (W5.heap.size + 1 + 1 + 1) ({ K := K, h := ⟨ra', rc', h.za, h.zc⟩, na := na', nl := nl, nc := nc', typ := typ, begin' := now, sends := 0, goals := .slice (some ⟨W5.heap.size, 0, none⟩) 1 1, tried := .map (some (W5.heap.size + 1)), dead := .map (some (W5.heap.size + 1 + 1)), out := .pointer none, an := .slice none 0 0, ak := .int .i64 0, zone := .slice none 0 0, sent := 0, done := false, res := [.int .i64 0, .slice none 0 0, .slice none 0 0, .bool false] } : WalkH) s H7.out.1.2.2.2 K rfl na' nl nc' typ rfl rfl rfl rfl B C L pl kn told mem dn most stale k (HK.out.1.on H7.out.2.1) nm now ⟨H7.out.2.2.2.1.row, HK.out.2.1.small⟩ HK.out.2.2.1 HK.out.2.2.2.1 (own_not H7.out.2.2.2.1 (by decide))).mono ?_; rintro e W8 ⟨rfl, hk8, ho8⟩; have H8 := Lib.hid (And.intro hk8 ho8); clear hk8 ho8))
  go_ret2
  have z5 := H5.out.1.size
  have on8 : Own1 [9] w.heap.size W8 na' nl nc' (nm.map .string) := H7.out.2.2.2.1.step ((H8.out.2.same (T := [9]) (by decide)).mono (fun _ _ h => h.1))
  have or7 : Own1 [28] w.heap.size W7 ra' s.roots.length rc' vs := H7.out.2.2.2.2
  have hset7 : IsSet (NK B W7) W7 ⟨ra', rc', h.za, h.zc⟩ s := by
    have h0 : IsSet (NK B W7) W7 h s := HK.out.2.2.2.2.1.only H7.out.2.2.1
    exact ⟨Seq.of_row rfl or7.row rfl (fun h1 a ha => own_nk or7 (by decide) h1 a ha) (fun i hi hv => by
      obtain ⟨k, hk1, hk2⟩ := HRW.out.2.2 i hi hv
      exact ⟨k, hk1, rootK.mono (rootK.keep hk2 (fun b _ hb => (NK.only H7.out.2.2.1 hb).2)) (fun b _ hb => (NK.only H7.out.2.2.1 hb).1)⟩), h0.zones⟩
  have hmp : ∀ j : Nat, W7.heap[j]? = some (Obj.map #[] 0) → W8.heap[j]? = some (Obj.map #[] 0) := fun j hj => by
    rw [H8.out.2.keep j (Array.getElem?_eq_some_iff.1 hj).1 (fun ht => by
      obtain ⟨cs, t, e, _⟩ := ht
      rw [hj] at e
      cases e), hj]
  exact ⟨⟨W5.heap.size + 1 + 1 + 1, ({ K := K, h := ⟨ra', rc', h.za, h.zc⟩, na := na', nl := nl, nc := nc', typ := typ, begin' := now, sends := 0, goals := .slice (some ⟨W5.heap.size, 0, none⟩) 1 1, tried := .map (some (W5.heap.size + 1)), dead := .map (some (W5.heap.size + 1 + 1)), out := .pointer none, an := .slice none 0 0, ak := .int .i64 0, zone := .slice none 0 0, sent := 0, done := false, res := [.int .i64 0, .slice none 0 0, .slice none 0 0, .bool false] } : WalkH), rfl, rfl, rfl, ⟨H8.out.2.blk H7.out.1.2.2.2 (by decide), H8.out.1, rfl, hset7.only H8.out.2, on8, ⟨on8.row, HK.out.2.1.small⟩, ⟨W5.heap.size, rfl, H8.out.2.blk H7.out.1.1 (by decide), z5⟩, ⟨_, _, rfl, rfl, hmp _ H7.out.1.2.1, hmp _ H7.out.1.2.2.1, by omega, by omega, by omega⟩, rfl, rfl, rfl, by omega⟩⟩, H7.out.2.2.1.trans H8.out.2⟩
end
section
open Go.ChangeShapes Go.WideShapes Go.ChangeAt Go.RowKit

def noSrv : Array Value := #[.slice none 0 0, .slice none 0 0, .slice none 0 0]
theorem noSrv_all : noSrv.all (·.oneCell') = true := by simp [noSrv, Value.oneCell']
theorem srvSize : (Tryz.prog.info? 118).map (·.size) = some 3 := by kernel_rfl
theorem wat_results {tmps : Array Value} {w : World} {R : Nat} {b : Bool} (h4 : tmps[6]? = some (.pointer (some ⟨R, 0, none⟩))) (h5 : tmps[7]? = some (.bool b)) (hB : Blk w R noSrv 118) :
    (results Tryz.f84 tmps).run Tryz.prog w = .ok (.tuple #[.agg noSrv, .bool b]) w := by
  have c0 := hB.cell 0
  have c1 := hB.cell 1
  have c2 := hB.cell 2
  simp [noSrv] at c0 c1 c2
  simp [results, go_sem, h4, h5, c0, c1, c2, noSrv]
set_option maxHeartbeats 16000000 in
set_option maxRecDepth 100000 in
theorem wat_none (w : World) (W : Nat) (x : WalkH) (s : SetP) (hW : Blk w W (walkC x s) 60) (B K C L : Nat) (hxK : x.K = K) (pl kn told : Int) (mem dn : Bool) (most stale : Int) (k : Nat) (hK : KeepAt B w K C L pl kn told mem dn most stale k []) (za : Option Addr) (zl zc : Nat) (z : List ByteArray) (now : Int) (hz : Strs w za zl zc z) (hzz : sizeN z ≤ 1099511627776) (hni : rowIn (fun b => ¬ tagged [92] w b) za zl) :
    Calls Tryz.prog 84 #[.pointer (some ⟨W, 0, none⟩), .slice za zl zc, .int .i64 now] w fun e w' => e = .returned (.tuple #[.agg noSrv, .bool false]) ∧ KeepAt B w' K C L pl (atT kn now) told mem dn most stale k [] ∧ Only [92] B w w' := by
  have hN : Blk (w.alloc (.cells noSrv 118)) w.heap.size noSrv 118 := heap_alloc_new w _
  have hb1 : Below w.heap.size w (w.alloc (.cells noSrv 118)) := (Below.refl _ _).alloc (Nat.le_refl _) _
  have c0 : (w.alloc (.cells #[.slice none 0 0, .slice none 0 0, .slice none 0 0] 118)).cell? ⟨W, 0, none⟩ = some (.pointer (some ⟨K, 0, none⟩)) := by rw [← hxK]; exact (hW.on hb1).cell 0
  have HN := Lib.hid (And.intro hN hb1)
  have HG := Lib.hid (kget_none _ B K C L pl kn told mem dn most stale k [] (hK.on hb1) za zl zc z 2 (hz.below hb1 (Nat.le_refl _)) hzz (not_tagged hz hni hb1) rfl now)
  have HB := Lib.hid hK.ca.B_le
  clear hN hb1 hW hK hz hzz hni
  go_enter Tryz.func84, Tryz.ntmps84
  go_wp2_with (first | (go_at_call 45; refine HG.out.mono ?_; rintro e W1 ⟨rfl, hk1, ho1⟩; have H1 := Lib.hid (And.intro hk1 (And.intro ((Only.below HN.out.2 HB.out).trans ho1) (ho1.blk HN.out.1 (by decide)))); clear hk1 ho1 c0) | (refine wpList_store_row rfl 100 _ _ rfl W1.heap.size noF rfl rfl 100 noF (heap_alloc_new W1 _) factSize rfl (factC_all zH zF) ?_; have hq := new_row W1 noF noF 100; (try change wpList _ _ _ _ _ ((W1.alloc (.cells noF 100)).setRow W1.heap.size noF)); generalize (W1.alloc (.cells noF 100)).setRow W1.heap.size noF = W2 at hq ⊢; have HQ := Lib.hid hq; clear hq) | (refine wpList_store_row rfl 118 _ _ rfl w.heap.size noSrv rfl rfl 118 noSrv (H1.out.2.2.on HQ.out.1) srvSize rfl noSrv_all ?_))
  have hS := H1.out.2.2.on HQ.out.1
  have z1 := H1.out.2.1.bel.size
  have z2 := HB.out
  refine bodyPost_ret (wat_results rfl rfl (blk_setRow hS noSrv)) rfl ?_
  exact ⟨rfl, (H1.out.1.on HQ.out.1).rowT hS (by decide) (by decide) (by decide) (by decide) noSrv, only_row (H1.out.2.1.trans (Only.below HQ.out.1 (by omega))) (Nat.le_refl _) z2⟩
set_option maxHeartbeats 16000000 in
set_option maxRecDepth 100000 in
theorem gkey_any (w : World) (na : Option Addr) (nl nc : Nat) (nm : List ByteArray) (typ : Int) (hn : Strs w na nl nc nm) (hz : sizeN nm ≤ 1099511627776) :
    Calls Tryz.prog 46 #[.agg #[.slice na nl nc, .int .i64 typ]] w fun e w' => e = .returned (.string ⟨(keyP nm typ).toArray⟩) ∧ Below w.heap.size w w' := by
  have hal : Below w.heap.size w (w.alloc (.cells #[.slice na nl nc, .int .i64 typ] 51)) := (Below.refl _ _).alloc (Nat.le_refl _) _
  obtain ⟨KS, hKS⟩ : ∃ q : ByteArray, q = (⟨(keyP nm typ).toArray⟩ : ByteArray) := ⟨_, rfl⟩
  have HK := Lib.hid (fkey_any _ ⟨na, nl, nc, none, 0, 0, none, 0, 0, noDH⟩ ⟨nm, typ, 0, 0, 0, 0, [], [], noP⟩ (hn.below hal (Nat.le_refl _)) hz)
  rw [show keyF ⟨nm, typ, 0, 0, 0, 0, [], [], noP⟩ = keyP nm typ from rfl, ← hKS] at HK
  simp only [factC, noDH] at HK
  rw [← hKS]
  have HA := Lib.hid hal
  clear hal hn hz hKS
  go_enter Tryz.func46, Tryz.ntmps46
  go_wp2_with (go_at_call 76; refine HK.out.mono ?_; rintro e W1 ⟨rfl, hb1⟩; have H1 := Lib.hid (below_on HA.out hb1 (Nat.le_refl _)); clear hb1)
  go_ret
  exact ⟨rfl, H1.out⟩
end
section
open Go.ChangeShapes Go.WideShapes Go.ChangeAt Go.RowKit

theorem owns_tag {w : World} {base : Nat} {e : TypeId} {size : Nat} {v : Value} {n : Nat} {xs : List Value} (h : w.ownsRow base e size v n xs) {k : Nat} (hk : v.ownBlock = some k) : ∃ cs, Blk w k cs e ∧ base ≤ k := by
  obtain ⟨_, ⟨rfl, _⟩ | ⟨g, cap, cur, rfl, hg, hc, _⟩⟩ := h
  · cases hk
  · have e : g = k := by simpa [Value.ownBlock] using hk
    subst e
    exact ⟨cur, hc, hg⟩
theorem owns_but {w w' : World} {base : Nat} {e : TypeId} {size : Nat} {v : Value} {n : Nat} {xs : List Value} (h : w.ownsRow base e size v n xs) {R : Nat} {cs : Array Value} {T : TypeId} (hg : w.grownBy w' (some R)) (hR : Blk w R cs T) (hT : e ≠ T) : w'.ownsRow base e size v n xs :=
  h.kept hg (by
    cases hv : v.ownBlock with
    | none => exact .inl rfl
    | some k =>
      right
      intro e2
      obtain ⟨cs2, h2, _⟩ := owns_tag h hv
      have e3 : k = R := Option.some.inj e2
      subst e3
      exact blk_ne h2 hR hT rfl)
def wrT : List TypeId := [243, 5]
/-- what was written -/
structure IsW (N : Nat) (w : World) (R M : Nat) (b : List UInt8) : Prop where
  ex : ∃ v, Blk w R #[v, .map (some M)] 243 ∧ w.ownsRow N 5 1 v b.length (b.map u8V)
  base : N ≤ R
theorem IsW.on {N : Nat} {w w' : World} {R M : Nat} {b : List UInt8} (h : IsW N w R M b) (hb : Below w.heap.size w w') : IsW N w' R M b := by
  obtain ⟨v, h1, h2⟩ := h.ex
  exact ⟨⟨v, h1.on hb, owns_keep h2 hb⟩, h.base⟩
theorem IsW.lt {N : Nat} {w : World} {R M : Nat} {b : List UInt8} (h : IsW N w R M b) : N ≤ w.heap.size := by
  obtain ⟨v, h1, _⟩ := h.ex
  have := h1.lt
  have := h.base
  omega
set_option maxHeartbeats 4000000 in
set_option maxRecDepth 100000 in
theorem wname_new (w : World) : Calls Tryz.prog 106 #[] w fun e w' => (∃ R M, e = .returned (.pointer (some ⟨R, 0, none⟩)) ∧ IsW w.heap.size w' R M [] ∧ w'.heap[M]? = some (.map #[] 0) ∧ w.heap.size ≤ M) ∧ Below w.heap.size w w' := by
  have hmm := @run_makeMap Tryz.prog
  go_enter Tryz.func106, Tryz.ntmps106
  go_wp2_with fail
  go_ret
  have b1 : Below w.heap.size w (w.alloc (.map #[] 0)) := (Below.refl _ _).alloc (Nat.le_refl _) _
  have h1 := heap_alloc_new w (.map #[] 0)
  have e1 : (w.alloc (.map #[] 0)).heap.size = w.heap.size + 1 := Array.size_push _
  have b2 : Below (w.alloc (.map #[] 0)).heap.size (w.alloc (.map #[] 0)) ((w.alloc (.map #[] 0)).alloc (.cells #[.slice none 0 0, .map (some w.heap.size)] 243)) := (Below.refl _ _).alloc (Nat.le_refl _) _
  have h2 : Blk ((w.alloc (.map #[] 0)).alloc (.cells #[.slice none 0 0, .map (some w.heap.size)] 243)) (w.alloc (.map #[] 0)).heap.size #[.slice none 0 0, .map (some w.heap.size)] 243 := heap_alloc_new (w.alloc (.map #[] 0)) _
  rw [e1] at h2
  exact ⟨⟨w.heap.size + 1, w.heap.size, by simp, ⟨⟨_, h2, World.ownsRow_nil _ _ _ _⟩, Nat.le_succ _⟩, (b2.block _ (by omega)).trans h1, Nat.le_refl _⟩, below_on b1 b2 (Nat.le_refl _)⟩
set_option maxHeartbeats 8000000 in
set_option maxRecDepth 100000 in
theorem wraw_any (w : World) (N R M : Nat) (b : List UInt8) (hW : IsW N w R M b) (ao : Option Addr) (m c : Nat) (l : List UInt8) (hl : Byts w ao m c l) (hm : b.length + m ≤ 1000000000) :
    Calls Tryz.prog 141 #[.pointer (some ⟨R, 0, none⟩), .slice ao m c] w fun e w' => e = .returned (.tuple #[]) ∧ IsW N w' R M (b ++ l) ∧ Only wrT N w w' := by
  obtain ⟨v, h1, h2⟩ := hW.ex
  have hN := hW.lt
  have hlen := hl.hlen
  rw [List.length_map] at hlen
  obtain ⟨i0, hi, hz0, hz1, hz2⟩ := info_parts u8Info
  obtain ⟨v', w1, hrun, hown, hgr⟩ := append_row (P := Tryz.prog) w N 28 28 5 i0 _ 1 Tryz.underlying28 hi hz0 hz1 hz2 rfl v b.length (b.map u8V) h2 ao m c (l.map u8V) hl (u8_one l) (by omega) (by omega) hN
  have hrow : ∀ k, v.ownBlock = some k → ∃ cs, Blk w k cs 5 ∧ N ≤ k := fun k hk => by
    exact owns_tag h2 hk
  obtain ⟨va, vc, hv', _⟩ := own1_of_owns hown (by omega)
  obtain ⟨q, hq⟩ : ∃ q, q = b.length + m := ⟨_, rfl⟩
  rw [← hq] at hv' hown
  subst hv'
  have c0 : w.cell? ⟨R, 0, none⟩ = some v := h1.cell 0
  have h1' : Blk w1 R #[v, .map (some M)] 243 := grown_blk hgr hrow h1 (by decide)
  have c1 : w1.cell? ⟨R, 0, none⟩ = some v := h1'.cell 0
  have f1 := h1'.free 0
  have hg2 := but_set w1 R 0 (.slice va q vc)
  have h1'' := h1'.set 0 (.slice va q vc)
  have ho1 : Only wrT N w w1 := grown_only hgr hrow (by decide) hN
  have ho2 : Only wrT N w (w1.setCell ⟨R, 0, none⟩ (.slice va q vc)) := ho1.trans (Only.but hg2 h1' (by decide) hW.base)
  have hown2 : (w1.setCell ⟨R, 0, none⟩ (.slice va q vc)).ownsRow N 5 1 (.slice va q vc) q (b.map u8V ++ l.map u8V) := owns_but hown hg2 h1' (by decide)
  have HF := Lib.hid (And.intro h1'' (And.intro ho2 hown2))
  have HR := Lib.hid hrun
  have HB := Lib.hid (And.intro hW.base (And.intro hlen hq))
  clear hW h1 h2 hi hz0 hz1 hz2 hrun hown hgr hrow h1' hg2 h1'' ho1 ho2 hown2 hl hlen hq
  go_enter Tryz.func141, Tryz.ntmps141
  go_wp2_with (at_builtin; refine wpList_append_run rfl _ _ _ rfl _ _ rfl rfl HR.out ?_)
  go_end0
  refine ⟨rfl, ⟨⟨_, by simpa using HF.out.1, ?_⟩, HB.out.1⟩, HF.out.2.1⟩
  rw [List.length_append, List.map_append, HB.out.2.1, ← HB.out.2.2]
  exact HF.out.2.2
set_option maxHeartbeats 8000000 in
set_option maxRecDepth 100000 in
theorem wnum_any (w : World) (N R M : Nat) (b : List UInt8) (hW : IsW N w R M b) (n : Int) (size : Nat) (hs : 1 ≤ size) (hs7 : size ≤ 7) (hf : fitK n size = true) (hm : b.length ≤ 100000000) :
    Calls Tryz.prog 107 #[.pointer (some ⟨R, 0, none⟩), .int .i64 n, .int .i64 (size : Int)] w fun e w' => e = .returned (.tuple #[]) ∧ IsW N w' R M (b ++ putN n size) ∧ Only wrT N w w' := by
  have hN := hW.lt
  have HP := Lib.hid (putk_any w none 0 0 [] (Row.empty (by omega) (fun _ => rfl)) (by omega) n size hs hs7)
  have hpl : putL [] n size = putN n size := by rw [putL, if_pos hf]; rfl
  rw [hpl, putB_len] at HP
  have HW := Lib.hid (And.intro hW (And.intro hN hm))
  clear hW hN hpl hf hm hs
  go_enter Tryz.func107, Tryz.ntmps107
  go_wp2_with (first | (go_at_call 95; refine HP.out.mono ?_; rintro e W1 ⟨⟨v, rfl, hown⟩, hb1⟩; obtain ⟨ao, cap, rfl, hrow⟩ := row_of_owns hown (by omega); have H1 := Lib.hid (And.intro hrow hb1); clear hown hrow hb1) | (go_at_call 141; refine (wraw_any W1 N R M b (HW.out.1.on H1.out.2) ao size cap (putN n size) H1.out.1 (by have := HW.out.2.2; omega)).mono ?_; rintro e W2 ⟨rfl, hw2, ho2⟩; have H2 := Lib.hid (And.intro hw2 ((Only.below H1.out.2 HW.out.2.1).trans ho2)); clear hw2 ho2))
  go_end0
  exact ⟨rfl, H2.out.1, H2.out.2⟩
set_option maxHeartbeats 8000000 in
set_option maxRecDepth 100000 in
theorem wbytes_any (w : World) (N R M : Nat) (b : List UInt8) (hW : IsW N w R M b) (hm : b.length ≤ 100000000) :
    Calls Tryz.prog 110 #[.pointer (some ⟨R, 0, none⟩)] w fun e w' => (∃ ao c, e = .returned (.slice ao b.length c) ∧ Own1 [5] w.heap.size w' ao b.length c (b.map u8V)) ∧ Below w.heap.size w w' := by
  obtain ⟨v, h1, h2⟩ := hW.ex
  obtain ⟨ao, c, rfl, ho⟩ := own1_of_owns h2 (by omega)
  have c0 : w.cell? ⟨R, 0, none⟩ = some (.slice ao b.length c) := h1.cell 0
  have HC := Lib.hid (clone_byts w ao b.length c (b.map u8V) ho.row (u8_one b) (by omega))
  clear hW h1 h2 ho
  go_enter Tryz.func110, Tryz.ntmps110
  go_wp2_with (go_at_call 130; refine HC.out.mono ?_; rintro e W1 ⟨⟨a2, c2, rfl, ho2⟩, hb2⟩; have H1 := Lib.hid (And.intro ho2 hb2); clear ho2 hb2)
  go_ret
  exact ⟨⟨a2, c2, rfl, H1.out.1⟩, H1.out.2⟩
set_option maxHeartbeats 8000000 in
set_option maxRecDepth 100000 in
theorem wname_root (w : World) (N R M : Nat) (b : List UInt8) (hW : IsW N w R M b) (na : Option Addr) (nc : Nat) (hn : Strs w na 0 nc []) (short : Bool) (hm : b.length ≤ 100000000) :
    Calls Tryz.prog 109 #[.pointer (some ⟨R, 0, none⟩), .slice na 0 nc, .bool short] w fun e w' => e = .returned (.int .i64 0) ∧ IsW N w' R M (b ++ putN 0 1) ∧ Only wrT N w w' := by
  have HS := Lib.hid (sound_any w na 0 nc [] hn)
  rw [show soundB [] = true from by decide] at HS
  have HN := Lib.hid (wnum_any w N R M b hW 0 1 (by omega) (by omega) (by decide) hm)
  clear hW hn hm
  go_enter Tryz.func109, Tryz.ntmps109
  go_wp2_with (go_at_call 23; refine HS.out.mono ?_; rintro e w ⟨rfl, rfl⟩)
  go_loopw [21] (fun i wr => i = .int .i64 0 ∧ wr = w) (fun _ _ => 0)
  case atStart => exact ⟨rfl, rfl⟩
  case round =>
    obtain ⟨rfl, rfl⟩ := hrel
    go_wp2_with (go_at_call 107; refine HN.out.mono ?_; rintro e W2 ⟨rfl, hw2, ho2⟩; have H2 := Lib.hid (And.intro hw2 ho2); clear hw2 ho2)
    go_ret
    exact ⟨rfl, H2.out⟩
end
section
open Go.ChangeShapes Go.WideShapes Go.ChangeAt Go.RowKit

/-- a message that asks -/
def qmsgC (id : Int) (qs : Value) : Array Value := #[.int .i64 id, .bool false, .int .i64 0, .bool false, .bool false, .bool false, .bool false, .int .i64 0, qs, .slice none 0 0, .slice none 0 0, .slice none 0 0, .bool true, .int .i64 1232]
set_option maxHeartbeats 4000000 in
set_option maxRecDepth 100000 in
theorem bit_no (w : World) (k : Int) : Calls Tryz.prog 189 #[.bool false, .int .i64 k] w fun e w' => e = .returned (.int .i64 0) ∧ w' = w := by
  go_enter Tryz.func189, Tryz.ntmps189
  go_wp2_with fail
  go_ret
  exact ⟨rfl, rfl⟩
set_option maxHeartbeats 16000000 in
set_option maxRecDepth 100000 in
theorem flags_query (w : World) (m : Nat) (id : Int) (qs : Value) (hm : Blk w m (qmsgC id qs) 222) : Calls Tryz.prog 175 #[.pointer (some ⟨m, 0, none⟩)] w fun e w' => e = .returned (.int .i64 0) ∧ Below w.heap.size w w' := by
  have hmd := hm.on (Below.drew (Below.refl _ w))
  have c1 : w.drew.cell? ⟨m, 1, none⟩ = some (.bool false) := hmd.cell 1
  have c2 : w.drew.cell? ⟨m, 2, none⟩ = some (.int .i64 0) := hmd.cell 2
  have c3 : w.drew.cell? ⟨m, 3, none⟩ = some (.bool false) := hmd.cell 3
  have c4 : w.drew.cell? ⟨m, 4, none⟩ = some (.bool false) := hmd.cell 4
  have c5 : w.drew.cell? ⟨m, 5, none⟩ = some (.bool false) := hmd.cell 5
  have c6 : w.drew.cell? ⟨m, 6, none⟩ = some (.bool false) := hmd.cell 6
  have c7 : w.drew.cell? ⟨m, 7, none⟩ = some (.int .i64 0) := hmd.cell 7
  clear hm hmd
  go_enter Tryz.func175, Tryz.ntmps175
  go_wp2_with fail
  go_region_held3 (fun w' => w' = w.drew)
    (first | go_keep | rfl)
    (first | (go_at_call 189; refine (bit_no _ _).mono ?_; rintro e w2 ⟨rfl, rfl⟩))
  all_goals go_split_ands
  all_goals go_wp2_with fail
  all_goals go_ret
  all_goals exact ⟨ret_int (by decide), Below.drew (Below.refl _ _)⟩
set_option maxHeartbeats 16000000 in
set_option maxRecDepth 100000 in
theorem sections_any (w : World) (m : Nat) : Calls Tryz.prog 168 #[.pointer (some ⟨m, 0, none⟩)] w fun e w' => (∃ g, e = .returned (.slice (some ⟨g, 0, none⟩) 3 3) ∧ Blk w' g #[.pointer (some ⟨m, 9, none⟩), .pointer (some ⟨m, 10, none⟩), .pointer (some ⟨m, 11, none⟩)] 275 ∧ w.heap.size ≤ g) ∧ Below w.heap.size w w' := by
  go_enter Tryz.func168, Tryz.ntmps168
  go_wp2_with fail
  go_region
  all_goals go_wp2_with fail
  all_goals go_ret
  all_goals exact ⟨⟨w.heap.size, rfl, Blk.on (heap_alloc_new w (.cells #[.pointer (some ⟨m, 9, none⟩), .pointer (some ⟨m, 10, none⟩), .pointer (some ⟨m, 11, none⟩)] 275)) (Below.drew (Below.refl _ _)), Nat.le_refl _⟩, Below.drew ((Below.refl _ _).alloc (Nat.le_refl _) _)⟩
end
section
open Go.ChangeShapes Go.WideShapes Go.ChangeAt Go.RowKit

def qnum (id : Int) : Nat → Int
  | 0 => id
  | 1 => 0
  | 2 => 1
  | 3 => 0
  | 4 => 0
  | _ => 1
def qhead (id : Int) : Nat → List UInt8
  | 0 => []
  | t + 1 => qhead id t ++ putN (qnum id t) 2
theorem qhead_len (id : Int) (t : Nat) : (qhead id t).length = t * 2 := by
  induction t with
  | zero => rfl
  | succ t ih => rw [qhead, List.length_append, ih, putB_len]; omega
theorem qnum_fit {id : Int} (h : fitK id 2 = true) (t : Nat) : fitK (qnum id t) 2 = true := by
  match t with
  | 0 => exact h
  | 1 => show fitK 0 2 = true; decide
  | 2 => show fitK 1 2 = true; decide
  | 3 => show fitK 0 2 = true; decide
  | 4 => show fitK 0 2 = true; decide
  | n + 5 => show fitK 1 2 = true; decide
def qnumC (id : Int) : Array Value := #[.int .i64 id, .int .i64 0, .int .i64 1, .int .i64 0, .int .i64 0, .int .i64 1]
theorem qnum_cell {W : World} {g : Nat} {id : Int} (h : Blk W g (qnumC id) 3) {t : Nat} (ht : t < 6) : W.cell? ⟨g, t, none⟩ = some (.int .i64 (qnum id t)) := by
  rw [h.cell t]
  match t, ht with
  | 0, _ | 1, _ | 2, _ | 3, _ | 4, _ | 5, _ => rfl
/-- the bytes of a question of the root -/
def rootQ (id typ : Int) : List UInt8 := (((((((qhead id 6 ++ putN 0 1) ++ putN typ 2) ++ putN 1 2) ++ [0]) ++ putN 41 2) ++ putN 1232 2) ++ putN 0 6)
/-- the bytes ahead of the question, behind it -/
def rootA (id typ : Int) : Nat → List UInt8
  | 0 => qhead id 6
  | _ => ((qhead id 6 ++ putN 0 1) ++ putN typ 2) ++ putN 1 2
theorem rootQ_len (id typ : Int) : (rootQ id typ).length = 28 := by simp [rootQ, qhead_len, putB_len]
set_option maxHeartbeats 16000000 in
set_option maxRecDepth 100000 in
theorem mraw_root (w : World) (id typ : Int) (hid : fitK id 2 = true) (ht : fitK typ 2 = true) (Q : Nat) (na : Option Addr) (nc : Nat) (hQ : Blk w Q #[.slice na 0 nc, .int .i64 typ, .int .i64 1] 38) (hn : Strs w na 0 nc []) :
    Calls Tryz.prog 152 #[.agg (qmsgC id (.slice (some ⟨Q, 0, none⟩) 1 1))] w fun e w' => (∃ ao c, e = .returned (.slice ao 28 c) ∧ Own1 [5] w.heap.size w' ao 28 c ((rootQ id typ).map u8V)) ∧ Below w.heap.size w w' := by
  have hal : Below w.heap.size w (w.alloc (.cells (qmsgC id (.slice (some ⟨Q, 0, none⟩) 1 1)) 222)) := (Below.refl _ _).alloc (Nat.le_refl _) _
  have hA : Blk (w.alloc (.cells (qmsgC id (.slice (some ⟨Q, 0, none⟩) 1 1)) 222)) w.heap.size (qmsgC id (.slice (some ⟨Q, 0, none⟩) 1 1)) 222 := heap_alloc_new w _
  have HNW := Lib.hid (wname_new (w.alloc (.cells (qmsgC id (.slice (some ⟨Q, 0, none⟩) 1 1)) 222)))
  have HA := Lib.hid (And.intro hal (And.intro hA (And.intro hQ (And.intro hn (And.intro hid ht)))))
  simp only [qmsgC] at HNW ⊢
  clear hal hA hQ hn hid ht
  go_enter Tryz.func152, Tryz.ntmps152
  go_wp2_with (go_at_call 106; refine HNW.out.mono ?_; rintro e W1 ⟨⟨R, M, rfl, hw1, _⟩, hb1⟩; have hM1 := HA.out.2.1.on hb1; have c0 := hM1.cell 0; have c8 := hM1.cell 8; have c9 := hM1.cell 9; have c10 := hM1.cell 10; have c11 := hM1.cell 11; have c12 := hM1.cell 12; simp [qmsgC] at c0 c8 c9 c10 c11 c12; have H1 := Lib.hid (And.intro hw1 (And.intro hM1 (below_on HA.out.1 hb1 (Nat.le_refl _)))); clear hw1 hM1 hb1)
  go_region_held3 (fun w' => w'.cell? ⟨w.heap.size, 0, none⟩ = some (.int .i64 id) ∧ w'.cell? ⟨w.heap.size, 8, none⟩ = some (.slice (some ⟨Q, 0, none⟩) 1 1) ∧ w'.cell? ⟨w.heap.size, 9, none⟩ = some (.slice none 0 0) ∧ w'.cell? ⟨w.heap.size, 10, none⟩ = some (.slice none 0 0))
    (first | go_keep | exact ⟨c0, c8, c9, c10⟩ | exact hc2)
    (first | (go_at_call 175; refine (flags_query _ _ id _ (H1.out.2.1.on (Below.drew (Below.refl _ _)))).mono ?_; rintro e W2 ⟨rfl, hb2⟩; have hm2 := (H1.out.2.1.on (Below.drew (Below.refl _ _))).on hb2; have hc2 : W2.cell? ⟨w.heap.size, 0, none⟩ = some (.int .i64 id) ∧ W2.cell? ⟨w.heap.size, 8, none⟩ = some (.slice (some ⟨Q, 0, none⟩) 1 1) ∧ W2.cell? ⟨w.heap.size, 9, none⟩ = some (.slice none 0 0) ∧ W2.cell? ⟨w.heap.size, 10, none⟩ = some (.slice none 0 0) := ⟨hm2.cell 0, hm2.cell 8, hm2.cell 9, hm2.cell 10⟩; have H2 := Lib.hid (And.intro hm2 (below_on (Below.drew (Below.refl W1.heap.size W1)) hb2 (Nat.le_refl _))); clear hb2 hm2))
  all_goals go_split_ands
  all_goals go_wp2_with fail
  have hbm := (Below.refl W2.heap.size W2).alloc (Nat.le_refl _) (.cells (qnumC id) 3)
  have hG := heap_alloc_new W2 (.cells (qnumC id) 3)
  obtain ⟨G, hGe⟩ : ∃ G, G = W2.heap.size := ⟨_, rfl⟩
  simp only [qnumC] at hbm hG
  rw [← hGe]
  generalize (W2.alloc (.cells #[.int .i64 id, .int .i64 0, .int .i64 1, .int .i64 0, .int .i64 0, .int .i64 1] 3)) = Wa at *
  have hb1a : Below W1.heap.size W1 Wa := below_on H2.out.2 hbm (Nat.le_refl _)
  have e1 : (w.alloc (.cells (qmsgC id (.slice (some ⟨Q, 0, none⟩) 1 1)) 222)).heap.size = w.heap.size + 1 := Array.size_push _
  simp only [qmsgC] at e1
  have hI : IsW (w.heap.size + 1) Wa R M [] := by have h := H1.out.1.on hb1a; rwa [e1] at h
  have HW := Lib.hid (And.intro hI (And.intro (hGe ▸ hG : Blk Wa G (qnumC id) 3) (And.intro (H2.out.1.on hbm) (below_on H1.out.2.2 hb1a (Nat.le_refl _)))))
  have HX := Lib.hid (And.intro (HA.out.2.2.1.on HW.out.2.2.2) (And.intro (HA.out.2.2.2.1.below HW.out.2.2.2 (Nat.le_refl _)) HA.out.2.2.2.2))
  clear hbm hG hb1a hGe e1 hI
  go_loopw [36] (fun i wr => ∃ t : Nat, t ≤ 6 ∧ i = .int .i64 (t : Int) ∧ Hid (IsW (w.heap.size + 1) wr R M (qhead id t) ∧ Only wrT (w.heap.size + 1) Wa wr)) (fun i _ => (6 - intOf i).toNat)
  case atStart => exact ⟨0, Nat.zero_le _, rfl, Lib.hid ⟨HW.out.1, Only.refl _ _ _⟩⟩
  case round =>
    obtain ⟨t, ht, rfl, hinv⟩ := hrel
    by_cases h0 : t = 6
    · subst h0
      have hm3 := hinv.out.2.blk HW.out.2.2.1 (by decide)
      have hq3 := hinv.out.2.blk HX.out.1 (by decide)
      have d8 : wr.cell? ⟨w.heap.size, 8, none⟩ = some (.slice (some ⟨Q, 0, none⟩) 1 1) := hm3.cell 8
      clear hm3 hq3
      have hc6 : ((6 : Nat) : Int) = 6 := rfl
      rw [hc6]
      clear hc6
      go_wp2_with fail
      go_loopw [47] (fun i wi => ∃ t : Nat, t ≤ 1 ∧ i = .int .i64 (t : Int) ∧ Hid (IsW (w.heap.size + 1) wi R M (rootA id typ t) ∧ Only wrT (w.heap.size + 1) Wa wi)) (fun i _ => (1 - intOf i).toNat)
      case atStart => exact ⟨0, Nat.zero_le _, rfl, hinv⟩
      case round =>
        rename World => w3
        obtain ⟨t, ht, rfl, hin2⟩ := hrel
        by_cases h1 : t = 1
        · subst h1
          go_wp2_with fail
          refine (sections_any w3 w.heap.size).mono ?_
          rintro e wS ⟨⟨gs, rfl, hgs, hgl⟩, hbS⟩
          have hmS := (hin2.out.2.blk HW.out.2.2.1 (by decide)).on hbS
          have HS := Lib.hid (And.intro hgs (And.intro hmS (And.intro (hin2.out.1.on hbS) (hin2.out.2.trans (Only.below hbS hin2.out.1.lt)))))
          clear hgs hgl hbS hmS
          go_wp2_with fail
          go_loopw [66] (fun i wi => ∃ t : Nat, t ≤ 3 ∧ i = .int .i64 (t : Int) ∧ wS = wi) (fun i _ => (3 - intOf i).toNat)
          case atStart => exact ⟨0, by omega, rfl, rfl⟩
          case round =>
            obtain ⟨t, ht, rfl, rfl⟩ := hrel
            by_cases h3 : t = 3
            · subst h3
              have e12 : wS.cell? ⟨w.heap.size, 12, none⟩ = some (.bool true) := HS.out.2.1.cell 12
              go_wp2_with fail
              have hbz := (Below.refl wS.heap.size wS).alloc (Nat.le_refl _) (.cells #[.int .u8 0] 5)
              have hrz := row_one wS (.int .u8 0) 5
              generalize (wS.alloc (.cells #[.int .u8 0] 5)) = wz at *
              have HZ := Lib.hid (And.intro (HS.out.2.2.1.on hbz) (And.intro (HS.out.2.2.2.trans (Only.below hbz HS.out.2.2.1.lt)) (HS.out.2.1.on hbz)))
              refine (wraw_any wz (w.heap.size + 1) R M _ HZ.out.1 _ 1 1 [0] hrz (by simp [rootA, qhead_len, putB_len])).mono ?_
              rintro e w7 ⟨rfl, hI7, hO7⟩
              have H7 := Lib.hid (And.intro hI7 (HZ.out.2.1.trans hO7))
              have hm7 := hO7.blk HZ.out.2.2 (by decide)
              have HM7 := Lib.hid hm7
              clear hI7 hO7 hm7 hrz hbz
              go_wp2_with fail
              refine (wnum_any w7 (w.heap.size + 1) R M _ H7.out.1 41 2 (by omega) (by omega) (by decide) (by simp [rootA, qhead_len, putB_len])).mono ?_
              rintro e w8 ⟨rfl, hI8, hO8⟩
              have hm8 := hO8.blk HM7.out (by decide)
              have m13 : w8.cell? ⟨w.heap.size, 13, none⟩ = some (.int .i64 1232) := hm8.cell 13
              have H8 := Lib.hid (And.intro hI8 (H7.out.2.trans hO8))
              clear hI8 hO8 hm8
              go_wp2_with fail
              refine (wnum_any w8 (w.heap.size + 1) R M _ H8.out.1 1232 2 (by omega) (by omega) (by decide) (by simp [rootA, qhead_len, putB_len])).mono ?_
              rintro e w9 ⟨rfl, hI9, hO9⟩
              have H9 := Lib.hid (And.intro hI9 (H8.out.2.trans hO9))
              clear hI9 hO9 m13
              go_wp2_with fail
              refine (wnum_any w9 (w.heap.size + 1) R M _ H9.out.1 0 6 (by omega) (by omega) (by decide) (by simp [rootA, qhead_len, putB_len])).mono ?_
              rintro e wA ⟨rfl, hIA, hOA⟩
              have HAA := Lib.hid (And.intro hIA (H9.out.2.trans hOA))
              clear hIA hOA
              go_wp2_with fail
              refine (wbytes_any wA (w.heap.size + 1) R M _ HAA.out.1 (by simp [rootA, qhead_len, putB_len])).mono ?_
              rintro e wB ⟨⟨ao, cc, rfl, hoB⟩, hbB⟩
              have hlen : (((((rootA id typ 1 ++ [0]) ++ putN 41 2) ++ putN 1232 2) ++ putN 0 6)).length = 28 := by simp [rootA, qhead_len, putB_len]
              rw [hlen] at hoB ⊢
              have HB := Lib.hid (And.intro hoB hbB)
              clear hoB hbB hlen
              go_wp2_with fail
              go_ret
              have hbA : Below w.heap.size w wA := HW.out.2.2.2.trans (HAA.out.2.bel.mono (Nat.le_succ _))
              exact ⟨⟨ao, cc, rfl, HB.out.1.mono hbA.size⟩, below_on hbA HB.out.2 (Nat.le_refl _)⟩
            · have ht3 : t < 3 := by omega
              have cg : wS.cell? ⟨gs, t, none⟩ = some (.pointer (some ⟨w.heap.size, 9 + t, none⟩)) := by
                rw [HS.out.1.cell t]
                match t, ht3 with
                | 0, _ | 1, _ | 2, _ => rfl
              have cs : wS.cell? ⟨w.heap.size, 9 + t, none⟩ = some (.slice none 0 0) := by
                rw [HS.out.2.1.cell (9 + t)]
                match t, ht3 with
                | 0, _ | 1, _ | 2, _ => rfl
              go_wp2_with fail
              go_loopw [74] (fun i wi => i = .int .i64 0 ∧ wS = wi) (fun _ _ => 0)
              case atStart => exact ⟨rfl, rfl⟩
              case round =>
                obtain ⟨rfl, rfl⟩ := hrel
                go_wp2_with fail
                go_roundw
                case rel => exact ⟨t + 1, ht3, by simp, trivial⟩
                case measure => simp [intOf]; omega
        · have h0 : t = 0 := by omega
          subst h0
          have hq4 := hin2.out.2.blk HX.out.1 (by decide)
          have q0 : w3.cell? ⟨Q, 0, none⟩ = some (.slice na 0 nc) := hq4.cell 0
          have q1 : w3.cell? ⟨Q, 1, none⟩ = some (.int .i64 typ) := hq4.cell 1
          have q2 : w3.cell? ⟨Q, 2, none⟩ = some (.int .i64 1) := hq4.cell 2
          clear hq4
          go_wp2_with fail
          have hbm := (Below.refl w3.heap.size w3).alloc (Nat.le_refl _) (.cells #[.slice na 0 nc, .int .i64 typ, .int .i64 1] 38)
          have hG := heap_alloc_new w3 (.cells #[.slice na 0 nc, .int .i64 typ, .int .i64 1] 38)
          obtain ⟨g, hge⟩ : ∃ g, g = w3.heap.size := ⟨_, rfl⟩
          have hg0 := hin2.out.1.lt
          rw [← hge] at hG ⊢
          generalize (w3.alloc (.cells #[.slice na 0 nc, .int .i64 typ, .int .i64 1] 38)) = wq at *
          have hOq : Only wrT (w.heap.size + 1) Wa wq := hin2.out.2.trans (Only.below hbm hg0)
          have hI0 := hin2.out.1.on hbm
          have hnq : Strs wq na 0 nc [] := strs_only HX.out.2.1 (rowIn_zero _ _) hOq
          refine (wname_root wq (w.heap.size + 1) R M _ hI0 na nc hnq true (by simp [rootA, qhead_len])).mono ?_
          rintro e w4 ⟨rfl, hI4, hO4⟩
          have hg4 := hO4.blk (hG : Blk wq g #[.slice na 0 nc, .int .i64 typ, .int .i64 1] 38) (by decide)
          have k1 : w4.cell? ⟨g, 1, none⟩ = some (.int .i64 typ) := hg4.cell 1
          have H4 := Lib.hid (And.intro hI4 (And.intro (hOq.trans hO4) hg4))
          clear hI4 hO4 hg4 hnq hI0 hOq hG hbm hge hg0
          go_wp2_with fail
          refine (wnum_any w4 (w.heap.size + 1) R M _ H4.out.1 typ 2 (by omega) (by omega) HX.out.2.2.2 (by simp [rootA, qhead_len, putB_len])).mono ?_
          rintro e w5 ⟨rfl, hI5, hO5⟩
          have hg5 := hO5.blk H4.out.2.2 (by decide)
          have k2 : w5.cell? ⟨g, 2, none⟩ = some (.int .i64 1) := hg5.cell 2
          have H5 := Lib.hid (And.intro hI5 (H4.out.2.1.trans hO5))
          clear hI5 hO5 hg5 k1
          go_wp2_with fail
          refine (wnum_any w5 (w.heap.size + 1) R M _ H5.out.1 1 2 (by omega) (by omega) (by decide) (by simp [rootA, qhead_len, putB_len])).mono ?_
          rintro e w6 ⟨rfl, hI6, hO6⟩
          have H6 := Lib.hid (And.intro hI6 (H5.out.2.trans hO6))
          clear hI6 hO6
          go_wp2_with fail
          go_roundw
          case rel => exact ⟨1, Nat.le_refl _, by simp, H6⟩
          case measure => simp [intOf]
    · have hlt : t < 6 := by omega
      have cg := qnum_cell (hinv.out.2.blk HW.out.2.1 (by decide)) hlt
      have HR := Lib.hid (wnum_any wr (w.heap.size + 1) R M (qhead id t) hinv.out.1 (qnum id t) 2 (by omega) (by omega) (qnum_fit HX.out.2.2.1 t) (by rw [qhead_len]; omega))
      go_wp2_with (go_at_call 107; refine HR.out.mono ?_; rintro e W3 ⟨rfl, hw3, ho3⟩; have H3 := Lib.hid (And.intro hw3 (hinv.out.2.trans ho3)); clear hw3 ho3)
      go_roundw
      case rel => exact ⟨t + 1, hlt, by simp, H3⟩
      case measure => simp [intOf]; omega
end
section
open Go.ChangeShapes Go.WideShapes Go.ChangeAt Go.RowKit

set_option maxHeartbeats 4000000 in
set_option maxRecDepth 100000 in
theorem idxRR_none (w : World) (f : Value) : Calls Tryz.prog 186 #[.slice none 0 0, f] w fun e w' => e = .returned (.int .i64 (-1)) ∧ w' = w := by
  go_enter Tryz.func186, Tryz.ntmps186
  go_wp2_with fail
  go_loopw [8] (fun iv wr => iv = .int .i64 0 ∧ wr = w) (fun _ _ => 0)
  case atStart => exact ⟨rfl, rfl⟩
  case round =>
    obtain ⟨rfl, rfl⟩ := hrel
    go_wp2_with fail
    go_ret
    exact ⟨rfl, rfl⟩
set_option maxHeartbeats 4000000 in
set_option maxRecDepth 100000 in
theorem containsRR_none (w : World) (f : Value) : Calls Tryz.prog 169 #[.slice none 0 0, f] w fun e w' => e = .returned (.bool false) ∧ w' = w := by
  go_enter Tryz.func169, Tryz.ntmps169
  go_wp2_with fail
  refine (idxRR_none _ _).mono ?_
  rintro e w1 ⟨rfl, rfl⟩
  go_wp2_with fail
  go_ret
  exact ⟨rfl, rfl⟩
set_option maxHeartbeats 8000000 in
set_option maxRecDepth 100000 in
theorem mquestion_root (w : World) (na : Option Addr) (nc : Nat) (hn : Strs w na 0 nc []) :
    Calls Tryz.prog 174 #[.agg #[.slice na 0 nc, .int .i64 1, .int .i64 1]] w fun e w' => e = .returned (.bool true) ∧ Below w.heap.size w w' := by
  have hal : Below w.heap.size w (w.alloc (.cells #[.slice na 0 nc, .int .i64 1, .int .i64 1] 38)) := (Below.refl _ _).alloc (Nat.le_refl _) _
  have HS := Lib.hid (sound_any _ na 0 nc [] (hn.below hal (Nat.le_refl _)))
  rw [show soundB [] = true from by decide] at HS
  have hf := fitk_any (w.alloc (.cells #[.slice na 0 nc, .int .i64 1, .int .i64 1] 38)) 1 2 (by omega) (by omega)
  rw [show fitK 1 2 = true from by decide] at hf
  have HF := Lib.hid hf
  have HB := Lib.hid hal
  clear hn hal hf
  go_enter Tryz.func174, Tryz.ntmps174
  go_wp2_with (first | (go_at_call 23; refine HS.out.mono ?_; rintro e w' ⟨rfl, rfl⟩) | (go_at_call 94; refine HF.out.mono ?_; rintro e w' ⟨rfl, rfl⟩))
  go_ret
  exact ⟨rfl, HB.out⟩
set_option maxHeartbeats 8000000 in
set_option maxRecDepth 100000 in
theorem sound2_root (w : World) (na : Option Addr) (nc : Nat) (hn : Strs w na 0 nc []) :
    Calls Tryz.prog 173 #[.agg #[.slice na 0 nc, .int .i64 1, .int .i64 1]] w fun e w' => e = .returned (.bool false) ∧ Below w.heap.size w w' := by
  have hal : Below w.heap.size w (w.alloc (.cells #[.slice na 0 nc, .int .i64 1, .int .i64 1] 38)) := (Below.refl _ _).alloc (Nat.le_refl _) _
  have HS := Lib.hid (mquestion_root _ na nc (hn.below hal (Nat.le_refl _)))
  have HB := Lib.hid hal
  clear hn hal
  go_enter Tryz.func173, Tryz.ntmps173
  go_wp2_with (go_at_call 174; refine HS.out.mono ?_; rintro e w' ⟨rfl, hb⟩; have H1 := Lib.hid hb; clear hb)
  go_ret
  exact ⟨rfl, below_on HB.out H1.out (Nat.le_refl _)⟩
set_option maxHeartbeats 8000000 in
set_option maxRecDepth 100000 in
theorem idxQ_root (w : World) (Q : Nat) (na : Option Addr) (nc : Nat) (hQ : Blk w Q #[.slice na 0 nc, .int .i64 1, .int .i64 1] 38) (hn : Strs w na 0 nc []) :
    Calls Tryz.prog 188 #[.slice (some ⟨Q, 0, none⟩) 1 1, .func (.func 173) #[] #[]] w fun e w' => e = .returned (.int .i64 (-1)) ∧ Below w.heap.size w w' := by
  have q0 : w.cell? ⟨Q, 0, none⟩ = some (.slice na 0 nc) := hQ.cell 0
  have q1 : w.cell? ⟨Q, 1, none⟩ = some (.int .i64 1) := hQ.cell 1
  have q2 : w.cell? ⟨Q, 2, none⟩ = some (.int .i64 1) := hQ.cell 2
  have HQ := Lib.hid (sound2_root w na nc hn)
  clear hQ hn
  go_enter Tryz.func188, Tryz.ntmps188
  go_wp2_with fail
  go_loopw [5, 8] (fun v i wr => (i = .int .i64 0 ∧ wr = w) ∨ (i = .int .i64 1 ∧ Hid (Below w.heap.size w wr))) (fun _ i _ => 1 - (intOf i).toNat)
  case atStart => exact .inl ⟨rfl, rfl⟩
  case round =>
    rcases hrel with ⟨rfl, rfl⟩ | ⟨rfl, hb⟩
    · go_wp2_with (go_at_call 173; refine HQ.out.mono ?_; rintro e w2 ⟨rfl, hb⟩; have H1 := Lib.hid hb; clear hb)
      go_roundw
      case rel => exact .inr ⟨by simp, H1⟩
      case measure => simp [intOf]
    · go_wp2_with fail
      go_ret
      exact ⟨rfl, hb.out⟩
set_option maxHeartbeats 8000000 in
set_option maxRecDepth 100000 in
theorem containsQ_root (w : World) (Q : Nat) (na : Option Addr) (nc : Nat) (hQ : Blk w Q #[.slice na 0 nc, .int .i64 1, .int .i64 1] 38) (hn : Strs w na 0 nc []) :
    Calls Tryz.prog 172 #[.slice (some ⟨Q, 0, none⟩) 1 1, .func (.func 173) #[] #[]] w fun e w' => e = .returned (.bool false) ∧ Below w.heap.size w w' := by
  have HI := Lib.hid (idxQ_root w Q na nc hQ hn)
  clear hQ hn
  go_enter Tryz.func172, Tryz.ntmps172
  go_wp2_with fail
  refine HI.out.mono ?_
  rintro e w1 ⟨rfl, hb⟩
  have H1 := Lib.hid hb
  clear hb
  go_wp2_with fail
  go_ret
  exact ⟨rfl, H1.out⟩
set_option maxHeartbeats 16000000 in
set_option maxRecDepth 100000 in
theorem msound_root (w : World) (id : Int) (hid : fitK id 2 = true) (Q : Nat) (na : Option Addr) (nc : Nat) (hQ : Blk w Q #[.slice na 0 nc, .int .i64 1, .int .i64 1] 38) (hn : Strs w na 0 nc []) :
    Calls Tryz.prog 151 #[.agg (qmsgC id (.slice (some ⟨Q, 0, none⟩) 1 1))] w fun e w' => e = .returned (.bool true) ∧ Below w.heap.size w w' := by
  have hal : Below w.heap.size w (w.alloc (.cells (qmsgC id (.slice (some ⟨Q, 0, none⟩) 1 1)) 222)) := (Below.refl _ _).alloc (Nat.le_refl _) _
  have hA : Blk (w.alloc (.cells (qmsgC id (.slice (some ⟨Q, 0, none⟩) 1 1)) 222)) w.heap.size (qmsgC id (.slice (some ⟨Q, 0, none⟩) 1 1)) 222 := heap_alloc_new w _
  have HNW := Lib.hid (sections_any (w.alloc (.cells (qmsgC id (.slice (some ⟨Q, 0, none⟩) 1 1)) 222)) w.heap.size)
  have HA := Lib.hid (And.intro hal (And.intro hA (And.intro hQ (And.intro hn hid))))
  simp only [qmsgC] at HNW ⊢
  clear hal hA hQ hn hid
  go_enter Tryz.func151, Tryz.ntmps151
  go_wp2_with (go_at_call 168; refine HNW.out.mono ?_; rintro e wS ⟨⟨gs, rfl, hgs, _⟩, hbS⟩; have HS := Lib.hid (And.intro hgs (And.intro (HA.out.2.1.on hbS) (below_on HA.out.1 hbS (Nat.le_refl _)))); clear hgs hbS)
  go_loopw [3, 11] (fun a i wi => a = .int .i64 1 ∧ ∃ t : Nat, t ≤ 3 ∧ i = .int .i64 (t : Int) ∧ wS = wi) (fun _ i _ => (3 - intOf i).toNat)
  case atStart => exact ⟨rfl, 0, by omega, rfl, rfl⟩
  case round =>
    obtain ⟨rfl, t, ht, rfl, rfl⟩ := hrel
    by_cases h3 : t = 3
    · subst h3
      have hm := HS.out.2.1
      have c0 : wS.cell? ⟨w.heap.size, 0, none⟩ = some (.int .i64 id) := hm.cell 0
      have c2 : wS.cell? ⟨w.heap.size, 2, none⟩ = some (.int .i64 0) := hm.cell 2
      have c7 : wS.cell? ⟨w.heap.size, 7, none⟩ = some (.int .i64 0) := hm.cell 7
      have c8 : wS.cell? ⟨w.heap.size, 8, none⟩ = some (.slice (some ⟨Q, 0, none⟩) 1 1) := hm.cell 8
      have c12 : wS.cell? ⟨w.heap.size, 12, none⟩ = some (.bool true) := hm.cell 12
      have c13 : wS.cell? ⟨w.heap.size, 13, none⟩ = some (.int .i64 1232) := hm.cell 13
      have HID := HA.out.2.2.2.2
      have h12 : fitK 1232 2 = true := by decide
      have HQ := Lib.hid (containsQ_root wS Q na nc (HA.out.2.2.1.on HS.out.2.2) (HA.out.2.2.2.1.below HS.out.2.2 (Nat.le_refl _)))
      clear hm
      go_wp2_with (first | (go_at_call 94; refine (fitk_any _ _ 2 (by omega) (by omega)).mono ?_; rintro e w' ⟨rfl, rfl⟩; simp only [HID, h12]) | (go_at_call 172; refine HQ.out.mono ?_; rintro e w' ⟨rfl, hb⟩; have H1 := Lib.hid hb; clear hb))
      go_ret
      exact ⟨rfl, below_on HS.out.2.2 H1.out (Nat.le_refl _)⟩
    · have ht3 : t < 3 := by omega
      have cg : wS.cell? ⟨gs, t, none⟩ = some (.pointer (some ⟨w.heap.size, 9 + t, none⟩)) := by
        rw [HS.out.1.cell t]
        match t, ht3 with
        | 0, _ | 1, _ | 2, _ => rfl
      have cs : wS.cell? ⟨w.heap.size, 9 + t, none⟩ = some (.slice none 0 0) := by
        rw [HS.out.2.1.cell (9 + t)]
        match t, ht3 with
        | 0, _ | 1, _ | 2, _ => rfl
      have HC := Lib.hid (containsRR_none wS (.func (.func 170) #[] #[]))
      go_wp2_with (go_at_call 169; refine HC.out.mono ?_; rintro e w' ⟨rfl, rfl⟩)
      go_roundw
      case rel => exact ⟨by simp, t + 1, ht3, by simp, trivial⟩
      case measure => simp [intOf]; omega
set_option maxHeartbeats 16000000 in
set_option maxRecDepth 100000 in
theorem mencode_root (w : World) (id : Int) (hid : fitK id 2 = true) (Q : Nat) (na : Option Addr) (nc : Nat) (hQ : Blk w Q #[.slice na 0 nc, .int .i64 1, .int .i64 1] 38) (hn : Strs w na 0 nc []) :
    Calls Tryz.prog 126 #[.agg (qmsgC id (.slice (some ⟨Q, 0, none⟩) 1 1))] w fun e w' => (∃ ao c, e = .returned (.tuple #[.slice ao 28 c, .int .i64 0])) ∧ Below w.heap.size w w' := by
  have hal : Below w.heap.size w (w.alloc (.cells (qmsgC id (.slice (some ⟨Q, 0, none⟩) 1 1)) 222)) := (Below.refl _ _).alloc (Nat.le_refl _) _
  have hA : Blk (w.alloc (.cells (qmsgC id (.slice (some ⟨Q, 0, none⟩) 1 1)) 222)) w.heap.size (qmsgC id (.slice (some ⟨Q, 0, none⟩) 1 1)) 222 := heap_alloc_new w _
  have HS := Lib.hid (msound_root _ id hid Q na nc (hQ.on hal) (hn.below hal (Nat.le_refl _)))
  have HA := Lib.hid (And.intro hal (And.intro hA (And.intro hQ (And.intro hn hid))))
  simp only [qmsgC] at HS ⊢
  clear hal hA hQ hn hid
  go_enter Tryz.func126, Tryz.ntmps126
  go_wp2_with fail
  refine HS.out.mono ?_
  rintro e W1 ⟨rfl, hb1⟩
  have hm := HA.out.2.1.on hb1
  have c0 : W1.cell? ⟨w.heap.size, 0, none⟩ = some (.int .i64 id) := hm.cell 0
  have c1 : W1.cell? ⟨w.heap.size, 1, none⟩ = some (.bool false) := hm.cell 1
  have c2 : W1.cell? ⟨w.heap.size, 2, none⟩ = some (.int .i64 0) := hm.cell 2
  have c3 : W1.cell? ⟨w.heap.size, 3, none⟩ = some (.bool false) := hm.cell 3
  have c4 : W1.cell? ⟨w.heap.size, 4, none⟩ = some (.bool false) := hm.cell 4
  have c5 : W1.cell? ⟨w.heap.size, 5, none⟩ = some (.bool false) := hm.cell 5
  have c6 : W1.cell? ⟨w.heap.size, 6, none⟩ = some (.bool false) := hm.cell 6
  have c7 : W1.cell? ⟨w.heap.size, 7, none⟩ = some (.int .i64 0) := hm.cell 7
  have c8 : W1.cell? ⟨w.heap.size, 8, none⟩ = some (.slice (some ⟨Q, 0, none⟩) 1 1) := hm.cell 8
  have c9 : W1.cell? ⟨w.heap.size, 9, none⟩ = some (.slice none 0 0) := hm.cell 9
  have c10 : W1.cell? ⟨w.heap.size, 10, none⟩ = some (.slice none 0 0) := hm.cell 10
  have c11 : W1.cell? ⟨w.heap.size, 11, none⟩ = some (.slice none 0 0) := hm.cell 11
  have c12 : W1.cell? ⟨w.heap.size, 12, none⟩ = some (.bool true) := hm.cell 12
  have c13 : W1.cell? ⟨w.heap.size, 13, none⟩ = some (.int .i64 1232) := hm.cell 13
  have hb2 := below_on HA.out.1 hb1 (Nat.le_refl _)
  have HR := Lib.hid (mraw_root W1 id 1 HA.out.2.2.2.2 (by decide) Q na nc (HA.out.2.2.1.on hb2) (HA.out.2.2.2.1.below hb2 (Nat.le_refl _)))
  have HB := Lib.hid hb2
  simp only [qmsgC] at HR
  clear hm hb1 hb2
  go_wp2_with (go_at_call 152; refine HR.out.mono ?_; rintro e W2 ⟨⟨ao, c, rfl, _⟩, hb3⟩; have H2 := Lib.hid hb3; clear hb3)
  go_ret2
  exact ⟨⟨ao, c, rfl⟩, below_on HB.out H2.out (Nat.le_refl _)⟩
end
section
open Go.ChangeShapes Go.WideShapes Go.ChangeAt Go.RowKit

def outC (ao : Option Addr) (c : Nat) (port id : Int) (na : Option Addr) (nc : Nat) : Array Value := #[.slice ao 4 c, .int .i64 port, .int .i64 id, .slice na 0 nc, .int .i64 1, .int .i64 1]
theorem set3_only {W : World} {g : Nat} {x0 x1 x2 : Value} {T : TypeId} (h : Blk W g #[x0, x1, x2] T) (v0 v1 v2 : Value) : Only [T] g W (((W.setCell ⟨g, 0, none⟩ v0).setCell ⟨g, 1, none⟩ v1).setCell ⟨g, 2, none⟩ v2) ∧ Blk (((W.setCell ⟨g, 0, none⟩ v0).setCell ⟨g, 1, none⟩ v1).setCell ⟨g, 2, none⟩ v2) g #[v0, v1, v2] T := by
  have h1 := h.set 0 v0
  have h2 := h1.set 1 v1
  have h3 := h2.set 2 v2
  have o1 : Only [T] g W _ := Only.but (but_set W g 0 v0) h (by simp) (Nat.le_refl _)
  have o2 : Only [T] g _ _ := Only.but (but_set _ g 1 v1) h1 (by simp) (Nat.le_refl _)
  have o3 : Only [T] g _ _ := Only.but (but_set _ g 2 v2) h2 (by simp) (Nat.le_refl _)
  exact ⟨(o1.trans o2).trans o3, by simpa using h3⟩
theorem own1_only {T S : List TypeId} {N B : Nat} {w w' : World} {ao : Option Addr} {n c : Nat} {vs : List Value} (h : Own1 T N w ao n c vs) (ho : Only S B w w') (hd : ∀ t ∈ T, t ∉ S) : Own1 T N w' ao n c vs :=
  h.step ((ho.same hd).mono fun _ _ hb => hb.1)
theorem query_results {tmps : Array Value} {w : World} {R : Nat} {a b c : Value} {n : Int} (h4 : tmps[2]? = some (.pointer (some ⟨R, 0, none⟩))) (h5 : tmps[3]? = some (.int .i64 n)) (hB : Blk w R #[a, b, c] 42) :
    (results Tryz.f88 tmps).run Tryz.prog w = .ok (.tuple #[.agg #[a, b, c], .int .i64 n]) w := by
  have c0 := hB.cell 0
  have c1 := hB.cell 1
  have c2 := hB.cell 2
  simp at c0 c1 c2
  simp [results, go_sem, h4, h5, c0, c1, c2]
set_option maxHeartbeats 16000000 in
set_option maxRecDepth 100000 in
theorem squery_root (w : World) (ao : Option Addr) (c : Nat) (vs : List Value) (hA : Row w ao 4 c vs) (hv : ∀ u ∈ vs, u.oneCell' = true) (port id : Int) (hp : fitK port 2 = true) (hid : fitK id 2 = true) (na : Option Addr) (nc : Nat) (hn : Strs w na 0 nc []) :
    Calls Tryz.prog 88 #[.agg (outC ao c port id na nc)] w fun e w' => (∃ a2 c2 d2 dc, e = .returned (.tuple #[.agg #[.slice a2 4 c2, .int .i64 port, .slice d2 28 dc], .int .i64 0]) ∧ Own1 [5] w.heap.size w' a2 4 c2 vs) ∧ Below w.heap.size w w' := by
  have hT := three_new w (outC ao c port id na nc) #[.slice none 0 0, .int .i64 0, .slice none 0 0] #[.slice na 0 nc, .int .i64 1, .int .i64 1] 177 42 38
  have HA := Lib.hid (And.intro hA (And.intro hv (And.intro hp (And.intro hid hn))))
  have HT := Lib.hid hT
  simp only [outC] at HT ⊢
  clear hT hA hv hp hid hn
  go_enter Tryz.func88, Tryz.ntmps88
  go_wp2_with fail
  generalize ((w.alloc (.cells #[.slice ao 4 c, .int .i64 port, .int .i64 id, .slice na 0 nc, .int .i64 1, .int .i64 1] 177)).alloc (.cells #[.slice none 0 0, .int .i64 0, .slice none 0 0] 42)).alloc (.cells #[.slice na 0 nc, .int .i64 1, .int .i64 1] 38) = W0 at HT ⊢
  have HE := Lib.hid (mencode_root W0 id HA.out.2.2.2.1 (w.heap.size + 1 + 1) na nc HT.out.2.2.2 (HA.out.2.2.2.2.below HT.out.1 (Nat.le_refl _)))
  simp only [qmsgC] at HE
  refine HE.out.mono ?_
  rintro e W1 ⟨⟨d2, dc, rfl⟩, hb1⟩
  have ho := HT.out.2.1.on hb1
  have o0 : W1.cell? ⟨w.heap.size, 0, none⟩ = some (.slice ao 4 c) := ho.cell 0
  have o1 : W1.cell? ⟨w.heap.size, 1, none⟩ = some (.int .i64 port) := ho.cell 1
  have hb2 := below_on HT.out.1 hb1 (Nat.le_refl _)
  have hd1 := HT.out.2.2.1.on hb1
  have hbd : Below W1.heap.size W1 W1.drew := Below.drew (Below.refl _ _)
  have HC := Lib.hid (bclone_any W1.drew ao 4 c _ (HA.out.1.below (below_on hb2 hbd (Nat.le_refl _)) (Nat.le_refl _)) HA.out.2.1 (by omega))
  have HD := Lib.hid (And.intro (ho.on hbd) (And.intro (hd1.on hbd) (below_on hb2 hbd (Nat.le_refl _))))
  have HP := HA.out.2.2.1
  clear ho hb1 hb2 hd1 hbd HE
  go_wp2_with (go_at_call 94; refine (fitk_any _ _ 2 (by omega) (by omega)).mono ?_; rintro e w' ⟨rfl, rfl⟩; simp only [HP])
  go_region_held3 (fun w' => w'.cell? ⟨w.heap.size, 0, none⟩ = some (.slice ao 4 c) ∧ w'.cell? ⟨w.heap.size, 1, none⟩ = some (.int .i64 port))
    (first | go_keep | exact ⟨o0, o1⟩ | exact hc2)
    (first | (go_at_call 86; refine HC.out.mono ?_; rintro e W2 ⟨⟨a2, c2, rfl, hA2⟩, hb2⟩; have ho2 := HD.out.1.on hb2; have hd2 := HD.out.2.1.on hb2; have hc2 : W2.cell? ⟨w.heap.size, 0, none⟩ = some (.slice ao 4 c) ∧ W2.cell? ⟨w.heap.size, 1, none⟩ = some (.int .i64 port) := ⟨ho2.cell 0, ho2.cell 1⟩; have d0 : W2.cell? ⟨w.heap.size + 1, 0, none⟩ = some (.slice none 0 0) := hd2.cell 0; have d1 : W2.cell? ⟨w.heap.size + 1, 1, none⟩ = some (.int .i64 0) := hd2.cell 1; have d2' : W2.cell? ⟨w.heap.size + 1, 2, none⟩ = some (.slice none 0 0) := hd2.cell 2; have f0 := hd2.free 0; have f1 := hd2.free 1; have f2 := hd2.free 2; have H2 := Lib.hid (And.intro hA2 (And.intro hd2 (below_on HD.out.2.2 hb2 (Nat.le_refl _)))); clear hA2 hd2 hb2 ho2))
  all_goals go_split_ands
  all_goals go_wp2_with fail
  have hs := set3_only H2.out.2.1 (.slice a2 4 c2) (.int .i64 port) (.slice d2 28 dc)
  refine bodyPost_ret (query_results rfl rfl hs.2) rfl ?_
  exact ⟨⟨a2, c2, d2, dc, rfl, (own1_only H2.out.1 hs.1 (by decide)).mono HD.out.2.2.size⟩, H2.out.2.2.trans (hs.1.bel.mono (Nat.le_succ _))⟩
end
section
open Go.ChangeShapes Go.WideShapes Go.ChangeAt Go.RowKit

set_option maxHeartbeats 4000000 in
set_option maxRecDepth 100000 in
theorem mix_one (w : World) : Calls Tryz.prog 85 #[.int .u64 1] w fun e w' => e = .returned (.int .u64 7806831264735756412) ∧ w' = w := by
  go_enter Tryz.func85, Tryz.ntmps85
  go_wp2_with fail
  go_ret
  exact ⟨rfl, rfl⟩
set_option maxHeartbeats 4000000 in
set_option maxRecDepth 100000 in
theorem mix_two (w : World) : Calls Tryz.prog 85 #[.int .u64 7806831264735756412] w fun e w' => e = .returned (.int .u64 9396908728118811419) ∧ w' = w := by
  go_enter Tryz.func85, Tryz.ntmps85
  go_wp2_with fail
  go_ret
  exact ⟨rfl, rfl⟩
theorem question_results {tmps : Array Value} {w : World} {R : Nat} {a b c : Value} (h4 : tmps[2]? = some (.pointer (some ⟨R, 0, none⟩))) (hB : Blk w R #[a, b, c] 38) :
    (results Tryz.f87 tmps).run Tryz.prog w = .ok (.agg #[a, b, c]) w := by
  have c0 := hB.cell 0
  have c1 := hB.cell 1
  have c2 := hB.cell 2
  simp at c0 c1 c2
  simp [results, go_sem, h4, c0, c1, c2]
set_option maxHeartbeats 16000000 in
set_option maxRecDepth 100000 in
theorem gquestion_root (w : World) (na : Option Addr) (nc : Nat) (hn : Strs w na 0 nc []) (kind : Int) :
    Calls Tryz.prog 87 #[.agg #[.slice na 0 nc, .int .i64 kind]] w fun e w' => (∃ a c, e = .returned (.agg #[.slice a 0 c, .int .i64 kind, .int .i64 1]) ∧ Strs w' a 0 c []) ∧ Below w.heap.size w w' := by
  have hT := two_news w #[.slice na 0 nc, .int .i64 kind] #[.slice none 0 0, .int .i64 0, .int .i64 0] 51 38
  have HT := Lib.hid hT
  have HN := Lib.hid hn
  clear hT hn
  go_enter Tryz.func87, Tryz.ntmps87
  go_wp2_with fail
  generalize (w.alloc (.cells #[.slice na 0 nc, .int .i64 kind] 51)).alloc (.cells #[.slice none 0 0, .int .i64 0, .int .i64 0] 38) = W0 at HT ⊢
  have hbd : Below W0.heap.size W0 W0.drew := Below.drew (Below.refl _ _)
  have hb0 := below_on HT.out.1 hbd (Nat.le_refl _)
  have hg := HT.out.2.1.on hbd
  have o0 : W0.drew.cell? ⟨w.heap.size, 0, none⟩ = some (.slice na 0 nc) := hg.cell 0
  have o1 : W0.drew.cell? ⟨w.heap.size, 1, none⟩ = some (.int .i64 kind) := hg.cell 1
  have HC := Lib.hid (clone_strs W0.drew na 0 nc [] (HN.out.below hb0 (Nat.le_refl _)).row (by simp) (by omega))
  have HD := Lib.hid (And.intro hg (And.intro (HT.out.2.2.on hbd) hb0))
  clear hbd hb0 hg
  go_region_held3 (fun w' => w'.cell? ⟨w.heap.size, 0, none⟩ = some (.slice na 0 nc) ∧ w'.cell? ⟨w.heap.size, 1, none⟩ = some (.int .i64 kind))
    (first | go_keep | exact ⟨o0, o1⟩ | exact hc2)
    (first | (go_at_call 14; refine HC.out.mono ?_; rintro e W2 ⟨⟨a2, c2, rfl, hO2⟩, hb2⟩; have hA2 : Strs W2 a2 0 c2 [] := ⟨hO2.row, by simp⟩; clear hO2; have ho2 := HD.out.1.on hb2; have hd2 := HD.out.2.1.on hb2; have hc2 : W2.cell? ⟨w.heap.size, 0, none⟩ = some (.slice na 0 nc) ∧ W2.cell? ⟨w.heap.size, 1, none⟩ = some (.int .i64 kind) := ⟨ho2.cell 0, ho2.cell 1⟩; have d0 : W2.cell? ⟨w.heap.size + 1, 0, none⟩ = some (.slice none 0 0) := hd2.cell 0; have d1 : W2.cell? ⟨w.heap.size + 1, 1, none⟩ = some (.int .i64 0) := hd2.cell 1; have d2' : W2.cell? ⟨w.heap.size + 1, 2, none⟩ = some (.int .i64 0) := hd2.cell 2; have f0 := hd2.free 0; have f1 := hd2.free 1; have f2 := hd2.free 2; have H2 := Lib.hid (And.intro hA2 (And.intro hd2 (below_on HD.out.2.2 hb2 (Nat.le_refl _)))); clear hA2 hd2 hb2 ho2))
  all_goals go_split_ands
  all_goals go_wp2_with fail
  have hs := set3_only H2.out.2.1 (.slice a2 0 c2) (.int .i64 kind) (.int .i64 1)
  refine bodyPost_ret (question_results rfl hs.2) rfl ?_
  exact ⟨⟨a2, c2, rfl, strs_only H2.out.1 (rowIn_zero _ _) hs.1⟩, H2.out.2.2.trans (hs.1.bel.mono (Nat.le_succ _))⟩
end
section
open Go.ChangeShapes Go.WideShapes Go.ChangeAt Go.RowKit

set_option maxHeartbeats 16000000 in
set_option maxRecDepth 100000 in
theorem next_one (w : World) (g cap : Nat) (hcap : 1 ≤ cap ∧ cap ≤ 9223372036854775807) (xa : Option Addr) (xn xc : Nat) (c0 : w.cell? ⟨g, 0, none⟩ = some (.slice xa xn xc)) (c1 : w.cell? ⟨g, 1, none⟩ = some (.int .i64 0)) (c2 : w.cell? ⟨g, 2, none⟩ = some (.bool false)) :
    Calls Tryz.prog 56 #[.slice (some ⟨g, 0, none⟩) 1 cap, .int .i64 3, .int .i64 0] w fun e w' => e = .returned (.int .i64 0) ∧ Below w.heap.size w w' := by
  have HC := Lib.hid hcap
  go_enter Tryz.func56, Tryz.ntmps56
  go_wp2_with fail
  go_loopw [7, 12] (fun best i wr => (best = .slice none 0 0 ∧ i = .int .i64 0 ∧ wr = w) ∨ (∃ b : Nat, best = .slice (some ⟨b, 0, none⟩) 1 1 ∧ i = .int .i64 1 ∧ Hid (Blk wr b #[.int .i64 0] 3 ∧ Below w.heap.size w wr))) (fun _ i _ => 1 - (intOf i).toNat)
  case atStart => exact .inl ⟨rfl, rfl, rfl⟩
  case round =>
    rcases hrel with ⟨rfl, rfl, rfl⟩ | ⟨b, rfl, rfl, hb⟩
    · go_wp2_with fail
      have hbz := (Below.refl wr.heap.size wr).alloc (Nat.le_refl _) (.cells #[.slice xa xn xc, .int .i64 0, .bool false] 123)
      generalize (wr.alloc (.cells #[.slice xa xn xc, .int .i64 0, .bool false] 123)) = Z at *
      have HZ := Lib.hid (below_on hbz (Below.drew (Below.refl Z.heap.size Z)) (Nat.le_refl _))
      clear hbz
      go_region
      all_goals go_split_ands
      all_goals go_wp2_with fail
      go_roundw
      case rel =>
        have hba := (Below.refl Z.drew.heap.size Z.drew).alloc (Nat.le_refl _) (.cells #[.int .i64 0] 3)
        exact .inr ⟨Z.drew.heap.size, rfl, by simp, Lib.hid ⟨heap_alloc_new Z.drew _, below_on HZ.out hba (Nat.le_refl _)⟩⟩
      case measure => simp [intOf]
    · have cb : wr.cell? ⟨b, 0, none⟩ = some (.int .i64 0) := hb.out.1.cell 0
      go_wp2_with fail
      go_ret
      exact ⟨rfl, hb.out.2⟩
end
section
open Go.ChangeShapes Go.WideShapes Go.ChangeAt Go.RowKit

theorem triedInfo : (Tryz.prog.info? 123).map (fun i => (i.zero, i.size, i.bytes)) = some (some (.agg #[.slice none 0 0, .int .i64 0, .bool false]), 3, 40) := by kernel_rfl
theorem append_tried (W : World) (g : Nat) (xa : Option Addr) (xn xc : Nat) (y : Int) (z : Bool) (h : Blk W g #[.slice xa xn xc, .int .i64 y, .bool z] 123) :
    ∃ g2 cap W', (Builtin.append_ #[120, 120] 120 #[.slice none 0 0, .slice (some ⟨g, 0, none⟩) 1 1]).run Tryz.prog W = .ok (.slice (some ⟨g2, 0, none⟩) 1 cap) W' ∧ (1 ≤ cap ∧ cap ≤ 9223372036854775807) ∧
      (W'.cell? ⟨g2, 0, none⟩ = some (.slice xa xn xc) ∧ W'.cell? ⟨g2, 1, none⟩ = some (.int .i64 y) ∧ W'.cell? ⟨g2, 2, none⟩ = some (.bool z)) ∧ Below W.heap.size W W' := by
  obtain ⟨i0, hi, hz0, hz1, hz2⟩ := info_parts triedInfo
  have c0 : W.cell? ⟨g, 0, none⟩ = some (.slice xa xn xc) := h.cell 0
  have c1 : W.cell? ⟨g, 1, none⟩ = some (.int .i64 y) := h.cell 1
  have c2 : W.cell? ⟨g, 2, none⟩ = some (.bool z) := h.cell 2
  obtain ⟨v', w', h2, h3, h4, _⟩ := run_append_own (P := Tryz.prog) (w := W) W.heap.size 120 120 123 i0 _ 3 40 Tryz.underlying120 hi hz0 hz1 hz2 rfl (by decide) (.slice none 0 0) 0 [] (World.ownsRow_nil _ _ _ _) ⟨g, 0, none⟩ 1 1 [.slice xa xn xc, .int .i64 y, .bool z] rfl (by
    intro j u hj
    match j with
    | 0 => cases hj; exact c0
    | 1 => cases hj; exact c1
    | 2 => cases hj; exact c2
    | j + 3 => simp at hj) (by
    intro u hu
    simp at hu
    rcases hu with rfl | rfl | rfl <;> rfl) (by unfold maxLen; omega) (by omega) (Nat.le_refl _)
  obtain ⟨_, ⟨rfl, h0⟩ | ⟨g2, cap, cur, rfl, hg, hc, hn, hm, hs, ht⟩⟩ := h3
  · exact absurd h0 (by omega)
  · have hk : ∀ k, k < 3 → cur[k]? = [Value.slice xa xn xc, .int .i64 y, .bool z][k]? := fun k hk => by
      have := congrArg (fun l => l[k]?) ht
      simp only [List.nil_append] at this
      rw [List.getElem?_take_of_lt (by omega)] at this
      simpa using this
    refine ⟨g2, cap, w', h2, ⟨hn, by unfold maxLen at hm; omega⟩, ⟨?_, ?_, ?_⟩, (Below.refl _ _).grown h4 (Nat.le_refl _) (fun k hk => by cases hk)⟩
    · rw [Lib.cell_of_heap hc 0, hk 0 (by omega)]; rfl
    · rw [Lib.cell_of_heap hc 1, hk 1 (by omega)]; rfl
    · rw [Lib.cell_of_heap hc 2, hk 2 (by omega)]; rfl
set_option maxHeartbeats 4000000 in
set_option maxRecDepth 100000 in
theorem idxTried_none (w : World) (f : Value) : Calls Tryz.prog 53 #[.slice none 0 0, f] w fun e w' => e = .returned (.int .i64 (-1)) ∧ w' = w := by
  go_enter Tryz.func53, Tryz.ntmps53
  go_wp2_with fail
  go_loopw [8] (fun iv wr => iv = .int .i64 0 ∧ wr = w) (fun _ _ => 0)
  case atStart => exact ⟨rfl, rfl⟩
  case round =>
    obtain ⟨rfl, rfl⟩ := hrel
    go_wp2_with fail
    go_ret
    exact ⟨rfl, rfl⟩
set_option maxHeartbeats 16000000 in
set_option maxRecDepth 100000 in
theorem note_none (w : World) (ao : Option Addr) (n c : Nat) (vs : List Value) (hA : Row w ao n c vs) (hv : ∀ u ∈ vs, u.oneCell' = true) (hn : n ≤ 1000000) :
    Calls Tryz.prog 89 #[.slice none 0 0, .slice ao n c, .bool false] w fun e w' => (∃ g cap, e = .returned (.slice (some ⟨g, 0, none⟩) 1 cap)) ∧ Below w.heap.size w w' := by
  have hal := (Below.refl w.heap.size w).alloc (Nat.le_refl _) (.cells #[.slice ao n c] 28)
  have HC := Lib.hid (bclone_any _ ao n c _ (hA.below hal (Nat.le_refl _)) hv (by omega))
  have HB := Lib.hid hal
  clear hA hv hal
  go_enter Tryz.func89, Tryz.ntmps89
  go_wp2_with fail
  go_loopw [7, 13] (fun o iv wr => o = .slice none 0 0 ∧ iv = .int .i64 0 ∧ wr = w.alloc (.cells #[.slice ao n c] 28)) (fun _ _ _ => 0)
  case atStart => exact ⟨rfl, rfl, rfl⟩
  case round =>
    obtain ⟨rfl, rfl, rfl⟩ := hrel
    go_wp2_with (first | (go_at_call 53; refine (idxTried_none _ _).mono ?_; rintro e w1 ⟨rfl, rfl⟩) | (go_at_call 86; refine HC.out.mono ?_; rintro e W1 ⟨⟨a2, c2, rfl, hA2⟩, hb2⟩; have H1 := Lib.hid (below_on HB.out hb2 (Nat.le_refl _)); clear hA2 hb2))
    go_ret
    have hs := H1.out.size
    exact ⟨⟨_, _, rfl⟩, Below.drew ((H1.out.alloc hs _).alloc (Nat.le_trans hs (by simp)) _)⟩
end
section
open Go.ChangeShapes Go.WideShapes Go.ChangeAt Go.RowKit

/-- how a slice in a map reads: nil, or not -/
def slR (v : Value) : Option (DataW Unit × List MemPlace) :=
  match v with
  | .slice none 0 0 => some (.nil, [])
  | _ => some (.lit (.int .i64 0), [])
theorem slR_nil {v : Value} {ps : List MemPlace} (h : slR v = some (.nil, ps)) : v = .slice none 0 0 := by
  unfold slR at h
  split at h
  · rfl
  · cases h
theorem ownsm_fresh {w : World} {M : Nat} (h : w.heap[M]? = some (.map #[] 0)) : w.ownsMap Tryz.prog 9 slR M 0 (.map []) :=
  ⟨#[], 0, h, ⟨by simp, Go.MapKept.stamped_empty 0, by simp⟩, Nat.le_refl _, rfl⟩
theorem zeroTried (w : World) : (zeroValue 120).run Tryz.prog w = .ok (.slice none 0 0) w := by kernel_rfl
/-- nothing stands in a fresh map -/
theorem fresh_look {w : World} {M : Nat} (h : w.heap[M]? = some (.map #[] 0)) {key : List UInt8} (hk : key.length ≤ 4611686018427387904) :
    (Instr.lookup 53 (.map (some M)) (.string ⟨key.toArray⟩) false).run Tryz.prog w = .ok (.slice none 0 0) w := by
  obtain ⟨v, ps, hrun, hv⟩ := (ownsm_fresh h).lookup lawK Tryz.underlying53 (zeroTried w) (zd := .nil) (zp := []) rfl (keyStr hk)
  rw [hrun, slR_nil hv]
theorem fresh_store {w : World} {M : Nat} (h : w.heap[M]? = some (.map #[] 0)) {key : List UInt8} (hk : key.length ≤ 4611686018427387904) (g cap : Nat) :
    ∃ w', (Instr.mapUpdate 53 (.map (some M)) (.string ⟨key.toArray⟩) (.slice (some ⟨g, 0, none⟩) 1 cap)).run Tryz.prog w = .ok () w' ∧ w.grownBy w' (some M) := by
  obtain ⟨w', h1, _, h3⟩ := (ownsm_fresh h).update lawK Tryz.underlying53 (by unfold maxLen; omega) (keyStr hk) (val := .slice (some ⟨g, 0, none⟩) 1 cap) (d := .lit (.int .i64 0)) (ps := []) rfl
  exact ⟨w', h1, h3⟩
theorem blk_fresh_ne {w : World} {b M : Nat} {cs : Array Value} {T : TypeId} (h : Blk w b cs T) (hM : w.heap[M]? = some (.map #[] 0)) : b ≠ M := by
  rintro rfl
  rw [show w.heap[b]? = _ from h] at hM
  cases hM
theorem send_results {tmps : Array Value} {w : World} {R : Nat} {a b c : Value} {n : Bool} (h4 : tmps[12]? = some (.pointer (some ⟨R, 0, none⟩))) (h5 : tmps[13]? = some (.bool n)) (hB : Blk w R #[a, b, c] 42) :
    (results Tryz.f57 tmps).run Tryz.prog w = .ok (.tuple #[.agg #[a, b, c], .bool n]) w := by
  have c0 := hB.cell 0
  have c1 := hB.cell 1
  have c2 := hB.cell 2
  simp at c0 c1 c2
  simp [results, go_sem, h4, h5, c0, c1, c2]
theorem outSize : (Tryz.prog.info? 177).map (·.size) = some 6 := by kernel_rfl
theorem outC_all (ao : Option Addr) (c : Nat) (p i : Int) (na : Option Addr) (nc : Nat) : ((outC ao c p i na nc).all fun x => x.oneCell') = true := by
  simp [outC, Value.oneCell']
theorem grown_more {a b c : World} {row : Option Nat} (h1 : a.grownBy b row) (h2 : b.grownBy c row) : a.grownBy c row :=
  ⟨h2.os.trans h1.os, h2.tape.trans h1.tape, h2.output.trans h1.output, Nat.le_trans h1.size h2.size, fun i hi hne => (h2.block i (Nat.lt_of_lt_of_le hi h1.size) hne).trans (h1.block i hi hne)⟩
theorem set_some {T : TypeId} {N g : Nat} {X : World} {cs : Array Value} (h : Blk X g cs T) (hN : N ≤ g) (i : Nat) (v : Value) : Only [T] N X (X.setCell ⟨g, i, none⟩ v) ∧ ∃ cs', Blk (X.setCell ⟨g, i, none⟩ v) g cs' T :=
  ⟨Only.but (but_set X g i v) h (by simp) hN, _, h.set i v⟩
set_option maxHeartbeats 32000000 in
set_option maxRecDepth 100000 in
theorem send_root (w : World) (W : Nat) (x : WalkH) (s : SetP) (M1 N : Nat) (hW : Blk w W (walkC x s) 60) (ht : x.tried = .map (some M1)) (hs0 : x.sends = 0) (hM : w.heap[M1]? = some (.map #[] 0)) (hN : N ≤ W ∧ N ≤ M1 ∧ N ≤ w.heap.size) (na : Option Addr) (nc : Nat) (hn : Strs w na 0 nc []) (zv : Option Addr) (zl zc : Nat) (ao : Option Addr) (c : Nat) (vs : List Value) (hA : Row w ao 4 c vs) (hv : ∀ u ∈ vs, u.oneCell' = true) (now : Int) :
    Calls Tryz.prog 57 #[.pointer (some ⟨W, 0, none⟩), .agg #[.slice na 0 nc, .int .i64 1], .slice zv zl zc, .slice ao 4 c, .int .i64 now, .int .u64 1] w fun e w' => (∃ a2 c2 d2 dc, e = .returned (.tuple #[.agg #[.slice a2 4 c2, .int .i64 55254, .slice d2 28 dc], .bool true]) ∧ Own1 [5] w.heap.size w' a2 4 c2 vs) ∧ Below N w w' ∧ w.heap.size ≤ w'.heap.size ∧ ∀ b, b < w.heap.size → b ≠ W → b ≠ M1 → w'.heap[b]? = w.heap[b]? := by
  have hT := two_news w #[.slice na 0 nc, .int .i64 1] #[.slice none 0 0, .int .i64 0, .slice none 0 0] 51 42
  have HA := Lib.hid (And.intro hA (And.intro hv (And.intro hn (And.intro hN (And.intro ht (And.intro hM (And.intro hW hs0)))))))
  have HT := Lib.hid hT
  clear hT hA hv hn hN hM hW ht hs0
  go_enter Tryz.func57, Tryz.ntmps57
  go_wp2_with (go_at_call 85; refine (mix_one _).mono ?_; rintro e w' ⟨rfl, rfl⟩)
  rename_i K0 hK0
  have HK0 := Lib.hid hK0
  clear hK0
  generalize (w.alloc (.cells #[.slice na 0 nc, .int .i64 1] 51)).alloc (.cells #[.slice none 0 0, .int .i64 0, .slice none 0 0] 42) = W0 at HT ⊢
  have hbd : Below W0.heap.size W0 W0.drew := Below.drew (Below.refl _ _)
  have HR := Lib.hid (show ∀ V, Below W0.heap.size W0 V → Row V ao 4 c vs from fun V h => HA.out.1.below (below_on HT.out.1 h (Nat.le_refl _)) (Nat.le_refl _))
  have HS := Lib.hid (show ∀ V, Below W0.heap.size W0 V → Strs V na 0 nc [] from fun V h => HA.out.2.2.1.below (below_on HT.out.1 h (Nat.le_refl _)) (Nat.le_refl _))
  have HG0 := Lib.hid (show W0.drew.cell? ⟨w.heap.size, 0, none⟩ = some (.slice na 0 nc) from (HT.out.2.1.on hbd).cell 0)
  have HG1 := Lib.hid (show W0.drew.cell? ⟨w.heap.size, 1, none⟩ = some (.int .i64 1) from (HT.out.2.1.on hbd).cell 1)
  have hw1 : IntKind.i64.wrap 1093944153 = 1093944153 := by decide
  have hw2 : (1093944153 : Int).tmod 65536 = 17241 := by decide
  clear hbd
  refine wp_soup_tail (m := 80) 12 (by kernel_rfl) (fun x y => Below x.heap.size x y) (fun i v xw => match i with | 0 => v = .slice ao 4 c | 1 => ∃ a c, v = .slice a 4 c ∧ Own1 [5] W0.heap.size xw a 4 c vs | 2 => v = .int .i64 55254 | 3 => v = .int .u64 7806831264735756412 | 4 => v = .int .u64 9396908728118811419 | 5 => v = .int .u64 1093944153 | 6 => v = .int .i64 1093944153 | 7 => v = .int .i64 17241 | 8 => v = .agg #[.slice na 0 nc, .int .i64 1] | 9 => ∃ a c, v = .agg #[.slice a 0 c, .int .i64 1, .int .i64 1] ∧ Strs xw a 0 c [] | 10 => ∃ a c a9 c9, v = .agg (outC a c 55254 17241 a9 c9) ∧ Own1 [5] W0.heap.size xw a 4 c vs ∧ Strs xw a9 0 c9 [] | 11 => ∃ b, v = .pointer (some ⟨b, 0, none⟩) ∧ Blk xw b #[.slice none 0 0, .int .i64 0, .int .i64 0, .slice none 0 0, .int .i64 0, .int .i64 0] 177 ∧ W0.heap.size ≤ b | _ => True) rfl (by kernel_rfl) (by kernel_rfl) (fun _ _ _ h1 h2 => below_on h1 h2 (Nat.le_refl _)) (Below.refl _ _) (by intro i v x y h hxy; match i, h with | 0, h => exact h | 1, ⟨a, c, e, h⟩ => exact ⟨a, c, e, h.on hxy⟩ | 2, h => exact h | 3, h => exact h | 4, h => exact h | 5, h => exact h | 6, h => exact h | 7, h => exact h | 8, h => exact h | 9, ⟨a, c, e, h⟩ => exact ⟨a, c, e, h.below hxy (Nat.le_refl _)⟩ | 10, ⟨a, c, a9, c9, e, h1, h2⟩ => exact ⟨a, c, a9, c9, e, h1.on hxy, h2.below hxy (Nat.le_refl _)⟩ | 11, ⟨b, e, h1, h2⟩ => exact ⟨b, e, h1.on hxy, h2⟩ | _ + 12, _ => trivial) (dst_head (by kernel_rfl)) ?_ ?_
  rotate_left
  · intro a V hR hS hdep
    have e0 : a.tmps.getD 0 undef = .pointer (some ⟨W, 0, none⟩) := hS.keep 0 (by kernel_rfl)
    have e2 : a.tmps.getD 2 undef = .slice zv zl zc := hS.keep 2 (by kernel_rfl)
    have e3 : a.tmps.getD 3 undef = .slice ao 4 c := hS.keep 3 (by kernel_rfl)
    have e4 : a.tmps.getD 4 undef = .int .i64 now := hS.keep 4 (by kernel_rfl)
    have e7 : a.tmps.getD 7 undef = .pointer (some ⟨w.heap.size, 0, none⟩) := hS.keep 7 (by kernel_rfl)
    have e12 : a.tmps.getD 12 undef = .pointer (some ⟨(w.heap.size + 1), 0, none⟩) := hS.keep 12 (by kernel_rfl)
    obtain ⟨O, q, hO, hO2⟩ := hdep 11 (by decide +kernel)
    have e16 : a.tmps.getD 16 undef = .pointer (some ⟨O, 0, none⟩) := q
    clear q
    obtain ⟨a1, c1, a9, c9, q, ho1, hq9⟩ := hdep 10 (by decide +kernel)
    have e36 : a.tmps.getD 36 undef = .agg (outC a1 c1 55254 17241 a9 c9) := q
    clear q
    obtain ⟨T, df⟩ := a
    obtain rfl : df = [] := hS.defers
    have hT : T = #[T.getD 0 undef, T.getD 1 undef, T.getD 2 undef, T.getD 3 undef, T.getD 4 undef, T.getD 5 undef, T.getD 6 undef, T.getD 7 undef, T.getD 8 undef, T.getD 9 undef, T.getD 10 undef, T.getD 11 undef, T.getD 12 undef, T.getD 13 undef, T.getD 14 undef, T.getD 15 undef, T.getD 16 undef, T.getD 17 undef, T.getD 18 undef, T.getD 19 undef, T.getD 20 undef, T.getD 21 undef, T.getD 22 undef, T.getD 23 undef, T.getD 24 undef, T.getD 25 undef, T.getD 26 undef, T.getD 27 undef, T.getD 28 undef, T.getD 29 undef, T.getD 30 undef, T.getD 31 undef, T.getD 32 undef, T.getD 33 undef, T.getD 34 undef, T.getD 35 undef, T.getD 36 undef, T.getD 37 undef, T.getD 38 undef, T.getD 39 undef, T.getD 40 undef, T.getD 41 undef, T.getD 42 undef, T.getD 43 undef, T.getD 44 undef, T.getD 45 undef, T.getD 46 undef, T.getD 47 undef, T.getD 48 undef, T.getD 49 undef, T.getD 50 undef, T.getD 51 undef, T.getD 52 undef, T.getD 53 undef, T.getD 54 undef, T.getD 55 undef, T.getD 56 undef, T.getD 57 undef, T.getD 58 undef, T.getD 59 undef, T.getD 60 undef, T.getD 61 undef, T.getD 62 undef, T.getD 63 undef, T.getD 64 undef, T.getD 65 undef, T.getD 66 undef, T.getD 67 undef, T.getD 68 undef, T.getD 69 undef, T.getD 70 undef, T.getD 71 undef, T.getD 72 undef, T.getD 73 undef, T.getD 74 undef, T.getD 75 undef, T.getD 76 undef, T.getD 77 undef, T.getD 78 undef, T.getD 79 undef] := arr_eta T 80 hS.size
    have k0 : T.getD 0 undef = .pointer (some ⟨W, 0, none⟩) := e0
    have k2 : T.getD 2 undef = .slice zv zl zc := e2
    have k3 : T.getD 3 undef = .slice ao 4 c := e3
    have k4 : T.getD 4 undef = .int .i64 now := e4
    have k7 : T.getD 7 undef = .pointer (some ⟨w.heap.size, 0, none⟩) := e7
    have k12 : T.getD 12 undef = .pointer (some ⟨(w.heap.size + 1), 0, none⟩) := e12
    have k16 : T.getD 16 undef = .pointer (some ⟨O, 0, none⟩) := e16
    have k36 : T.getD 36 undef = .agg (outC a1 c1 55254 17241 a9 c9) := e36
    clear hS hdep
    rw [hT]
    rw [k0]
    clear k0 e0
    rw [k2]
    clear k2 e2
    rw [k3]
    clear k3 e3
    rw [k4]
    clear k4 e4
    rw [k7]
    clear k7 e7
    rw [k12]
    clear k12 e12
    rw [k16]
    clear k16 e16
    rw [k36]
    clear k36 e36
    clear hT
    generalize T.getD 1 undef = u1
    generalize T.getD 5 undef = u5
    generalize T.getD 6 undef = u6
    generalize T.getD 8 undef = u8
    generalize T.getD 9 undef = u9
    generalize T.getD 10 undef = u10
    generalize T.getD 11 undef = u11
    generalize T.getD 13 undef = u13
    generalize T.getD 14 undef = u14
    generalize T.getD 15 undef = u15
    generalize T.getD 17 undef = u17
    generalize T.getD 18 undef = u18
    generalize T.getD 19 undef = u19
    generalize T.getD 20 undef = u20
    generalize T.getD 21 undef = u21
    generalize T.getD 22 undef = u22
    generalize T.getD 23 undef = u23
    generalize T.getD 24 undef = u24
    generalize T.getD 25 undef = u25
    generalize T.getD 26 undef = u26
    generalize T.getD 27 undef = u27
    generalize T.getD 28 undef = u28
    generalize T.getD 29 undef = u29
    generalize T.getD 30 undef = u30
    generalize T.getD 31 undef = u31
    generalize T.getD 32 undef = u32
    generalize T.getD 33 undef = u33
    generalize T.getD 34 undef = u34
    generalize T.getD 35 undef = u35
    generalize T.getD 37 undef = u37
    generalize T.getD 38 undef = u38
    generalize T.getD 39 undef = u39
    generalize T.getD 40 undef = u40
    generalize T.getD 41 undef = u41
    generalize T.getD 42 undef = u42
    generalize T.getD 43 undef = u43
    generalize T.getD 44 undef = u44
    generalize T.getD 45 undef = u45
    generalize T.getD 46 undef = u46
    generalize T.getD 47 undef = u47
    generalize T.getD 48 undef = u48
    generalize T.getD 49 undef = u49
    generalize T.getD 50 undef = u50
    generalize T.getD 51 undef = u51
    generalize T.getD 52 undef = u52
    generalize T.getD 53 undef = u53
    generalize T.getD 54 undef = u54
    generalize T.getD 55 undef = u55
    generalize T.getD 56 undef = u56
    generalize T.getD 57 undef = u57
    generalize T.getD 58 undef = u58
    generalize T.getD 59 undef = u59
    generalize T.getD 60 undef = u60
    generalize T.getD 61 undef = u61
    generalize T.getD 62 undef = u62
    generalize T.getD 63 undef = u63
    generalize T.getD 64 undef = u64
    generalize T.getD 65 undef = u65
    generalize T.getD 66 undef = u66
    generalize T.getD 67 undef = u67
    generalize T.getD 68 undef = u68
    generalize T.getD 69 undef = u69
    generalize T.getD 70 undef = u70
    generalize T.getD 71 undef = u71
    generalize T.getD 72 undef = u72
    generalize T.getD 73 undef = u73
    generalize T.getD 74 undef = u74
    generalize T.getD 75 undef = u75
    generalize T.getD 76 undef = u76
    generalize T.getD 77 undef = u77
    generalize T.getD 78 undef = u78
    generalize T.getD 79 undef = u79
    have hbx := below_on (B := W0.heap.size) (Below.drew (Below.refl _ _)) hR (Nat.le_refl _)
    have HX := Lib.hid (And.intro hbx (And.intro ho1 (And.intro hq9 (And.intro hO hO2))))
    clear hR hbx ho1 hq9 hO2
    refine wpList_store_row rfl 177 _ _ rfl O (outC a1 c1 55254 17241 a9 c9) rfl rfl 177 #[.slice none 0 0, .int .i64 0, .int .i64 0, .slice none 0 0, .int .i64 0, .int .i64 0] hO outSize rfl (outC_all _ _ _ _ _ _) ?_
    go_wp2_with fail
    refine HK0.out _ _ ?_
    clear HK0
    have hq := blk_setRow hO (outC a1 c1 55254 17241 a9 c9)
    have hg := but_setRow V O (outC a1 c1 55254 17241 a9 c9)
    have hb1 : Below W0.heap.size W0 (V.setRow O (outC a1 c1 55254 17241 a9 c9)) := HX.out.1.trans (below_of_but hg HX.out.2.2.2.2 HX.out.1.size)
    have ho1 := HX.out.2.1.step (Same.grown hg (fun b ht e => own_ne hO (by decide) ht.1 (Option.some.inj e)))
    generalize V.setRow O (outC a1 c1 55254 17241 a9 c9) = W1 at hq hb1 ho1 ⊢
    clear hO hg
    have q0 := hq.cell 0
    have q1 := hq.cell 1
    have q2 := hq.cell 2
    have q3 := hq.cell 3
    have q4 := hq.cell 4
    have q5 := hq.cell 5
    simp [outC] at q0 q1 q2 q3 q4 q5
    have HQ := Lib.hid (squery_root W1 a1 c1 vs ho1.row HA.out.2.1 55254 17241 (by decide) (by decide) a9 c9 ⟨Row.empty HX.out.2.2.1.row.hcap HX.out.2.2.1.row.hnil, HX.out.2.2.1.small⟩)
    simp only [outC] at HQ
    have HB0 := Lib.hid hb1
    have HB1 := Lib.hid (below_on HT.out.1 hb1 (Nat.le_refl _))
    clear hb1 ho1 hq
    go_wp2_with (go_at_call 88; refine HQ.out.mono ?_; rintro e W2 ⟨⟨a2, c2, d2, dc, rfl, ho2⟩, hb2⟩; have H2 := Lib.hid (And.intro ho2 hb2); clear ho2 hb2)
    rename_i K1 hK1
    have HK1 := Lib.hid hK1
    clear hK1 HQ q0 q1 q2 q3 q4 q5
    have hal : Below W2.heap.size W2 (W2.alloc (.cells #[.slice a2 4 c2, .int .i64 55254, .slice d2 28 dc] 42)) := (Below.refl _ _).alloc (Nat.le_refl _) _
    have hDg : Blk (W2.alloc (.cells #[.slice a2 4 c2, .int .i64 55254, .slice d2 28 dc] 42)) W2.heap.size #[.slice a2 4 c2, .int .i64 55254, .slice d2 28 dc] 42 := heap_alloc_new W2 _
    have ho3 := (H2.out.1.on hal).mono HB1.out.size
    have HX3 := Lib.hid (below_on (below_on HB0.out H2.out.2 (Nat.le_refl _)) hal (Nat.le_refl _))
    have hb3 := below_on (below_on HB1.out H2.out.2 (Nat.le_refl _)) hal (Nat.le_refl _)
    obtain ⟨Dg, hDge⟩ : ∃ q, q = W2.heap.size := ⟨_, rfl⟩
    rw [← hDge] at hDg ⊢
    generalize W2.alloc (.cells #[.slice a2 4 c2, .int .i64 55254, .slice d2 28 dc] 42) = W3 at hDg ho3 hb3 HX3 ⊢
    clear hal hDge H2 HB1
    have hbd : Below W3.heap.size W3 W3.drew := Below.drew (Below.refl _ _)
    have hb30 := HT.out.1
    have hG3 : Blk W3 w.heap.size #[.slice na 0 nc, .int .i64 1] 51 := HT.out.2.1.on HX3.out
    have HG3a := Lib.hid (show W3.drew.cell? ⟨w.heap.size, 0, none⟩ = some (.slice na 0 nc) from (hG3.on hbd).cell 0)
    have HG3b := Lib.hid (show W3.drew.cell? ⟨w.heap.size, 1, none⟩ = some (.int .i64 1) from (hG3.on hbd).cell 1)
    have HWC := Lib.hid (show W3.drew.cell? ⟨W, 15, none⟩ = some (.map (some M1)) from by rw [((HA.out.2.2.2.2.2.2.1.on hb3).on hbd).cell 15]; simp [walkC, HA.out.2.2.2.2.1])
    have HM3 := Lib.hid (show ∀ V, Below W3.heap.size W3 V → V.heap[M1]? = some (.map #[] 0) from fun V h => by
      have hlt := (Array.getElem?_eq_some_iff.1 HA.out.2.2.2.2.2.1).1
      have hs3 := hb3.size
      rw [h.block M1 (by omega), hb3.block M1 hlt]
      exact HA.out.2.2.2.2.2.1)
    obtain ⟨KS, hKS⟩ : ∃ q : ByteArray, q = (⟨(keyP [] 1).toArray⟩ : ByteArray) := ⟨_, rfl⟩
    have HKY := Lib.hid (show ∀ V, Below W3.heap.size W3 V → _ from fun V h => gkey_any V na 0 nc [] 1 (HA.out.2.2.1.below (below_on hb3 h (Nat.le_refl _)) (Nat.le_refl _)) (by decide))
    rw [← hKS] at HKY
    have HLK := Lib.hid (show ∀ V, Below W3.heap.size W3 V → _ from fun V h => fresh_look (HM3.out V h) (key := keyP [] 1) (by decide))
    rw [← hKS] at HLK
    have HST := Lib.hid (show ∀ V, Below W3.heap.size W3 V → ∀ g cap : Nat, _ from fun V h g cap => fresh_store (HM3.out V h) (key := keyP [] 1) (by decide) g cap)
    rw [← hKS] at HST
    have HR3 := Lib.hid (show ∀ V, Below W3.heap.size W3 V → Row V ao 4 c vs from fun V h => HA.out.1.below (below_on hb3 h (Nat.le_refl _)) (Nat.le_refl _))
    have HD3 := Lib.hid (And.intro hDg (And.intro ho3 (And.intro hb3 (And.intro hG3 (HT.out.2.2.on HX3.out)))))
    clear hKS hbd hb30 hG3 hDg ho3 hb3
    refine wp_soup_tail (m := 80) 15 (by kernel_rfl) (fun x y => Below x.heap.size x y) (fun i v xw => match i with | 0 => v = .pointer (some ⟨W, 0, none⟩) | 1 => v = .pointer (some ⟨W, 0, none⟩) | 2 => v = .pointer (some ⟨W, 15, none⟩) | 3 => v = .map (some M1) | 4 => v = .agg #[.slice na 0 nc, .int .i64 1] | 5 => v = .string KS | 6 => v = .pointer (some ⟨W, 0, none⟩) | 7 => v = .pointer (some ⟨W, 0, none⟩) | 8 => v = .pointer (some ⟨W, 15, none⟩) | 9 => v = .map (some M1) | 10 => v = .agg #[.slice na 0 nc, .int .i64 1] | 11 => v = .string KS | 12 => v = .slice none 0 0 | 13 => v = .slice ao 4 c | 14 => ∃ g cap, v = .slice (some ⟨g, 0, none⟩) 1 cap | _ => True) rfl (by kernel_rfl) (by kernel_rfl) (fun _ _ _ h1 h2 => below_on h1 h2 (Nat.le_refl _)) (Below.refl _ _) (by intro i v x y h hxy; match i, h with | 0, h => exact h | 1, h => exact h | 2, h => exact h | 3, h => exact h | 4, h => exact h | 5, h => exact h | 6, h => exact h | 7, h => exact h | 8, h => exact h | 9, h => exact h | 10, h => exact h | 11, h => exact h | 12, h => exact h | 13, h => exact h | 14, h => exact h | _ + 15, _ => trivial) (dst_head (by kernel_rfl)) ?_ ?_
    rotate_left
    · intro a V hR hS hdep
      have e0 : a.tmps.getD 0 undef = .pointer (some ⟨W, 0, none⟩) := hS.keep 0 (by kernel_rfl)
      have e2 : a.tmps.getD 2 undef = .slice zv zl zc := hS.keep 2 (by kernel_rfl)
      have e4 : a.tmps.getD 4 undef = .int .i64 now := hS.keep 4 (by kernel_rfl)
      have e7 : a.tmps.getD 7 undef = .pointer (some ⟨w.heap.size, 0, none⟩) := hS.keep 7 (by kernel_rfl)
      have e12 : a.tmps.getD 12 undef = .pointer (some ⟨(w.heap.size + 1), 0, none⟩) := hS.keep 12 (by kernel_rfl)
      have e16 : a.tmps.getD 16 undef = .pointer (some ⟨O, 0, none⟩) := hS.keep 16 (by kernel_rfl)
      have e17 : a.tmps.getD 17 undef = .pointer (some ⟨Dg, 0, none⟩) := hS.keep 17 (by kernel_rfl)
      have e45 : a.tmps.getD 45 undef = .map (some M1) := hdep 3 (by decide +kernel)
      have e47 : a.tmps.getD 47 undef = .string KS := hdep 5 (by decide +kernel)
      obtain ⟨g14, k14, q⟩ := hdep 14 (by decide +kernel)
      have e56 : a.tmps.getD 56 undef = .slice ((some ⟨g14, 0, none⟩)) 1 k14 := q
      clear q
      obtain ⟨T, df⟩ := a
      obtain rfl : df = [] := hS.defers
      have hT : T = #[T.getD 0 undef, T.getD 1 undef, T.getD 2 undef, T.getD 3 undef, T.getD 4 undef, T.getD 5 undef, T.getD 6 undef, T.getD 7 undef, T.getD 8 undef, T.getD 9 undef, T.getD 10 undef, T.getD 11 undef, T.getD 12 undef, T.getD 13 undef, T.getD 14 undef, T.getD 15 undef, T.getD 16 undef, T.getD 17 undef, T.getD 18 undef, T.getD 19 undef, T.getD 20 undef, T.getD 21 undef, T.getD 22 undef, T.getD 23 undef, T.getD 24 undef, T.getD 25 undef, T.getD 26 undef, T.getD 27 undef, T.getD 28 undef, T.getD 29 undef, T.getD 30 undef, T.getD 31 undef, T.getD 32 undef, T.getD 33 undef, T.getD 34 undef, T.getD 35 undef, T.getD 36 undef, T.getD 37 undef, T.getD 38 undef, T.getD 39 undef, T.getD 40 undef, T.getD 41 undef, T.getD 42 undef, T.getD 43 undef, T.getD 44 undef, T.getD 45 undef, T.getD 46 undef, T.getD 47 undef, T.getD 48 undef, T.getD 49 undef, T.getD 50 undef, T.getD 51 undef, T.getD 52 undef, T.getD 53 undef, T.getD 54 undef, T.getD 55 undef, T.getD 56 undef, T.getD 57 undef, T.getD 58 undef, T.getD 59 undef, T.getD 60 undef, T.getD 61 undef, T.getD 62 undef, T.getD 63 undef, T.getD 64 undef, T.getD 65 undef, T.getD 66 undef, T.getD 67 undef, T.getD 68 undef, T.getD 69 undef, T.getD 70 undef, T.getD 71 undef, T.getD 72 undef, T.getD 73 undef, T.getD 74 undef, T.getD 75 undef, T.getD 76 undef, T.getD 77 undef, T.getD 78 undef, T.getD 79 undef] := arr_eta T 80 hS.size
      have k0 : T.getD 0 undef = .pointer (some ⟨W, 0, none⟩) := e0
      have k2 : T.getD 2 undef = .slice zv zl zc := e2
      have k4 : T.getD 4 undef = .int .i64 now := e4
      have k7 : T.getD 7 undef = .pointer (some ⟨w.heap.size, 0, none⟩) := e7
      have k12 : T.getD 12 undef = .pointer (some ⟨(w.heap.size + 1), 0, none⟩) := e12
      have k16 : T.getD 16 undef = .pointer (some ⟨O, 0, none⟩) := e16
      have k17 : T.getD 17 undef = .pointer (some ⟨Dg, 0, none⟩) := e17
      have k45 : T.getD 45 undef = .map (some M1) := e45
      have k47 : T.getD 47 undef = .string KS := e47
      have k56 : T.getD 56 undef = .slice ((some ⟨g14, 0, none⟩)) 1 k14 := e56
      clear hS hdep
      rw [hT]
      rw [k0]
      clear k0 e0
      rw [k2]
      clear k2 e2
      rw [k4]
      clear k4 e4
      rw [k7]
      clear k7 e7
      rw [k12]
      clear k12 e12
      rw [k16]
      clear k16 e16
      rw [k17]
      clear k17 e17
      rw [k45]
      clear k45 e45
      rw [k47]
      clear k47 e47
      rw [k56]
      clear k56 e56
      clear hT
      generalize T.getD 1 undef = u1
      generalize T.getD 3 undef = u3
      generalize T.getD 5 undef = u5
      generalize T.getD 6 undef = u6
      generalize T.getD 8 undef = u8
      generalize T.getD 9 undef = u9
      generalize T.getD 10 undef = u10
      generalize T.getD 11 undef = u11
      generalize T.getD 13 undef = u13
      generalize T.getD 14 undef = u14
      generalize T.getD 15 undef = u15
      generalize T.getD 18 undef = u18
      generalize T.getD 19 undef = u19
      generalize T.getD 20 undef = u20
      generalize T.getD 21 undef = u21
      generalize T.getD 22 undef = u22
      generalize T.getD 23 undef = u23
      generalize T.getD 24 undef = u24
      generalize T.getD 25 undef = u25
      generalize T.getD 26 undef = u26
      generalize T.getD 27 undef = u27
      generalize T.getD 28 undef = u28
      generalize T.getD 29 undef = u29
      generalize T.getD 30 undef = u30
      generalize T.getD 31 undef = u31
      generalize T.getD 32 undef = u32
      generalize T.getD 33 undef = u33
      generalize T.getD 34 undef = u34
      generalize T.getD 35 undef = u35
      generalize T.getD 36 undef = u36
      generalize T.getD 37 undef = u37
      generalize T.getD 38 undef = u38
      generalize T.getD 39 undef = u39
      generalize T.getD 40 undef = u40
      generalize T.getD 41 undef = u41
      generalize T.getD 42 undef = u42
      generalize T.getD 43 undef = u43
      generalize T.getD 44 undef = u44
      generalize T.getD 46 undef = u46
      generalize T.getD 48 undef = u48
      generalize T.getD 49 undef = u49
      generalize T.getD 50 undef = u50
      generalize T.getD 51 undef = u51
      generalize T.getD 52 undef = u52
      generalize T.getD 53 undef = u53
      generalize T.getD 54 undef = u54
      generalize T.getD 55 undef = u55
      generalize T.getD 57 undef = u57
      generalize T.getD 58 undef = u58
      generalize T.getD 59 undef = u59
      generalize T.getD 60 undef = u60
      generalize T.getD 61 undef = u61
      generalize T.getD 62 undef = u62
      generalize T.getD 63 undef = u63
      generalize T.getD 64 undef = u64
      generalize T.getD 65 undef = u65
      generalize T.getD 66 undef = u66
      generalize T.getD 67 undef = u67
      generalize T.getD 68 undef = u68
      generalize T.getD 69 undef = u69
      generalize T.getD 70 undef = u70
      generalize T.getD 71 undef = u71
      generalize T.getD 72 undef = u72
      generalize T.getD 73 undef = u73
      generalize T.getD 74 undef = u74
      generalize T.getD 75 undef = u75
      generalize T.getD 76 undef = u76
      generalize T.getD 77 undef = u77
      generalize T.getD 78 undef = u78
      generalize T.getD 79 undef = u79
      have hbx := below_on (B := W3.heap.size) (Below.drew (Below.refl _ _)) hR (Nat.le_refl _)
      obtain ⟨W4, hrun, hg4⟩ := HST.out _ hbx g14 k14
      have hM4 := HM3.out _ hbx
      clear hR
      go_wp2_with fail
      refine HK1.out _ _ ?_
      clear HK1 hrun
      have hWV := (HA.out.2.2.2.2.2.2.1.on HD3.out.2.2.1).on hbx
      have hW4 := hWV.but hg4 (blk_fresh_ne hWV hM4)
      have hDV := HD3.out.1.on hbx
      have hD4 := hDV.but hg4 (blk_fresh_ne hDV hM4)
      have hRV := HD3.out.2.2.2.2.on hbx
      have hR4 := hRV.but hg4 (blk_fresh_ne hRV hM4)
      have hGV := HD3.out.2.2.2.1.on hbx
      have hG4 := hGV.but hg4 (blk_fresh_ne hGV hM4)
      have ho4 := (HD3.out.2.1.on hbx).step (Same.grown hg4 (fun b ht e => by
        obtain ⟨cs, t, e2, _⟩ := ht.1
        rw [Option.some.inj e, hM4] at e2
        cases e2))
      have hb04 := below_on HD3.out.2.2.1 hbx (Nat.le_refl _)
      have hBN : Below N w W4 := (hb04.mono HA.out.2.2.2.1.2.2).trans (below_of_but hg4 HA.out.2.2.2.1.2.1 (by have := hb04.size; have := HA.out.2.2.2.1.2.2; omega))
      have hU : ∀ b, b < w.heap.size → b ≠ M1 → W4.heap[b]? = w.heap[b]? := fun b hb hne => by
        rw [hg4.block b (by have := hb04.size; omega) (fun e => hne (Option.some.inj e)), hb04.block b hb]
      have hs4 : w.heap.size ≤ W4.heap.size := hBN.size
      have c13 := hW4.cell 13
      have f13 := hW4.free 13
      simp [walkC, HA.out.2.2.2.2.2.2.2] at c13
      have H4 := Lib.hid (And.intro hW4 (And.intro hD4 (And.intro hR4 (And.intro hG4 (And.intro ho4 (And.intro hBN (And.intro hU hs4)))))))
      clear hWV hW4 hDV hD4 hRV hR4 hGV hG4 ho4 hb04 hBN hU hs4 hg4 hM4 hbx
      go_wp2_with fail
      rename_i K2 hK2
      have HK2 := Lib.hid hK2
      clear hK2 c13 f13
      have hW5 := H4.out.1.set 13 (.int .i64 1)
      have hg5 := but_set W4 W 13 (.int .i64 1)
      generalize W4.setCell ⟨W, 13, none⟩ (.int .i64 1) = W5 at hW5 hg5 ⊢
      have c17 := hW5.cell 17
      have c18 := hW5.cell 18
      have c19 := hW5.cell 19
      have c20 := hW5.cell 20
      have c21 := hW5.cell 21
      have f17 := hW5.free 17
      have f18 := hW5.free 18
      have f19 := hW5.free 19
      have f20 := hW5.free 20
      have f21 := hW5.free 21
      simp [walkC] at c17 c18 c19 c20 c21
      have hne := blk_ne H4.out.1 H4.out.2.2.2.1 (by decide)
      have hG5 := H4.out.2.2.2.1.but hg5 (fun e => hne e.symm)
      have g0 : W5.cell? ⟨w.heap.size, 0, none⟩ = some (.slice na 0 nc) := hG5.cell 0
      have g1 : W5.cell? ⟨w.heap.size, 1, none⟩ = some (.int .i64 1) := hG5.cell 1
      have hne2 : ¬ w.heap.size = W := fun e => hne e.symm
      have H5 := Lib.hid (And.intro hW5 hg5)
      clear hW5 hg5 hG5
      go_region
      all_goals go_split_ands
      all_goals refine HK2.out _ _ ?_
      clear HK2 c17 c18 c19 c20 c21 f17 f18 f19 f20 f21 g0 g1 hne2
      have e17 := but_set W5 W 17 (.pointer (some ⟨O, 0, none⟩))
      generalize W5.setCell ⟨W, 17, none⟩ (.pointer (some ⟨O, 0, none⟩)) = X0 at e17 ⊢
      have e18 := but_set X0 W 18 (.slice na 0 nc)
      generalize X0.setCell ⟨W, 18, none⟩ (.slice na 0 nc) = X1 at e18 ⊢
      have e19 := but_set X1 W 19 (.int .i64 1)
      generalize X1.setCell ⟨W, 19, none⟩ (.int .i64 1) = X2 at e19 ⊢
      have e20 := but_set X2 W 20 (.slice zv zl zc)
      generalize X2.setCell ⟨W, 20, none⟩ (.slice zv zl zc) = X3 at e20 ⊢
      have e21 := but_set X3 W 21 (.int .i64 now)
      generalize X3.setCell ⟨W, 21, none⟩ (.int .i64 now) = X4 at e21 ⊢
      have e22 : X4.grownBy X4.drew (some W) := ⟨rfl, rfl, rfl, Nat.le_refl _, fun _ _ _ => rfl⟩
      generalize X4.drew = W6 at e22 ⊢
      have hgT := grown_more (grown_more (grown_more (grown_more (grown_more (grown_more H5.out.2 e17) e18) e19) e20) e21) e22
      clear e17 e18 e19 e20 e21 e22
      have hD6 := H4.out.2.1.but hgT (blk_ne H4.out.2.1 H4.out.1 (by decide))
      have hR6 := H4.out.2.2.1.but hgT (blk_ne H4.out.2.2.1 H4.out.1 (by decide))
      have ho6 := H4.out.2.2.2.2.1.step (Same.grown hgT (fun b ht e => own_ne H4.out.1 (by decide) ht.1 (Option.some.inj e)))
      have hb6 : Below N w W6 := H4.out.2.2.2.2.2.1.trans (below_of_but hgT HA.out.2.2.2.1.1 (by have := H4.out.2.2.2.2.2.2.2; have := HA.out.2.2.2.1.2.2; omega))
      have hU6 : ∀ b, b < w.heap.size → b ≠ W → b ≠ M1 → W6.heap[b]? = w.heap[b]? := fun b hb h1 h2 => by
        rw [hgT.block b (by have := H4.out.2.2.2.2.2.2.2; omega) (fun e => h1 (Option.some.inj e)), H4.out.2.2.2.2.2.2.1 b hb h2]
      have d0 : W6.cell? ⟨Dg, 0, none⟩ = some (.slice a2 4 c2) := hD6.cell 0
      have d1 : W6.cell? ⟨Dg, 1, none⟩ = some (.int .i64 55254) := hD6.cell 1
      have d2' : W6.cell? ⟨Dg, 2, none⟩ = some (.slice d2 28 dc) := hD6.cell 2
      have r0 : W6.cell? ⟨w.heap.size + 1, 0, none⟩ = some (.slice none 0 0) := hR6.cell 0
      have r1 : W6.cell? ⟨w.heap.size + 1, 1, none⟩ = some (.int .i64 0) := hR6.cell 1
      have r2 : W6.cell? ⟨w.heap.size + 1, 2, none⟩ = some (.slice none 0 0) := hR6.cell 2
      have f0 := hR6.free 0
      have f1 := hR6.free 1
      have f2 := hR6.free 2
      have H6 := Lib.hid (And.intro hR6 (And.intro ho6 (And.intro hb6 hU6)))
      clear hD6 hR6 ho6 hb6 hU6 hgT hne
      go_wp2_with fail
      have hs := set3_only H6.out.1 (.slice a2 4 c2) (.int .i64 55254) (.slice d2 28 dc)
      refine bodyPost_ret (send_results rfl rfl hs.2) rfl ?_
      exact ⟨⟨a2, c2, d2, dc, rfl, own1_only H6.out.2.1 hs.1 (by decide)⟩, H6.out.2.2.1.trans (hs.1.bel.mono (by have := HA.out.2.2.2.1.2.2; omega)), (Nat.le_trans H6.out.2.2.1.size hs.1.bel.size), fun b hb h1 h2 => by rw [hs.1.bel.block b (by omega), H6.out.2.2.2 b hb h1 h2]⟩
    refine soup_cons rfl rfl (fun a V hR hS hdep K hK => ?_) ?_
    · have e0 : a.tmps[0]?.getD undef = .pointer (some ⟨W, 0, none⟩) := slot_of (hS.keep 0 (by kernel_rfl))
      go_simp
      exact hK _ _ (Below.refl _ _) (by first | rfl | simp)
    refine soup_cons rfl rfl (fun a V hR hS hdep K hK => ?_) ?_
    · have e42 : a.tmps[42]?.getD undef = .pointer (some ⟨W, 0, none⟩) := slot_of (hdep 0 (by decide +kernel))
      go_simp
      exact hK _ _ (Below.refl _ _) (by first | rfl | simp)
    refine soup_cons rfl rfl (fun a V hR hS hdep K hK => ?_) ?_
    · have e43 : a.tmps[43]?.getD undef = .pointer (some ⟨W, 0, none⟩) := slot_of (hdep 1 (by decide +kernel))
      go_simp
      exact hK _ _ (Below.refl _ _) (by first | rfl | simp)
    refine soup_cons rfl rfl (fun a V hR hS hdep K hK => ?_) ?_
    · have e44 : a.tmps[44]?.getD undef = .pointer (some ⟨W, 15, none⟩) := slot_of (hdep 2 (by decide +kernel))
      have m0 := cell_keep hR HWC.out
      go_simp
      exact hK _ _ (Below.refl _ _) (by first | rfl | simp)
    refine soup_cons rfl rfl (fun a V hR hS hdep K hK => ?_) ?_
    · have e7 : a.tmps[7]?.getD undef = .pointer (some ⟨w.heap.size, 0, none⟩) := slot_of (hS.keep 7 (by kernel_rfl))
      have m0 := cell_keep hR HG3a.out
      have m1 := cell_keep hR HG3b.out
      go_simp
      exact hK _ _ (Below.refl _ _) (by first | rfl | simp)
    refine soup_cons rfl rfl (fun a V hR hS hdep K hK => ?_) ?_
    · have e46 : a.tmps[46]?.getD undef = .agg #[.slice na 0 nc, .int .i64 1] := slot_of (hdep 4 (by decide +kernel))
      go_simp
      have hbx := below_on (B := W3.heap.size) (Below.drew (Below.refl _ _)) hR (Nat.le_refl _)
      refine (HKY.out _ hbx).mono ?_
      rintro e W' ⟨rfl, hb⟩
      exact hK _ _ hb rfl
    refine soup_cons rfl rfl (fun a V hR hS hdep K hK => ?_) ?_
    · have e0 : a.tmps[0]?.getD undef = .pointer (some ⟨W, 0, none⟩) := slot_of (hS.keep 0 (by kernel_rfl))
      go_simp
      exact hK _ _ (Below.refl _ _) (by first | rfl | simp)
    refine soup_cons rfl rfl (fun a V hR hS hdep K hK => ?_) ?_
    · have e48 : a.tmps[48]?.getD undef = .pointer (some ⟨W, 0, none⟩) := slot_of (hdep 6 (by decide +kernel))
      go_simp
      exact hK _ _ (Below.refl _ _) (by first | rfl | simp)
    refine soup_cons rfl rfl (fun a V hR hS hdep K hK => ?_) ?_
    · have e49 : a.tmps[49]?.getD undef = .pointer (some ⟨W, 0, none⟩) := slot_of (hdep 7 (by decide +kernel))
      go_simp
      exact hK _ _ (Below.refl _ _) (by first | rfl | simp)
    refine soup_cons rfl rfl (fun a V hR hS hdep K hK => ?_) ?_
    · have e50 : a.tmps[50]?.getD undef = .pointer (some ⟨W, 15, none⟩) := slot_of (hdep 8 (by decide +kernel))
      have m0 := cell_keep hR HWC.out
      go_simp
      exact hK _ _ (Below.refl _ _) (by first | rfl | simp)
    refine soup_cons rfl rfl (fun a V hR hS hdep K hK => ?_) ?_
    · have e7 : a.tmps[7]?.getD undef = .pointer (some ⟨w.heap.size, 0, none⟩) := slot_of (hS.keep 7 (by kernel_rfl))
      have m0 := cell_keep hR HG3a.out
      have m1 := cell_keep hR HG3b.out
      go_simp
      exact hK _ _ (Below.refl _ _) (by first | rfl | simp)
    refine soup_cons rfl rfl (fun a V hR hS hdep K hK => ?_) ?_
    · have e52 : a.tmps[52]?.getD undef = .agg #[.slice na 0 nc, .int .i64 1] := slot_of (hdep 10 (by decide +kernel))
      go_simp
      have hbx := below_on (B := W3.heap.size) (Below.drew (Below.refl _ _)) hR (Nat.le_refl _)
      refine (HKY.out _ hbx).mono ?_
      rintro e W' ⟨rfl, hb⟩
      exact hK _ _ hb rfl
    refine soup_cons rfl rfl (fun a V hR hS hdep K hK => ?_) ?_
    · have e51 : a.tmps[51]?.getD undef = .map (some M1) := slot_of (hdep 9 (by decide +kernel))
      have e53 : a.tmps[53]?.getD undef = .string KS := slot_of (hdep 11 (by decide +kernel))
      go_simp
      have hbx := below_on (B := W3.heap.size) (Below.drew (Below.refl _ _)) hR (Nat.le_refl _)
      rw [HLK.out _ hbx]
      exact hK _ _ (Below.refl _ _) rfl
    refine soup_cons rfl rfl (fun a V hR hS hdep K hK => ?_) ?_
    · have e3 : a.tmps[3]?.getD undef = .slice ao 4 c := slot_of (hS.keep 3 (by kernel_rfl))
      go_simp
      exact hK _ _ (Below.refl _ _) (by first | rfl | simp)
    refine soup_cons rfl rfl (fun a V hR hS hdep K hK => ?_) ?_
    · have e54 : a.tmps[54]?.getD undef = .slice none 0 0 := slot_of (hdep 12 (by decide +kernel))
      have e55 : a.tmps[55]?.getD undef = .slice ao 4 c := slot_of (hdep 13 (by decide +kernel))
      go_simp
      have hbx := below_on (B := W3.heap.size) (Below.drew (Below.refl _ _)) hR (Nat.le_refl _)
      refine (note_none _ ao 4 c vs (HR3.out _ hbx) HA.out.2.1 (by omega)).mono ?_
      rintro e W' ⟨⟨g, cap, rfl⟩, hb⟩
      exact hK _ _ hb ⟨g, cap, rfl⟩
    exact fun j h1 h2 => absurd h1 (by omega)
  refine soup_cons rfl rfl (fun a V hR hS hdep K hK => ?_) ?_
  · have e3 : a.tmps[3]?.getD undef = .slice ao 4 c := slot_of (hS.keep 3 (by kernel_rfl))
    go_simp
    exact hK _ _ (Below.refl _ _) (by first | rfl | simp)
  refine soup_cons rfl rfl (fun a V hR hS hdep K hK => ?_) ?_
  · have e26 : a.tmps[26]?.getD undef = .slice ao 4 c := slot_of (hdep 0 (by decide +kernel))
    go_simp
    have hbx := below_on (B := W0.heap.size) (Below.drew (Below.refl _ _)) hR (Nat.le_refl _)
    refine (bclone_any _ ao 4 c vs (HR.out _ hbx) HA.out.2.1 (by omega)).mono ?_
    rintro e W' ⟨⟨a2, c2, rfl, ho⟩, hb⟩
    exact hK _ _ hb ⟨a2, c2, rfl, ho.mono hbx.size⟩
  refine soup_cons rfl rfl (fun a V hR hS hdep K hK => ?_) ?_
  · have e15 : a.tmps[15]?.getD undef = .int .i64 55254 := slot_of (hS.keep 15 (by kernel_rfl))
    go_simp
    exact hK _ _ (Below.refl _ _) (by first | rfl | simp)
  refine soup_cons rfl rfl (fun a V hR hS hdep K hK => ?_) ?_
  · have e14 : a.tmps[14]?.getD undef = .int .u64 7806831264735756412 := slot_of (hS.keep 14 (by kernel_rfl))
    go_simp
    exact hK _ _ (Below.refl _ _) (by first | rfl | simp)
  refine soup_cons rfl rfl (fun a V hR hS hdep K hK => ?_) ?_
  · have e29 : a.tmps[29]?.getD undef = .int .u64 7806831264735756412 := slot_of (hdep 3 (by decide +kernel))
    go_simp
    refine (mix_two _).mono ?_
    rintro e W' ⟨rfl, rfl⟩
    exact hK _ _ (Below.refl _ _) rfl
  refine soup_cons rfl rfl (fun a V hR hS hdep K hK => ?_) ?_
  · have e30 : a.tmps[30]?.getD undef = .int .u64 9396908728118811419 := slot_of (hdep 4 (by decide +kernel))
    go_simp
    exact hK _ _ (Below.refl _ _) (by first | rfl | simp)
  refine soup_cons rfl rfl (fun a V hR hS hdep K hK => ?_) ?_
  · have e31 : a.tmps[31]?.getD undef = .int .u64 1093944153 := slot_of (hdep 5 (by decide +kernel))
    go_simp
    exact hK _ _ (Below.refl _ _) (by first | rfl | simp)
  refine soup_cons rfl rfl (fun a V hR hS hdep K hK => ?_) ?_
  · have e32 : a.tmps[32]?.getD undef = .int .i64 1093944153 := slot_of (hdep 6 (by decide +kernel))
    go_simp
    exact hK _ _ (Below.refl _ _) (by first | rfl | simp)
  refine soup_cons rfl rfl (fun a V hR hS hdep K hK => ?_) ?_
  · have e7 : a.tmps[7]?.getD undef = .pointer (some ⟨w.heap.size, 0, none⟩) := slot_of (hS.keep 7 (by kernel_rfl))
    have m0 := cell_keep hR HG0.out
    have m1 := cell_keep hR HG1.out
    go_simp
    exact hK _ _ (Below.refl _ _) (by first | rfl | simp)
  refine soup_cons rfl rfl (fun a V hR hS hdep K hK => ?_) ?_
  · have e34 : a.tmps[34]?.getD undef = .agg #[.slice na 0 nc, .int .i64 1] := slot_of (hdep 8 (by decide +kernel))
    go_simp
    have hbx := below_on (B := W0.heap.size) (Below.drew (Below.refl _ _)) hR (Nat.le_refl _)
    refine (gquestion_root _ na nc (HS.out _ hbx) 1).mono ?_
    rintro e W' ⟨⟨qa, qc, rfl, hq⟩, hb⟩
    exact hK _ _ hb ⟨qa, qc, rfl, hq⟩
  refine soup_cons rfl rfl (fun a V hR hS hdep K hK => ?_) ?_
  · obtain ⟨a1, c1, q, ho1⟩ := hdep 1 (by decide +kernel)
    have e27 : a.tmps[27]?.getD undef = .slice a1 4 c1 := slot_of q
    clear q
    have e28 : a.tmps[28]?.getD undef = .int .i64 55254 := slot_of (hdep 2 (by decide +kernel))
    have e33 : a.tmps[33]?.getD undef = .int .i64 17241 := slot_of (hdep 7 (by decide +kernel))
    obtain ⟨a9, c9, q, hq9⟩ := hdep 9 (by decide +kernel)
    have e35 : a.tmps[35]?.getD undef = .agg #[.slice a9 0 c9, .int .i64 1, .int .i64 1] := slot_of q
    clear q
    go_simp
    exact hK _ _ (Below.refl _ _) ⟨a1, c1, a9, c9, rfl, ho1, hq9⟩
  refine soup_cons rfl rfl (fun a V hR hS hdep K hK => ?_) ?_
  · go_simp
    have hbx := below_on (B := W0.heap.size) (Below.drew (Below.refl _ _)) hR (Nat.le_refl _)
    exact hK _ _ ((Below.refl _ _).alloc (Nat.le_refl _) _) ⟨_, rfl, heap_alloc_new _ _, hbx.size⟩
  exact fun j h1 h2 => absurd h1 (by omega)
end
section
open Go.ChangeShapes Go.WideShapes Go.ChangeAt Go.RowKit Go.Shelf
attribute [local go_sem] Oper.semAt_some

/-- n[k:] -/
def sufV (na : Option Addr) (nl nc k : Nat) : Value := if nc = k then .slice na 0 0 else .slice (Option.map (fun x => x.add k) na) (nl - k) (nc - k)
/-- a block of one cell stays -/
def KeepBx (bx : Nat) (v : Value) (A B : World) : Prop := A.heap[bx]? = some (.cells #[v] 29 (0, 0)) → B.heap[bx]? = some (.cells #[v] 29 (0, 0))
set_option maxHeartbeats 4000000 in
set_option maxRecDepth 100000 in
theorem up_any (w : World) (na : Option Addr) (nl nc : Nat) :
    Calls Tryz.prog 83 #[.slice na nl nc] w fun e w' => e = .returned (.func (.func 124) #[] #[.pointer (some ⟨w.heap.size, 0, none⟩)]) ∧ w' = w.alloc (.cells #[.slice na nl nc] 29) := by
  go_enter Tryz.func83, Tryz.ntmps83
  go_wp2_with fail
  go_ret
  exact ⟨rfl, rfl⟩
set_option maxRecDepth 100000 in
set_option maxHeartbeats 4000000 in
theorem up_stops (F : Fence) (n : Nat) (h5 : F.fn 124) (hro : F.round = none) (hn : 1 ≤ n) (bx : Nat) (na : Option Addr) (nl nc : Nat) (hnb : nl ≤ 1000000) (hlc : nl ≤ nc) (w : World) (hb : w.heap[bx]? = some (.cells #[.slice na nl nc] 29 (0, 0))) :
    SeqStopsK F n Tryz.prog 124 #[.pointer (some ⟨bx, 0, none⟩)] (fun i : {i : Nat // i ≤ nl} => #[sufV na nl nc i.1]) (KeepBx bx (.slice na nl nc)) (fun _ => True) (fun _ => True) (nl + 1) w := fun l J Jx W hW hJ hJx hY h0 => by
  have hlt : bx < w.heap.size := (Array.getElem?_eq_some_iff.1 hb).1
  have hbW : W.heap[bx]? = some (.cells #[.slice na nl nc] 29 (0, 0)) := (hW.block bx hlt).trans hb
  have c0 : W.cell? ⟨bx, 0, none⟩ = some (.slice na nl nc) := by simp [World.cell?, hbW]
  refine callsIn_of_wp Tryz.func124 rfl h5 ?_ hro
  simp only [Tryz.ntmps124, List.size_toArray, List.length_cons, List.length_nil, Nat.reduceAdd, Nat.reduceSub, Array.replicate_succ, Array.replicate_zero, List.push_toArray, List.append_toArray, List.nil_append, List.cons_append]
  gi_wp2
  gi_loopw [7] (fun i wr => ∃ (k : Nat) (pre : List {i : Nat // i ≤ nl}), k ≤ nl + 1 ∧ pre.length = k ∧ i = .int .i64 k ∧ J pre wr ∧ wr.heap[bx]? = some (.cells #[.slice na nl nc] 29 (0, 0))) (fun i _ => nl + 1 - (intOf i).toNat)
  case atStart => exact ⟨0, [], Nat.zero_le _, rfl, rfl, h0, hbW⟩
  case round =>
    obtain ⟨k, pre, hk, hpl, rfl, hJs, hbx⟩ := hrel
    by_cases hlk : k < nl + 1
    · have hkl : k ≤ nl := Nat.lt_succ_iff.1 hlk
      have hpn : pre.length < nl + 1 := by omega
      obtain ⟨fn, tmps, assign, body, hy, hR⟩ := hY pre ⟨k, hkl⟩ wr hJs hpn
      have cx : wr.cell? ⟨bx, 0, none⟩ = some (.slice na nl nc) := by simp [World.cell?, hbx]
      simp only [sufV] at hy
      by_cases hck : nc = k
      · subst hck
        rw [if_pos rfl] at hy
        gi_wp2
        refine hR.mono ?_
        rintro e W3 (⟨rfl, hJ3, hk3⟩ | ⟨rfl, hJx3⟩)
        · have HX := Lib.hid (And.intro hJ3 (And.intro (hk3 hbx) hpl))
          clear hy hJ3 hk3 hpl hR hJs
          gi_wp2
          go_roundw
          case rel => exact ⟨nc + 1, pre ++ [⟨nc, hkl⟩], by omega, by rw [List.length_append, HX.out.2.2]; rfl, by simp, HX.out.1, HX.out.2.1⟩
          case measure => simp [intOf]; omega
        · gi_wp2
          refine bodyPost_ret (results_none rfl _ _ _) rfl ?_
          exact ⟨⟨_, rfl⟩, .inr ⟨_, trivial, hJx3⟩⟩
      · rw [if_neg hck] at hy
        gi_wp2
        refine hR.mono ?_
        rintro e W3 (⟨rfl, hJ3, hk3⟩ | ⟨rfl, hJx3⟩)
        · have HX := Lib.hid (And.intro hJ3 (And.intro (hk3 hbx) hpl))
          clear hy hJ3 hk3 hpl hR hJs
          gi_wp2
          go_roundw
          case rel => exact ⟨k + 1, pre ++ [⟨k, hkl⟩], by omega, by rw [List.length_append, HX.out.2.2]; rfl, by simp, HX.out.1, HX.out.2.1⟩
          case measure => simp [intOf]; omega
        · gi_wp2
          refine bodyPost_ret (results_none rfl _ _ _) rfl ?_
          exact ⟨⟨_, rfl⟩, .inr ⟨_, trivial, hJx3⟩⟩
    · obtain rfl : k = nl + 1 := by omega
      gi_wp2
      go_end0
      exact ⟨⟨_, rfl⟩, .inl ⟨pre, trivial, hJs⟩⟩
end
section
open Go.ChangeShapes Go.WideShapes Go.ChangeAt Go.RowKit Go.Shelf
attribute [local go_sem] Oper.semAt_some

theorem Only.ownFrom {β : Type} {S : List TypeId} {B : Nat} {w : World} (hB : B ≤ w.heap.size) : OwnFrom w.heap.size (fun (_ : β) W => Only S B w W) := fun s W W' row hs hg hr => by
  have hlt : ∀ r, row = some r → w.heap.size ≤ r := fun r e => (hr r e).1
  exact ⟨hs.bel.grown hg (by have := hs.bel.size; omega) (fun r e => by have := hlt r e; omega), fun b hb hn => by
    rw [hg.block b (by have := hs.bel.size; omega) (fun e => by have := hlt b e.symm; omega)]
    exact hs.keep b hb hn⟩
theorem blk_ownFrom {β : Type} {w : World} {K : Nat} {T : TypeId} {cs : Int → Array Value} (hK : K < w.heap.size) : OwnFrom w.heap.size (fun (_ : β) W => ∃ t : Int, Blk W K (cs t) T) := fun s W W' row hs hg hr => by
  obtain ⟨t, h⟩ := hs
  exact ⟨t, by
    have hl := Blk.lt h
    unfold Blk
    rw [hg.block K hl (fun e => by have := (hr K e.symm).1; omega)]
    exact h⟩
theorem srv_results {tmps : Array Value} {w : World} {R : Nat} {a b c : Value} (h4 : tmps[6]? = some (.pointer (some ⟨R, 0, none⟩))) (hB : Blk w R #[a, b, c] 118) :
    (results Tryz.f52 tmps).run Tryz.prog w = .ok (.agg #[a, b, c]) w := by
  have c0 := hB.cell 0
  have c1 := hB.cell 1
  have c2 := hB.cell 2
  simp at c0 c1 c2
  simp [results, go_sem, h4, c0, c1, c2]
theorem four_cells (w : World) (c1 c2 c3 c4 : Array Value) (T1 T2 T3 T4 : TypeId) : Below w.heap.size w ((((w.alloc (.cells c1 T1)).alloc (.cells c2 T2)).alloc (.cells c3 T3)).alloc (.cells c4 T4)) ∧ Blk ((((w.alloc (.cells c1 T1)).alloc (.cells c2 T2)).alloc (.cells c3 T3)).alloc (.cells c4 T4)) w.heap.size c1 T1 ∧ Blk ((((w.alloc (.cells c1 T1)).alloc (.cells c2 T2)).alloc (.cells c3 T3)).alloc (.cells c4 T4)) (w.heap.size + 1) c2 T2 ∧ Blk ((((w.alloc (.cells c1 T1)).alloc (.cells c2 T2)).alloc (.cells c3 T3)).alloc (.cells c4 T4)) (w.heap.size + 1 + 1) c3 T3 ∧ Blk ((((w.alloc (.cells c1 T1)).alloc (.cells c2 T2)).alloc (.cells c3 T3)).alloc (.cells c4 T4)) (w.heap.size + 1 + 1 + 1) c4 T4 := by
  have h3 := three_new w c1 c2 c3 T1 T2 T3
  have e3 : (((w.alloc (.cells c1 T1)).alloc (.cells c2 T2)).alloc (.cells c3 T3)).heap.size = w.heap.size + 1 + 1 + 1 := by simp
  generalize ((w.alloc (.cells c1 T1)).alloc (.cells c2 T2)).alloc (.cells c3 T3) = W3 at h3 e3 ⊢
  have h4 : Blk (W3.alloc (.cells c4 T4)) W3.heap.size c4 T4 := heap_alloc_new W3 _
  have b4 : Below W3.heap.size W3 (W3.alloc (.cells c4 T4)) := (Below.refl _ _).alloc (Nat.le_refl _) _
  rw [e3] at h4
  exact ⟨below_on h3.1 b4 (Nat.le_refl _), h3.2.1.on b4, h3.2.2.1.on b4, h3.2.2.2.on b4, h4⟩
theorem only_grown {S : List TypeId} {B : Nat} {w W W' : World} (h : Only S B w W) {R : Nat} (hg : W.grownBy W' (some R)) (hR : w.heap.size ≤ R) (hB : B ≤ w.heap.size) : Only S B w W' :=
  ⟨h.bel.grown hg (by have := h.bel.size; omega) (fun j e => by cases e; omega), fun b hb hn => by
    rw [hg.block b (by have := h.bel.size; omega) (fun e => by have := Option.some.inj e; omega)]
    exact h.keep b hb hn⟩
theorem others_only {S : List TypeId} {B : Nat} {w w' : World} (ho : Only S B w w') : KeepsOthers w w' := ⟨ho.bel.size, fun k o hk hc => by
  rw [ho.keep k (Array.getElem?_eq_some_iff.1 hk).1 (fun ht => by
    obtain ⟨cs, t, e, _⟩ := ht
    rw [hk] at e
    cases e
    cases hc)]
  exact hk⟩
theorem sufV_strs {w : World} {na : Option Addr} {nl nc : Nat} {nm : List ByteArray} (h : Strs w na nl nc nm) {i : Nat} (hi : i ≤ nl) : ∃ za zl zc, sufV na nl nc i = .slice za zl zc ∧ Strs w za zl zc (nm.drop i) ∧ ∀ S : Nat → Prop, rowIn S na nl → rowIn S za zl := by
  unfold sufV
  by_cases hc : nc = i
  · rw [if_pos hc]
    have hle := h.row.hle
    have h2 := h.cut0 hi hc
    have he : nl - i = 0 := by omega
    rw [he] at h2
    exact ⟨_, _, _, rfl, h2, fun S _ => rowIn_zero _ _⟩
  · rw [if_neg hc]
    refine ⟨_, _, _, rfl, h.cut hi, fun S hS h0 a ha => ?_⟩
    cases na with
    | none => cases ha
    | some a0 =>
      have e : a = a0.add i := (Option.some.inj ha).symm
      have hb : (a0.add i).block = a0.block := by unfold Addr.add; split <;> rfl
      rw [e, hb]
      exact hS (by omega) a0 rfl
set_option maxHeartbeats 16000000 in
set_option maxRecDepth 100000 in
theorem nearest_none (w : World) (W : Nat) (x : WalkH) (s : SetP) (hW : Blk w W (walkC x s) 60) (B K C L : Nat) (hxK : x.K = K) (pl kn told : Int) (mem dn : Bool) (most stale : Int) (k : Nat) (hK : KeepAt B w K C L pl kn told mem dn most stale k []) (na : Option Addr) (nl nc : Nat) (nm : List ByteArray) (now : Int) (hn : Strs w na nl nc nm) (hzz : sizeN nm ≤ 1099511627776) (hnb : nl ≤ 1000000) (hni : rowIn (fun b => ¬ tagged [92] w b) na nl) :
    Calls Tryz.prog 52 #[.pointer (some ⟨W, 0, none⟩), .slice na nl nc, .int .i64 now] w fun e w' => e = .returned (.agg #[.slice none 0 0, .slice x.h.ra s.roots.length x.h.rc, .slice none 0 0]) ∧ (∃ kn', KeepAt B w' K C L pl kn' told mem dn most stale k []) ∧ Only [92] B w w' := by
  refine (callsIn_wide (n := 3)).1 ?_
  refine callsIn_of_wp_marks Tryz.func52 rfl trivial ?_ rfl
  simp only [Tryz.ntmps52, List.size_toArray, List.length_cons, List.length_nil, Nat.reduceAdd, Nat.reduceSub, Array.replicate_succ, Array.replicate_zero, List.push_toArray, List.append_toArray, List.nil_append, List.cons_append]
  have HB := Lib.hid (And.intro hW (And.intro hxK (And.intro hK (And.intro hn (And.intro hzz hni)))))
  clear hW hxK hK hzz hni
  gi_wp2_with (refine ⟨trivial, ?_⟩; gi_at_call 83; refine (callsIn_wide.2 (up_any _ na nl nc)).mono ?_; rintro e w' ⟨rfl, rfl⟩)
  have h4 := four_cells w #[.pointer (some ⟨W, 0, none⟩)] #[.int .i64 now] noSrv #[.slice na nl nc] 31 3 118 29
  simp only [noSrv] at h4
  have hs4 : ((((w.alloc (.cells #[.pointer (some ⟨W, 0, none⟩)] 31)).alloc (.cells #[.int .i64 now] 3)).alloc (.cells #[.slice none 0 0, .slice none 0 0, .slice none 0 0] 118)).alloc (.cells #[.slice na nl nc] 29)).heap.size = w.heap.size + 1 + 1 + 1 + 1 := by simp
  generalize ((((w.alloc (.cells #[.pointer (some ⟨W, 0, none⟩)] 31)).alloc (.cells #[.int .i64 now] 3)).alloc (.cells #[.slice none 0 0, .slice none 0 0, .slice none 0 0] 118)).alloc (.cells #[.slice na nl nc] 29)) = W0 at h4 hs4 ⊢
  have hle := hn.row.hle
  have hB0 : B ≤ w.heap.size := HB.out.2.2.1.ca.B_le
  have hKb : K < W0.heap.size := by have := HB.out.2.2.1.blk.lt; omega
  have H4 := Lib.hid h4
  refine wpIn_rangeFunc_ownF rfl (by omega) (gf := 124) (lb := #[.pointer (some ⟨w.heap.size + 1 + 1 + 1, 0, none⟩)]) rfl trivial (enters_of Tryz.func124 (by kernel_rfl) rfl)
    (up_stops Fence.wide _ trivial rfl (by omega) (w.heap.size + 1 + 1 + 1) na nl nc hnb hle W0 h4.2.2.2.2)
    (fun h k e => k (h e)) (fun Z l o o' hl hz hc _ e => by
      have hne : l ≠ w.heap.size + 1 + 1 + 1 := by omega
      rw [World.putObj_heap_other (fun e => hne e.symm)]
      exact e) (Below.refl _ _) (fun _ => rfl)
    (fun _ Z => Only [92] B W0 Z ∧ ∃ t : Int, Blk Z K (keepC C L pl t told mem dn) 92)
    (fun _ _ _ => False)
    (OwnFrom.and (Only.ownFrom (by omega)) (blk_ownFrom hKb))
    (fun _ _ _ _ _ hs _ _ => hs)
    ⟨Only.refl _ _ _, kn, HB.out.2.2.1.blk.on h4.1⟩
    (fun i => { tmps := #[.pointer (some ⟨W, 0, none⟩), .slice na nl nc, .int .i64 now, .pointer (some ⟨w.heap.size, 0, none⟩), undef, .pointer (some ⟨w.heap.size + 1, 0, none⟩), .pointer (some ⟨w.heap.size + 1 + 1, 0, none⟩), sufV na nl nc i.1, undef, undef, .slice na nl nc, .func (.func 124) #[] #[.pointer (some ⟨w.heap.size + 1 + 1 + 1, 0, none⟩)], sufV na nl nc i.1, undef, undef, undef, undef, undef, undef, undef, undef, undef, undef, undef, undef, undef, undef, undef], defers := [] }) ?assign ?body ?done ?stop
  case assign =>
    intro l x W K hK
    gi_wp2
    exact hK
  case body =>
    rintro l pre i Z ⟨ho, t, ht⟩ _
    have HO := Lib.hid ho
    have b3 : Z.cell? ⟨w.heap.size, 0, none⟩ = some (.pointer (some ⟨W, 0, none⟩)) := (ho.blk H4.out.2.1 (by decide)).cell 0
    have b5 : Z.cell? ⟨w.heap.size + 1, 0, none⟩ = some (.int .i64 now) := (ho.blk H4.out.2.2.1 (by decide)).cell 0
    have hWZ := ho.blk (HB.out.1.on H4.out.1) (by decide)
    have hKZ : KeepAt B Z K C L pl t told mem dn most stale k [] := ⟨ht, (HB.out.2.2.1.ca.on H4.out.1).only ho (by decide) (by decide) (by decide), HB.out.2.2.1.base⟩
    have hnW := HB.out.2.2.2.1.below H4.out.1 (Nat.le_refl _)
    have hiW := not_tagged HB.out.2.2.2.1 HB.out.2.2.2.2.2 H4.out.1
    have hnZ := strs_only hnW hiW ho
    have hiZ := not_tagged_only hnW hiW ho
    obtain ⟨za, zl, zc, hz, hsz, hrz⟩ := sufV_strs hnZ i.2
    have hzz : sizeN (nm.drop i.1) ≤ 1099511627776 := by
      have h1 := sizeN_append (nm.take i.1) (nm.drop i.1)
      rw [List.take_append_drop] at h1
      have := HB.out.2.2.2.2.1
      omega
    have HWA := Lib.hid (wat_none Z W x s hWZ B K C L HB.out.2.1 pl t told mem dn most stale k hKZ za zl zc _ now hsz hzz (hrz _ hiZ))
    clear ht hWZ hKZ hnW hiW hnZ hiZ hsz hrz hzz ho
    simp only [hz]
    clear hz
    gi_wp2_with (refine ⟨trivial, ?_⟩; gi_at_call 84; refine (CallsIn.inRound l (callsIn_wide.2 HWA.out)).mono ?_; rintro e W1 ⟨rfl, hk1, ho1⟩; have hst := store_row_run (P := Tryz.prog) (heap_alloc_new W1 (.cells #[.slice none 0 0, .slice none 0 0, .slice none 0 0] 118)) noSrv rfl noSrv_all; have hq := new_row W1 #[.slice none 0 0, .slice none 0 0, .slice none 0 0] noSrv 118; have H1 := Lib.hid (And.intro hk1 (And.intro (HO.out.trans ho1) (And.intro hq ho1))); clear hk1 ho1 hq)
    have z1 := H1.out.2.1.bel.size
    have z2 := H1.out.2.2.2.bel.size
    have zB : B ≤ W1.heap.size := by omega
    have hfZ := H1.out.2.2.2.trans (Only.below H1.out.2.2.1.1 zB)
    exact ⟨others_only hfZ, fun e => hfZ.blk e (by decide), H1.out.2.1.trans (Only.below H1.out.2.2.1.1 zB), _, H1.out.1.blk.on H1.out.2.2.1.1⟩
  case done =>
    rintro D ys Z hD _ ⟨ho, t, ht⟩ hK
    have b3 : Z.cell? ⟨w.heap.size, 0, none⟩ = some (.pointer (some ⟨W, 0, none⟩)) := (ho.blk H4.out.2.1 (by decide)).cell 0
    have hWZ := ho.blk (HB.out.1.on H4.out.1) (by decide)
    have r1 : Z.cell? ⟨W, 1, none⟩ = some (.slice x.h.ra s.roots.length x.h.rc) := hWZ.cell 1
    have h6 := ho.blk H4.out.2.2.2.1 (by decide)
    have n0 : Z.cell? ⟨w.heap.size + 1 + 1, 0, none⟩ = some (.slice none 0 0) := h6.cell 0
    have n1 : Z.cell? ⟨w.heap.size + 1 + 1, 1, none⟩ = some (.slice none 0 0) := h6.cell 1
    have n2 : Z.cell? ⟨w.heap.size + 1 + 1, 2, none⟩ = some (.slice none 0 0) := h6.cell 2
    have f0 := h6.free 0
    have f1 := h6.free 1
    have f2 := h6.free 2
    have g1 := but_trans (but_trans (but_set Z (w.heap.size + 1 + 1) 0 (.slice none 0 0)) (but_set _ (w.heap.size + 1 + 1) 1 (.slice x.h.ra s.roots.length x.h.rc))) (but_set _ (w.heap.size + 1 + 1) 2 (.slice none 0 0))
    have h6' : Blk (((Z.setCell ⟨w.heap.size + 1 + 1, 0, none⟩ (.slice none 0 0)).setCell ⟨w.heap.size + 1 + 1, 1, none⟩ (.slice x.h.ra s.roots.length x.h.rc)).setCell ⟨w.heap.size + 1 + 1, 2, none⟩ (.slice none 0 0)) (w.heap.size + 1 + 1) #[.slice none 0 0, (.slice x.h.ra s.roots.length x.h.rc), .slice none 0 0] 118 := by simpa using ((h6.set 0 (.slice none 0 0)).set 1 (.slice x.h.ra s.roots.length x.h.rc)).set 2 (.slice none 0 0)
    have hKO : KeepsOthers Z (((Z.setCell ⟨w.heap.size + 1 + 1, 0, none⟩ (.slice none 0 0)).setCell ⟨w.heap.size + 1 + 1, 1, none⟩ (.slice x.h.ra s.roots.length x.h.rc)).setCell ⟨w.heap.size + 1 + 1, 2, none⟩ (.slice none 0 0)) := ((KeepsOthers.setCell _ _ _).trans (KeepsOthers.setCell _ _ _)).trans (KeepsOthers.setCell _ _ _)
    have hK2 := hKO.same D _ hK rfl
    have HF := Lib.hid (And.intro ho (And.intro ht (And.intro h6 (And.intro h6' g1))))
    clear hWZ h6 h6' ho ht hKO g1
    gi_wp2
    refine ⟨by simp, .inl ⟨_, _, rfl, run_takeDeferred hK2, ?_⟩⟩
    have gD := grownBy_putObj' (((Z.setCell ⟨w.heap.size + 1 + 1, 0, none⟩ (.slice none 0 0)).setCell ⟨w.heap.size + 1 + 1, 1, none⟩ (.slice x.h.ra s.roots.length x.h.rc)).setCell ⟨w.heap.size + 1 + 1, 2, none⟩ (.slice none 0 0)) D (.deferred none)
    have hOf := only_grown (only_grown ((Only.below H4.out.1 hB0).trans HF.out.1) HF.out.2.2.2.2 (by omega) hB0) gD (by omega) hB0
    have hKw := HB.out.2.2.1.blk.lt
    have hKf := (HF.out.2.1.but HF.out.2.2.2.2 (by omega)).but gD (by omega)
    exact ⟨_, srv_results rfl (HF.out.2.2.2.1.but gD (by omega)), rfl, ⟨t, hKf, HB.out.2.2.1.ca.only hOf (by decide) (by decide) (by decide), HB.out.2.2.1.base⟩, hOf⟩
  case stop =>
    rintro D c pre W _ _ h _
    exact h.elim
end
section
open Go.ChangeShapes Go.WideShapes Go.ChangeAt Go.RowKit

theorem only_map {S : List TypeId} {B : Nat} {w w' : World} (h : Only S B w w') {M : Nat} {es : Array _} {c : Nat} (hM : w.heap[M]? = some (.map es c)) : w'.heap[M]? = some (.map es c) := by
  rw [h.keep M (Array.getElem?_eq_some_iff.1 hM).1 (fun ht => by
    obtain ⟨cs, t, e, _⟩ := ht
    rw [hM] at e
    cases e), hM]
theorem ask_results {tmps : Array Value} {w : World} {R : Nat} {a b c : Value} {n : Bool} (h4 : tmps[8]? = some (.pointer (some ⟨R, 0, none⟩))) (h5 : tmps[9]? = some (.bool n)) (hB : Blk w R #[a, b, c] 42) :
    (results Tryz.f29 tmps).run Tryz.prog w = .ok (.tuple #[.agg #[a, b, c], .bool n]) w := by
  have c0 := hB.cell 0
  have c1 := hB.cell 1
  have c2 := hB.cell 2
  simp at c0 c1 c2
  simp [results, go_sem, h4, h5, c0, c1, c2]
theorem blk_same {w w' : World} {g : Nat} {cs : Array Value} {T : TypeId} (h : Blk w g cs T) (e : w'.heap[g]? = w.heap[g]?) : Blk w' g cs T := e.trans h
theorem cell_lt {w : World} {p : Addr} {v : Value} (h : w.cell? p = some v) : p.block < w.heap.size := by
  rcases Nat.lt_or_ge p.block w.heap.size with h1 | h1
  · exact h1
  · unfold World.cell? at h
    rw [Array.getElem?_eq_none h1] at h
    simp at h
theorem cell_map {w : World} {p : Addr} {v : Value} {M : Nat} (h : w.cell? p = some v) (hM : w.heap[M]? = some (.map #[] 0)) : p.block ≠ M := by
  rintro rfl
  unfold World.cell? at h
  rw [hM] at h
  simp at h
set_option maxHeartbeats 32000000 in
set_option maxRecDepth 100000 in
theorem ask_root (w : World) (B N W K C L : Nat) (x : WalkH) (s : SetP) (pl kn told : Int) (mem dn : Bool) (most stale : Int) (k : Nat) (hW : NewWalk B N w W K C L x s pl kn told mem dn most stale k []) (hBN : B ≤ N ∧ N ≤ w.heap.size) (r : List UInt8) (hr : s.roots = [r]) (hr4 : r.length = 4) (htr : s.tries = 3) (na : Option Addr) (nc : Nat) (hn : Strs w na 0 nc []) (now : Int) :
    Calls Tryz.prog 29 #[.pointer (some ⟨W, 0, none⟩), .agg #[.slice na 0 nc, .int .i64 1], .int .i64 now, .int .u64 1] w fun e w' => (∃ a2 c2 d2 dc, e = .returned (.tuple #[.agg #[.slice a2 4 c2, .int .i64 55254, .slice d2 28 dc], .bool true]) ∧ Own1 [5] w.heap.size w' a2 4 c2 (r.map u8V)) ∧ Below B w w' ∧ w.heap.size ≤ w'.heap.size ∧ ∀ b, b < w.heap.size → b ≠ W → x.tried ≠ .map (some b) → ¬ tagged [92] w b → w'.heap[b]? = w.heap[b]? := by
  have hT := two_news w #[.slice na 0 nc, .int .i64 1] #[.slice none 0 0, .int .i64 0, .slice none 0 0] 51 42
  obtain ⟨M1, M2, hm1, hm2, hm3, hm4, hm5, hm6, hm7⟩ := hW.maps
  have HA := Lib.hid (And.intro hW (And.intro hBN (And.intro hn (And.intro hm1 (And.intro hm3 hm5)))))
  have HT := Lib.hid hT
  have HRR := Lib.hid (And.intro hr (And.intro hr4 htr))
  have HN := Lib.hid (nearest_none ((w.alloc (.cells #[.slice na 0 nc, .int .i64 1] 51)).alloc (.cells #[.slice none 0 0, .int .i64 0, .slice none 0 0] 42)) W x s (hW.blk.on hT.1) B K C L hW.hK pl kn told mem dn most stale k (hW.keep.on hT.1) na 0 nc [] now (hn.below hT.1 (Nat.le_refl _)) (by decide) (by omega) (rowIn_zero _ _))
  rw [show s.roots.length = 1 by rw [hr]; rfl] at HN
  have HB2 := hBN.2
  clear hT hW hBN hn hm1 hm2 hm3 hm4 hm5 hm6 hm7 hr hr4 htr
  go_enter Tryz.func29, Tryz.ntmps29
  go_wp2_with (go_at_call 52; refine HN.out.mono ?_; rintro e W1 ⟨rfl, ⟨kn', hk1⟩, ho1⟩; have H1 := Lib.hid (And.intro hk1 (And.intro ho1 ((Only.below HT.out.1 (by have := HA.out.2.1; omega)).trans ho1))); clear hk1 ho1)
  rename_i K0 hK0
  have HK0 := Lib.hid hK0
  clear hK0 HN HB2
  have hal : Below W1.heap.size W1 (W1.alloc (.cells #[.slice none 0 0, .slice x.h.ra 1 x.h.rc, .slice none 0 0] 118)) := (Below.refl _ _).alloc (Nat.le_refl _) _
  have hS : Blk (W1.alloc (.cells #[.slice none 0 0, .slice x.h.ra 1 x.h.rc, .slice none 0 0] 118)) W1.heap.size #[.slice none 0 0, .slice x.h.ra 1 x.h.rc, .slice none 0 0] 118 := heap_alloc_new W1 _
  generalize W1.alloc (.cells #[.slice none 0 0, .slice x.h.ra 1 x.h.rc, .slice none 0 0] 118) = W2 at hal hS ⊢
  have hw1 : w.heap.size ≤ W1.heap.size := H1.out.2.2.bel.size
  have hB1 : B ≤ W1.heap.size := by have := HA.out.2.1; omega
  have ho2 : Only [92] B w W2 := H1.out.2.2.trans (Only.below hal hB1)
  have hW2 := ho2.blk HA.out.1.blk (by decide)
  have hM2 := only_map ho2 HA.out.2.2.2.2.1
  have hG2 := (H1.out.2.1.blk HT.out.2.1 (by decide)).on hal
  have hR2 := (H1.out.2.1.blk HT.out.2.2 (by decide)).on hal
  have hset2 := HA.out.1.roots.only ho2
  have hbd : Below W2.heap.size W2 W2.drew := Below.drew (Below.refl _ _)
  have g0 : W2.drew.cell? ⟨w.heap.size, 0, none⟩ = some (.slice na 0 nc) := (hG2.on hbd).cell 0
  have g1 : W2.drew.cell? ⟨w.heap.size, 1, none⟩ = some (.int .i64 1) := (hG2.on hbd).cell 1
  have c15 : W2.drew.cell? ⟨W, 15, none⟩ = some (.map (some M1)) := by rw [(hW2.on hbd).cell 15]; simp [walkC, HA.out.2.2.2.1]
  have HM2 := Lib.hid (show ∀ V, Below W2.heap.size W2 V → V.heap[M1]? = some (.map #[] 0) from fun V h => by
    rw [h.block M1 (Array.getElem?_eq_some_iff.1 hM2).1, hM2])
  obtain ⟨KS, hKS⟩ : ∃ q : ByteArray, q = (⟨(keyP [] 1).toArray⟩ : ByteArray) := ⟨_, rfl⟩
  have HKY := Lib.hid (gkey_any W2.drew na 0 nc [] 1 ⟨Row.empty HA.out.2.2.1.row.hcap HA.out.2.2.1.row.hnil, HA.out.2.2.1.small⟩ (by decide))
  rw [← hKS] at HKY
  have HLK := Lib.hid (show ∀ V, Below W2.heap.size W2 V → _ from fun V h => fresh_look (HM2.out V h) (key := keyP [] 1) (by decide))
  rw [← hKS] at HLK
  have H2 := Lib.hid (And.intro ho2 (And.intro hW2 (And.intro hM2 (And.intro hG2 (And.intro hR2 (And.intro hset2 (And.intro hS (And.intro hw1 (And.intro (H1.out.1.on hal) hal.size)))))))))
  clear hKS ho2 hW2 hM2 hG2 hR2 hset2 hS hal hw1 hB1
  go_region_held3 (fun w' => w'.cell? ⟨W, 15, none⟩ = some (.map (some M1)) ∧ w'.cell? ⟨w.heap.size, 0, none⟩ = some (.slice na 0 nc) ∧ w'.cell? ⟨w.heap.size, 1, none⟩ = some (.int .i64 1))
    (first | go_keep | exact ⟨c15, g0, g1⟩ | exact hc3)
    (first | (go_at_call 46; refine HKY.out.mono ?_; rintro e W3 ⟨rfl, hb3⟩; have hb23 := below_on hbd hb3 (Nat.le_refl _); have hlk := HLK.out _ hb23; have hc3 : W3.cell? ⟨W, 15, none⟩ = some (.map (some M1)) ∧ W3.cell? ⟨w.heap.size, 0, none⟩ = some (.slice na 0 nc) ∧ W3.cell? ⟨w.heap.size, 1, none⟩ = some (.int .i64 1) := ⟨cell_keep hb3 c15, cell_keep hb3 g0, cell_keep hb3 g1⟩; have H3 := Lib.hid hb23; clear hb3 hb23))
  all_goals go_split_ands
  all_goals (
    refine HK0.out _ _ ?_
    clear HK0 hlk g0 g1 c15 hbd HKY HLK
    have hset3 := (H2.out.2.2.2.2.2.1.on H3.out).roots
    rw [HRR.out.1] at hset3
    obtain ⟨b, off, hra⟩ := hset3.addr (k := 0) (by simp)
    rw [hra] at hset3
    obtain ⟨hh, hc, hi⟩ := hset3.at (k := 0) (by simp)
    obtain ⟨rb, rc⟩ := hh
    have c0 := hc 0 (by decide)
    simp [rootK, HRR.out.2.1] at c0
    have hrow : Row W3 rb 4 rc (r.map u8V) := by have h := hi.1; rw [show ([r] : List (List UInt8))[0] = r from rfl, HRR.out.2.1] at h; exact h
    have s1 : W3.cell? ⟨W1.heap.size, 1, none⟩ = some (.slice (some ⟨b, off, none⟩) 1 x.h.rc) := by rw [(H2.out.2.2.2.2.2.2.1.on H3.out).cell 1, ← hra]; rfl
    have hW3 := H2.out.2.1.on H3.out
    have c5 : W3.cell? ⟨W, 5, none⟩ = some (.int .i64 3) := by rw [hW3.cell 5]; simp [walkC, HRR.out.2.2]
    have c13 : W3.cell? ⟨W, 13, none⟩ = some (.int .i64 0) := by rw [hW3.cell 13]; simp [walkC, HA.out.1.sends]
    have hcap : (1 : Nat) ≤ x.h.rc ∧ x.h.rc ≤ 9223372036854775807 := ⟨hset3.hle, hset3.hmax⟩
    have H4 := Lib.hid (And.intro hrow (And.intro hW3 hset3))
    clear hset3 hc hi hrow hW3 hra
    have hx1 : Below W3.heap.size W3 (W3.alloc (.cells #[.slice rb 4 rc] 28)) := (Below.refl _ _).alloc (Nat.le_refl _) _
    have e1 : (W3.alloc (.cells #[.slice rb 4 rc] 28)).heap.size = W3.heap.size + 1 := Array.size_push _
    have hx2 : Blk ((W3.alloc (.cells #[.slice rb 4 rc] 28)).alloc (.cells #[.slice rb 4 rc, .int .i64 0, .bool false] 123)) (W3.heap.size + 1) #[.slice rb 4 rc, .int .i64 0, .bool false] 123 := by rw [← e1]; exact heap_alloc_new _ _
    obtain ⟨g2, cap2, Wa, hap, hcap2, hcells2, hbap⟩ := append_tried _ _ rb 4 rc 0 false hx2
    have hbx := below_on hx1 (((Below.refl (W3.alloc (.cells #[.slice rb 4 rc] 28)).heap.size _).alloc (Nat.le_refl _) (.cells #[.slice rb 4 rc, .int .i64 0, .bool false] 123))) (Nat.le_refl _)
    have HAP := Lib.hid hap
    have HAB := Lib.hid (And.intro hcap2 (And.intro hcells2 (below_on hbx hbap (Nat.le_refl _))))
    clear hx1 e1 hx2 hap hcap2 hcells2 hbap hbx
    go_wp2_with fail
    go_loopw [12, 14, 15, 32] (fun o _ _ i wr => (o = .slice none 0 0 ∧ i = .int .i64 0 ∧ wr = W3) ∨ (o = .slice (some ⟨g2, 0, none⟩) 1 cap2 ∧ i = .int .i64 1 ∧ wr = Wa)) (fun _ _ _ i _ => (1 - intOf i).toNat)
    case atStart => exact .inl ⟨rfl, rfl, rfl⟩
    case round =>
      rcases hrel with ⟨rfl, rfl, rfl⟩ | ⟨rfl, rfl, rfl⟩
      · go_wp2_with (first | (go_at_call 53; refine (idxTried_none _ _).mono ?_; rintro e w1 ⟨rfl, rfl⟩) | (at_builtin; refine wpList_append_run rfl _ _ _ rfl _ _ rfl rfl HAP.out ?_))
        go_roundw
        case rel =>
            exact .inr ⟨rfl, rfl, trivial⟩
        case measure => simp [intOf]
      · have c5a := cell_keep HAB.out.2.2 c5
        have c13a := cell_keep HAB.out.2.2 c13
        have HNX := Lib.hid (next_one wr g2 cap2 HAB.out.1 rb 4 rc HAB.out.2.1.1 HAB.out.2.1.2.1 HAB.out.2.1.2.2)
        clear c5 c13 s1 c0 hcap
        go_wp2_with (go_at_call 56; refine HNX.out.mono ?_; rintro e w5 ⟨rfl, hb5⟩; have c13b := cell_keep hb5 c13a; have H5 := Lib.hid hb5; clear hb5 c5a c13a)
        rename_i Ka hKa Kb hKb
        have hb25 := below_on (below_on H3.out HAB.out.2.2 (Nat.le_refl _)) H5.out (Nat.le_refl _)
        have hbz := below_on hb25 (Below.drew (Below.refl w5.heap.size w5)) (Nat.le_refl _)
        have hb35 := below_on (below_on HAB.out.2.2 H5.out (Nat.le_refl _)) (Below.drew (Below.refl w5.heap.size w5)) (Nat.le_refl _)
        have hWz := H2.out.2.1.on hbz
        have hGz := H2.out.2.2.2.1.on hbz
        have hRz := H2.out.2.2.2.2.1.on hbz
        have hSz := H2.out.2.2.2.2.2.2.1.on hbz
        have hMz := HM2.out _ hbz
        have g0 : w5.drew.cell? ⟨w.heap.size, 0, none⟩ = some (.slice na 0 nc) := hGz.cell 0
        have g1 : w5.drew.cell? ⟨w.heap.size, 1, none⟩ = some (.int .i64 1) := hGz.cell 1
        have z0 : w5.drew.cell? ⟨W1.heap.size, 0, none⟩ = some (.slice none 0 0) := hSz.cell 0
        have a0 : w5.drew.cell? ⟨g2, 0, none⟩ = some (.slice rb 4 rc) := cell_keep (Below.drew (Below.refl w5.heap.size w5)) (cell_keep H5.out HAB.out.2.1.1)
        have hgW : g2 ≠ W := by
          rintro rfl
          have h1 := hWz.cell 0
          rw [a0] at h1
          simp [walkC] at h1
        have hgM : g2 ≠ M1 := cell_map a0 hMz
        have hq1 : ¬ w.heap.size + 1 = W1.heap.size := blk_ne hRz hSz (by decide)
        have hq2 : ¬ w.heap.size + 1 = g2 := by
          intro e
          have h1 : w5.drew.cell? ⟨w.heap.size + 1, 0, none⟩ = some (.slice none 0 0) := hRz.cell 0
          rw [e, a0] at h1
          simp at h1
        have hnG := blk_ne hGz hWz (by decide)
        have hnR := blk_ne hRz hWz (by decide)
        have hnS := blk_ne hSz hWz (by decide)
        have hmG := blk_fresh_ne hGz hMz
        have hmR := blk_fresh_ne hRz hMz
        have hmS := blk_fresh_ne hSz hMz
        have hNz : N ≤ w5.drew.heap.size := by have := HA.out.2.1.2; have := H2.out.2.2.2.2.2.2.2.1; have := H2.out.2.2.2.2.2.2.2.2.2; have := hbz.size; omega
        have HSD := Lib.hid (send_root w5.drew W x s M1 N hWz HA.out.2.2.2.1 HA.out.1.sends hMz ⟨HA.out.1.base, HA.out.2.2.2.2.2, hNz⟩ na nc ⟨Row.empty HA.out.2.2.1.row.hcap HA.out.2.2.1.row.hnil, HA.out.2.2.1.small⟩ none 0 0 rb rc (r.map u8V) (H4.out.1.below hb35 (Nat.le_refl _)) (u8_one r) now)
        have HZ := Lib.hid (And.intro hGz (And.intro hRz (And.intro hSz (And.intro hnG (And.intro hnR (And.intro hnS (And.intro hmG (And.intro hmR (And.intro hmS (And.intro hgW (And.intro hgM (And.intro hbz hNz))))))))))))
        clear hb25 hbz hb35 hWz hGz hRz hSz hMz hgW hgM hnG hnR hnS hmG hmR hmS hNz c13b
        go_region_held3 (fun w' => w'.cell? ⟨w.heap.size, 0, none⟩ = some (.slice na 0 nc) ∧ w'.cell? ⟨w.heap.size, 1, none⟩ = some (.int .i64 1) ∧ w'.cell? ⟨W1.heap.size, 0, none⟩ = some (.slice none 0 0) ∧ w'.cell? ⟨g2, 0, none⟩ = some (.slice rb 4 rc))
          (first | go_keep | exact ⟨g0, g1, z0, a0⟩ | exact hc7)
          (first | (go_at_call 57; refine HSD.out.mono ?_; rintro e W7 ⟨⟨a2, c2, d2, dc, rfl, ho7⟩, hb7, hs7, hu7⟩; have hG7 := blk_same HZ.out.1 (hu7 _ HZ.out.1.lt HZ.out.2.2.2.1 HZ.out.2.2.2.2.2.2.1); have hR7 := blk_same HZ.out.2.1 (hu7 _ HZ.out.2.1.lt HZ.out.2.2.2.2.1 HZ.out.2.2.2.2.2.2.2.1); have hS7 := blk_same HZ.out.2.2.1 (hu7 _ HZ.out.2.2.1.lt HZ.out.2.2.2.2.2.1 HZ.out.2.2.2.2.2.2.2.2.1); have hc7 : W7.cell? ⟨w.heap.size, 0, none⟩ = some (.slice na 0 nc) ∧ W7.cell? ⟨w.heap.size, 1, none⟩ = some (.int .i64 1) ∧ W7.cell? ⟨W1.heap.size, 0, none⟩ = some (.slice none 0 0) ∧ W7.cell? ⟨g2, 0, none⟩ = some (.slice rb 4 rc) := ⟨hG7.cell 0, hG7.cell 1, hS7.cell 0, (cell_same (hu7 g2 (cell_lt a0) HZ.out.2.2.2.2.2.2.2.2.2.1 HZ.out.2.2.2.2.2.2.2.2.2.2.1) 0).trans a0⟩; have r0 := hR7.cell 0; have r1 := hR7.cell 1; have r2 := hR7.cell 2; have f0 := hR7.free 0; have f1 := hR7.free 1; have f2 := hR7.free 2; simp at r0 r1 r2; have H7 := Lib.hid (And.intro ho7 (And.intro hb7 (And.intro hs7 (And.intro hR7 hu7)))); clear hG7 hR7 hS7 ho7 hb7 hs7 hu7))
        all_goals go_split_ands
        go_wp2_with fail
        have hs := set3_only H7.out.2.2.2.1 (.slice a2 4 c2) (.int .i64 55254) (.slice d2 28 dc)
        refine bodyPost_ret (ask_results rfl rfl hs.2) rfl ?_
        have z1 := HA.out.2.1
        have z2 := H2.out.1.bel.size
        have z3 := HZ.out.2.2.2.2.2.2.2.2.2.2.2.1.size
        exact ⟨⟨a2, c2, d2, dc, rfl, (own1_only H7.out.1 hs.1 (by decide)).mono (by omega)⟩, ((H2.out.1.bel.trans (HZ.out.2.2.2.2.2.2.2.2.2.2.2.1.mono (by omega))).trans (H7.out.2.1.mono z1.1)).trans (hs.1.bel.mono (by omega)), by have := H7.out.2.2.1; have := hs.1.bel.size; omega, fun b hb h1 h2 h3 => by
          rw [hs.1.bel.block b (by omega), H7.out.2.2.2.2 b (by omega) h1 (fun e => h2 (by rw [HA.out.2.2.2.1, e])), HZ.out.2.2.2.2.2.2.2.2.2.2.2.1.block b (by omega), H2.out.1.keep b hb h3]⟩
  )
end
section
open Go.ChangeShapes Go.WideShapes Go.ChangeAt Go.RowKit

theorem setCell_same {w : World} {g j : Nat} {cs : Array Value} {T : TypeId} {v : Value} (hB : Blk w g cs T) (hc : w.cell? ⟨g, j, none⟩ = some v) : w.setCell ⟨g, j, none⟩ v = w := by
  have h2 := hB.cell j
  rw [hc] at h2
  have hs : cs.setIfInBounds j v = cs := by
    apply Array.ext_getElem?
    intro i
    rw [Array.getElem?_setIfInBounds]
    by_cases e : j = i
    · subst e
      have hj : j < cs.size := (Array.getElem?_eq_some_iff.1 h2.symm).1
      rw [if_pos rfl, if_pos hj, ← h2]
    · rw [if_neg e]
  have hh : (w.setCell ⟨g, j, none⟩ v).heap = w.heap := by
    apply Array.ext_getElem?
    intro i
    by_cases e : i = g
    · subst e
      have := hB.set j v
      unfold Blk at this hB
      rw [this, hs, hB]
    · exact heap_setCell_other w ⟨g, j, none⟩ i v e
  cases w
  simp only [World.setCell] at hh ⊢
  simp only [World.mk.injEq, and_true]
  exact hh
theorem NewWalk.only {B N : Nat} {w w' : World} {W K C L : Nat} {x : WalkH} {s : SetP} {pl kn kn' told : Int} {mem dn : Bool} {most stale : Int} {k : Nat} {nm : List ByteArray} (h : NewWalk B N w W K C L x s pl kn told mem dn most stale k nm) (ho : Only [92] B w w') (hk : KeepAt B w' K C L pl kn' told mem dn most stale k []) : NewWalk B N w' W K C L x s pl kn' told mem dn most stale k nm := by
  obtain ⟨G, g1, g2, g3⟩ := h.goal
  obtain ⟨M1, M2, m1, m2, m3, m4, m5⟩ := h.maps
  have hn := h.name.step ((ho.same (T := [9]) (by decide)).mono (fun _ _ h => h.1))
  exact ⟨ho.blk h.blk (by decide), hk, h.hK, h.roots.only ho, hn, ⟨hn.row, h.names.small⟩, ⟨G, g1, ho.blk g2 (by decide), g3⟩, ⟨M1, M2, m1, m2, only_map ho m3, only_map ho m4, m5⟩, h.out, h.sends, h.done, h.base⟩
theorem not_map {B N : Nat} {w : World} {W K C L : Nat} {x : WalkH} {s : SetP} {pl kn told : Int} {mem dn : Bool} {most stale : Int} {k : Nat} {nm : List ByteArray} {b : Nat} {cs : Array Value} {T : TypeId} (hb : Blk w b cs T) (h : NewWalk B N w W K C L x s pl kn told mem dn most stale k nm) : x.tried ≠ .map (some b) := by
  obtain ⟨M1, M2, m1, m2, m3, _⟩ := h.maps
  intro e
  rw [m1] at e
  cases e
  rw [show w.heap[b]? = _ from hb] at m3
  cases m3
theorem step_results {tmps : Array Value} {w : World} {R : Nat} {a b c : Value} {n : Bool} (h4 : tmps[6]? = some (.pointer (some ⟨R, 0, none⟩))) (h5 : tmps[7]? = some (.bool n)) (hB : Blk w R #[a, b, c] 42) :
    (results Tryz.f11 tmps).run Tryz.prog w = .ok (.tuple #[.agg #[a, b, c], .bool n]) w := by
  have c0 := hB.cell 0
  have c1 := hB.cell 1
  have c2 := hB.cell 2
  simp at c0 c1 c2
  simp [results, go_sem, h4, h5, c0, c1, c2]
set_option maxHeartbeats 32000000 in
set_option maxRecDepth 100000 in
theorem step_root (w : World) (B N W K C L : Nat) (x : WalkH) (s : SetP) (pl kn told : Int) (mem dn : Bool) (most stale : Int) (k : Nat) (hW : NewWalk B N w W K C L x s pl kn told mem dn most stale k []) (hBN : B ≤ N ∧ N ≤ w.heap.size) (r : List UInt8) (hr : s.roots = [r]) (hr4 : r.length = 4) (htr : s.tries = 3) (hdl : s.deadline = 60) (htm : s.timeout = 2) (hty : x.typ = 1) (hbg : x.begin' = 5) :
    Calls Tryz.prog 11 #[.pointer (some ⟨W, 0, none⟩), .int .i64 5, .int .u64 1] w fun e w' => (∃ a2 c2 d2 dc, e = .returned (.tuple #[.agg #[.slice a2 4 c2, .int .i64 55254, .slice d2 28 dc], .bool true]) ∧ Own1 [5] w.heap.size w' a2 4 c2 (r.map u8V)) ∧ Below B w w' := by
  have hal : Below w.heap.size w (w.alloc (.cells #[.slice none 0 0, .int .i64 0, .slice none 0 0] 42)) := (Below.refl _ _).alloc (Nat.le_refl _) _
  have hR0 : Blk (w.alloc (.cells #[.slice none 0 0, .int .i64 0, .slice none 0 0] 42)) w.heap.size #[.slice none 0 0, .int .i64 0, .slice none 0 0] 42 := heap_alloc_new w _
  have hxl : x.nl = 0 := by have := hW.names.row.hlen; simpa using this.symm
  obtain ⟨G, hg1, hg2, hg3⟩ := hW.goal
  rw [hxl, hty] at hg2
  have hW0 := hW.only (Only.below hal (by omega)) (hW.keep.on hal)
  have HW := Lib.hid (And.intro hW0 (And.intro (hg2.on hal) (And.intro hR0 (And.intro hal (And.intro hBN (And.intro hg1 (And.intro hxl hty)))))))
  have HRR := Lib.hid (And.intro hr (And.intro hr4 htr))
  have he0 : ∃ q, q = w.alloc (.cells #[.slice none 0 0, .int .i64 0, .slice none 0 0] 42) := ⟨_, rfl⟩
  obtain ⟨W0, he⟩ := he0
  rw [← he] at HW hW0
  have hb1 : Below W0.heap.size W0 W0.drew := Below.drew (Below.refl _ _)
  have hb2 : Below W0.heap.size W0 W0.drew.drew := below_on hb1 (Below.drew (Below.refl _ _)) (Nat.le_refl _)
  have c22 : W0.cell? ⟨W, 22, none⟩ = some (.bool false) := by rw [hW0.blk.cell 22]; simp [walkC, hW0.done]
  have c12 : W0.cell? ⟨W, 12, none⟩ = some (.int .i64 5) := by rw [hW0.blk.cell 12]; simp [walkC, hbg]
  have c6 : W0.cell? ⟨W, 6, none⟩ = some (.int .i64 60) := by rw [hW0.blk.cell 6]; simp [walkC, hdl]
  have c4 : W0.cell? ⟨W, 4, none⟩ = some (.int .i64 2) := by rw [hW0.blk.cell 4]; simp [walkC, htm]
  have c17 : W0.cell? ⟨W, 17, none⟩ = some (.pointer none) := by rw [hW0.blk.cell 17]; simp [walkC, hW0.out]
  have z17 : W0.setCell ⟨W, 17, none⟩ (.pointer none) = W0 := setCell_same hW0.blk c17
  have f17 := hW0.blk.free 17
  have HLK := Lib.hid (look_none W0.drew.drew W x s (hW0.blk.on hb2) K hW0.hK x.na 0 x.nc 1 rfl hxl rfl hty B C L pl kn told mem dn most stale k (hW0.keep.on hb2) [] 5 ⟨Row.empty hW0.names.row.hcap (by intro e; exact hW0.names.row.hnil e), hW0.names.small⟩ (by decide) (by decide) (rowIn_zero _ _))
  have HB2 := Lib.hid hb2
  clear hb1 hb2 hal hR0 hxl hg1 hg2 hg3 hW0 hW hBN hr hr4 htr hdl htm hty hbg
  subst he
  go_enter Tryz.func11, Tryz.ntmps11
  go_wp2_with fail
  go_region
  all_goals go_split_ands
  all_goals go_wp2_with fail
  go_region
  all_goals go_split_ands
  all_goals go_wp2_with (go_at_call 16; refine HLK.out.mono ?_; rintro e W1 ⟨rfl, hk1, ho1⟩; have ho2 := (Only.below HB2.out (by have := HW.out.2.2.2.2.1; have := HW.out.2.2.2.1.size; omega)).trans ho1; have hN1 := HW.out.1.only ho2 hk1; have d22 : W1.cell? ⟨W, 22, none⟩ = some (.bool false) := (by rw [hN1.blk.cell 22]; simp [walkC, hN1.done]); have H1 := Lib.hid (And.intro hN1 (And.intro (ho2.blk HW.out.2.1 (by decide)) (And.intro (ho2.blk HW.out.2.2.1 (by decide)) ho2))); clear hk1 ho1 ho2 hN1)
  all_goals (
    go_loopw [8, 9, 10, 11, 12, 13] (fun _ _ _ _ _ _ wr => wr = W1) (fun _ _ _ _ _ _ _ => 0)
    case atStart => rfl
    case round =>
      subst hrel
      have c0 : wr.cell? ⟨W, 0, none⟩ = some (.pointer (some ⟨K, 0, none⟩)) := by rw [H1.out.1.blk.cell 0]; simp [walkC, H1.out.1.hK]
      have c9 : wr.cell? ⟨W, 9, none⟩ = some (.slice x.na 0 x.nc) := by rw [H1.out.1.blk.cell 9]; simp [walkC, HW.out.2.2.2.2.2.2.1]
      have c10 : wr.cell? ⟨W, 10, none⟩ = some (.int .i64 1) := by rw [H1.out.1.blk.cell 10]; simp [walkC, HW.out.2.2.2.2.2.2.2]
      have c11 : wr.cell? ⟨W, 11, none⟩ = some (.int .i64 1) := by rw [H1.out.1.blk.cell 11]; simp [walkC]
      have c14 : wr.cell? ⟨W, 14, none⟩ = some (.slice (some ⟨G, 0, none⟩) 1 1) := by rw [H1.out.1.blk.cell 14]; simp [walkC, HW.out.2.2.2.2.2.1]
      have g0 : wr.cell? ⟨G, 0, none⟩ = some (.slice x.na 0 x.nc) := H1.out.2.1.cell 0
      have g1 : wr.cell? ⟨G, 1, none⟩ = some (.int .i64 1) := H1.out.2.1.cell 1
      have hbz := (Below.refl wr.heap.size wr).alloc (Nat.le_refl _) (.cells #[.slice none 0 0, .int .i64 0] 51)
      have c14a := cell_keep hbz c14
      have g0a := cell_keep hbz g0
      have g1a := cell_keep hbz g1
      have hw0 : IntKind.i64.wrap 0 = 0 := by decide
      clear c22 c12 c6 c4 c17 z17 f17
      go_wp2_with fail
      go_region
      all_goals go_split_ands
      have hWg : Below wr.heap.size wr (wr.alloc (.cells #[.slice x.na 0 x.nc, .int .i64 1] 51)).drew := Below.drew ((Below.refl _ _).alloc (Nat.le_refl _) _)
      have hGg : Blk (wr.alloc (.cells #[.slice x.na 0 x.nc, .int .i64 1] 51)).drew wr.heap.size #[.slice x.na 0 x.nc, .int .i64 1] 51 := heap_alloc_new wr _
      generalize (wr.alloc (.cells #[.slice x.na 0 x.nc, .int .i64 1] 51)).drew = Wg at hWg hGg ⊢
      have c0g := cell_keep hWg c0
      have c14g := cell_keep hWg c14
      have c9g := cell_keep hWg c9
      have c10g := cell_keep hWg c10
      have c11g := cell_keep hWg c11
      have hbf : Below Wg.heap.size Wg (Wg.alloc (.cells #[.pointer (some ⟨K, 0, none⟩), .int .i64 5, .bool false, .int .i64 0, .slice none 0 0, .slice none 0 0, .bool false] 74)) := (Below.refl _ _).alloc (Nat.le_refl _) _
      have c9f := cell_keep hbf c9g
      have c10f := cell_keep hbf c10g
      have c11f := cell_keep hbf c11g
      clear c0 c9 c10 c11 c14 g0 g1 c14a g0a g1a hbz
      have hNg := H1.out.1.only (Only.below hWg (by have := HW.out.2.2.2.2.1; have := HW.out.2.2.2.1.size; have := H1.out.2.2.2.bel.size; omega)) (H1.out.1.keep.on hWg)
      have hRg := H1.out.2.2.1.on hWg
      have HG := Lib.hid (And.intro hNg (And.intro hGg (And.intro hRg (And.intro hWg (And.intro hbf (blk_ne hGg hRg (by decide)))))))
      clear hNg hGg hRg hWg hbf
      go_wp2_with (first | (go_at_call 28; refine (chase_none _ Wg.heap.size 5 0 _ _ false B K C L pl _ told mem dn most stale k (heap_alloc_new Wg (.cells (findC K 5 false 0 (.slice none 0 0) (.slice none 0 0) false) 74)) (HG.out.1.keep.on HG.out.2.2.2.2.1) x.na 0 x.nc [] 1 1 ⟨Row.empty HG.out.1.names.row.hcap HG.out.1.names.row.hnil, HG.out.1.names.small⟩ (by decide) (rowIn_zero _ _)).mono ?_; rintro e W3 ⟨rfl, hk3, ho3⟩; have ho4 := (Only.below HG.out.2.2.2.2.1 (by have := HW.out.2.2.2.2.1; have := HW.out.2.2.2.1.size; have := H1.out.2.2.2.bel.size; have := HG.out.2.2.2.1.size; omega)).trans ho3; have hN3 := HG.out.1.only ho4 hk3; have hG3 := ho4.blk HG.out.2.1 (by decide); have hR3 := ho4.blk HG.out.2.2.1 (by decide); have t0 : W3.cell? ⟨wr.heap.size, 0, none⟩ = some (.slice x.na 0 x.nc) := hG3.cell 0; have t1 : W3.cell? ⟨wr.heap.size, 1, none⟩ = some (.int .i64 1) := hG3.cell 1; have tz := setCell_same hG3 t0; have tf := hG3.free 0; have H3 := Lib.hid (And.intro hN3 (And.intro hR3 ho4)); clear hk3 ho3 ho4 hN3 hG3 hR3) | (go_at_call 29; refine (ask_root W3 B N W K C L x s pl _ told mem dn most stale k H3.out.1 ⟨HW.out.2.2.2.2.1.1, by have := HW.out.2.2.2.2.1; have := HW.out.2.2.2.1.size; have := H1.out.2.2.2.bel.size; have := HG.out.2.2.2.1.size; have := H3.out.2.2.bel.size; omega⟩ r HRR.out.1 HRR.out.2.1 HRR.out.2.2 x.na x.nc ⟨Row.empty H3.out.1.names.row.hcap H3.out.1.names.row.hnil, H3.out.1.names.small⟩ 5).mono ?_; rintro e W4 ⟨⟨a2, c2, d2, dc, rfl, ho5⟩, hb5, hs5, hu5⟩; have hR4 : Blk W4 w.heap.size #[.slice none 0 0, .int .i64 0, .slice none 0 0] 42 := blk_same H3.out.2.1 (hu5 _ H3.out.2.1.lt (blk_ne H3.out.2.1 H3.out.1.blk (by decide)) (fun e => not_map H3.out.2.1 H3.out.1 e) (fun ht => tagged_ne H3.out.2.1 (by decide) ht rfl)); have hal4 : Below W4.heap.size W4 (W4.alloc (.cells #[.slice a2 4 c2, .int .i64 55254, .slice d2 28 dc] 42)) := (Below.refl _ _).alloc (Nat.le_refl _) _; have hR5 := hR4.on hal4; have r0 := hR5.cell 0; have r1 := hR5.cell 1; have r2 := hR5.cell 2; have f0 := hR5.free 0; have f1 := hR5.free 1; have f2 := hR5.free 2; simp at r0 r1 r2; have H5 := Lib.hid (And.intro (ho5.on hal4) (And.intro (hb5.trans (hal4.mono (by have := H3.out.1.keep.ca.B_le; omega))) (And.intro hR5 hs5))); clear ho5 hb5 hs5 hu5 hR4 hal4 hR5 t0 t1 tz tf))
      have hs := set3_only H5.out.2.2.1 (.slice a2 4 c2) (.int .i64 55254) (.slice d2 28 dc)
      refine bodyPost_ret (step_results rfl rfl hs.2) rfl ?_
      have z1 := HW.out.2.2.2.2.1
      have z2 := HW.out.2.2.2.1.size
      have z3 := H1.out.2.2.2.bel.size
      have z4 := HG.out.2.2.2.1.size
      have z5 := H3.out.2.2.bel.size
      exact ⟨⟨a2, c2, d2, dc, rfl, (own1_only H5.out.1 hs.1 (by decide)).mono (by omega)⟩, (((((HW.out.2.2.2.1.mono (by omega)).trans H1.out.2.2.2.bel).trans (HG.out.2.2.2.1.mono (by omega))).trans H3.out.2.2.bel).trans H5.out.2.1).trans (hs.1.bel.mono (by omega))⟩)
end
section
open Go.ChangeShapes Go.WideShapes Go.ChangeAt Go.RowKit

theorem IsCache.low {B B' : Nat} {w : World} {C k : Nat} {most stale : Int} {L : List Slot} (h : IsCache B w C most stale k L) (hB : B' ≤ B) : IsCache B' w C most stale k L := by
  obtain ⟨M, a, b, c⟩ := h.ex
  exact ⟨⟨M, a, by omega, c⟩, by have := h.base; omega, fun s hs => by
    obtain ⟨p, q⟩ := h.slot s hs
    exact ⟨by omega, q⟩, h.apart, h.keys, h.used, h.order⟩
set_option maxHeartbeats 8000000 in
set_option maxRecDepth 100000 in
theorem fresh20_any (w : World) (n : Nat) (h4 : 4 ≤ n) (hn : n ≤ 4096) :
    Calls Tryz.prog 8 #[.int .i64 (n : Int)] w fun e w' => (∃ K C L, e = .returned (.pointer (some ⟨K, 0, none⟩)) ∧ KeepAt w.heap.size w' K C L ((n : Int) - 2) 0 0 false false 500 1000 0 []) ∧ Below w.heap.size w w' := by
  have HN := Lib.hid (dnew_any w n (by omega) hn)
  have H4 := Lib.hid h4
  clear h4 hn
  go_enter Tryz.func8, Tryz.ntmps8
  go_wp2_with (first | (go_at_call 17; refine HN.out.mono ?_; rintro e W1 ⟨⟨D, rfl, hd⟩, hb1⟩; have H1 := Lib.hid (And.intro hd hb1); clear hd hb1) | (go_at_call 18; refine (kopen_new W1 D n w.heap.size H4.out H1.out.1 500 1000 (by decide) (by decide) (by decide)).mono ?_; rintro e W2 ⟨⟨K, C, L, rfl, hk, hK, hc, _⟩, _, ho⟩; have H2 := Lib.hid (And.intro hk (And.intro hK (And.intro hc ho))); clear hk hK hc ho))
  go_ret
  have hs := H1.out.2.size
  exact ⟨⟨K, C, L, rfl, H2.out.1, H2.out.2.2.1.low hs, by have := H2.out.2.1; omega⟩, H1.out.2.trans H2.out.2.2.2.bel⟩
def usualP : SetP := ⟨[[10, 0, 0, 1]], 500, 1000, 2, 3, 60, 4, []⟩
theorem usual_results {tmps : Array Value} {w : World} {R : Nat} {h : SetH} {s : SetP} (h4 : tmps[0]? = some (.pointer (some ⟨R, 0, none⟩))) (hB : Blk w R (setC h s) 25) :
    (results Tryz.f10 tmps).run Tryz.prog w = .ok (.agg (setC h s)) w := by
  have c0 := hB.cell 0
  have c1 := hB.cell 1
  have c2 := hB.cell 2
  have c3 := hB.cell 3
  have c4 := hB.cell 4
  have c5 := hB.cell 5
  have c6 := hB.cell 6
  have c7 := hB.cell 7
  simp [setC] at c0 c1 c2 c3 c4 c5 c6 c7
  simp [results, go_sem, h4, c0, c1, c2, c3, c4, c5, c6, c7, setC]
theorem row_blk {w : World} {g n : Nat} {vs : List Value} {T : TypeId} (h : Blk w g vs.toArray T) (hn : vs.length = n) (hm : n ≤ 140737488355328) : Row w (some ⟨g, 0, none⟩) n n vs := by
  refine ⟨hn, Nat.le_refl _, by omega, by omega, fun e => (by cases e), fun _ => ⟨g, 0, rfl, fun i hi => ?_⟩⟩
  rw [Nat.zero_add, h.cell i]
  simp [hi]
theorem in_nk {w : World} {B g n : Nat} {cs : Array Value} {T : TypeId} (h : Blk w g cs T) (hT : T ≠ 92) : rowIn (NK B w) (some ⟨g, 0, none⟩) n := fun _ a ha => by
  cases ha
  exact ⟨h.lt, .inr fun ht => tagged_ne h (by simpa using hT) ht rfl⟩
set_option maxHeartbeats 8000000 in
set_option maxRecDepth 100000 in
theorem usual20_any (w : World) (B : Nat) : Calls Tryz.prog 10 #[] w fun e w' => (∃ h, e = .returned (.agg (setC h usualP)) ∧ IsSet (NK B w') w' h usualP) ∧ Below w.heap.size w w' := by
  go_enter Tryz.func10, Tryz.ntmps10
  go_wp2_with fail
  have h3 := three_new w (setC ⟨some ⟨w.heap.size + 1 + 1, 0, none⟩, 1, none, 0⟩ usualP) #[.int .u8 10, .int .u8 0, .int .u8 0, .int .u8 1] #[.slice (some ⟨w.heap.size + 1, 0, none⟩) 4 4] 25 5 28
  change bodyPost _ _ _ _ _ (((w.alloc (.cells (setC ⟨some ⟨w.heap.size + 1 + 1, 0, none⟩, 1, none, 0⟩ usualP) 25)).alloc (.cells #[.int .u8 10, .int .u8 0, .int .u8 0, .int .u8 1] 5)).alloc (.cells #[.slice (some ⟨w.heap.size + 1, 0, none⟩) 4 4] 28))
  generalize ((w.alloc (.cells (setC ⟨some ⟨w.heap.size + 1 + 1, 0, none⟩, 1, none, 0⟩ usualP) 25)).alloc (.cells #[.int .u8 10, .int .u8 0, .int .u8 0, .int .u8 1] 5)).alloc (.cells #[.slice (some ⟨w.heap.size + 1, 0, none⟩) 4 4] 28) = W at h3 ⊢
  obtain ⟨hb, h0, h1, h2⟩ := h3
  refine bodyPost_ret (usual_results rfl h0) rfl ?_
  have r1 : Row W (some ⟨w.heap.size + 1, 0, none⟩) 4 4 (([10, 0, 0, 1] : List UInt8).map u8V) := row_blk (vs := ([10, 0, 0, 1] : List UInt8).map u8V) h1 rfl (by omega)
  have r2 : Row W (some ⟨w.heap.size + 1 + 1, 0, none⟩) 1 1 [.slice (some ⟨w.heap.size + 1, 0, none⟩) 4 4] := row_blk (vs := [.slice (some ⟨w.heap.size + 1, 0, none⟩) 4 4]) h2 rfl (by omega)
  refine ⟨⟨_, rfl, Seq.of_row rfl r2 rfl (in_nk h2 (by decide)) ?_, Seq.nil _ _ (show (0 : Nat) ≤ 9223372036854775807 by omega) (fun _ => rfl)⟩, hb⟩
  intro i hi hv
  have hi0 : i = 0 := by simpa [usualP] using hi
  subst hi0
  exact ⟨(some ⟨w.heap.size + 1, 0, none⟩, 4), rfl, r1, in_nk h1 (by decide)⟩
set_option maxHeartbeats 8000000 in
set_option maxRecDepth 100000 in
theorem answers20 (w : World) : Calls Tryz.prog 4 #[] w fun e w' => e = .returned (.bool true) ∧ Below w.heap.size w w' := by
  have HF := Lib.hid (fresh20_any w 8 (by decide) (by decide))
  go_enter Tryz.func4, Tryz.ntmps4
  go_wp2_with (first | (go_at_call 8; refine HF.out.mono ?_; rintro e W1 ⟨⟨K, C, L, rfl, hk⟩, hb1⟩; have H1 := Lib.hid (And.intro hk hb1); clear hk hb1) | (go_at_call 10; refine (usual20_any W1 w.heap.size).mono ?_; rintro e W2 ⟨⟨h, rfl, hs⟩, hb2⟩; have H2 := Lib.hid (And.intro hs (And.intro hb2 (below_on H1.out.2 hb2 (Nat.le_refl _)))); clear hs hb2) | (go_at_call 7; refine (wnew_none W2 h usualP w.heap.size H2.out.1 (by decide) K C L _ 0 0 false false 500 1000 0 (H1.out.1.on H2.out.2.1) none 0 0 [] 1 5 ⟨Row.empty (by omega) (fun _ => rfl), by simp⟩ (by decide) (by decide)).mono ?_; rintro e W3 ⟨⟨W, x, rfl, ht, hbg, hnw⟩, ho⟩; have H3 := Lib.hid (And.intro ht (And.intro hbg (And.intro hnw ho))); clear ht hbg hnw ho) | (go_at_call 11; refine (step_root W3 w.heap.size W2.heap.size W K C L x usualP _ _ 0 false false 500 1000 0 H3.out.2.2.1 ⟨H2.out.2.2.size, H3.out.2.2.2.bel.size⟩ [10, 0, 0, 1] rfl rfl rfl rfl rfl H3.out.1 H3.out.2.1).mono ?_; rintro e W4 ⟨⟨a2, c2, d2, dc, rfl, ho4⟩, hb4⟩; obtain ⟨b4, o4, rfl, hc4⟩ := ho4.row.hcells (by decide); have e3 : W4.cell? ⟨b4, o4 + 3, none⟩ = some (.int .u8 1) := hc4 3 (by decide); have e3a := cell_keep ((Below.refl W4.heap.size W4).alloc (Nat.le_refl _) (.cells #[.slice (some ⟨b4, o4, none⟩) 4 c2, .int .i64 55254, .slice d2 28 dc] 42)) e3; have H4 := Lib.hid hb4; clear ho4 hb4 hc4 e3))
  go_ret
  exact ⟨rfl, ((H2.out.2.2.trans H3.out.2.2.2.bel).trans H4.out).trans ((Below.refl _ _).alloc (by have := H2.out.2.2.size; have := H3.out.2.2.2.bel.size; have := H4.out.size; omega) _)⟩
end
section
open Go.ChangeShapes Go.WideShapes Go.ChangeAt Go.RowKit

theorem weights_set {H : Type} {P : Program} {ts : List TypeId} {ds : List (DataW H)} {t : TypeId} {d : DataW H} {j : Nat} (h : (DataW.weightsEach P ts ds).all (· ≤ reachBytes) = true) (ht : ts[j]? = some t) (hd : ds[j]? = some d) : (d.weights P t).all (· ≤ reachBytes) = true :=
  List.all_eq_true.2 fun n hn => List.all_eq_true.1 h n (DataW.weights_mem_each ht hd n hn)
theorem cellsSet : Tryz.prog.cellsOf 25 = 8 := by kernel_rfl
theorem cellsRoots : Tryz.prog.cellsOf 22 = 1 := by kernel_rfl
theorem cellsZones : Tryz.prog.cellsOf 23 = 1 := by kernel_rfl
theorem cellsRoot : Tryz.prog.cellsOf 28 = 1 := by kernel_rfl
theorem cellsZone : Tryz.prog.cellsOf 29 = 1 := by kernel_rfl
theorem slice_one {H : Type} {enc : TypeId × Value → H} {W : World} {fuel : Nat} {t e : TypeId} {cs : List Value} {d : DataW H × List MemPlace} (ht : Tryz.prog.underlying t = some (.slice e)) (hf : DataW.trod enc Tryz.prog W 0 (fun _ => true) true fuel t cs = some d) : ∃ c, cs = [c] := by
  rcases DataW.trod_slice ht hf with ⟨e, _⟩ | ⟨_, _, _, _, _, _, _, e, _⟩
  · exact ⟨_, e⟩
  · exact ⟨_, e⟩
theorem open_roots_cell {H : Type} {enc : TypeId × Value → H} {W : World} {fuel : Nat} {c : Value} {d : DataW H × List MemPlace} (hf : DataW.trod enc Tryz.prog W 0 (fun _ => true) true fuel 22 [c] = some d)
    (hsz : (d.1.weights Tryz.prog 22).all (· ≤ reachBytes) = true) : ∃ ao n k xs, c = .slice ao n k ∧ Seq rootK (fun b => b < W.heap.size) W ao n k xs :=
  open_seq rootK 22 28 Tryz.underlying22 cellsRoot (by decide +kernel) (fun {fuel} {cs} {x} h1 h2 => by
    obtain ⟨c, rfl⟩ := slice_one Tryz.underlying28 h1
    obtain ⟨ao, n, k, l, rfl, hb⟩ := open_byts_cell h1 h2
    have e : n = l.length := by have := hb.hlen; rw [List.length_map] at this; exact this.symm
    subst e
    exact ⟨l, (ao, k), rfl, hb, hb.mem_lt⟩) hf hsz
theorem open_zones_cell {H : Type} {enc : TypeId × Value → H} {W : World} {fuel : Nat} {c : Value} {d : DataW H × List MemPlace} (hf : DataW.trod enc Tryz.prog W 0 (fun _ => true) true fuel 23 [c] = some d)
    (hsz : (d.1.weights Tryz.prog 23).all (· ≤ reachBytes) = true) : ∃ ao n k xs, c = .slice ao n k ∧ Seq namesK (fun b => b < W.heap.size) W ao n k xs :=
  open_seq namesK 23 29 Tryz.underlying23 cellsZone (by decide +kernel) (fun {fuel} {cs} {x} h1 h2 => by
    obtain ⟨c, rfl⟩ := slice_one Tryz.underlying29 h1
    obtain ⟨ao, n, k, l, rfl, hb⟩ := open_strs_cell h1 h2
    have e : n = l.length := by have := hb.row.hlen; rw [List.length_map] at this; exact this.symm
    subst e
    exact ⟨l, (ao, k), rfl, hb, hb.row.mem_lt⟩) hf hsz
set_option maxHeartbeats 2000000 in
set_option maxRecDepth 100000 in
theorem open_set {H : Type} {enc : TypeId × Value → H} {W : World} {fuel : Nat} {cs : List Value} {x : DataW H × List MemPlace} (h : DataW.trod enc Tryz.prog W 0 (fun _ => true) true fuel 25 cs = some x)
    (hsz : (x.1.weights Tryz.prog 25).all (· ≤ reachBytes) = true) :
    ∃ (s : SetP) (k : SetH), cs = (setC k s).toList ∧ IsSet (fun b => b < W.heap.size) W k s := by
  obtain ⟨xs, n, rfl, rfl, hl, hx, hf⟩ := DataW.trod_struct Tryz.underlying25 h
  rw [cellsSet] at hl
  match cs, hl, xs, hx with
  | [c0, c1, c2, c3, c4, c5, c6, c7], _, [y0, y1, y2, y3, y4, y5, y6, y7], _ =>
    have g0 := hf 0 _ rfl
    have g1 := hf 1 _ rfl
    have g2 := hf 2 _ rfl
    have g3 := hf 3 _ rfl
    have g4 := hf 4 _ rfl
    have g5 := hf 5 _ rfl
    have g6 := hf 6 _ rfl
    have g7 := hf 7 _ rfl
    simp [cellsInt, cellsRoots, cellsZones] at g0 g1 g2 g3 g4 g5 g6 g7
    obtain ⟨k1, e1, rfl, w1⟩ := DataW.trod_int Tryz.underlying3 g1
    obtain ⟨k2, e2, rfl, w2⟩ := DataW.trod_int Tryz.underlying3 g2
    obtain ⟨k3, e3, rfl, w3⟩ := DataW.trod_int Tryz.underlying3 g3
    obtain ⟨k4, e4, rfl, w4⟩ := DataW.trod_int Tryz.underlying3 g4
    obtain ⟨k5, e5, rfl, w5⟩ := DataW.trod_int Tryz.underlying3 g5
    obtain ⟨k6, e6, rfl, w6⟩ := DataW.trod_int Tryz.underlying3 g6
    cases e1; cases e2; cases e3; cases e4; cases e5; cases e6
    simp only [DataW.weights, Tryz.underlying25, List.map_cons, List.map_nil, DataW.weightsEach, List.nil_append, List.append_nil, List.all_append, Bool.and_eq_true] at hsz
    obtain ⟨ra, rl, rc, rs, rfl, hR⟩ := open_roots_cell g0 hsz.1
    obtain ⟨za, zl, zc, zs, rfl, hZ⟩ := open_zones_cell g7 hsz.2
    have er : rl = rs.length := hR.hlen.symm
    have ez : zl = zs.length := hZ.hlen.symm
    subst er
    subst ez
    exact ⟨⟨rs, k1, k2, k3, k4, k5, k6, zs⟩, ⟨ra, rc, za, zc⟩, rfl, hR, hZ⟩
set_option maxRecDepth 100000 in
theorem open_set_arg {H : Type} {enc : TypeId × Value → H} {W : World} {base : Nat} {v : Value} {d : DataW H} {ps : List MemPlace} (hk : Value.okWide Tryz.prog W .any base 25 v)
    (h : DataW.Trod enc Tryz.prog W 0 (fun _ => true) true 25 v d ps) (hsz : (d.weights Tryz.prog 25).all (· ≤ reachBytes) = true) :
    ∃ (s : SetP) (k : SetH), v = .agg (setC k s) ∧ IsSet (fun b => b < W.heap.size) W k s := by
  obtain ⟨cs, rfl, _⟩ := okWide_struct Tryz.underlying25 hk
  obtain ⟨fuel, hf⟩ := h
  obtain ⟨x, k, e, h1⟩ := open_set (x := (d, ps)) (cs := cs.toList) (by simpa [Value.cells] using hf) hsz
  exact ⟨x, k, by rw [Array.toList_inj.1 e], h1⟩
end
end Go.Proofs.YtgfibbjifbghdaaGreat

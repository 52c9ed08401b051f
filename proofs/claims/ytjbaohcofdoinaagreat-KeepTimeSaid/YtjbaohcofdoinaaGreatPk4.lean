/- Packed: Krec, Kapp, Kapp2, Kkapp, Kwone, Kcdata, Kcfact, Krawp, Kencp, Kkappg, Clayfl, Beats, Cflush, Clayf, Cput. -/
import Derived.Deep.RegionHeld3
import Derived.Deep.RegionLaw
import Derived.Deep.CutBlock
import Derived.Deep.DeepCutAuto
import Derived.Test.YtjbaohcofdoinaaGreatPk3
namespace Go.Proofs.YtjbaohcofdoinaaGreat
section
open Go.ChangeShapes Go.WideShapes Go.ChangeAt Go.RowKit
set_option maxHeartbeats 8000000 in
set_option maxRecDepth 100000 in
theorem record_clock (w : World) (t : Int) (ht : timeB t = true) (htf : fitK t 7 = true) :
    Calls Tryz.prog 47 #[.agg (blankC 3 t (.slice none 0 0))] w fun e w' => (∃ ao c, e = .returned (.tuple #[.slice ao 8 c, .int .i64 1, .int .i64 0]) ∧ Own1 [5] w.heap.size w' ao 8 c ((clockW t).map u8V)) ∧ Below w.heap.size w w' := by
  obtain ⟨W1, hW1⟩ : ∃ W1, W1 = w.alloc (.cells (blankC 3 t (.slice none 0 0)) 59) := ⟨_, rfl⟩
  have hb1 : Below w.heap.size w W1 := by rw [hW1]; exact (Below.refl _ _).alloc (Nat.le_refl _) _
  have a1 : Blk W1 w.heap.size (blankC 3 t (.slice none 0 0)) 59 := by rw [hW1]; exact heap_alloc_new w _
  have hs := encode_clock W1 t ht htf
  rw [hW1] at a1 hb1 hs
  have HS := Lib.hid hs
  have H1 := Lib.hid (And.intro a1 hb1)
  clear hs ht htf a1 hb1 hW1
  go_enter Tryz.func47, Tryz.ntmps47
  go_wp2_with (first
    | (refine wpList_load_row rfl 59 _ rfl w.heap.size rfl 59 (blankC 3 t (.slice none 0 0)) (0, 0) _ H1.out.1 Tryz.underlying59 rfl entSize ?_)
    | (go_at_call 44; refine HS.out.mono ?_; rintro e W3 ⟨⟨ao, c, rfl, ho⟩, hb⟩; have H3 := Lib.hid (And.intro (ho.mono H1.out.2.size) (below_on H1.out.2 hb (Nat.le_refl _))); clear ho hb))
  go_ret3
  exact ⟨⟨ao, c, rfl, H3.out.1⟩, H3.out.2⟩
set_option maxHeartbeats 8000000 in
set_option maxRecDepth 100000 in
theorem kdid_any (w : World) (K C L : Nat) (pl no te : Int) (me dn : Bool) (hk : Blk w K (keepC C L pl no te me dn) 48) (e0 : Int) :
    Calls Tryz.prog 25 #[.pointer (some ⟨K, 0, none⟩), .int .i64 e0] w fun e w' => e = .returned (.int .i64 e0) ∧ Blk w' K (keepC C L pl no te me (dn || (e0 == 8))) 48 ∧ w.grownBy w' (some K) := by
  have c6 : w.cell? ⟨K, 6, none⟩ = some (.bool dn) := hk.cell 6
  have f6 := hk.free 6
  have hs := hk.set 6 (.bool (dn || (e0 == 8)))
  have HS := Lib.hid (And.intro hs (but_set w K 6 (.bool (dn || (e0 == 8)))))
  clear hk hs
  cases dn with
  | true =>
    go_enter Tryz.func25, Tryz.ntmps25
    go_wp2_with fail
    go_ret
    exact ⟨rfl, by simpa [keepC] using HS.out.1, by simpa using HS.out.2⟩
  | false =>
    go_enter Tryz.func25, Tryz.ntmps25
    go_wp2_with fail
    go_ret
    exact ⟨rfl, by simpa [keepC] using HS.out.1, by simpa using HS.out.2⟩
end
section
open Go.ChangeShapes Go.WideShapes Go.ChangeAt Go.RowKit
/-- append whose run is known, as a step of a region that draws -/
theorem step_append_run {P : Program} {ops : Array Oper} {o : Oper} {a : Act} {w : World} {K : Act → World → Prop} {Q : Exit → Act → World → Prop} {E : Prop} (hgd : o.guard = none) (s x : Operand) (t u : TypeId)
    (ho : o.op = .call { callee := .builtin .append, args := #[s, x], argTypes := #[t, u] }) (v xv : Value) (hs : a.eval s = v) (hx : a.eval x = xv) {v' : Value} {w' : World}
    (hrun : (Builtin.append_ #[t, u] o.type #[v, xv]).run P w = .ok v' w') (h : K (a.put o.dst v') w') :
    if Region.wanted o (yielded ops a.tmps) = true then Oper.wp P o a w K Q else E := by
  have hw : Region.wanted o (yielded ops a.tmps) = true := by simp [Region.wanted, hgd]
  rw [if_pos hw]
  unfold Oper.wp
  simp [execOp, ho, resolve, invoke, builtin, hs, hx, hrun, Result.andThen]
  exact h
def pieceB (b : List UInt8) (i : Nat) : List UInt8 := (b.drop (i * 496)).take 496
def recH (l : LogP) (i n : Nat) : HeadP := ⟨2, l.block.epoch, nextL l, i, n⟩
def recW (l : LogP) (b : List UInt8) (i : Nat) : List UInt8 := sealB (recH l i (partsN b.length)) (pieceB b i)
/-- the device behind so many parts -/
def putParts (d : DevP) (l : LogP) (b : List UInt8) : Nat → DevP
  | 0 => d
  | i + 1 => writeP (putParts d l b i) (atN d (l.fin + i)) (recW l b i)
def appD (d : DevP) (l : LogP) (b : List UInt8) : DevP := putParts d l b (partsN b.length)
def appL (l : LogP) (b : List UInt8) : LogP := { l with list := l.list ++ [(l.fin, partsN b.length)], fin := l.fin + partsN b.length }
/-- what Append does: the device, the log, the number, the error -/
def appP (d : DevP) (l : LogP) (b : List UInt8) : DevP × LogP × Int × Int :=
  if offB d l = true then (d, { l with down := true }, 0, 8)
  else if 16384 < b.length then (d, l, 0, 4)
  else if roomL d l < (partsN b.length : Int) then (d, l, 0, 10)
  else if (appD d l b).down = true then (appD d l b, { l with down := true }, 0, 8)
  else (appD d l b, appL l b, nextL l, 0)
theorem write_len (d : DevP) (p : Nat) (b : List UInt8) : (writeP d p b).sure.length = d.sure.length := by
  unfold writeP
  split
  · rfl
  · split
    · rw [show ({ spendP d with unsure := d.unsure ++ [(p, b)] } : DevP).sure = (spendP d).sure from rfl, (spend_same d).1]
    · rw [(spend_same d).1]
theorem putParts_len (d : DevP) (l : LogP) (b : List UInt8) (i : Nat) : (putParts d l b i).sure.length = d.sure.length := by
  induction i with
  | zero => rfl
  | succ i ih => rw [putParts, write_len, ih]
theorem putParts_stay {d : DevP} {l : LogP} {b : List UInt8} {i : Nat} (h : (putParts d l b i).down = true) (k : Nat) : putParts d l b (i + k) = putParts d l b i := by
  induction k with
  | zero => rfl
  | succ k ih => rw [← Nat.add_assoc, putParts, ih, writeP, if_pos h]
theorem write_cnt (d : DevP) (p : Nat) (b : List UInt8) : (writeP d p b).unsure.length ≤ d.unsure.length + 1 := by
  unfold writeP
  split
  · omega
  · split
    · simp
    · rw [(spend_same d).2]; omega
theorem putParts_cnt (d : DevP) (l : LogP) (b : List UInt8) (i : Nat) : (putParts d l b i).unsure.length ≤ d.unsure.length + i := by
  induction i with
  | zero => simp [putParts]
  | succ i ih =>
    rw [putParts]
    have := write_cnt (putParts d l b i) (atN d (l.fin + i)) (recW l b i)
    omega
theorem write_down {d : DevP} (h : d.down = false) (p : Nat) (b : List UInt8) : (writeE d = 0 ∧ (writeP d p b).down = false) ∨ (writeE d = 8 ∧ (writeP d p b).down = true) := by
  unfold writeE writeP spendOk
  rw [h]
  by_cases h1 : d.limit = 1
  · right
    simp [h1, spendP]
  · left
    simp [h1, spendP]
    split
    · exact h
    · simp
theorem down_false {d : DevP} {l : LogP} (h : offB d l = false) : d.down = false ∧ l.down = false := by
  unfold offB at h
  cases h1 : l.down <;> cases h2 : d.down <;> simp_all
theorem recParts : ∃ (i0 : TypeInfo) (z : Value), Tryz.prog.info? 88 = some i0 ∧ i0.zero = some z ∧ i0.size = 2 ∧ z.cells.size = 2 ∧ i0.bytes ≤ 1000 := by
  obtain ⟨i0, hi⟩ : ∃ i0, Tryz.prog.info? 88 = some i0 := Option.isSome_iff_exists.1 (by kernel_rfl)
  have h1 : (Tryz.prog.info? 88).map (fun i => (i.zero.map (·.cells.size), i.size, decide (i.bytes ≤ 1000))) = some (some 2, 2, true) := by kernel_rfl
  rw [hi] at h1
  simp at h1
  obtain ⟨⟨z, hz, hz2⟩, h2, h3⟩ := h1
  exact ⟨i0, z, hi, hz, h2, hz2, h3⟩
/-- a record's place, gathered -/
structure RPrep (B : Nat) (W : World) (v : Value) (u : List (Nat × Nat)) (x : Nat × Nat) (v' : Value) (W' : World) : Prop where
  run : (Builtin.append_ #[78, 78] 78 #[v, .slice (some ⟨W.heap.size, 0, none⟩) 1 1]).run Tryz.prog (W.alloc (.cells #[.int .i64 (x.1 : Int), .int .i64 (x.2 : Int)] 88)) = .ok v' W'
  gath : Gath recK [] 88 B W' v' (u ++ [x])
  grown : (W.alloc (.cells #[.int .i64 (x.1 : Int), .int .i64 (x.2 : Int)] 88)).grownBy W' v.ownBlock
  row : ∀ k, v.ownBlock = some k → ∃ cs, Blk (W.alloc (.cells #[.int .i64 (x.1 : Int), .int .i64 (x.2 : Int)] 88)) k cs 88 ∧ B ≤ k
theorem rprep {B : Nat} {W : World} {v : Value} {u : List (Nat × Nat)} (hB : B ≤ W.heap.size) (hu : u.length ≤ 900000) (hG : Gath recK [] 88 B W v u) (x : Nat × Nat) : ∃ v' W', RPrep B W v u x v' W' := by
  have hal : Below W.heap.size W (W.alloc (.cells #[.int .i64 (x.1 : Int), .int .i64 (x.2 : Int)] 88)) := (Below.refl _ _).alloc (Nat.le_refl _) _
  obtain ⟨i0, z, hi, hz, hs0, hzs, hby⟩ := recParts
  obtain ⟨v', W', hrun, hgath, hgr, hr, _⟩ := (hG.on hal).push (ts := 78) (by decide) i0 z Tryz.underlying78 hi hz hs0 hzs hby (by omega) (by have := hal.size; omega) () x trivial ⟨W.heap.size, 0, none⟩ 1 (fun j _ => by rw [addr_add, Nat.zero_add]; exact World.cell?_alloc_new W _ _ j) 78
  exact ⟨v', W', hrun, hgath, hgr, hr⟩
def rgT : List TypeId := [80, 88]
/-- a log with one record more -/
theorem log_more {B : Nat} {W W' : World} {L D : Nat} {l : LogP} {v v' : Value} {n fin : Nat} (hl : IsLog B W L D l) (h1 : Blk W L (logC D l.block v l.fin l.down) 80) (hr : RPrep B W v l.list (l.fin, n) v' W') (hc : l.list.length < 100000) (hB : B ≤ W.heap.size) :
    Blk W' L (logC D l.block v l.fin l.down) 80 ∧ IsLog B ((W'.setCell ⟨L, 6, none⟩ v').setCell ⟨L, 7, none⟩ (.int .i64 (fin : Int))) L D { l with list := l.list ++ [(l.fin, n)], fin := fin } ∧ Only rgT B W ((W'.setCell ⟨L, 6, none⟩ v').setCell ⟨L, 7, none⟩ (.int .i64 (fin : Int))) := by
  have hal : Below W.heap.size W (W.alloc (.cells #[.int .i64 ((l.fin, n).1 : Int), .int .i64 ((l.fin, n).2 : Int)] 88)) := (Below.refl _ _).alloc (Nat.le_refl _) _
  have h2 := grown_blk hr.grown hr.row (h1.on hal) (by decide)
  have g1 := but_set W' L 6 v'
  have h3 := h2.set 6 v'
  have g2 := but_set (W'.setCell ⟨L, 6, none⟩ v') L 7 (.int .i64 (fin : Int))
  have h4 := h3.set 7 (.int .i64 (fin : Int))
  have gg := but_trans g1 g2
  refine ⟨h2, ⟨⟨v', by simpa [logC] using h4, hr.gath.step (Same.but gg h2 (by decide))⟩, hl.base, hl.fits, by simp; omega⟩, ?_⟩
  exact (Only.below hal hB).trans ((grown_only hr.grown hr.row (by decide) (by have := hal.size; omega)).trans (Only.but gg h2 (by decide) hl.base))
theorem lg_dv {B : Nat} {w w' : World} {D : Nat} {d : DevP} (hd : IsDev B w D d) {S : List TypeId} {B' : Nat} (ho : Only S B' w w') (h1 : 40 ∉ S) (h2 : 108 ∉ S) (h3 : 71 ∉ S) (h4 : 5 ∉ S) : IsDev B w' D d := by
  obtain ⟨SU, v, k1, k2, k3, k4⟩ := hd.ex
  refine ⟨⟨SU, v, ho.blk k1 h1, ho.blk k2 h2, k3, k4.step (ho.same ?_)⟩, hd.base, hd.pos, hd.le, hd.lens, hd.ulens, hd.lim, hd.cnt⟩
  intro t ht
  simp at ht
  rcases ht with rfl | rfl
  · exact h3
  · exact h4
theorem piece_len {b : List UInt8} {t : Nat} : (pieceB b t).length = min 496 (b.length - t * 496) := by simp [pieceB]
end
section
open Go.ChangeShapes Go.WideShapes Go.ChangeAt Go.RowKit
theorem seal_rec {l : LogP} {b : List UInt8} {t : Nat} (he : fitK l.block.epoch 4 = true) (hs : fitK (nextL l) 7 = true) (hb : b.length ≤ 16384) (ht : t < partsN b.length) : sealE (recH l t (partsN b.length)) (pieceB b t) = 0 := by
  have hp : partsN b.length ≤ 34 := by unfold partsN; omega
  have hf : fitsH (recH l t (partsN b.length)) = true := by
    have h1 : fitK (t : Int) 1 = true := by simp only [fitK, Bool.and_eq_true, decide_eq_true_eq]; omega
    have h2 : fitK (partsN b.length : Int) 1 = true := by simp only [fitK, Bool.and_eq_true, decide_eq_true_eq]; omega
    simp only [fitsH, recH, he, hs, h1, h2, Bool.and_true]
    decide
  have hl := piece_len (b := b) (t := t)
  rw [sealE, if_neg (by rw [hf]; decide), if_neg (by simp only [recH]; omega), if_neg (by omega)]
set_option maxHeartbeats 32000000 in
set_option maxRecDepth 100000 in
theorem lapp_any (w : World) (B L D : Nat) (l : LogP) (d : DevP) (hl : IsLog B w L D l) (hd : IsDev B w D d) (h3 : 3 ≤ d.sure.length) (bo : Option Addr) (bl bc : Nat) (b : List UInt8) (hb : Byts w bo bl bc b) (hbB : rowIn (tagged [5] w) bo bl) (hb0 : 1 ≤ bl)
    (hbl : bl ≤ 1000000) (hf : l.fin ≤ 900000000) (hep : fitK l.block.epoch 4 = true) (hnx : fitK (nextL l) 7 = true) (hc : l.list.length < 100000) (hu : d.unsure.length ≤ 800000) :
    Calls Tryz.prog 81 #[.pointer (some ⟨L, 0, none⟩), .slice bo bl bc] w fun e w' => e = .returned (.tuple #[.int .i64 (appP d l b).2.2.1, .int .i64 (appP d l b).2.2.2]) ∧ IsLog B w' L D (appP d l b).2.1 ∧ IsDev B w' D (appP d l b).1 ∧ Only lgT B w w' := by
  have HC := Lib.hid (lcheck_any w B L D l d hl hd)
  have hlen : b.length = bl := by have := hb.hlen; simpa using this
  have hle := hb.hle
  have hcap := hb.hcap
  cases ho : offB d l with
  | true =>
    have HX := Lib.hid (show appP d l b = (d, { l with down := true }, 0, 8) by simp [appP, ho])
    rw [ho] at HC
    clear hl hd ho hb hbB
    go_enter Tryz.func81, Tryz.ntmps81
    go_wp2_with (go_at_call 34; refine HC.out.mono ?_; rintro e W1 ⟨rfl, hl1, hd1, ho1⟩; have H1 := Lib.hid (And.intro hl1 (And.intro hd1 ho1)); clear hl1 hd1 ho1; (try simp))
    go_ret2
    rw [HX.out]
    exact ⟨rfl, H1.out⟩
  | false =>
    have hdl := down_false ho
    rw [ho] at HC
    rw [down_eq l false hdl.2] at HC
    have HP := Lib.hid (parts_any · bl (by omega))
    by_cases hbig : 16384 < bl
    · have HX := Lib.hid (show appP d l b = (d, l, 0, 4) by simp [appP, ho, hlen, hbig])
      clear hl hd ho hb hbB hdl
      have hbg : decide ((16384 : Int) < (bl : Int)) = true := decide_eq_true (by omega)
      go_enter Tryz.func81, Tryz.ntmps81
      go_wp2_with (first | (go_at_call 34; refine HC.out.mono ?_; rintro e W1 ⟨rfl, hl1, hd1, ho1⟩; have H1 := Lib.hid (And.intro hl1 (And.intro hd1 ho1)); clear hl1 hd1 ho1; (try simp)) | (go_at_call 113; refine (HP.out _).mono ?_; rintro e W1 ⟨rfl, rfl⟩))
      go_ret2
      rw [HX.out]
      exact ⟨rfl, H1.out⟩
    · have hbg : decide ((16384 : Int) < (bl : Int)) = false := decide_eq_false (by omega)
      obtain ⟨n, hn⟩ : ∃ n, n = partsN bl := ⟨_, rfl⟩
      rw [← hn] at HP
      have hnb : n ≤ 34 ∧ (n - 1) * 496 < bl ∧ bl ≤ n * 496 ∧ 1 ≤ n := by rw [hn]; unfold partsN; omega
      have HN := Lib.hid (show partsN b.length = n by rw [hlen, hn])
      have HRM := Lib.hid (fun w' (a : IsLog B w' L D l) (b : IsDev B w' D d) => lroom_any w' B L D l d a b (by omega) (by omega))
      obtain ⟨rm, hrm⟩ : ∃ rm, rm = roomL d l := ⟨_, rfl⟩
      rw [← hrm] at HRM
      have HBB := Lib.hid (And.intro hb (And.intro hbB hlen))
      have HDL := Lib.hid (And.intro hdl (And.intro ho hrm))
      clear hb hbB ho hrm hn hlen hdl
      by_cases hfull : rm < (n : Int)
      · have HX := Lib.hid (show appP d l b = (d, l, 0, 10) by
          rw [appP, if_neg (by rw [HDL.out.2.1]; decide), if_neg (by have := HBB.out.2.2; omega), HN.out, if_pos (by rw [← HDL.out.2.2]; exact hfull)])
        have hfl : decide (rm < (n : Int)) = true := decide_eq_true hfull
        clear hl hd
        go_enter Tryz.func81, Tryz.ntmps81
        go_wp2_with (first | (go_at_call 34; refine HC.out.mono ?_; rintro e W1 ⟨rfl, hl1, hd1, ho1⟩; have H1 := Lib.hid (And.intro hl1 (And.intro hd1 ho1)); clear hl1 hd1 ho1; (try simp)) | (go_at_call 113; refine (HP.out _).mono ?_; rintro e W1 ⟨rfl, rfl⟩) | (go_at_call 48; refine (HRM.out _ H1.out.1 H1.out.2.1).mono ?_; rintro e W2 ⟨rfl, hb2⟩; have H2 := Lib.hid hb2; clear hb2))
        go_ret2
        rw [HX.out]
        exact ⟨rfl, H1.out.1.on H2.out, H1.out.2.1.on H2.out, H1.out.2.2.trans (Only.below H2.out (by have := H1.out.2.1.Ble; omega))⟩
      · have hfl : decide (rm < (n : Int)) = false := decide_eq_false hfull
        have HFL := Lib.hid (show ¬ roomL d l < (n : Int) by rw [← HDL.out.2.2]; exact hfull)
        have HLD := Lib.hid (And.intro hl hd)
        have HEN := Lib.hid (And.intro hep hnx)
        have hsub : ∀ q : Nat, q * 496 = q * 496 := fun _ => rfl
        clear hl hd hfull hep hnx hsub
        go_enter Tryz.func81, Tryz.ntmps81
        go_wp2_with (first | (go_at_call 34; refine HC.out.mono ?_; rintro e W1 ⟨rfl, hl1, hd1, ho1⟩; have H1 := Lib.hid (And.intro hl1 (And.intro hd1 ho1)); clear hl1 hd1 ho1; (try simp)) | (go_at_call 113; refine (HP.out _).mono ?_; rintro e W1 ⟨rfl, rfl⟩) | (go_at_call 48; refine (HRM.out _ H1.out.1 H1.out.2.1).mono ?_; rintro e W2 ⟨rfl, hb2⟩; have H2 := Lib.hid (And.intro (H1.out.1.on hb2) (And.intro (H1.out.2.1.on hb2) (H1.out.2.2.trans (Only.below hb2 (by have := H1.out.2.1.Ble; omega))))); clear hb2) | (go_at_call 15; refine (lnext_any W2 B L D l H2.out.1).mono ?_; rintro e W3 ⟨rfl, hb3⟩; have H3 := Lib.hid (And.intro (H2.out.1.on hb3) (And.intro (H2.out.2.1.on hb3) (H2.out.2.2.trans (Only.below hb3 (by have := H2.out.2.1.Ble; omega))))); clear hb3; rw [show l.block.first + (l.list.length : Int) = nextL l from rfl]))
        obtain ⟨sq, hsq⟩ : ∃ sq, sq = nextL l := ⟨_, rfl⟩
        rw [← hsq]
        have HSQ := Lib.hid hsq
        clear hsq
        go_loopw [4, 33] (fun s4 i wr => ∃ t : Nat, t ≤ n ∧ i = .int .i64 (t : Int) ∧ s4 = .int .i64 sq ∧ Hid (IsLog B wr L D l ∧ IsDev B wr D (putParts d l b t) ∧ (putParts d l b t).down = false ∧ Only lgT B w wr)) (fun _ i _ => (n - intOf i).toNat)
        case atStart => exact ⟨0, Nat.zero_le _, rfl, rfl, Lib.hid ⟨H3.out.1, H3.out.2.1, HDL.out.1.1, H3.out.2.2⟩⟩
        case round =>
          obtain ⟨t, ht, rfl, rfl, hinv⟩ := hrel
          by_cases hlt : t < n
          · have HB := Lib.hid (HBB.out.1.keep HBB.out.2.1 (hinv.out.2.2.2.same (T := [5]) (by decide)))
            obtain ⟨b0, off, rfl⟩ := HBB.out.1.addr (k := 0) (by omega)
            have ht33 : t ≤ 33 := by omega
            have hmul : t * 496 ≤ (n - 1) * 496 := Nat.mul_le_mul_right _ (by omega)
            obtain ⟨r, hr, hre⟩ : ∃ r : Nat, min (((t : Int) + 1) * 496) (bl : Int) = (r : Int) ∧ r = min ((t + 1) * 496) bl := ⟨_, by omega, rfl⟩
            have hr1 : t * 496 < r := by omega
            have hr2 : r ≤ bl := by omega
            have hne : ¬ bc = t * 496 := by omega
            have HQ := Lib.hid (And.intro hre hnb)
            clear hnb hre hmul
            obtain ⟨v, g1, g2⟩ := hinv.out.1.ex
            have c0 : wr.cell? ⟨L, 0, none⟩ = some (.pointer (some ⟨D, 0, none⟩)) := g1.cell 0
            have c2 : wr.cell? ⟨L, 2, none⟩ = some (.int .i64 l.block.epoch) := g1.cell 2
            have c7 : wr.cell? ⟨L, 7, none⟩ = some (.int .i64 (l.fin : Int)) := g1.cell 7
            clear g1 g2
            go_wp2_with fail
            have hpe : ((b.map u8V).drop (t * 496)).take (r - t * 496) = (pieceB b t).map u8V := by
              rw [pieceB, ← List.map_drop, ← List.map_take]
              congr 1
              have h1 := HQ.out.1
              have h2 := HBB.out.2.2
              rcases Nat.lt_or_ge (b.length) ((t + 1) * 496) with h3 | h3
              · rw [List.take_of_length_le (by rw [List.length_drop]; omega), List.take_of_length_le (by rw [List.length_drop]; omega)]
              · rw [show r - t * 496 = 496 by omega]
            have hpl : (pieceB b t).length = r - t * 496 := by
              have h1 := HQ.out.1
              have h2 := HBB.out.2.2
              have := piece_len (b := b) (t := t)
              omega
            have hpc : Byts wr (some ⟨b0, off + t * 496, none⟩) (r - t * 496) (bc - t * 496) (pieceB b t) := by
              have := HB.out.part (lo := t * 496) (m := r - t * 496) (by omega)
              rw [show (b.map fun c => Value.int .u8 (c.toNat : Int)) = b.map u8V from rfl, hpe] at this
              exact this
            have hsl : sealE ⟨2, l.block.epoch, sq, t, n⟩ (pieceB b t) = 0 := by
              have := seal_rec (l := l) (b := b) (t := t) HEN.out.1 HEN.out.2 (by have := HBB.out.2.2; omega) (by rw [HN.out]; exact hlt)
              rw [recH, HN.out, ← HSQ.out] at this
              exact this
            have HSL := Lib.hid hsl
            have hrw : sealB ⟨2, l.block.epoch, sq, t, n⟩ (pieceB b t) = recW l b t := by rw [recW, recH, HN.out, ← HSQ.out]
            have HRW := Lib.hid hrw
            have hse := seal_any wr ⟨2, l.block.epoch, sq, t, n⟩ _ _ _ (pieceB b t) hpc (by omega)
            have HSE := Lib.hid hse
            clear hpe hpl hpc hsl hrw hse
            refine HSE.out.mono ?_
            rintro e W4 hS
            obtain ⟨v, rfl, hown⟩ := hS.ok HSL.out
            obtain ⟨ro, rcap, rfl, hrow⟩ := own1_of_owns hown (by omega)
            rw [HRW.out] at hrow
            have H4 := Lib.hid (And.intro hS.bel (And.intro hrow (And.intro (hinv.out.1.on hS.bel) (And.intro (hinv.out.2.1.on hS.bel) (hinv.out.2.2.2.trans (Only.below hS.bel (by have := hinv.out.2.1.Ble; omega)))))))
            have d0 := cell_keep hS.bel c0
            have d7 := cell_keep hS.bel c7
            clear hS hown hrow c0 c2 c7
            obtain ⟨p, hp⟩ : ∃ p, p = l.fin + t := ⟨_, rfl⟩
            have hpw : IntKind.i64.wrap ((l.fin : Int) + (t : Int)) = (p : Int) := by rw [IntWalk.i64_in _ (by omega)]; omega
            have HP2 := Lib.hid (And.intro hp (show p ≤ 1000000000 by omega))
            have HW5 := Lib.hid hpw
            have hlen3 : 3 ≤ (putParts d l b t).sure.length := by rw [putParts_len]; exact h3
            have HAT := Lib.hid (fun w' (a : IsLog B w' L D l) (b' : IsDev B w' D (putParts d l b t)) => lat_any w' B L D l _ a b' hlen3 p HP2.out.2)
            rw [show atN (putParts d l b t) p = atN d p from by unfold atN ringN; rw [putParts_len]] at HAT
            obtain ⟨q, hq⟩ : ∃ q, q = atN d p := ⟨_, rfl⟩
            rw [← hq] at HAT
            have HQQ := Lib.hid (And.intro hq (show q < (putParts d l b t).sure.length by rw [hq, putParts_len]; exact at_lt h3 p))
            have HCN := Lib.hid (show (putParts d l b t).unsure.length < 900000 by have := putParts_cnt d l b t; omega)
            have hnext : writeP (putParts d l b t) q (recW l b t) = putParts d l b (t + 1) := by rw [putParts, ← hp, ← hq]
            have HNX := Lib.hid hnext
            have hbd := Below.drew (Below.refl W4.heap.size W4)
            have HBD := Lib.hid hbd
            have D0 := Lib.hid (And.intro (cell_keep hbd d0) (cell_keep hbd d7))
            have hcase := write_down hinv.out.2.2.1 q (recW l b t)
            rw [hnext] at hcase
            have HE8 := Lib.hid (fun (h : writeE (putParts d l b t) = 8) => h)
            clear hp hlen3 hq hnext hbd
            rcases hcase with ⟨hwe, hwd⟩ | ⟨hwe, hwd⟩
            all_goals
              have HWE := Lib.hid hwe
              have HWD := Lib.hid hwd
              clear hwe hwd
              go_wp2_with fail
              go_region_held3 (fun w' => w'.cell? ⟨L, 0, none⟩ = some (.pointer (some ⟨D, 0, none⟩)) ∧ w'.cell? ⟨L, 7, none⟩ = some (.int .i64 (l.fin : Int)))
                (first | go_keep | exact D0.out | exact hc6 | exact hc5)
                (first
                  | (go_at_call 36; refine (ldid_any W5 B L D l _ H5.out.2.1 H5.out.1 _).mono ?_; rintro e W6 ⟨rfl, hl6, hd6, ho6⟩; obtain ⟨v6, g1, g2⟩ := hl6.ex; have hc6 : W6.cell? ⟨L, 0, none⟩ = some (.pointer (some ⟨D, 0, none⟩)) ∧ W6.cell? ⟨L, 7, none⟩ = some (.int .i64 (l.fin : Int)) := ⟨g1.cell 0, g1.cell 7⟩; have H6 := Lib.hid (And.intro hl6 (And.intro hd6 (H5.out.2.2.trans ho6))); clear hl6 hd6 ho6 g1 g2)
                  | (go_at_call 59; refine (dwrite_any _ B D _ (H4.out.2.2.2.1.on HBD.out) q HQQ.out.2 ro rcap (recW l b t) (H4.out.2.1.on HBD.out).row (fun h0 a ha => ((H4.out.2.1.on HBD.out).mem h0 a ha).1) HCN.out).mono ?_; rintro e W5 ⟨rfl, hd5, ho5⟩; rw [HNX.out] at hd5; rw [HWE.out]; have hl5 := (H4.out.2.2.1.on HBD.out).only ho5 (by decide) (by decide); obtain ⟨v5, g1, g2⟩ := hl5.ex; have hc5 : W5.cell? ⟨L, 0, none⟩ = some (.pointer (some ⟨D, 0, none⟩)) ∧ W5.cell? ⟨L, 7, none⟩ = some (.int .i64 (l.fin : Int)) := ⟨g1.cell 0, g1.cell 7⟩; have H5 := Lib.hid (And.intro hd5 (And.intro hl5 ((H4.out.2.2.2.2.trans (Only.below HBD.out (by have := H4.out.2.2.2.1.Ble; omega))).trans (ho5.mono (by decide))))); clear hd5 hl5 ho5 g1 g2)
                  | (go_at_call 60; refine (HAT.out _ (H4.out.2.2.1.on HBD.out) (H4.out.2.2.2.1.on HBD.out)).mono ?_; rintro e w2 ⟨rfl, rfl⟩))
              go_split_ands
              go_wp2_with fail
            · go_roundw
              case rel =>
                have hdn : ({ l with down := l.down || decide ((0 : Int) = 8) } : LogP) = l := by
                  have e := HDL.out.1.2
                  rw [e]
                  exact down_eq l _ e
                exact ⟨t + 1, hlt, by simp, rfl, Lib.hid ⟨by have := H6.out.1; rwa [hdn] at this, H6.out.2.1, HWD.out, H6.out.2.2⟩⟩
              case measure => simp [intOf]; omega
            · go_ret2
              have hst := putParts_stay HWD.out (n - (t + 1))
              rw [show t + 1 + (n - (t + 1)) = n by omega] at hst
              have hX : appP d l b = (putParts d l b (t + 1), { l with down := true }, 0, 8) := by
                rw [appP, if_neg (by rw [HDL.out.2.1]; decide), if_neg (by have := HBB.out.2.2; omega), HN.out, if_neg (by have := HFL.out; omega), appD, HN.out, hst, if_pos HWD.out]
              rw [hX]
              have h6 := H6.out.1
              rw [show (l.down || decide True) = true by simp] at h6
              exact ⟨rfl, h6, H6.out.2.1, H6.out.2.2⟩
          · obtain rfl : t = n := by omega
            obtain ⟨v, g1, g2⟩ := hinv.out.1.ex
            have hbd := Below.drew (Below.refl wr.heap.size wr)
            have hB := hinv.out.2.1.Ble
            obtain ⟨v', W9, hrp⟩ := rprep (B := B) (by have := hbd.size; omega) (by omega) (g2.on hbd) (l.fin, t)
            obtain ⟨ao', c', hv', -, -⟩ := hrp.gath.seq
            subst hv'
            have hlm := log_more (fin := l.fin + t) (hinv.out.1.on hbd) (g1.on hbd) hrp hc (by have := hbd.size; omega)
            have c6 : wr.drew.cell? ⟨L, 6, none⟩ = some v := (g1.on hbd).cell 6
            have c7 : wr.drew.cell? ⟨L, 7, none⟩ = some (.int .i64 (l.fin : Int)) := (g1.on hbd).cell 7
            have hc9 : W9.cell? ⟨L, 6, none⟩ = some v ∧ W9.cell? ⟨L, 7, none⟩ = some (.int .i64 (l.fin : Int)) := ⟨hlm.1.cell 6, hlm.1.cell 7⟩
            have f6 : W9.frozen? ⟨L, 6, none⟩ = false := hlm.1.free 6
            have hal := (Below.refl wr.drew.heap.size wr.drew).alloc (Nat.le_refl _) (.cells #[.int .i64 (l.fin : Int), .int .i64 (t : Int)] 88)
            have hca : (wr.alloc (.cells #[.int .i64 (l.fin : Int), .int .i64 (t : Int)] 88)).drew.cell? ⟨L, 6, none⟩ = some v ∧ (wr.alloc (.cells #[.int .i64 (l.fin : Int), .int .i64 (t : Int)] 88)).drew.cell? ⟨L, 7, none⟩ = some (.int .i64 (l.fin : Int)) := ⟨cell_keep hal c6, cell_keep hal c7⟩
            have HCA := Lib.hid hca
            have HC9 := Lib.hid hc9
            have HRP := Lib.hid hrp
            have HLM := Lib.hid (And.intro hlm hbd)
            have k7' : (W9.setCell ⟨L, 6, none⟩ (.slice ao' (l.list.length + 1) c')).cell? ⟨L, 7, none⟩ = some (.int .i64 (l.fin : Int)) := (hlm.1.set 6 _).cell 7
            have f7' : (W9.setCell ⟨L, 6, none⟩ (.slice ao' (l.list.length + 1) c')).frozen? ⟨L, 7, none⟩ = false := (hlm.1.set 6 _).free 7
            have hlt2 : decide ((t : Int) < (t : Int)) = false := by simp
            have lL : L < wr.heap.size := Blk.lt g1
            have lW := World.new_ne wr ⟨L, 6, none⟩ (show wr.cell? ⟨L, 6, none⟩ = some v from g1.cell 6)
            have lW7 := World.new_ne wr ⟨L, 7, none⟩ (show wr.cell? ⟨L, 7, none⟩ = some (.int .i64 (l.fin : Int)) from g1.cell 7)
            clear g1 g2 hbd hB hrp hlm hal hca hc9
            go_wp2_with fail
            obtain ⟨ca6, ca7⟩ := HCA.out
            obtain ⟨k6, k7⟩ := HC9.out
            go_region_law (refine step_append_run rfl _ _ _ _ rfl _ _ rfl rfl HRP.out.run ?_)
            all_goals
              go_wp2_with fail
              go_ret2
              have hX : appP d l b = (putParts d l b t, appL l b, nextL l, 0) := by
                rw [appP, if_neg (by rw [HDL.out.2.1]; decide), if_neg (by have := HBB.out.2.2; omega), HN.out, if_neg (by have := HFL.out; omega), appD, HN.out, if_neg (by rw [hinv.out.2.2.1]; decide)]
              rw [hX]
              have hl9 := HLM.out.1.2.1
              have ho9 := HLM.out.1.2.2
              rw [Int.natCast_add] at hl9 ho9
              have hLL : appL l b = { l with list := l.list ++ [(l.fin, t)], fin := l.fin + t } := by rw [appL, HN.out]
              have hon : Only rgT B wr ((W9.setCell ⟨L, 6, none⟩ (.slice ao' (l.list.length + 1) c')).setCell ⟨L, 7, none⟩ (.int .i64 ((l.fin : Int) + (t : Int)))) := (Only.below HLM.out.2 hinv.out.2.1.Ble).trans (by simpa using ho9)
              refine ⟨by simp [HSQ.out], ?_, ?_, hinv.out.2.2.2.trans (hon.mono (by decide))⟩
              · rw [hLL]
                simpa using hl9
              · exact lg_dv hinv.out.2.1 hon (by decide) (by decide) (by decide) (by decide)
end
section
open Go.ChangeShapes Go.WideShapes Go.ChangeAt Go.RowKit
def kT : List TypeId := 48 :: lgT
/-- what is asked of a log so that one record more is appended -/
structure CanApp (d : DevP) (l : LogP) : Prop where
  len : 3 ≤ d.sure.length
  fin : l.fin ≤ 900000000
  ep : fitK l.block.epoch 4 = true
  nx : fitK (nextL l) 7 = true
  cnt : l.list.length < 100000
  un : d.unsure.length ≤ 800000
set_option maxHeartbeats 8000000 in
set_option maxRecDepth 100000 in
theorem kappend_clock (w : World) (B K C L D : Nat) (pl no te : Int) (me dn : Bool) (l : LogP) (d : DevP) (hK : Blk w K (keepC C L pl no te me dn) 48) (hB : B ≤ K) (hl : IsLog B w L D l) (hd : IsDev B w D d) (hc : CanApp d l) (t : Int) (ht : timeB t = true) (htf : fitK t 7 = true) :
    Calls Tryz.prog 50 #[.pointer (some ⟨K, 0, none⟩), .agg (blankC 3 t (.slice none 0 0))] w fun e w' => e = .returned (.int .i64 (appP d l (clockW t)).2.2.2) ∧ Blk w' K (keepC C L pl no te me (dn || ((appP d l (clockW t)).2.2.2 == 8))) 48 ∧ IsLog B w' L D (appP d l (clockW t)).2.1 ∧ IsDev B w' D (appP d l (clockW t)).1 ∧ Only kT B w w' := by
  obtain ⟨W1, hW1⟩ : ∃ W1, W1 = w.alloc (.cells (blankC 3 t (.slice none 0 0)) 59) := ⟨_, rfl⟩
  have hb1 : Below w.heap.size w W1 := by rw [hW1]; exact (Below.refl _ _).alloc (Nat.le_refl _) _
  have a1 : Blk W1 w.heap.size (blankC 3 t (.slice none 0 0)) 59 := by rw [hW1]; exact heap_alloc_new w _
  have hs := record_clock W1 t ht htf
  rw [hW1] at a1 hb1 hs
  have HS := Lib.hid hs
  have H1 := Lib.hid (And.intro a1 (And.intro hb1 (And.intro hK (And.intro hl (And.intro hd (And.intro hc hB))))))
  obtain ⟨x, hx⟩ : ∃ x, x = appP d l (clockW t) := ⟨_, rfl⟩
  rw [← hx]
  have HX := Lib.hid hx
  clear hs ht htf a1 hb1 hW1 hK hl hd hc hB hx
  go_enter Tryz.func50, Tryz.ntmps50
  go_wp2_with (first
    | (go_at_call 25; refine (kdid_any W3 K C L pl no te me dn H3.out.2.2.1 _).mono ?_; rintro e W4 ⟨rfl, hk4, hg4⟩; have H4 := Lib.hid (And.intro hk4 hg4); clear hk4 hg4)
    | (go_at_call 81; have hap := lapp_any W2 B L D l d (H1.out.2.2.2.1.on H2.out.2) (H1.out.2.2.2.2.1.on H2.out.2) H1.out.2.2.2.2.2.1.len ao 8 c (clockW t) H2.out.1.row (fun h a ha => (H2.out.1.mem h a ha).1) (by omega) (by omega) H1.out.2.2.2.2.2.1.fin H1.out.2.2.2.2.2.1.ep H1.out.2.2.2.2.2.1.nx H1.out.2.2.2.2.2.1.cnt H1.out.2.2.2.2.2.1.un; rw [← HX.out] at hap; refine hap.mono ?_; rintro e W3 ⟨rfl, hl3, hd3, ho3⟩; have H3 := Lib.hid (And.intro hl3 (And.intro hd3 (And.intro (ho3.blk (Blk.on H1.out.2.2.1 H2.out.2) (by decide)) ho3))); clear hap hl3 hd3 ho3)
    | (refine wpList_load_row rfl 59 _ rfl w.heap.size rfl 59 (blankC 3 t (.slice none 0 0)) (0, 0) _ H1.out.1 Tryz.underlying59 rfl entSize ?_)
    | (go_at_call 47; refine HS.out.mono ?_; rintro e W2 ⟨⟨ao, c, rfl, ho⟩, hb⟩; have hbw := below_on H1.out.2.1 hb (Nat.le_refl _); have c1 : W2.cell? ⟨K, 1, none⟩ = some (.pointer (some ⟨L, 0, none⟩)) := (Blk.on H1.out.2.2.1 hbw).cell 1; have H2 := Lib.hid (And.intro ho hbw); clear ho hb hbw))
  go_ret
  obtain ⟨hl3, hd3, hk3, ho3⟩ := H3.out
  have h4 : Only [48] B W3 W4 := Only.but H4.out.2 hk3 List.mem_cons_self H1.out.2.2.2.2.2.2
  refine ⟨rfl, H4.out.1, hl3.only h4 (by decide) (by decide), lg_dv hd3 h4 (by decide) (by decide) (by decide) (by decide), ?_⟩
  exact (Only.below H2.out.2 H1.out.2.2.2.2.1.Ble).trans ((ho3.mono (by decide)).trans (h4.mono (by decide)))
end
section
open Go.ChangeShapes Go.WideShapes Go.ChangeAt Go.RowKit
/-- of what is there the writer at R and its row alone turn -/
def OneW (R : Nat) (w w' : World) : Prop := ∀ v M, Blk w R #[v, .map (some M)] 159 → ∀ j, j < w.heap.size → j ≠ R → v.ownBlock ≠ some j → w'.heap[j]? = w.heap[j]?
theorem OneW.on {R : Nat} {w w1 w2 : World} (hb : Below w.heap.size w w1) (h : OneW R w1 w2) : OneW R w w2 := fun v m hv j hj hR ho => by
  have := hb.size
  exact (h v m (hv.on hb) j (by omega) hR ho).trans (hb.block j hj)
set_option maxHeartbeats 8000000 in
set_option maxRecDepth 100000 in
theorem wraw_one (w : World) (N R M : Nat) (b : List UInt8) (hW : IsW N w R M b) (ao : Option Addr) (m c : Nat) (l : List UInt8) (hl : Byts w ao m c l) (hm : b.length + m ≤ 1000000000) :
    Calls Tryz.prog 98 #[.pointer (some ⟨R, 0, none⟩), .slice ao m c] w fun e w' => e = .returned (.tuple #[]) ∧ IsW N w' R M (b ++ l) ∧ Only wrT N w w' ∧ OneW R w w' := by
  obtain ⟨v, h1, h2⟩ := hW.ex
  have hN := hW.lt
  have hlen := hl.hlen
  rw [List.length_map] at hlen
  obtain ⟨i0, hi, hz0, hz1, hz2⟩ := info_parts u8Info
  obtain ⟨v', w1, hrun, hown, hgr⟩ := append_row (P := Tryz.prog) w N 49 49 5 i0 _ 1 Tryz.underlying49 hi hz0 hz1 hz2 rfl v b.length (b.map u8V) h2 ao m c (l.map u8V) hl (u8_one l) (by omega) (by omega) hN
  have hrow : ∀ k, v.ownBlock = some k → ∃ cs, Blk w k cs 5 ∧ N ≤ k := fun k hk => by
    exact owns_tag h2 hk
  obtain ⟨va, vc, hv', _⟩ := own1_of_owns hown (by omega)
  obtain ⟨q, hq⟩ : ∃ q, q = b.length + m := ⟨_, rfl⟩
  rw [← hq] at hv' hown
  subst hv'
  have c0 : w.cell? ⟨R, 0, none⟩ = some v := h1.cell 0
  have h1' : Blk w1 R #[v, .map (some M)] 159 := grown_blk hgr hrow h1 (by decide)
  have c1 : w1.cell? ⟨R, 0, none⟩ = some v := h1'.cell 0
  have f1 := h1'.free 0
  have hg2 := but_set w1 R 0 (.slice va q vc)
  have h1'' := h1'.set 0 (.slice va q vc)
  have ho1 : Only wrT N w w1 := grown_only hgr hrow (by decide) hN
  have ho2 : Only wrT N w (w1.setCell ⟨R, 0, none⟩ (.slice va q vc)) := ho1.trans (Only.but hg2 h1' (by decide) hW.base)
  have hown2 : (w1.setCell ⟨R, 0, none⟩ (.slice va q vc)).ownsRow N 5 1 (.slice va q vc) q (b.map u8V ++ l.map u8V) := owns_but hown hg2 h1' (by decide)
  have hone : OneW R w (w1.setCell ⟨R, 0, none⟩ (.slice va q vc)) := fun v0 m0 h0 j hj hR hv => by
    have e0 : v0 = v := by have := h0.cell 0; rw [c0] at this; simpa using this.symm
    subst e0
    exact (hg2.block j (by have := hgr.size; omega) (fun e => hR (Option.some.inj e))).trans (hgr.block j hj (fun e => hv e.symm))
  have HF := Lib.hid (And.intro h1'' (And.intro (And.intro ho2 hone) hown2))
  have HR := Lib.hid hrun
  have HB := Lib.hid (And.intro hW.base (And.intro hlen hq))
  clear hW h1 h2 hi hz0 hz1 hz2 hrun hown hgr hrow h1' hg2 h1'' ho1 ho2 hown2 hl hlen hq hone
  go_enter Tryz.func98, Tryz.ntmps98
  go_wp2_with (at_builtin; refine wpList_append_run rfl _ _ _ rfl _ _ rfl rfl HR.out ?_)
  go_end0
  refine ⟨rfl, ⟨⟨_, by simpa using HF.out.1, ?_⟩, HB.out.1⟩, HF.out.2.1⟩
  rw [List.length_append, List.map_append, HB.out.2.1, ← HB.out.2.2]
  exact HF.out.2.2
set_option maxHeartbeats 8000000 in
set_option maxRecDepth 100000 in
theorem wnum_one (w : World) (N R M : Nat) (b : List UInt8) (hW : IsW N w R M b) (n : Int) (size : Nat) (hs : 1 ≤ size) (hs7 : size ≤ 7) (hf : fitK n size = true) (hm : b.length ≤ 100000000) :
    Calls Tryz.prog 69 #[.pointer (some ⟨R, 0, none⟩), .int .i64 n, .int .i64 (size : Int)] w fun e w' => e = .returned (.tuple #[]) ∧ IsW N w' R M (b ++ putN n size) ∧ Only wrT N w w' ∧ OneW R w w' := by
  have hN := hW.lt
  have HP := Lib.hid (putk_any w none 0 0 [] (Row.empty (by omega) (fun _ => rfl)) (by omega) n size hs hs7)
  have hpl : putL [] n size = putN n size := by rw [putL, if_pos hf]; rfl
  rw [hpl, putB_len] at HP
  have HW := Lib.hid (And.intro hW (And.intro hN hm))
  clear hW hN hpl hf hm hs
  go_enter Tryz.func69, Tryz.ntmps69
  go_wp2_with (first | (go_at_call 57; refine HP.out.mono ?_; rintro e W1 ⟨⟨v, rfl, hown⟩, hb1⟩; obtain ⟨ao, cap, rfl, hrow⟩ := row_of_owns hown (by omega); have H1 := Lib.hid (And.intro hrow hb1); clear hown hrow hb1) | (go_at_call 98; refine (wraw_one W1 N R M b (HW.out.1.on H1.out.2) ao size cap (putN n size) H1.out.1 (by have := HW.out.2.2; omega)).mono ?_; rintro e W2 ⟨rfl, hw2, ho2, hq2⟩; have H2 := Lib.hid (And.intro hw2 (And.intro ((Only.below H1.out.2 HW.out.2.1).trans ho2) (OneW.on H1.out.2 hq2))); clear hw2 ho2))
  go_end0
  exact ⟨rfl, H2.out.1, H2.out.2⟩
end
section
open Go.ChangeShapes Go.WideShapes Go.ChangeAt Go.RowKit
/-- data as an entry holds it -/
def cdW (k : Int) (d : DataP) : List UInt8 := (rdW k d [] []).2
theorem IsW.one {N : Nat} {w w' : World} {R M N2 R2 M2 : Nat} {b b2 : List UInt8} (h : IsW N w R M b) (hRN : R < N2 ∧ ∀ v, Blk w R #[v, .map (some M)] 159 → ∀ g, v.ownBlock = some g → g < N2) (h2 : IsW N2 w R2 M2 b2) (ho : OneW R w w') : IsW N2 w' R2 M2 b2 := by
  obtain ⟨v, h1, h3⟩ := h.ex
  obtain ⟨v2, k1, k2⟩ := h2.ex
  have hb2 := h2.base
  have e1 : Blk w' R2 #[v2, .map (some M2)] 159 := by
    unfold Blk at k1 ⊢
    rw [ho v M h1 R2 (Blk.lt k1) (by omega) (fun e => by have := hRN.2 v h1 R2 e; omega), k1]
  refine ⟨⟨v2, e1, ?_⟩, h2.base⟩
  refine ⟨k2.1, k2.2.imp id ?_⟩
  rintro ⟨g, cap, cur, e, hg, hc, r⟩
  exact ⟨g, cap, cur, e, hg, by rw [ho v M h1 g (Array.getElem?_eq_some_iff.1 hc).1 (by omega) (fun e => by have := hRN.2 v h1 g e; omega), hc], r⟩
theorem data_in {N M : Nat} {w : World} {h : DataH} {d : DataP} (hd : IsData w h d) (hN : w.heap.size ≤ N) : DataIn (inW N M w) h :=
  ⟨fun h0 a ha => .inl (Nat.lt_of_lt_of_le (all_below w hd.bytes h0 a ha) hN), fun h0 a ha => .inl (Nat.lt_of_lt_of_le (all_below w hd.host.row h0 a ha) hN), fun h0 a ha => .inl (Nat.lt_of_lt_of_le (all_below w hd.mail.row h0 a ha) hN), fun h0 a ha => .inl (Nat.lt_of_lt_of_le (all_below w hd.nums h0 a ha) hN), fun h0 a ha => .inl (Nat.lt_of_lt_of_le (all_below w hd.texts.row h0 a ha) hN)⟩
theorem DataIn.world {N M : Nat} {w w' : World} {h : DataH} {d : DataP} (hd : IsData w h d) (hN : w.heap.size ≤ N) : DataIn (inW N M w') h :=
  (data_in (M := M) hd hN).mono hd (fun b hb _ => .inl (by omega))
set_option maxHeartbeats 16000000 in
set_option maxRecDepth 100000 in
theorem cdata_any (w : World) (N R M : Nat) (b : List UInt8) (hW : IsW N w R M b) (k : Int) (h : DataH) (d : DataP) (hd : IsData w h d) (hok : dataB k d = true) (hb : b.length ≤ 50000000) :
    Calls Tryz.prog 99 #[.pointer (some ⟨R, 0, none⟩), .int .i64 k, .agg (dataC h)] w fun e w' => e = .returned (.tuple #[]) ∧ IsW N w' R M ((b ++ putN ((cdW k d).length : Int) 2) ++ cdW k d) ∧ Only wrT N w w' := by
  have hal : Below w.heap.size w (w.alloc (.cells (dataC h) 55)) := (Below.refl _ _).alloc (Nat.le_refl _) _
  have hA : Blk (w.alloc (.cells (dataC h) 55)) w.heap.size (dataC h) 55 := heap_alloc_new w _
  have HNW := Lib.hid (wname_new (w.alloc (.cells (dataC h) 55)))
  have hsz : (w.alloc (.cells (dataC h) 55)).heap.size = w.heap.size + 1 := Array.size_push _
  rw [hsz] at HNW
  have hI : (cdW k d).length ≤ 65535 := by have := (rdW_len hok [] []).2.1; simpa [cdW] using this
  have hNN := hW.lt
  have hRN : ∀ W, Below w.heap.size w W → R < w.heap.size + 1 ∧ ∀ v, Blk W R #[v, .map (some M)] 159 → ∀ g, v.ownBlock = some g → g < w.heap.size + 1 := by
    intro W hbW
    obtain ⟨v0, h1, h2⟩ := hW.ex
    refine ⟨by have := Blk.lt h1; omega, fun v hv g hg => ?_⟩
    have e1 := (h1.on hbW).cell 0
    have e2 := hv.cell 0
    rw [e1] at e2
    have e3 : v0 = v := by simpa using e2
    subst e3
    obtain ⟨cs, hc, _⟩ := owns_tag h2 hg
    have := Blk.lt hc
    omega
  have HA := Lib.hid (And.intro hal (And.intro hA (And.intro hd (And.intro hW (And.intro hok (And.intro hI (And.intro hNN (And.intro hRN (And.intro hsz hb)))))))))
  clear hal hA hW hd hok hI hNN hRN hsz hb
  obtain ⟨ba, bl, bc, ha, hl, hc, ma, ml, mc, za, zl, zc, ta, tl, tc⟩ := h
  simp only [dataC] at HNW HA ⊢
  go_enter Tryz.func99, Tryz.ntmps99
  go_wp2_with (first
    | (go_at_call 98; refine (wraw_any W5 N R M (b ++ putN ((cdW k d).length : Int) 2) G5.out.1 ao (cdW k d).length c (cdW k d) G5.out.2.2 (by rw [List.length_append, putB_len]; have := HA.out.2.2.2.2.2.1; have := HA.out.2.2.2.2.2.2.2.2.2; omega)).mono ?_; rintro e W6 ⟨rfl, hw6, ho6⟩; have G6 := Lib.hid (And.intro hw6 (G5.out.2.1.trans ho6)); clear hw6 ho6)
    | (go_at_call 72; refine (wbytes_any W4 (w.heap.size + 1) R2 M2 (cdW k d) G4.out.2.2 (by have := HA.out.2.2.2.2.2.1; omega)).mono ?_; rintro e W5 ⟨⟨ao, c, rfl, ho⟩, hb5⟩; have G5 := Lib.hid (And.intro (G4.out.1.on hb5) (And.intro (G4.out.2.1.trans (Only.below hb5 G4.out.1.lt)) ho.row)); clear ho hb5)
    | (go_at_call 69; refine (wnum_one W3b N R M b (HT.out ▸ G3.out.1) ((cdW k d).length : Int) 2 (by omega) (by omega) (by simp only [fitK, Bool.and_eq_true, decide_eq_true_eq]; have := HA.out.2.2.2.2.2.1; omega) (by have := HA.out.2.2.2.2.2.2.2.2.2; omega)).mono ?_; rintro e W4 ⟨rfl, hw4, ho4, hq4⟩; have ho4' : Only wrT N W3 W4 := HT.out ▸ ho4; have hq4' : OneW R W3 W4 := HT.out ▸ hq4; have hin := G3.out.1.one (HA.out.2.2.2.2.2.2.2.1 W3 G3.out.2.2) G3.out.2.1 hq4'; have G4 := Lib.hid (And.intro hw4 (And.intro ((Only.below G3.out.2.2 HA.out.2.2.2.2.2.2.1).trans ho4') hin)); clear hw4 ho4 hq4 ho4' hq4' hin)
    | (go_at_call 124; refine (wlen_any W3 (w.heap.size + 1) R2 M2 (cdW k d) G3.out.2.1 (by have := HA.out.2.2.2.2.2.1; omega)).mono ?_; rintro e W3b ⟨rfl, hwb⟩; have HT := Lib.hid hwb; clear hwb)
    | (go_at_call 123; refine (dput_any W1 (w.heap.size + 1) R2 M2 [] [] G1.out.1 k ⟨ba, bl, bc, ha, hl, hc, ma, ml, mc, za, zl, zc, ta, tl, tc⟩ d ⟨HA.out.2.2.1.on G1.out.2.2, DataIn.world HA.out.2.2.1 (Nat.le_succ _)⟩ HA.out.2.2.2.2.1 (by simp) (by simp)).mono ?_; rintro e W3 ⟨rfl, hw3, ho3⟩; have hb3 : Below w.heap.size w W3 := below_on HA.out.1 (HA.out.2.2.2.2.2.2.2.2.1 ▸ (G1.out.2.1.trans ho3.bel)) (Nat.le_refl _); have G3 : Hid (IsW N W3 R M b ∧ IsW (w.heap.size + 1) W3 R2 M2 (cdW k d) ∧ Below w.heap.size w W3) := Lib.hid ⟨HA.out.2.2.2.1.on hb3, hw3.iw, hb3⟩; clear hw3 ho3 hb3)
    | (go_at_call 68; refine HNW.out.mono ?_; rintro e W1 ⟨⟨R2, M2, rfl, hw1, hm1, hM⟩, hb1⟩; have hb2 : Below w.heap.size w W1 := below_on HA.out.1 (HA.out.2.2.2.2.2.2.2.2.1 ▸ hb1) (Nat.le_refl _); have hM1 := HA.out.2.1.on (HA.out.2.2.2.2.2.2.2.2.1 ▸ hb1); have z0 : W1.cell? ⟨w.heap.size, 0, none⟩ = some (.slice ba bl bc) := hM1.cell 0; have z1 : W1.cell? ⟨w.heap.size, 1, none⟩ = some (.slice ha hl hc) := hM1.cell 1; have z2 : W1.cell? ⟨w.heap.size, 2, none⟩ = some (.slice ma ml mc) := hM1.cell 2; have z3 : W1.cell? ⟨w.heap.size, 3, none⟩ = some (.slice za zl zc) := hM1.cell 3; have z4 : W1.cell? ⟨w.heap.size, 4, none⟩ = some (.slice ta tl tc) := hM1.cell 4; have hwr : IsWR (w.heap.size + 1) W1 R2 M2 [] [] := ⟨hw1, MapI.fresh hm1, hM, (by intro x hx; cases hx), (by simp)⟩; have G1 := Lib.hid (And.intro hwr (And.intro hb1 hb2)); clear hw1 hm1 hM hM1 hb1 hb2 hwr))
  go_end0
  exact ⟨rfl, G6.out.1, G6.out.2⟩
end
section
open Go.ChangeShapes Go.WideShapes Go.ChangeAt Go.RowKit
theorem IsFact.stepM {N M : Nat} {w w' : World} {h : FactH} {f : FactP} (i : IsFact (inW N M w) w h f) (ho : OnlyM wrT N M w w') : IsFact (inW N M w') w' h f :=
  ((i.mono (S' := fun b => inW N M w b ∧ b < w.heap.size) (fun _ hb hs => ⟨hs, hb⟩)).keep (ho.same.mono (fun _ _ hs => hs.1))).mono (fun _ _ hs => inW.step ho hs.2 hs.1)
structure FactFits (f : FactP) : Prop where
  name : soundB f.name = true
  typ : fitK f.typ 2 = true
  kind : fitK f.kind 1 = true
  rank : fitK f.rank 1 = true
  got : fitK f.got 7 = true
  ttl : fitK f.ttl 4 = true
  pos : f.kind = 1 → (∀ d ∈ f.set, dataB f.typ d = true) ∧ f.set.length ≤ 64 ∧ 1 ≤ f.set.length ∧ f.zone = [] ∧ 1 ≤ f.typ
  neg : f.kind ≠ 1 → soundB f.zone = true ∧ dataB 6 f.soa = true ∧ f.set = []
/-- what stands ahead of the data -/
def factHead (f : FactP) (rs : List (List UInt8 × Nat)) (b : List UInt8) : List (List UInt8 × Nat) × List UInt8 :=
  ((nameW false f.name rs b).1, (((((nameW false f.name rs b).2 ++ putN f.typ 2) ++ putN f.kind 1) ++ putN f.rank 1) ++ putN f.got 7) ++ putN f.ttl 4)
def dataL (k : Int) (d : DataP) : List UInt8 := putN ((cdW k d).length : Int) 2 ++ cdW k d
def setW (k : Int) (ds : List DataP) : List UInt8 := ds.flatMap (dataL k)
/-- a fact's bytes -/
def factW (f : FactP) (rs : List (List UInt8 × Nat)) (b : List UInt8) : List UInt8 :=
  if f.kind = 1 then ((factHead f rs b).2 ++ putN (f.set.length : Int) 1) ++ setW f.typ f.set
  else ((nameW false f.zone (factHead f rs b).1 (factHead f rs b).2).2 ++ putN ((cdW 6 f.soa).length : Int) 2) ++ cdW 6 f.soa
theorem setW_snoc (k : Int) (ds : List DataP) {t : Nat} (h : t < ds.length) : setW k (ds.take (t + 1)) = (setW k (ds.take t) ++ putN ((cdW k ds[t]).length : Int) 2) ++ cdW k ds[t] := by
  rw [List.take_succ_eq_append_getElem h, setW, List.flatMap_append]
  simp [setW, dataL]
theorem cdW_len {k : Int} {d : DataP} (h : dataB k d = true) : (cdW k d).length ≤ 65535 := by
  have := (rdW_len h [] []).2.1
  simpa [cdW] using this
theorem setW_le {k : Int} {ds : List DataP} (C : Nat) (h : ∀ d ∈ ds, (cdW k d).length + 2 ≤ C) : ∀ t, (setW k (ds.take t)).length ≤ ds.length * C := by
  have h2 : ∀ t, t ≤ ds.length → (setW k (ds.take t)).length ≤ t * C := by
    intro t
    induction t with
    | zero => intro _; simp [setW]
    | succ t ih =>
      intro ht
      rw [setW_snoc k ds (by omega), List.length_append, List.length_append, putB_len]
      have h3 := h (ds[t]'(by omega)) (List.getElem_mem _)
      have h4 := ih (by omega)
      rw [Nat.add_mul]
      omega
  intro t
  by_cases hlt : t ≤ ds.length
  · exact Nat.le_trans (h2 t hlt) (Nat.mul_le_mul_right C hlt)
  · rw [List.take_of_length_le (by omega)]
    have := h2 ds.length (Nat.le_refl _)
    rwa [List.take_of_length_le (Nat.le_refl _)] at this
theorem setW_len {k : Int} {ds : List DataP} (h : ∀ d ∈ ds, dataB k d = true) (t : Nat) : (setW k (ds.take t)).length ≤ ds.length * 65537 :=
  setW_le 65537 (fun d hd => by have := cdW_len (h d hd); omega) t
set_option maxHeartbeats 32000000 in
set_option maxRecDepth 100000 in
theorem facts_any (w : World) (N R M : Nat) (b : List UInt8) (rs : List (List UInt8 × Nat)) (hW : IsWR N w R M b rs) (h : FactH) (f : FactP) (hf : IsFact (inW N M w) w h f) (hff : FactFits f) (hb : b.length ≤ 1000000) (hr : rs.length ≤ 100000) :
    Calls Tryz.prog 70 #[.pointer (some ⟨R, 0, none⟩), .agg (factC h f)] w fun e w' => e = .returned (.tuple #[]) ∧ IsW N w' R M (factW f rs b) ∧ OnlyM wrT N M w w' := by
  have hN := hW.iw.lt
  have hal : Below w.heap.size w (w.alloc (.cells (factC h f) 57)) := (Below.refl _ _).alloc (Nat.le_refl _) _
  have hA : Blk (w.alloc (.cells (factC h f) 57)) w.heap.size (factC h f) 57 := heap_alloc_new w _
  have hAM : w.heap.size ≠ M := fun e => by
    have h1 := (hW.on hal).m
    exact h1.ne hA e
  have hf0 := hf.stepM (OnlyM.below (M := M) hal hN)
  have hn1 := nameW_len false f.name rs b
  have hn2 := (sound_small hff.name).1
  have hn3 := sizeN_len f.name
  obtain ⟨x, hx⟩ : ∃ x, x = nameW false f.name rs b := ⟨_, rfl⟩
  rw [← hx] at hn1
  have G0 : Hid (IsWR N (w.alloc (.cells (factC h f) 57)) R M b rs ∧ IsFact (inW N M (w.alloc (.cells (factC h f) 57))) (w.alloc (.cells (factC h f) 57)) h f ∧ Blk (w.alloc (.cells (factC h f) 57)) w.heap.size (factC h f) 57 ∧ w.heap.size ≠ M) := Lib.hid ⟨hW.on hal, hf0, hA, hAM⟩
  have HAL := Lib.hid (And.intro hal hN)
  have HX := Lib.hid (show x = nameW false f.name rs b ∧ True from ⟨hx, trivial⟩)
  have HB := Lib.hid (And.intro hb hr)
  have HL := Lib.hid (show x.2.length ≤ 2000000 ∧ x.1.length ≤ 200000 by omega)
  have HF := Lib.hid hff
  have a0 : (w.alloc (.cells (factC h f) 57)).cell? ⟨w.heap.size, 0, none⟩ = some (.slice h.na h.nl h.nc) := G0.out.2.2.1.cell 0
  clear hN hal hA hAM hf0 hn1 hn2 hn3 hx hW hf hff hb hr
  go_enter Tryz.func70, Tryz.ntmps70
  go_upto_region 7 with (first
      | (go_at_call 69; refine (wnum_any W5 N R M ((((x.2 ++ putN f.typ 2) ++ putN f.kind 1) ++ putN f.rank 1) ++ putN f.got 7) G5.out.1.iw f.ttl 4 (by omega) (by omega) HF.out.ttl (by have := HL.out.1; (try simp only [List.length_append, putB_len]); omega)).mono ?_; rintro e W6 ⟨rfl, hw6, ho6⟩; have hA6 := ho6.blk G5.out.2.2 (by decide); have c6 : W6.cell? ⟨w.heap.size, 2, none⟩ = some (.int .i64 f.kind) := hA6.cell 2; have G6 := Lib.hid (And.intro (G5.out.1.step hw6 ho6) (And.intro (G5.out.2.1.trans (.of ho6)) hA6)); clear hw6 ho6 hA6)
      | (go_at_call 69; refine (wnum_any W4 N R M (((x.2 ++ putN f.typ 2) ++ putN f.kind 1) ++ putN f.rank 1) G4.out.1.iw f.got 7 (by omega) (by omega) HF.out.got (by have := HL.out.1; (try simp only [List.length_append, putB_len]); omega)).mono ?_; rintro e W5 ⟨rfl, hw5, ho5⟩; have hA5 := ho5.blk G4.out.2.2 (by decide); have f5 : W5.cell? ⟨w.heap.size, 5, none⟩ = some (.int .i64 f.ttl) := hA5.cell 5; have G5 := Lib.hid (And.intro (G4.out.1.step hw5 ho5) (And.intro (G4.out.2.1.trans (.of ho5)) hA5)); clear hw5 ho5 hA5)
      | (go_at_call 69; refine (wnum_any W3 N R M ((x.2 ++ putN f.typ 2) ++ putN f.kind 1) G3.out.1.iw f.rank 1 (by omega) (by omega) HF.out.rank (by have := HL.out.1; (try simp only [List.length_append, putB_len]); omega)).mono ?_; rintro e W4 ⟨rfl, hw4, ho4⟩; have hA4 := ho4.blk G3.out.2.2 (by decide); have e4 : W4.cell? ⟨w.heap.size, 4, none⟩ = some (.int .i64 f.got) := hA4.cell 4; have G4 := Lib.hid (And.intro (G3.out.1.step hw4 ho4) (And.intro (G3.out.2.1.trans (.of ho4)) hA4)); clear hw4 ho4 hA4)
      | (go_at_call 69; refine (wnum_any W2 N R M (x.2 ++ putN f.typ 2) G2.out.1.iw f.kind 1 (by omega) (by omega) HF.out.kind (by have := HL.out.1; (try simp only [List.length_append, putB_len]); omega)).mono ?_; rintro e W3 ⟨rfl, hw3, ho3⟩; have hA3 := ho3.blk G2.out.2.2 (by decide); have d3 : W3.cell? ⟨w.heap.size, 3, none⟩ = some (.int .i64 f.rank) := hA3.cell 3; have G3 := Lib.hid (And.intro (G2.out.1.step hw3 ho3) (And.intro (G2.out.2.1.trans (.of ho3)) hA3)); clear hw3 ho3 hA3)
      | (go_at_call 69; refine (wnum_any W1 N R M (x.2) G1.out.1.iw f.typ 2 (by omega) (by omega) HF.out.typ (by have := HL.out.1; (try simp only [List.length_append, putB_len]); omega)).mono ?_; rintro e W2 ⟨rfl, hw2, ho2⟩; have hA2 := ho2.blk G1.out.2.2 (by decide); have c2 : W2.cell? ⟨w.heap.size, 2, none⟩ = some (.int .i64 f.kind) := hA2.cell 2; have G2 := Lib.hid (And.intro (G1.out.1.step hw2 ho2) (And.intro (G1.out.2.1.trans (.of ho2)) hA2)); clear hw2 ho2 hA2)
      | (go_at_call 71; refine (wname_any _ N R M b rs G0.out.1 h.na h.nl h.nc f.name G0.out.2.1.name HF.out.name (ni_of G0.out.2.1.nameIn) false (by have := HB.out.1; omega) (by have := HB.out.2; omega)).mono ?_; rintro e W1 ⟨rfl, hw1, ho1⟩; rw [← HX.out.1] at hw1; have hA1 := ho1.blk G0.out.2.2.1 (by decide) G0.out.2.2.2; have b1 : W1.cell? ⟨w.heap.size, 1, none⟩ = some (.int .i64 f.typ) := hA1.cell 1; have G1 := Lib.hid (And.intro hw1 (And.intro ho1 hA1)); clear hw1 ho1 hA1))
  obtain ⟨y, hy⟩ : ∃ y, y = ((((x.2 ++ putN f.typ 2) ++ putN f.kind 1) ++ putN f.rank 1) ++ putN f.got 7) ++ putN f.ttl 4 := ⟨_, rfl⟩
  have HY := Lib.hid (And.intro hy (show factHead f rs b = (x.1, y) by rw [factHead, ← HX.out.1, hy]))
  have hyl : y.length ≤ 2000020 := by rw [hy]; have := HL.out.1; simp only [List.length_append, putB_len]; omega
  have hW6 := G6.out.1
  rw [← hy] at hW6
  have HY6 := Lib.hid (And.intro hW6 (And.intro G6.out.2.1 G6.out.2.2))
  have hF6 := G0.out.2.1.stepM G6.out.2.1
  have HF6 := Lib.hid hF6
  clear hy hW6 hF6
  by_cases hk : f.kind = 1
  · have hkb : (f.kind == 1) = true := by simpa using hk
    obtain ⟨hp1, hp2, hp3, hp4, hp5⟩ := HF.out.pos hk
    have HZ := Lib.hid (show factW f rs b = (y ++ putN (f.set.length : Int) 1) ++ setW f.typ f.set by rw [factW, if_pos hk, HY.out.2])
    have hsl : f.set.length = h.sl := HF6.out.set.hlen
    have g6 : W6.cell? ⟨w.heap.size, 6, none⟩ = some (.slice h.sa h.sl h.sc) := HY6.out.2.2.cell 6
    have hsle := HF6.out.set.hle
    have HS := Lib.hid (And.intro hp1 hsl)
    have hn64 : h.sl ≤ 64 := by omega
    clear hk hp1 hp2 hp3 hp4 hp5 hsl
    go_wp2_with (go_at_call 69; refine (wnum_any W6 N R M y HY6.out.1.iw (h.sl : Int) 1 (by omega) (by omega) (by simp only [fitK, Bool.and_eq_true, decide_eq_true_eq]; omega) (by omega)).mono ?_; rintro e W7 ⟨rfl, hw7, ho7⟩; have hA7 := ho7.blk HY6.out.2.2 (by decide); have i6 : W7.cell? ⟨w.heap.size, 6, none⟩ = some (.slice h.sa h.sl h.sc) := hA7.cell 6; have G7 := Lib.hid (And.intro (HY6.out.1.step hw7 ho7) (And.intro (HY6.out.2.1.trans (.of ho7)) hA7)); clear hw7 ho7 hA7)
    obtain ⟨n, hn⟩ : ∃ n, n = h.sl := ⟨_, rfl⟩
    have HG7 : Hid (IsWR N W7 R M (y ++ putN (n : Int) 1) x.1 ∧ OnlyM wrT N M (w.alloc (.cells (factC h f) 57)) W7 ∧ Blk W7 w.heap.size (factC h f) 57) := by rw [hn]; exact G7
    rw [← hn] at hn64 hsle i6 ⊢
    have HN := Lib.hid hn
    obtain ⟨sa, hsa0⟩ : ∃ sa, sa = h.sa := ⟨_, rfl⟩
    rw [← hsa0] at i6 ⊢
    have HSA := Lib.hid hsa0
    clear hn G7 hsa0 g6
    go_loopw [49] (fun si wr => ∃ t : Nat, t ≤ n ∧ si = .int .i64 (t : Int) ∧ Hid (IsW N wr R M ((y ++ putN (n : Int) 1) ++ setW f.typ (f.set.take t)) ∧ OnlyM wrT N M W7 wr)) (fun si _ => (n - intOf si).toNat)
    case atStart => exact ⟨0, Nat.zero_le _, rfl, Lib.hid ⟨by have := HG7.out.1.iw; simpa [setW] using this, OnlyM.refl _ _ _ _⟩⟩
    case round =>
      obtain ⟨t, ht, rfl, hinv⟩ := hrel
      by_cases hlt : t < n
      · have hts : t < f.set.length := by rw [HS.out.2, ← HN.out]; exact hlt
        have hFt := (HF6.out.stepM (OnlyM.of (Only.refl _ _ _)))
        have hso : OnlyM wrT N M (w.alloc (.cells (factC h f) 57)) wr := HG7.out.2.1.trans hinv.out.2
        have hFr := G0.out.2.1.stepM hso
        have hset := hFr.set
        rw [← HN.out] at hset
        obtain ⟨sb, off, hsa⟩ := hset.addr hlt
        rw [hsa] at hset
        obtain ⟨k, hc, hd1, hd2⟩ := data_elem (hset.at hlt)
        have hx := HS.out.1 f.set[t] (List.getElem_mem hts)
        have hsn := setW_snoc f.typ f.set hts
        have hlw := setW_len HS.out.1 t
        obtain ⟨dd, hdd⟩ : ∃ dd, dd = f.set[t] := ⟨_, rfl⟩
        rw [← hdd] at hd1 hx hsn
        have hAr := hso.blk G0.out.2.2.1 (by decide) G0.out.2.2.2
        have j1 : wr.cell? ⟨w.heap.size, 1, none⟩ = some (.int .i64 f.typ) := hAr.cell 1
        have hse : sa = some ⟨sb, off, none⟩ := HSA.out.trans hsa
        subst hse
        have HDS := Lib.hid (And.intro hsn (And.intro hx (And.intro hd1 (And.intro hAr (show ((y ++ putN (n : Int) 1) ++ setW f.typ (f.set.take t)).length ≤ 50000000 by have := HS.out.2; have := HN.out; simp only [List.length_append, putB_len]; omega)))))
        have e0 := hc 0 (by omega)
        have e1 := hc 1 (by omega)
        have e2 := hc 2 (by omega)
        have e3 := hc 3 (by omega)
        have e4 := hc 4 (by omega)
        have hal : Below wr.heap.size wr (wr.alloc (.cells (dataC k) 55)) := (Below.refl _ _).alloc (Nat.le_refl _) _
        have j1' := cell_keep hal j1
        have HAL2 := Lib.hid (And.intro hal (hd1.on hal))
        clear hset hFr hso hc hd1 hd2 hx hsn hlw hdd hAr hsa hFt hal hts
        obtain ⟨ba, bl, bc, ha, hl, hcc, ma, ml, mc, xa, xl, xc, ta, tl, tc⟩ := k
        simp only [dataC] at HAL2 j1'
        simp [dataC, dataK] at e0 e1 e2 e3 e4
        go_wp2_with (go_at_call 99; refine (cdata_any _ N R M _ (hinv.out.1.on HAL2.out.1) f.typ ⟨ba, bl, bc, ha, hl, hcc, ma, ml, mc, xa, xl, xc, ta, tl, tc⟩ dd HAL2.out.2 HDS.out.2.1 HDS.out.2.2.2.2).mono ?_; rintro e W8 ⟨rfl, hw8, ho8⟩; have G8 := Lib.hid (And.intro hw8 ho8); clear hw8 ho8)
        go_roundw
        case rel =>
          have hNr : N ≤ wr.heap.size := hinv.out.1.lt
          refine ⟨t + 1, hlt, by simp, Lib.hid ⟨?_, (hinv.out.2.trans (OnlyM.below HAL2.out.1 hNr)).trans (.of G8.out.2)⟩⟩
          rw [HDS.out.1]
          have := G8.out.1
          simpa [List.append_assoc] using this
        case measure => simp [intOf]; omega
      · obtain rfl : t = n := by omega
        have HZ2 := Lib.hid (show factW f rs b = (y ++ putN (t : Int) 1) ++ setW f.typ (f.set.take t) by rw [HZ.out, HS.out.2, ← HN.out, List.take_of_length_le (by rw [HS.out.2, ← HN.out]; exact Nat.le_refl _)])
        go_wp2_with fail
        go_end0
        rw [HZ2.out]
        exact ⟨rfl, hinv.out.1, (OnlyM.below HAL.out.1 HAL.out.2).trans (HG7.out.2.1.trans hinv.out.2)⟩
  · have hkb : (f.kind == 1) = false := by simpa using hk
    obtain ⟨hp1, hp2, hp3⟩ := HF.out.neg hk
    have HZ := Lib.hid (show factW f rs b = ((nameW false f.zone x.1 y).2 ++ putN ((cdW 6 f.soa).length : Int) 2) ++ cdW 6 f.soa by rw [factW, if_neg hk, HY.out.2])
    have hz1 := nameW_len false f.zone x.1 y
    have hz2 := (sound_small hp1).1
    have hz3 := sizeN_len f.zone
    have g7 : W6.cell? ⟨w.heap.size, 7, none⟩ = some (.slice h.za h.zl h.zc) := HY6.out.2.2.cell 7
    have HP := Lib.hid (And.intro hp1 (And.intro hp2 (show (nameW false f.zone x.1 y).2.length ≤ 3000000 by omega)))
    clear hk hp1 hp2 hp3 hz1 hz2 hz3
    go_wp2_with (first
      | (go_at_call 99; refine (cdata_any W7 N R M _ G7.out.1.iw 6 h.d f.soa (G7.out.2.2.2.soa) HP.out.2.1 (by have := HP.out.2.2; omega)).mono ?_; rintro e W8 ⟨rfl, hw8, ho8⟩; have G8 := Lib.hid (And.intro hw8 (G7.out.2.1.trans (.of ho8))); clear hw8 ho8)
      | (go_at_call 71; refine (wname_any W6 N R M y x.1 HY6.out.1 h.za h.zl h.zc f.zone HF6.out.zone HP.out.1 (ni_of HF6.out.zoneIn) false (by omega) (by have := HL.out.2; omega)).mono ?_; rintro e W7 ⟨rfl, hw7, ho7⟩; have hA7 := ho7.blk HY6.out.2.2 (by decide) G0.out.2.2.2; have z8 : W7.cell? ⟨w.heap.size, 8, none⟩ = some (.slice h.d.ba h.d.bl h.d.bc) := hA7.cell 8; have z9 : W7.cell? ⟨w.heap.size, 9, none⟩ = some (.slice h.d.ha h.d.hl h.d.hc) := hA7.cell 9; have za : W7.cell? ⟨w.heap.size, 10, none⟩ = some (.slice h.d.ma h.d.ml h.d.mc) := hA7.cell 10; have zb : W7.cell? ⟨w.heap.size, 11, none⟩ = some (.slice h.d.na h.d.nl h.d.nc) := hA7.cell 11; have zc : W7.cell? ⟨w.heap.size, 12, none⟩ = some (.slice h.d.ta h.d.tl h.d.tc) := hA7.cell 12; have G7 := Lib.hid (And.intro hw7 (And.intro (HY6.out.2.1.trans ho7) (And.intro hA7 (HF6.out.stepM ho7)))); clear hw7 ho7 hA7))
    refine bodyPost_ret (v := .tuple #[]) (results_none rfl _ _ _) rfl ?_
    rw [HZ.out]
    exact ⟨rfl, G8.out.1, (OnlyM.below HAL.out.1 HAL.out.2).trans G8.out.2⟩
end
section
open Go.ChangeShapes Go.WideShapes Go.ChangeAt Go.RowKit
theorem distinct_data (k : Int) : ∀ (ds seen : List DataP), distinctB k seen ds = true → ∀ d ∈ ds, dataB k d = true
  | [], _, _, d, hd => by cases hd
  | x :: ds, seen, h, d, hd => by
    simp only [distinctB, Bool.and_eq_true] at h
    rcases List.mem_cons.1 hd with rfl | hd
    · exact h.1
    · exact distinct_data k ds _ h.2.2 d hd
theorem fit_of {n : Int} {k : Nat} (h0 : 0 ≤ n) (h1 : n < 256 ^ k) : fitK n k = true := by
  simp only [fitK, Bool.and_eq_true, decide_eq_true_eq]
  omega
/-- what may be fits -/
theorem fits_of {f : FactP} (h : factB f = true) : FactFits f := by
  simp only [factB, headB, Bool.and_eq_true, decide_eq_true_eq] at h
  obtain ⟨⟨hn, hr1, hr2, hg, ht1, ht2⟩, hk⟩ := h
  have hg2 := timeB_out hg
  have e1 : (256 : Int) ^ 1 = 256 := by decide
  have e2 : (256 : Int) ^ 2 = 65536 := by decide
  have e4 : (256 : Int) ^ 4 = 4294967296 := by decide
  have e7 : (256 : Int) ^ 7 = 72057594037927936 := by decide
  have hrank : fitK f.rank 1 = true := fit_of (by omega) (by omega)
  have hgot : fitK f.got 7 = true := fit_of (by omega) (by omega)
  have httl : fitK f.ttl 4 = true := fit_of (by omega) (by omega)
  by_cases h1 : f.kind = 1
  · rw [if_pos h1] at hk
    simp only [hasB, Bool.and_eq_true, decide_eq_true_eq] at hk
    obtain ⟨htp, hs1, hs2, hd, hz, -⟩ := hk
    have htp := typedB_iff.1 htp
    refine ⟨hn, fit_of (by omega) (by omega), fit_of (by omega) (by omega), hrank, hgot, httl, fun _ => ⟨distinct_data _ _ _ hd, hs2, hs1, List.length_eq_zero_iff.1 hz, htp.1⟩, fun h => absurd h1 h⟩
  · rw [if_neg h1] at hk
    simp only [negB, Bool.and_eq_true, Bool.or_eq_true, decide_eq_true_eq] at hk
    obtain ⟨⟨-, hs, hz, -, hd⟩, hk⟩ := hk
    have hty : 0 ≤ f.typ ∧ f.typ ≤ 65534 ∧ 0 ≤ f.kind ∧ f.kind ≤ 3 := by
      rcases hk with ⟨h2, h3⟩ | ⟨h2, h3⟩
      · have := typedB_iff.1 h3; omega
      · omega
    exact ⟨hn, fit_of (by omega) (by omega), fit_of (by omega) (by omega), hrank, hgot, httl, fun h => absurd h h1, fun _ => ⟨hz, hd, List.length_eq_zero_iff.1 hs⟩⟩
/-- the bytes of a fact's entry -/
def putW (f : FactP) : List UInt8 := factW f [] ([] ++ putN 1 1)
theorem putW_len {f : FactP} (h : FactFits f) : (putW f).length ≤ 6000000 ∧ 1 ≤ (putW f).length := by
  have hn1 := nameW_len false f.name [] ([] ++ putN 1 1)
  have hn2 := (sound_small h.name).1
  have e1 : ([] ++ putN 1 1 : List UInt8).length = 1 := by simp [putB_len]
  rw [e1] at hn1
  have hH : (factHead f [] ([] ++ putN 1 1)).2.length ≤ 1000 ∧ 1 ≤ (factHead f [] ([] ++ putN 1 1)).2.length := by
    simp only [factHead, List.length_append, putB_len]
    omega
  unfold putW factW
  by_cases h1 : f.kind = 1
  · rw [if_pos h1]
    obtain ⟨hp1, hp2, -⟩ := h.pos h1
    have hs := setW_len hp1 f.set.length
    rw [List.take_length] at hs
    have : f.set.length * 65537 ≤ 64 * 65537 := Nat.mul_le_mul_right _ hp2
    simp only [List.length_append, putB_len]
    omega
  · rw [if_neg h1]
    obtain ⟨hp1, hp2, -⟩ := h.neg h1
    have hz1 := nameW_len false f.zone (factHead f [] ([] ++ putN 1 1)).1 (factHead f [] ([] ++ putN 1 1)).2
    have hz2 := (sound_small hp1).1
    have hc := cdW_len hp2
    simp only [List.length_append, putB_len]
    omega
set_option maxHeartbeats 16000000 in
set_option maxRecDepth 100000 in
theorem raw_put (w : World) (h : FactH) (f : FactP) (hf : IsFact (fun b => b < w.heap.size) w h f) (hff : FactFits f) :
    Calls Tryz.prog 41 #[.agg (putC h f)] w fun e w' => (∃ ao c, e = .returned (.slice ao (putW f).length c) ∧ Own1 [5] w.heap.size w' ao (putW f).length c ((putW f).map u8V)) ∧ Below w.heap.size w w' := by
  have hal : Below w.heap.size w (w.alloc (.cells (putC h f) 59)) := (Below.refl _ _).alloc (Nat.le_refl _) _
  have hA : Blk (w.alloc (.cells (putC h f) 59)) w.heap.size (putC h f) 59 := heap_alloc_new w _
  have HNW := Lib.hid (wname_new (w.alloc (.cells (putC h f) 59)))
  have hfa := (hf.on hal).mono (S' := fun b => b < (w.alloc (.cells (putC h f) 59)).heap.size) (fun b _ hb => Nat.lt_of_lt_of_le hb hal.size)
  obtain ⟨N, hN⟩ : ∃ N, N = (w.alloc (.cells (putC h f) 59)).heap.size := ⟨_, rfl⟩
  rw [← hN] at HNW hfa
  have hl := putW_len hff
  have HA := Lib.hid (And.intro hal (And.intro hA (And.intro hff (And.intro hN (And.intro hfa hl)))))
  clear hal hA hff hN hf hfa hl
  simp only [putC] at HA HNW ⊢
  go_enter Tryz.func41, Tryz.ntmps41
  go_wp2_with (first
    | (go_at_call 72; refine (wbytes_any W3 N R M (putW f) G3.out.1 (by have := HA.out.2.2.2.2.2.1; omega)).mono ?_; rintro e W4 ⟨⟨ao, c, rfl, ho⟩, hb4⟩; have G4 := Lib.hid (And.intro ho hb4); clear ho hb4)
    | (go_at_call 70; refine (facts_any W2 N R M ([] ++ putN 1 1) [] G2.out.1 h f G2.out.2.2.2 HA.out.2.2.1 (by simp [putB_len]) (by simp)).mono ?_; rintro e W3 ⟨rfl, hw3, ho3⟩; have G3 := Lib.hid (show IsW N W3 R M (putW f) ∧ Below N _ W3 from ⟨hw3, G2.out.2.2.1.trans ho3.bel⟩); clear hw3 ho3)
    | (go_at_call 69; refine (wnum_any W1 N R M [] G1.out.1.iw 1 1 (by omega) (by omega) (by decide) (by simp)).mono ?_; rintro e W2 ⟨rfl, hw2, ho2⟩; have hb := ho2.blk G1.out.2.1 (by decide); have y0 := hb.cell 0; have y2 := hb.cell 2; have y3 := hb.cell 3; have y4 := hb.cell 4; have y5 := hb.cell 5; have y6 := hb.cell 6; have y7 := hb.cell 7; have y8 := hb.cell 8; have y9 := hb.cell 9; have y10 := hb.cell 10; have y11 := hb.cell 11; have y12 := hb.cell 12; have y13 := hb.cell 13; have y14 := hb.cell 14; simp at y0 y2 y3 y4 y5 y6 y7 y8 y9 y10 y11 y12 y13 y14; have hb2 := G1.out.2.2.1.trans ho2.bel; have hf2 := G1.out.2.2.2.stepM (.of ho2); have G2 := Lib.hid (And.intro (G1.out.1.step hw2 ho2) (And.intro hb (And.intro hb2 hf2))); clear hw2 ho2 hb hb2 hf2)
    | (go_at_call 68; refine HNW.out.mono ?_; rintro e W1 ⟨⟨R, M, rfl, hw1, hm1, hM⟩, hb1⟩; have hM1 := HA.out.2.1.on (HA.out.2.2.2.1 ▸ hb1); have c0 : W1.cell? ⟨w.heap.size, 0, none⟩ = some (.int .i64 1) := hM1.cell 0; have hwr : IsWR N W1 R M [] [] := ⟨hw1, MapI.fresh hm1, hM, (by intro x hx; cases hx), (by simp)⟩; have hf1 := (HA.out.2.2.2.2.1.on (HA.out.2.2.2.1 ▸ hb1)).mono (S' := inW N M W1) (fun b _ hb => .inl hb); have G1 := Lib.hid (And.intro hwr (And.intro hM1 (And.intro hb1 hf1))); clear hw1 hm1 hM hM1 hb1 hwr hf1))
  go_ret
  have hb3 : Below w.heap.size w W3 := below_on HA.out.1 (HA.out.2.2.2.1 ▸ G3.out.2) (Nat.le_refl _)
  exact ⟨⟨ao, c, rfl, G4.out.1.mono hb3.size⟩, below_on hb3 G4.out.2 (Nat.le_refl _)⟩
end
section
open Go.ChangeShapes Go.WideShapes Go.ChangeAt Go.RowKit
/-- Encode's error -/
def encE (f : FactP) : Int := if factB f = true then (if (putW f).length ≤ 16384 then 0 else 4) else 2
theorem encE_ok {f : FactP} (h : encE f = 0) : factB f = true ∧ (putW f).length ≤ 16384 := by
  unfold encE at h
  by_cases h1 : factB f = true
  · by_cases h2 : (putW f).length ≤ 16384
    · exact ⟨h1, h2⟩
    · simp [h1, h2] at h
  · simp [h1] at h
set_option maxHeartbeats 8000000 in
set_option maxRecDepth 100000 in
theorem encode_put (w : World) (h : FactH) (f : FactP) (hf : IsFact (fun b => b < w.heap.size) w h f) :
    Calls Tryz.prog 44 #[.agg (putC h f)] w fun e w' => (∃ v, e = .returned (.tuple #[v, .int .i64 (encE f)]) ∧ (encE f = 0 → ∃ ao c, v = .slice ao (putW f).length c ∧ Own1 [5] w.heap.size w' ao (putW f).length c ((putW f).map u8V))) ∧ Below w.heap.size w w' := by
  have hb1 : Below w.heap.size w (w.alloc (.cells (putC h f) 59)) := (Below.refl _ _).alloc (Nat.le_refl _) _
  have a1 : Blk (w.alloc (.cells (putC h f) 59)) w.heap.size (putC h f) 59 := heap_alloc_new w _
  have hfa := hf.on hb1
  have HS := Lib.hid (csound_put _ _ h f hfa)
  have H1 := Lib.hid (And.intro a1 (And.intro hb1 hf))
  clear a1 hb1 hfa hf
  cases hs : factB f with
  | false =>
    rw [hs] at HS
    have HE := Lib.hid (show encE f = 2 by rw [encE, if_neg (by rw [hs]; decide)])
    clear hs
    go_enter Tryz.func44, Tryz.ntmps44
    go_wp2_with (first
      | (refine wpList_load_row rfl 59 _ rfl w.heap.size rfl 59 (putC h f) (0, 0) _ H1.out.1 Tryz.underlying59 rfl entSize ?_)
      | (go_at_call 39; refine HS.out.mono ?_; rintro e W2 ⟨rfl, hb⟩; have H2 := Lib.hid (below_on H1.out.2.1 hb (Nat.le_refl _)); clear hb))
    go_ret2
    rw [HE.out]
    exact ⟨⟨_, rfl, fun h => absurd h (by decide)⟩, H2.out⟩
  | true =>
    rw [hs] at HS
    have hff := fits_of hs
    have hl := putW_len hff
    have HR := Lib.hid (fun W (hb : Below w.heap.size w W) => raw_put W h f ((H1.out.2.2.on hb).mono (fun b _ hb2 => Nat.lt_of_lt_of_le hb2 hb.size)) hff)
    by_cases hn : (putW f).length ≤ 16384
    · have HE := Lib.hid (show encE f = 0 by rw [encE, if_pos hs, if_pos hn])
      obtain ⟨n, hnn⟩ : ∃ n, n = (putW f).length := ⟨_, rfl⟩
      rw [← hnn] at HR hn ⊢
      have hlt : decide ((16384 : Int) < (n : Int)) = false := decide_eq_false (by omega)
      clear hs hff hl hnn
      go_enter Tryz.func44, Tryz.ntmps44
      go_wp2_with (first
        | (refine wpList_load_row rfl 59 _ rfl w.heap.size rfl 59 (putC h f) (0, 0) _ H2.out.1 Tryz.underlying59 rfl entSize ?_)
        | (refine wpList_load_row rfl 59 _ rfl w.heap.size rfl 59 (putC h f) (0, 0) _ H1.out.1 Tryz.underlying59 rfl entSize ?_)
        | (go_at_call 41; refine (HR.out W2 H2.out.2).mono ?_; rintro e W3 ⟨⟨ao, c, rfl, ho⟩, hb⟩; have H3 := Lib.hid (And.intro ho (below_on H2.out.2 hb (Nat.le_refl _))); clear ho hb)
        | (go_at_call 39; refine HS.out.mono ?_; rintro e W2 ⟨rfl, hb⟩; have H2 := Lib.hid (And.intro (H1.out.1.on hb) (below_on H1.out.2.1 hb (Nat.le_refl _))); clear hb))
      go_ret2
      rw [HE.out]
      exact ⟨⟨_, rfl, fun _ => ⟨ao, c, rfl, H3.out.1.mono H2.out.2.size⟩⟩, H3.out.2⟩
    · have HE := Lib.hid (show encE f = 4 by rw [encE, if_pos hs, if_neg hn])
      obtain ⟨n, hnn⟩ : ∃ n, n = (putW f).length := ⟨_, rfl⟩
      rw [← hnn] at HR hn hl ⊢
      have hlt : decide ((16384 : Int) < (n : Int)) = true := decide_eq_true (by omega)
      clear hs hff hl hnn
      go_enter Tryz.func44, Tryz.ntmps44
      go_wp2_with (first
        | (refine wpList_load_row rfl 59 _ rfl w.heap.size rfl 59 (putC h f) (0, 0) _ H2.out.1 Tryz.underlying59 rfl entSize ?_)
        | (refine wpList_load_row rfl 59 _ rfl w.heap.size rfl 59 (putC h f) (0, 0) _ H1.out.1 Tryz.underlying59 rfl entSize ?_)
        | (go_at_call 41; refine (HR.out W2 H2.out.2).mono ?_; rintro e W3 ⟨⟨ao, c, rfl, ho⟩, hb⟩; have H3 := Lib.hid (And.intro ho (below_on H2.out.2 hb (Nat.le_refl _))); clear ho hb)
        | (go_at_call 39; refine HS.out.mono ?_; rintro e W2 ⟨rfl, hb⟩; have H2 := Lib.hid (And.intro (H1.out.1.on hb) (below_on H1.out.2.1 hb (Nat.le_refl _))); clear hb))
      go_ret2
      rw [HE.out]
      exact ⟨⟨_, rfl, fun h => absurd h (by decide)⟩, H3.out.2⟩
set_option maxHeartbeats 8000000 in
set_option maxRecDepth 100000 in
theorem record_put (w : World) (h : FactH) (f : FactP) (hf : IsFact (fun b => b < w.heap.size) w h f) (he : encE f = 0) :
    Calls Tryz.prog 47 #[.agg (putC h f)] w fun e w' => (∃ ao c, e = .returned (.tuple #[.slice ao (putW f).length c, .int .i64 (partsN (putW f).length : Int), .int .i64 0]) ∧ Own1 [5] w.heap.size w' ao (putW f).length c ((putW f).map u8V)) ∧ Below w.heap.size w w' := by
  have hb1 : Below w.heap.size w (w.alloc (.cells (putC h f) 59)) := (Below.refl _ _).alloc (Nat.le_refl _) _
  have a1 : Blk (w.alloc (.cells (putC h f) 59)) w.heap.size (putC h f) 59 := heap_alloc_new w _
  have hfa := (hf.on hb1).mono (S' := fun b => b < (w.alloc (.cells (putC h f) 59)).heap.size) (fun b hb _ => hb)
  have hs := encode_put _ h f hfa
  rw [he] at hs
  have hb16 := (encE_ok he).2
  have hge := (putW_len (fits_of (encE_ok he).1)).2
  obtain ⟨n, hn⟩ : ∃ n, n = (putW f).length := ⟨_, rfl⟩
  rw [← hn] at hs hb16 hge ⊢
  have HS := Lib.hid hs
  have H1 := Lib.hid (And.intro a1 hb1)
  have HP := Lib.hid (show max (((n : Int) + 496 - 1) / 496) 1 = (partsN n : Int) by rw [partsN]; omega)
  clear hs a1 hb1 hn hf he hfa
  go_enter Tryz.func47, Tryz.ntmps47
  go_wp2_with (first
    | (refine wpList_load_row rfl 59 _ rfl w.heap.size rfl 59 (putC h f) (0, 0) _ H1.out.1 Tryz.underlying59 rfl entSize ?_)
    | (go_at_call 44; refine HS.out.mono ?_; rintro e W3 ⟨⟨v, rfl, hv⟩, hb⟩; obtain ⟨ao, c, rfl, ho⟩ := hv rfl; have H3 := Lib.hid (And.intro (ho.mono H1.out.2.size) (below_on H1.out.2 hb (Nat.le_refl _))); clear ho hb hv))
  go_ret3
  exact ⟨⟨ao, c, by rw [HP.out]; rfl, H3.out.1⟩, H3.out.2⟩
end
section
open Go.ChangeShapes Go.WideShapes Go.ChangeAt Go.RowKit
/-- where entries lie -/
def eT : List TypeId := 59 :: 57 :: fT
/-- an entry's record is known, as long as the entries' memory stays -/
def RecIs (w : World) (ev : Array Value) (bs : List UInt8) : Prop := ∀ W, w.heap.size ≤ W.heap.size → Same (tagged eT w) w W → Calls Tryz.prog 47 #[.agg ev] W fun e w' => (∃ ao c, e = .returned (.tuple #[.slice ao bs.length c, .int .i64 (partsN bs.length : Int), .int .i64 0]) ∧ Own1 [5] W.heap.size w' ao bs.length c (bs.map u8V)) ∧ Below W.heap.size W w'
theorem RecIs.step {w w1 : World} {ev : Array Value} {bs : List UInt8} (h : RecIs w ev bs) (hz : w.heap.size ≤ w1.heap.size) (hs : Same (tagged eT w) w w1) : RecIs w1 ev bs := fun W hz2 h2 => h W (Nat.le_trans hz hz2) (hs.step h2)
theorem RecIs.on {w w1 : World} {ev : Array Value} {bs : List UInt8} (h : RecIs w ev bs) (hb : Below w.heap.size w w1) : RecIs w1 ev bs := h.step hb.size (Same.below hb _)
theorem rec_clock (w : World) (t : Int) (ht : timeB t = true) (htf : fitK t 7 = true) : RecIs w (blankC 3 t (.slice none 0 0)) (clockW t) := fun W _ _ => by
  have h := record_clock W t ht htf
  rw [clockW_len]
  exact h
theorem rec_put (w : World) (h : FactH) (f : FactP) (hf : IsFact (tagged eT w) w h f) (he : encE f = 0) : RecIs w (putC h f) (putW f) := fun W _ hs =>
  record_put W h f ((factK.step (x := f) hf hs).mono (fun _ hb _ => hb)) he
theorem fact_eT {w : World} {h : FactH} {f : FactP} (hf : IsFact (tagged fT w) w h f) : IsFact (tagged eT w) w h f := hf.mono (fun _ _ ht => tagged_mono ht (by decide))
set_option maxHeartbeats 8000000 in
set_option maxRecDepth 100000 in
theorem kappend_any (w : World) (B K C L D : Nat) (pl no te : Int) (me dn : Bool) (l : LogP) (d : DevP) (hK : Blk w K (keepC C L pl no te me dn) 48) (hB : B ≤ K) (hl : IsLog B w L D l) (hd : IsDev B w D d) (hc : CanApp d l) (ev : Array Value) (bs : List UInt8) (hev : ev.size = 16) (hr : RecIs w ev bs) (hb0 : 1 ≤ bs.length) (hb1 : bs.length ≤ 16384) :
    Calls Tryz.prog 50 #[.pointer (some ⟨K, 0, none⟩), .agg ev] w fun e w' => e = .returned (.int .i64 (appP d l bs).2.2.2) ∧ Blk w' K (keepC C L pl no te me (dn || ((appP d l bs).2.2.2 == 8))) 48 ∧ IsLog B w' L D (appP d l bs).2.1 ∧ IsDev B w' D (appP d l bs).1 ∧ Only kT B w w' := by
  have hb1' : Below w.heap.size w (w.alloc (.cells ev 59)) := (Below.refl _ _).alloc (Nat.le_refl _) _
  have a1 : Blk (w.alloc (.cells ev 59)) w.heap.size ev 59 := heap_alloc_new w _
  have hs := (hr.on hb1') _ (Nat.le_refl _) (Same.refl _ _)
  have hsz : (Tryz.prog.info? 59).map (·.size) = some ev.size := by rw [hev]; exact entSize
  obtain ⟨n, hn⟩ : ∃ n, n = bs.length := ⟨_, rfl⟩
  rw [← hn] at hs
  have HS := Lib.hid hs
  have H1 := Lib.hid (And.intro a1 (And.intro hb1' (And.intro hK (And.intro hl (And.intro hd (And.intro hc hB))))))
  have HSZ := Lib.hid hsz
  obtain ⟨x, hx⟩ : ∃ x, x = appP d l bs := ⟨_, rfl⟩
  rw [← hx]
  have HX := Lib.hid hx
  have HN := Lib.hid (And.intro hn (And.intro (show 1 ≤ n by omega) (show n ≤ 1000000 by omega)))
  clear hs hr hev hsz a1 hb1' hK hl hd hc hB hx hn hb0 hb1
  go_enter Tryz.func50, Tryz.ntmps50
  go_wp2_with (first
    | (go_at_call 25; refine (kdid_any W3 K C L pl no te me dn H3.out.2.2.1 _).mono ?_; rintro e W4 ⟨rfl, hk4, hg4⟩; have H4 := Lib.hid (And.intro hk4 hg4); clear hk4 hg4)
    | (go_at_call 81; have hap := lapp_any W2 B L D l d (H1.out.2.2.2.1.on H2.out.2) (H1.out.2.2.2.2.1.on H2.out.2) H1.out.2.2.2.2.2.1.len ao n c bs H2.out.1.row (fun h a ha => (H2.out.1.mem h a ha).1) HN.out.2.1 HN.out.2.2 H1.out.2.2.2.2.2.1.fin H1.out.2.2.2.2.2.1.ep H1.out.2.2.2.2.2.1.nx H1.out.2.2.2.2.2.1.cnt H1.out.2.2.2.2.2.1.un; rw [← HX.out] at hap; refine hap.mono ?_; rintro e W3 ⟨rfl, hl3, hd3, ho3⟩; have H3 := Lib.hid (And.intro hl3 (And.intro hd3 (And.intro (ho3.blk (Blk.on H1.out.2.2.1 H2.out.2) (by decide)) ho3))); clear hap hl3 hd3 ho3)
    | (refine wpList_load_row rfl 59 _ rfl w.heap.size rfl 59 ev (0, 0) _ H1.out.1 Tryz.underlying59 rfl HSZ.out ?_)
    | (go_at_call 47; refine HS.out.mono ?_; rintro e W2 ⟨⟨ao, c, rfl, ho⟩, hb⟩; have hbw := below_on H1.out.2.1 hb (Nat.le_refl _); have c1 : W2.cell? ⟨K, 1, none⟩ = some (.pointer (some ⟨L, 0, none⟩)) := (Blk.on H1.out.2.2.1 hbw).cell 1; have H2 := Lib.hid (And.intro ho hbw); clear ho hb hbw))
  go_ret
  obtain ⟨hl3, hd3, hk3, ho3⟩ := H3.out
  have h4 : Only [48] B W3 W4 := Only.but H4.out.2 hk3 List.mem_cons_self H1.out.2.2.2.2.2.2
  refine ⟨rfl, H4.out.1, hl3.only h4 (by decide) (by decide), lg_dv hd3 h4 (by decide) (by decide) (by decide) (by decide), ?_⟩
  exact (Only.below H2.out.2 H1.out.2.2.2.2.1.Ble).trans ((ho3.mono (by decide)).trans (h4.mono (by decide)))
set_option maxHeartbeats 16000000 in
set_option maxRecDepth 100000 in
/-- write where no compaction is called for -/
theorem kwrite_room (w : World) (B K C L D : Nat) (pl no te : Int) (hK : Blk w K (keepC C L pl no te false false) 48) (hB : B ≤ K) (l : LogP) (d : DevP) (hl : IsLog B w L D l) (hd : IsDev B w D d) (hc : CanApp d l) (ev : Array Value) (bs : List UInt8) (hev : ev.size = 16) (hr : RecIs w ev bs) (hb0 : 1 ≤ bs.length) (hb1 : bs.length ≤ 16384)
    (hpl : 0 ≤ pl ∧ pl ≤ 100000) (hrm : decide (IntKind.i64.wrap (roomL d l - (partsN bs.length : Int)) < IntKind.i64.wrap (pl.tdiv 3)) = false) (d1 : DevP) (l1 : LogP) (s1 : Int) (hap : appP d l bs = (d1, l1, s1, 0)) :
    Calls Tryz.prog 24 #[.pointer (some ⟨K, 0, none⟩), .agg ev] w fun e w' => e = .returned (.int .i64 0) ∧ Blk w' K (keepC C L pl no te false false) 48 ∧ IsLog B w' L D l1 ∧ IsDev B w' D d1 ∧ Only kT B w w' := by
  have hb1' : Below w.heap.size w (w.alloc (.cells ev 59)) := (Below.refl _ _).alloc (Nat.le_refl _) _
  have a1 : Blk (w.alloc (.cells ev 59)) w.heap.size ev 59 := heap_alloc_new w _
  have k1 := hK.on hb1'
  have y5 : (w.alloc (.cells ev 59)).cell? ⟨K, 5, none⟩ = some (.bool false) := k1.cell 5
  have y6 : (w.alloc (.cells ev 59)).cell? ⟨K, 6, none⟩ = some (.bool false) := k1.cell 6
  have hs := (hr.on hb1') _ (Nat.le_refl _) (Same.refl _ _)
  have hsz : (Tryz.prog.info? 59).map (·.size) = some ev.size := by rw [hev]; exact entSize
  obtain ⟨n, hn⟩ : ∃ n, n = bs.length := ⟨_, rfl⟩
  rw [← hn] at hs hrm
  obtain ⟨p, hp⟩ : ∃ p : Int, p = (partsN n : Int) := ⟨_, rfl⟩
  rw [← hp] at hs hrm
  have HS := Lib.hid hs
  have H1 := Lib.hid (And.intro a1 (And.intro hb1' (And.intro hK (And.intro hB (And.intro hl (And.intro hd (And.intro hc hap)))))))
  have HRM := Lib.hid (And.intro hrm hpl)
  have HR := Lib.hid (And.intro hr (And.intro hev (And.intro hb0 hb1)))
  have HSZ := Lib.hid hsz
  clear hs hb1' a1 k1 hK hB hl hd hc hap hrm hpl hr hev hb0 hb1 hsz hn hp
  go_enter Tryz.func24, Tryz.ntmps24
  go_upto_region 8 with (first
    | (refine wpList_load_row rfl 59 _ rfl w.heap.size rfl 59 ev (0, 0) _ H1.out.1 Tryz.underlying59 rfl HSZ.out ?_)
    | (go_at_call 47; refine HS.out.mono ?_; rintro e W2 ⟨⟨ao, c, rfl, -⟩, hb⟩; have hbw := below_on H1.out.2.1 hb (Nat.le_refl _); have H2 := Lib.hid (And.intro hbw (H1.out.1.on hb)); clear hb hbw))
  have hbd := Below.drew (Below.refl W2.heap.size W2)
  have hbw := below_on H2.out.1 hbd (Nat.le_refl _)
  have k2 := Blk.on H1.out.2.2.1 hbw
  have D0 := Lib.hid (show W2.drew.cell? ⟨K, 1, none⟩ = some (.pointer (some ⟨L, 0, none⟩)) ∧ W2.drew.cell? ⟨K, 2, none⟩ = some (.int .i64 pl) from ⟨k2.cell 1, k2.cell 2⟩)
  have HRO := Lib.hid (lroom_any W2.drew B L D l d (H1.out.2.2.2.2.1.on hbw) (H1.out.2.2.2.2.2.1.on hbw) (by have := H1.out.2.2.2.2.2.2.1.len; omega) (by have := H1.out.2.2.2.2.2.2.1.fin; omega))
  have HK2 := Lib.hid (And.intro hbd k2)
  clear hbd hbw k2
  go_cut [40] (fun c wx => c = .bool false ∧ Hid (Below W2.heap.size W2 wx))
  case first =>
    go_region_held3 (fun w' => w'.cell? ⟨K, 1, none⟩ = some (.pointer (some ⟨L, 0, none⟩)) ∧ w'.cell? ⟨K, 2, none⟩ = some (.int .i64 pl))
      (first | exact D0.out | exact D3.out | go_keep)
      (first | (go_at_call 48; refine HRO.out.mono ?_; rintro e W3 ⟨rfl, hb3⟩; have k3 := Blk.on HK2.out.2 hb3; have D3 := Lib.hid (show W3.cell? ⟨K, 1, none⟩ = some (.pointer (some ⟨L, 0, none⟩)) ∧ W3.cell? ⟨K, 2, none⟩ = some (.int .i64 pl) from ⟨k3.cell 1, k3.cell 2⟩); have H3 := Lib.hid (below_on HK2.out.1 hb3 (Nat.le_refl _)); clear hb3 k3))
    all_goals
      go_split_ands
      go_wp2_with fail
      go_meet
      exact ⟨by rw [HRM.out.1], Lib.hid H3.out⟩
  case rest =>
    obtain ⟨rfl, hcw⟩ := hcut
    have hbw := below_on H2.out.1 hcw.out (Nat.le_refl _)
    have H4 := Lib.hid (And.intro hbw (H2.out.2.on hcw.out))
    clear hcw hbw y5 y6
    go_wp2_with (first
      | (go_at_call 50; have hka := kappend_any wc B K C L D pl no te false false l d (Blk.on H1.out.2.2.1 H4.out.1) H1.out.2.2.2.1 (H1.out.2.2.2.2.1.on H4.out.1) (H1.out.2.2.2.2.2.1.on H4.out.1) H1.out.2.2.2.2.2.2.1 ev bs HR.out.2.1 (HR.out.1.on H4.out.1) HR.out.2.2.1 HR.out.2.2.2; rw [H1.out.2.2.2.2.2.2.2] at hka; refine hka.mono ?_; rintro e W5 ⟨rfl, hk5, hl5, hd5, ho5⟩; have hk5' : Blk W5 K (keepC C L pl no te false false) 48 := hk5; have z5 : W5.cell? ⟨K, 5, none⟩ = some (.bool false) := hk5'.cell 5; have u5 := hk5'.free 5; have H5 := Lib.hid (And.intro hk5' (And.intro hl5 (And.intro hd5 ((Only.below H4.out.1 H1.out.2.2.2.2.2.1.Ble).trans ho5)))); clear hka hk5 hk5' hl5 hd5 ho5)
      | (refine wpList_load_row rfl 59 _ rfl w.heap.size rfl 59 ev (0, 0) _ H4.out.2 Tryz.underlying59 rfl HSZ.out ?_))
    go_ret
    have hs := H5.out.1.set 5 (.bool false)
    have hon : Only [48] B W5 (W5.setCell ⟨K, 5, none⟩ (.bool false)) := Only.but (but_set W5 K 5 (.bool false)) H5.out.1 List.mem_cons_self H1.out.2.2.2.1
    exact ⟨rfl, by simpa [keepC] using hs, H5.out.2.1.only hon (by decide) (by decide), lg_dv H5.out.2.2.1 hon (by decide) (by decide) (by decide) (by decide), H5.out.2.2.2.trans (hon.mono (by decide))⟩
end
section
open Go.ChangeShapes Go.WideShapes Go.ChangeAt Go.RowKit
/-- what stays of a list of which no more than most may stay -/
def trimL (most : Int) (L : List Slot) : List Slot := if (L.length : Int) ≤ most then L else L.tail
theorem ranges_on {H : Type} {P : Program} {k : TypeId} {R : Value → Option (DataW H × List MemPlace)} {w w' : World} {b r n : Nat} {D : DataW H} {left : Lit → Bool} {cnt : Nat} (h : w.ranges P k R b r n D left cnt) (hb : w'.heap[b]? = w.heap[b]?) (hr : w'.heap[r]? = w.heap[r]?) : w'.ranges P k R b r n D left cnt := by
  obtain ⟨es, clock, since, seen, c0, h1, h2, h3, h4, h5, h6⟩ := h
  exact ⟨es, clock, since, seen, c0, hb.trans h1, h2, h3, h4, hr.trans h5, h6⟩
theorem atL_of_mem {L : List Slot} (hk : L.Pairwise fun a b => keyF a.f ≠ keyF b.f) {s : Slot} (h : s ∈ L) : atL L (keyF s.f) = some s := by
  induction L with
  | nil => cases h
  | cons a L ih =>
    obtain ⟨h1, h2⟩ := List.pairwise_cons.1 hk
    rcases List.mem_cons.1 h with e | h'
    · subst e; simp [atL]
    · have hne := h1 s h'
      have := ih h2 h'
      simp only [atL] at this ⊢
      rw [List.find?_cons_of_neg (by simpa using hne)]
      exact this
theorem key_inj {L : List Slot} (hk : L.Pairwise fun a b => keyF a.f ≠ keyF b.f) {s t : Slot} (hs : s ∈ L) (ht : t ∈ L) (h : keyF s.f = keyF t.f) : s = t := by
  have h1 := atL_of_mem hk hs
  have h2 := atL_of_mem hk ht
  rw [h, h2] at h1
  exact (Option.some.inj h1).symm
/-- what the search for the oldest knows -/
def EvSt (L : List Slot) (left : Lit → Bool) (od : ByteArray) : Prop :=
  (od = ⟨#[]⟩ ∧ ∀ s ∈ L, left (.string (keyF s.f)) = true) ∨ ∃ s ∈ L, od = ⟨(keyF s.f).toArray⟩ ∧ left (.string (keyF s.f)) = false ∧ ∀ x ∈ L, left (.string (keyF x.f)) = false → s.used ≤ x.used
theorem sameKey_str (a b : List UInt8) : (Lit.string a).sameKey (.string b) = decide (a = b) := by
  by_cases h : a = b <;> simp [Lit.sameKey, h]
theorem ev_start {L : List Slot} {D : DataW Unit} (h : ∀ key z, D.atKey (.string key) z = (match atL L key with | some s => .lit (.int .i64 s.b) | none => z)) (hk : L.Pairwise fun a b => keyF a.f ≠ keyF b.f) : EvSt L (Maps.has D) ⟨#[]⟩ := by
  refine .inl ⟨rfl, fun s hs => ?_⟩
  have := h (keyF s.f)
  rw [atL_of_mem hk hs] at this
  exact Maps.has_true_of_atKey this
theorem ev_step {L : List Slot} (hk : L.Pairwise fun a b => keyF a.f ≠ keyF b.f) {left : Lit → Bool} {od : ByteArray} (h : EvSt L left od) {x : ByteArray} {s : Slot} (hs : s ∈ L) (hx : x.data.toList = keyF s.f) {take : Bool}
    (ht : take = true ↔ (od = ⟨#[]⟩ ∨ ∀ t ∈ L, od = ⟨(keyF t.f).toArray⟩ → s.used < t.used)) : EvSt L (fun z => left z && !z.sameKey (.string x.data.toList)) (if take = true then x else od) := by
  have hxs : x = ⟨(keyF s.f).toArray⟩ := by rw [← hx]
  have key : ∀ t ∈ L, (left (.string (keyF t.f)) && !(Lit.string (keyF t.f)).sameKey (.string x.data.toList)) = false → left (.string (keyF t.f)) = false ∨ t = s := by
    intro t ht' h'
    rw [hx, sameKey_str] at h'
    by_cases he : keyF t.f = keyF s.f
    · exact .inr (key_inj hk ht' hs he)
    · simp [he] at h'; exact .inl h'
  have hsx : (left (.string (keyF s.f)) && !(Lit.string (keyF s.f)).sameKey (.string x.data.toList)) = false := by rw [hx, sameKey_str]; simp
  rcases h with ⟨h1, h2⟩ | ⟨o, ho, h1, h2, h3⟩
  · have : take = true := ht.2 (.inl h1)
    rw [if_pos this]
    refine .inr ⟨s, hs, hxs, hsx, fun t ht' h' => ?_⟩
    rcases key t ht' h' with h | h
    · rw [h2 t ht'] at h; cases h
    · subst h; exact Nat.le_refl _
  · cases take with
    | true =>
      have hlt : s.used < o.used := by
        rcases ht.1 rfl with h | h
        · exfalso
          rw [h1] at h
          have h4 := keyP_len o.f.name o.f.typ
          have : (keyF o.f).toArray = #[] := by injection h
          have : (keyF o.f).length = 0 := by rw [← List.size_toArray, this]; rfl
          rw [keyF] at this
          omega
        · exact h o ho h1
      rw [if_pos rfl]
      refine .inr ⟨s, hs, hxs, hsx, fun t ht' h' => ?_⟩
      rcases key t ht' h' with h | h
      · have := h3 t ht' h; omega
      · subst h; exact Nat.le_refl _
    | false =>
      rw [if_neg (by decide)]
      have hle : o.used ≤ s.used := by
        rcases Nat.lt_or_ge s.used o.used with h | h
        · exfalso
          have := ht.2 (.inr fun t ht' e => by
            have : t = o := key_inj hk ht' ho (by
              rw [h1] at e
              have e2 : (keyF o.f).toArray = (keyF t.f).toArray := by injection e
              have := congrArg Array.toList e2
              simpa using this.symm)
            subst this; exact h)
          cases this
        · exact h
      refine .inr ⟨o, ho, h1, by simp [h2], fun t ht' h' => ?_⟩
      rcases key t ht' h' with h | h
      · exact h3 t ht' h
      · subst h; exact hle
/-- at the end the oldest is the head -/
theorem ev_end {L : List Slot} (hk : L.Pairwise fun a b => keyF a.f ≠ keyF b.f) (hu : L.Pairwise fun a b => a.used < b.used) {left : Lit → Bool} {od : ByteArray} (h : EvSt L left od) (hl : ∀ kl, left kl = false) (hne : L ≠ []) :
    ∃ s T, L = s :: T ∧ od = ⟨(keyF s.f).toArray⟩ ∧ offL L (keyF s.f) = T := by
  cases L with
  | nil => exact absurd rfl hne
  | cons a T =>
    obtain ⟨k1, k2⟩ := List.pairwise_cons.1 hk
    obtain ⟨u1, u2⟩ := List.pairwise_cons.1 hu
    rcases h with ⟨_, h2⟩ | ⟨o, ho, h1, _, h3⟩
    · have := h2 a (List.mem_cons_self ..)
      rw [hl] at this; cases this
    · have h4 := h3 a (List.mem_cons_self ..) (hl _)
      have : o = a := by
        rcases List.mem_cons.1 ho with e | ho'
        · exact e
        · have := u1 o ho'; omega
      subst this
      refine ⟨o, T, rfl, h1, ?_⟩
      rw [offL, List.filter_cons_of_neg (by simp)]
      rw [List.filter_eq_self]
      intro t ht
      simpa using fun e => k1 t ht e.symm
/-- 'delete(m, k)' -/
theorem MapL.dropped {w w' : World} {M n : Nat} {L : List Slot} {D : DataW Unit} {key : List UInt8} {s : Slot} (h1 : w.ownsMap Tryz.prog 9 ptrR M n D) (h2 : n ≤ 1000000) (h3 : Maps.size D = L.length) (h4 : ∀ key z, D.atKey (.string key) z = (match atL L key with | some s => .lit (.int .i64 s.b) | none => z))
    (hk : L.Pairwise fun a b => keyF a.f ≠ keyF b.f) (hat : atL L key = some s) (h' : w'.ownsMap Tryz.prog 9 ptrR M n (D.del (.string key))) : MapL w' M (offL L key) := by
  refine ⟨n, _, h', h2, ?_, fun kk z => ?_⟩
  · have hh : Maps.has D (.string key) = true := by
      have := h4 key
      rw [hat] at this
      exact Maps.has_true_of_atKey this
    have := Maps.size_del (k := .string key) (h1.tidy lawK)
    rw [hh, if_pos rfl, h3] at this
    have := off_len hk hat
    omega
  · rw [atL_off]
    by_cases he : kk = key
    · subst he
      rw [if_pos rfl, Maps.atKey_del_same]
    · rw [if_neg he, Maps.atKey_del_other (by intro e; cases e; exact he rfl), h4]
      cases atL L kk <;> rfl
theorem trim_law {B : Nat} {w w' : World} {C k M : Nat} {most stale : Int} {s : Slot} {T : List Slot} (hC : IsCache B w C most stale k (s :: T)) (hCb : Blk w C #[.int .i64 most, .int .i64 stale, .map (some M), .int .i64 k] 75) (hMB : B ≤ M) (hML : MapL w M (s :: T))
    (hM' : MapL w' M T) (hg : w.grownBy w' (some M)) : IsCache B w' C most stale k T ∧ Left B w w' := by
  have hCM := blk_map_ne hCb hML
  have same : Same (tagged gT w) w w' := fun b hb ht => hg.block b hb (fun e => tagged_mapL hML ht (Option.some.inj e))
  refine ⟨⟨⟨M, hCb.but hg hCM, hMB, hM'⟩, hC.base, fun x hx => ?_, (List.pairwise_cons.1 hC.apart).2, (List.pairwise_cons.1 hC.keys).2, fun x hx => hC.used x (List.mem_cons_of_mem _ hx), (List.pairwise_cons.1 hC.order).2⟩, ?_, same⟩
  · obtain ⟨a, b, c, d⟩ := hC.slot x (List.mem_cons_of_mem _ hx)
    exact ⟨a, b.but hg (blk_map_ne b hML), c.step (same.mono (fun _ _ ht => tagged_mono ht fT_gT)), d⟩
  · exact (Below.refl B w).grown hg (by have := hML.lt; omega) (fun j e => by cases e; exact hMB)
end
section
open Go.ChangeShapes Go.WideShapes Go.ChangeAt Go.RowKit
def beatsB (f g : FactP) (now : Int) : Bool := factB f && (factB g && (timeB now && (decide (keyF f = keyF g) && (decide (f.rank ≤ g.rank) || !decide (0 < leftZ f.got f.ttl now)))))
theorem sound_smallB {n : List ByteArray} (h : soundB n = true) : sizeN n ≤ 254 := by
  simp only [soundB, Bool.and_eq_true, decide_eq_true_eq] at h
  omega
theorem fact_small {f : FactP} (h : factB f = true) : sizeN f.name ≤ 254 := by
  simp only [factB, headB, Bool.and_eq_true] at h
  exact sound_smallB h.1.1
theorem str_beq (a b : List UInt8) : ((⟨a.toArray⟩ : ByteArray).toList == (⟨b.toArray⟩ : ByteArray).toList) = decide (a = b) := by
  rw [toList_beq]
  rw [Bool.eq_iff_iff, decide_eq_true_eq, decide_eq_true_eq]
  constructor
  · intro h
    have := congrArg (fun x : ByteArray => x.data.toList) h
    simpa using this
  · intro h; rw [h]
set_option maxHeartbeats 16000000 in
set_option maxRecDepth 100000 in
theorem beats_any (w : World) (S R : Nat → Prop) (h k : FactH) (f g : FactP) (now : Int) (hf : IsFact S w h f) (hg : IsFact R w k g) :
    Calls Tryz.prog 76 #[.agg (factC h f), .agg (factC k g), .int .i64 now] w fun e w' => e = .returned (.bool (beatsB f g now)) ∧ Below w.heap.size w w' := by
  have hb1 : Below w.heap.size w (w.alloc (.cells (factC h f) 57)) := (Below.refl _ _).alloc (Nat.le_refl _) _
  have hs1 : (w.alloc (.cells (factC h f) 57)).heap.size = w.heap.size + 1 := by simp
  have hb2 : Below w.heap.size w ((w.alloc (.cells (factC h f) 57)).alloc (.cells (factC k g) 57)) := hb1.alloc (by omega) _
  have hA0 : Blk (w.alloc (.cells (factC h f) 57)) w.heap.size (factC h f) 57 := heap_alloc_new w _
  have HA0 := Lib.hid (hA0.on ((Below.refl _ _).alloc (Nat.le_refl _) (.cells (factC k g) 57)))
  have HD0 := Lib.hid (show Blk ((w.alloc (.cells (factC h f) 57)).alloc (.cells (factC k g) 57)) (w.heap.size + 1) (factC k g) 57 by rw [← hs1]; exact heap_alloc_new _ _)
  have HB0 := Lib.hid hb2
  have HY0 := Lib.hid (Below.refl ((w.alloc (.cells (factC h f) 57)).alloc (.cells (factC k g) 57)).heap.size ((w.alloc (.cells (factC h f) 57)).alloc (.cells (factC k g) 57)))
  have HF0 := Lib.hid (hf.on hb2)
  have HG0 := Lib.hid (hg.on hb2)
  obtain ⟨FB, hFB⟩ : ∃ q : Bool, q = factB f := ⟨_, rfl⟩
  obtain ⟨GB, hGB⟩ : ∃ q : Bool, q = factB g := ⟨_, rfl⟩
  obtain ⟨TB, hTB⟩ : ∃ q : Bool, q = timeB now := ⟨_, rfl⟩
  obtain ⟨RB, hRB⟩ : ∃ q : Bool, q = decide (0 < leftZ f.got f.ttl now) := ⟨_, rfl⟩
  obtain ⟨K1, hK1⟩ : ∃ q : ByteArray, q = (⟨(keyF f).toArray⟩ : ByteArray) := ⟨_, rfl⟩
  obtain ⟨K2, hK2⟩ : ∃ q : ByteArray, q = (⟨(keyF g).toArray⟩ : ByteArray) := ⟨_, rfl⟩
  obtain ⟨B, hB⟩ : ∃ q, q = beatsB f g now := ⟨_, rfl⟩
  have HFB := Lib.hid (fun w' (p : IsFact S w' h f) => fsound_any w' S _ _ p)
  rw [← hFB] at HFB
  have HGB := Lib.hid (fun w' (p : IsFact R w' k g) => fsound_any w' R _ _ p)
  rw [← hGB] at HGB
  have HTB := Lib.hid (fun w' => time_any now w')
  rw [← hTB] at HTB
  have HRB := Lib.hid (fun w' => fresh_any f.got f.ttl now w')
  rw [← hRB] at HRB
  have HK1 := Lib.hid (fun w' (p : IsFact S w' h f) (q : sizeN f.name ≤ 1099511627776) => fkey_any w' h f p.name q)
  rw [← hK1] at HK1
  have HK2 := Lib.hid (fun w' (p : IsFact R w' k g) (q : sizeN g.name ≤ 1099511627776) => fkey_any w' k g p.name q)
  rw [← hK2] at HK2
  have HBE := Lib.hid (show B = (FB && (GB && (TB && ((K1.toList == K2.toList) && (decide (f.rank ≤ g.rank) || !RB))))) by
    rw [hB, beatsB, hFB, hGB, hTB, hRB, hK1, hK2, str_beq])
  have HSF := Lib.hid (fun (e : FB = true) => show sizeN f.name ≤ 1099511627776 from Nat.le_trans (fact_small (hFB.symm.trans e)) (by decide))
  have HSG := Lib.hid (fun (e : GB = true) => show sizeN g.name ≤ 1099511627776 from Nat.le_trans (fact_small (hGB.symm.trans e)) (by decide))
  rw [← hB]
  clear hb1 hs1 hb2 hA0 hf hg hB hFB hGB hTB hRB hK1 hK2
  obtain ⟨na, nl, nc, sa, sl, sc, za, zl, zc, ⟨ba, bl, bc, ha, hl, hc, ma, ml, mc, xa, xl, xc, ta, tl, tc⟩⟩ := h
  obtain ⟨na', nl', nc', sa', sl', sc', za', zl', zc', ⟨ba', bl', bc', ha', hl', hc', ma', ml', mc', xa', xl', xc', ta', tl', tc'⟩⟩ := k
  simp only [factC] at HA0 HD0 HB0 HY0 HF0 HG0 HFB HGB HK1 HK2
  have HM0 := Lib.hid (show ((w.alloc (.cells #[.slice na nl nc, .int .i64 f.typ, .int .i64 f.kind, .int .i64 f.rank, .int .i64 f.got, .int .i64 f.ttl, .slice sa sl sc, .slice za zl zc, .slice ba bl bc, .slice ha hl hc, .slice ma ml mc, .slice xa xl xc, .slice ta tl tc] 57)).alloc (.cells #[.slice na' nl' nc', .int .i64 g.typ, .int .i64 g.kind, .int .i64 g.rank, .int .i64 g.got, .int .i64 g.ttl, .slice sa' sl' sc', .slice za' zl' zc', .slice ba' bl' bc', .slice ha' hl' hc', .slice ma' ml' mc', .slice xa' xl' xc', .slice ta' tl' tc'] 57)).drew.cell? ⟨w.heap.size, 0, none⟩ = some (.slice na nl nc) from HA0.out.cell 0)
  have HM1 := Lib.hid (show ((w.alloc (.cells #[.slice na nl nc, .int .i64 f.typ, .int .i64 f.kind, .int .i64 f.rank, .int .i64 f.got, .int .i64 f.ttl, .slice sa sl sc, .slice za zl zc, .slice ba bl bc, .slice ha hl hc, .slice ma ml mc, .slice xa xl xc, .slice ta tl tc] 57)).alloc (.cells #[.slice na' nl' nc', .int .i64 g.typ, .int .i64 g.kind, .int .i64 g.rank, .int .i64 g.got, .int .i64 g.ttl, .slice sa' sl' sc', .slice za' zl' zc', .slice ba' bl' bc', .slice ha' hl' hc', .slice ma' ml' mc', .slice xa' xl' xc', .slice ta' tl' tc'] 57)).drew.cell? ⟨w.heap.size, 1, none⟩ = some (.int .i64 f.typ) from HA0.out.cell 1)
  have HM2 := Lib.hid (show ((w.alloc (.cells #[.slice na nl nc, .int .i64 f.typ, .int .i64 f.kind, .int .i64 f.rank, .int .i64 f.got, .int .i64 f.ttl, .slice sa sl sc, .slice za zl zc, .slice ba bl bc, .slice ha hl hc, .slice ma ml mc, .slice xa xl xc, .slice ta tl tc] 57)).alloc (.cells #[.slice na' nl' nc', .int .i64 g.typ, .int .i64 g.kind, .int .i64 g.rank, .int .i64 g.got, .int .i64 g.ttl, .slice sa' sl' sc', .slice za' zl' zc', .slice ba' bl' bc', .slice ha' hl' hc', .slice ma' ml' mc', .slice xa' xl' xc', .slice ta' tl' tc'] 57)).drew.cell? ⟨w.heap.size, 2, none⟩ = some (.int .i64 f.kind) from HA0.out.cell 2)
  have HM3 := Lib.hid (show ((w.alloc (.cells #[.slice na nl nc, .int .i64 f.typ, .int .i64 f.kind, .int .i64 f.rank, .int .i64 f.got, .int .i64 f.ttl, .slice sa sl sc, .slice za zl zc, .slice ba bl bc, .slice ha hl hc, .slice ma ml mc, .slice xa xl xc, .slice ta tl tc] 57)).alloc (.cells #[.slice na' nl' nc', .int .i64 g.typ, .int .i64 g.kind, .int .i64 g.rank, .int .i64 g.got, .int .i64 g.ttl, .slice sa' sl' sc', .slice za' zl' zc', .slice ba' bl' bc', .slice ha' hl' hc', .slice ma' ml' mc', .slice xa' xl' xc', .slice ta' tl' tc'] 57)).drew.cell? ⟨w.heap.size, 3, none⟩ = some (.int .i64 f.rank) from HA0.out.cell 3)
  have HM4 := Lib.hid (show ((w.alloc (.cells #[.slice na nl nc, .int .i64 f.typ, .int .i64 f.kind, .int .i64 f.rank, .int .i64 f.got, .int .i64 f.ttl, .slice sa sl sc, .slice za zl zc, .slice ba bl bc, .slice ha hl hc, .slice ma ml mc, .slice xa xl xc, .slice ta tl tc] 57)).alloc (.cells #[.slice na' nl' nc', .int .i64 g.typ, .int .i64 g.kind, .int .i64 g.rank, .int .i64 g.got, .int .i64 g.ttl, .slice sa' sl' sc', .slice za' zl' zc', .slice ba' bl' bc', .slice ha' hl' hc', .slice ma' ml' mc', .slice xa' xl' xc', .slice ta' tl' tc'] 57)).drew.cell? ⟨w.heap.size, 4, none⟩ = some (.int .i64 f.got) from HA0.out.cell 4)
  have HM5 := Lib.hid (show ((w.alloc (.cells #[.slice na nl nc, .int .i64 f.typ, .int .i64 f.kind, .int .i64 f.rank, .int .i64 f.got, .int .i64 f.ttl, .slice sa sl sc, .slice za zl zc, .slice ba bl bc, .slice ha hl hc, .slice ma ml mc, .slice xa xl xc, .slice ta tl tc] 57)).alloc (.cells #[.slice na' nl' nc', .int .i64 g.typ, .int .i64 g.kind, .int .i64 g.rank, .int .i64 g.got, .int .i64 g.ttl, .slice sa' sl' sc', .slice za' zl' zc', .slice ba' bl' bc', .slice ha' hl' hc', .slice ma' ml' mc', .slice xa' xl' xc', .slice ta' tl' tc'] 57)).drew.cell? ⟨w.heap.size, 5, none⟩ = some (.int .i64 f.ttl) from HA0.out.cell 5)
  have HM6 := Lib.hid (show ((w.alloc (.cells #[.slice na nl nc, .int .i64 f.typ, .int .i64 f.kind, .int .i64 f.rank, .int .i64 f.got, .int .i64 f.ttl, .slice sa sl sc, .slice za zl zc, .slice ba bl bc, .slice ha hl hc, .slice ma ml mc, .slice xa xl xc, .slice ta tl tc] 57)).alloc (.cells #[.slice na' nl' nc', .int .i64 g.typ, .int .i64 g.kind, .int .i64 g.rank, .int .i64 g.got, .int .i64 g.ttl, .slice sa' sl' sc', .slice za' zl' zc', .slice ba' bl' bc', .slice ha' hl' hc', .slice ma' ml' mc', .slice xa' xl' xc', .slice ta' tl' tc'] 57)).drew.cell? ⟨w.heap.size, 6, none⟩ = some (.slice sa sl sc) from HA0.out.cell 6)
  have HM7 := Lib.hid (show ((w.alloc (.cells #[.slice na nl nc, .int .i64 f.typ, .int .i64 f.kind, .int .i64 f.rank, .int .i64 f.got, .int .i64 f.ttl, .slice sa sl sc, .slice za zl zc, .slice ba bl bc, .slice ha hl hc, .slice ma ml mc, .slice xa xl xc, .slice ta tl tc] 57)).alloc (.cells #[.slice na' nl' nc', .int .i64 g.typ, .int .i64 g.kind, .int .i64 g.rank, .int .i64 g.got, .int .i64 g.ttl, .slice sa' sl' sc', .slice za' zl' zc', .slice ba' bl' bc', .slice ha' hl' hc', .slice ma' ml' mc', .slice xa' xl' xc', .slice ta' tl' tc'] 57)).drew.cell? ⟨w.heap.size, 7, none⟩ = some (.slice za zl zc) from HA0.out.cell 7)
  have HM8 := Lib.hid (show ((w.alloc (.cells #[.slice na nl nc, .int .i64 f.typ, .int .i64 f.kind, .int .i64 f.rank, .int .i64 f.got, .int .i64 f.ttl, .slice sa sl sc, .slice za zl zc, .slice ba bl bc, .slice ha hl hc, .slice ma ml mc, .slice xa xl xc, .slice ta tl tc] 57)).alloc (.cells #[.slice na' nl' nc', .int .i64 g.typ, .int .i64 g.kind, .int .i64 g.rank, .int .i64 g.got, .int .i64 g.ttl, .slice sa' sl' sc', .slice za' zl' zc', .slice ba' bl' bc', .slice ha' hl' hc', .slice ma' ml' mc', .slice xa' xl' xc', .slice ta' tl' tc'] 57)).drew.cell? ⟨w.heap.size, 8, none⟩ = some (.slice ba bl bc) from HA0.out.cell 8)
  have HM9 := Lib.hid (show ((w.alloc (.cells #[.slice na nl nc, .int .i64 f.typ, .int .i64 f.kind, .int .i64 f.rank, .int .i64 f.got, .int .i64 f.ttl, .slice sa sl sc, .slice za zl zc, .slice ba bl bc, .slice ha hl hc, .slice ma ml mc, .slice xa xl xc, .slice ta tl tc] 57)).alloc (.cells #[.slice na' nl' nc', .int .i64 g.typ, .int .i64 g.kind, .int .i64 g.rank, .int .i64 g.got, .int .i64 g.ttl, .slice sa' sl' sc', .slice za' zl' zc', .slice ba' bl' bc', .slice ha' hl' hc', .slice ma' ml' mc', .slice xa' xl' xc', .slice ta' tl' tc'] 57)).drew.cell? ⟨w.heap.size, 9, none⟩ = some (.slice ha hl hc) from HA0.out.cell 9)
  have HM10 := Lib.hid (show ((w.alloc (.cells #[.slice na nl nc, .int .i64 f.typ, .int .i64 f.kind, .int .i64 f.rank, .int .i64 f.got, .int .i64 f.ttl, .slice sa sl sc, .slice za zl zc, .slice ba bl bc, .slice ha hl hc, .slice ma ml mc, .slice xa xl xc, .slice ta tl tc] 57)).alloc (.cells #[.slice na' nl' nc', .int .i64 g.typ, .int .i64 g.kind, .int .i64 g.rank, .int .i64 g.got, .int .i64 g.ttl, .slice sa' sl' sc', .slice za' zl' zc', .slice ba' bl' bc', .slice ha' hl' hc', .slice ma' ml' mc', .slice xa' xl' xc', .slice ta' tl' tc'] 57)).drew.cell? ⟨w.heap.size, 10, none⟩ = some (.slice ma ml mc) from HA0.out.cell 10)
  have HM11 := Lib.hid (show ((w.alloc (.cells #[.slice na nl nc, .int .i64 f.typ, .int .i64 f.kind, .int .i64 f.rank, .int .i64 f.got, .int .i64 f.ttl, .slice sa sl sc, .slice za zl zc, .slice ba bl bc, .slice ha hl hc, .slice ma ml mc, .slice xa xl xc, .slice ta tl tc] 57)).alloc (.cells #[.slice na' nl' nc', .int .i64 g.typ, .int .i64 g.kind, .int .i64 g.rank, .int .i64 g.got, .int .i64 g.ttl, .slice sa' sl' sc', .slice za' zl' zc', .slice ba' bl' bc', .slice ha' hl' hc', .slice ma' ml' mc', .slice xa' xl' xc', .slice ta' tl' tc'] 57)).drew.cell? ⟨w.heap.size, 11, none⟩ = some (.slice xa xl xc) from HA0.out.cell 11)
  have HM12 := Lib.hid (show ((w.alloc (.cells #[.slice na nl nc, .int .i64 f.typ, .int .i64 f.kind, .int .i64 f.rank, .int .i64 f.got, .int .i64 f.ttl, .slice sa sl sc, .slice za zl zc, .slice ba bl bc, .slice ha hl hc, .slice ma ml mc, .slice xa xl xc, .slice ta tl tc] 57)).alloc (.cells #[.slice na' nl' nc', .int .i64 g.typ, .int .i64 g.kind, .int .i64 g.rank, .int .i64 g.got, .int .i64 g.ttl, .slice sa' sl' sc', .slice za' zl' zc', .slice ba' bl' bc', .slice ha' hl' hc', .slice ma' ml' mc', .slice xa' xl' xc', .slice ta' tl' tc'] 57)).drew.cell? ⟨w.heap.size, 12, none⟩ = some (.slice ta tl tc) from HA0.out.cell 12)
  have HN0 := Lib.hid (show ((w.alloc (.cells #[.slice na nl nc, .int .i64 f.typ, .int .i64 f.kind, .int .i64 f.rank, .int .i64 f.got, .int .i64 f.ttl, .slice sa sl sc, .slice za zl zc, .slice ba bl bc, .slice ha hl hc, .slice ma ml mc, .slice xa xl xc, .slice ta tl tc] 57)).alloc (.cells #[.slice na' nl' nc', .int .i64 g.typ, .int .i64 g.kind, .int .i64 g.rank, .int .i64 g.got, .int .i64 g.ttl, .slice sa' sl' sc', .slice za' zl' zc', .slice ba' bl' bc', .slice ha' hl' hc', .slice ma' ml' mc', .slice xa' xl' xc', .slice ta' tl' tc'] 57)).drew.cell? ⟨(w.heap.size + 1), 0, none⟩ = some (.slice na' nl' nc') from HD0.out.cell 0)
  have HN1 := Lib.hid (show ((w.alloc (.cells #[.slice na nl nc, .int .i64 f.typ, .int .i64 f.kind, .int .i64 f.rank, .int .i64 f.got, .int .i64 f.ttl, .slice sa sl sc, .slice za zl zc, .slice ba bl bc, .slice ha hl hc, .slice ma ml mc, .slice xa xl xc, .slice ta tl tc] 57)).alloc (.cells #[.slice na' nl' nc', .int .i64 g.typ, .int .i64 g.kind, .int .i64 g.rank, .int .i64 g.got, .int .i64 g.ttl, .slice sa' sl' sc', .slice za' zl' zc', .slice ba' bl' bc', .slice ha' hl' hc', .slice ma' ml' mc', .slice xa' xl' xc', .slice ta' tl' tc'] 57)).drew.cell? ⟨(w.heap.size + 1), 1, none⟩ = some (.int .i64 g.typ) from HD0.out.cell 1)
  have HN2 := Lib.hid (show ((w.alloc (.cells #[.slice na nl nc, .int .i64 f.typ, .int .i64 f.kind, .int .i64 f.rank, .int .i64 f.got, .int .i64 f.ttl, .slice sa sl sc, .slice za zl zc, .slice ba bl bc, .slice ha hl hc, .slice ma ml mc, .slice xa xl xc, .slice ta tl tc] 57)).alloc (.cells #[.slice na' nl' nc', .int .i64 g.typ, .int .i64 g.kind, .int .i64 g.rank, .int .i64 g.got, .int .i64 g.ttl, .slice sa' sl' sc', .slice za' zl' zc', .slice ba' bl' bc', .slice ha' hl' hc', .slice ma' ml' mc', .slice xa' xl' xc', .slice ta' tl' tc'] 57)).drew.cell? ⟨(w.heap.size + 1), 2, none⟩ = some (.int .i64 g.kind) from HD0.out.cell 2)
  have HN3 := Lib.hid (show ((w.alloc (.cells #[.slice na nl nc, .int .i64 f.typ, .int .i64 f.kind, .int .i64 f.rank, .int .i64 f.got, .int .i64 f.ttl, .slice sa sl sc, .slice za zl zc, .slice ba bl bc, .slice ha hl hc, .slice ma ml mc, .slice xa xl xc, .slice ta tl tc] 57)).alloc (.cells #[.slice na' nl' nc', .int .i64 g.typ, .int .i64 g.kind, .int .i64 g.rank, .int .i64 g.got, .int .i64 g.ttl, .slice sa' sl' sc', .slice za' zl' zc', .slice ba' bl' bc', .slice ha' hl' hc', .slice ma' ml' mc', .slice xa' xl' xc', .slice ta' tl' tc'] 57)).drew.cell? ⟨(w.heap.size + 1), 3, none⟩ = some (.int .i64 g.rank) from HD0.out.cell 3)
  have HN4 := Lib.hid (show ((w.alloc (.cells #[.slice na nl nc, .int .i64 f.typ, .int .i64 f.kind, .int .i64 f.rank, .int .i64 f.got, .int .i64 f.ttl, .slice sa sl sc, .slice za zl zc, .slice ba bl bc, .slice ha hl hc, .slice ma ml mc, .slice xa xl xc, .slice ta tl tc] 57)).alloc (.cells #[.slice na' nl' nc', .int .i64 g.typ, .int .i64 g.kind, .int .i64 g.rank, .int .i64 g.got, .int .i64 g.ttl, .slice sa' sl' sc', .slice za' zl' zc', .slice ba' bl' bc', .slice ha' hl' hc', .slice ma' ml' mc', .slice xa' xl' xc', .slice ta' tl' tc'] 57)).drew.cell? ⟨(w.heap.size + 1), 4, none⟩ = some (.int .i64 g.got) from HD0.out.cell 4)
  have HN5 := Lib.hid (show ((w.alloc (.cells #[.slice na nl nc, .int .i64 f.typ, .int .i64 f.kind, .int .i64 f.rank, .int .i64 f.got, .int .i64 f.ttl, .slice sa sl sc, .slice za zl zc, .slice ba bl bc, .slice ha hl hc, .slice ma ml mc, .slice xa xl xc, .slice ta tl tc] 57)).alloc (.cells #[.slice na' nl' nc', .int .i64 g.typ, .int .i64 g.kind, .int .i64 g.rank, .int .i64 g.got, .int .i64 g.ttl, .slice sa' sl' sc', .slice za' zl' zc', .slice ba' bl' bc', .slice ha' hl' hc', .slice ma' ml' mc', .slice xa' xl' xc', .slice ta' tl' tc'] 57)).drew.cell? ⟨(w.heap.size + 1), 5, none⟩ = some (.int .i64 g.ttl) from HD0.out.cell 5)
  have HN6 := Lib.hid (show ((w.alloc (.cells #[.slice na nl nc, .int .i64 f.typ, .int .i64 f.kind, .int .i64 f.rank, .int .i64 f.got, .int .i64 f.ttl, .slice sa sl sc, .slice za zl zc, .slice ba bl bc, .slice ha hl hc, .slice ma ml mc, .slice xa xl xc, .slice ta tl tc] 57)).alloc (.cells #[.slice na' nl' nc', .int .i64 g.typ, .int .i64 g.kind, .int .i64 g.rank, .int .i64 g.got, .int .i64 g.ttl, .slice sa' sl' sc', .slice za' zl' zc', .slice ba' bl' bc', .slice ha' hl' hc', .slice ma' ml' mc', .slice xa' xl' xc', .slice ta' tl' tc'] 57)).drew.cell? ⟨(w.heap.size + 1), 6, none⟩ = some (.slice sa' sl' sc') from HD0.out.cell 6)
  have HN7 := Lib.hid (show ((w.alloc (.cells #[.slice na nl nc, .int .i64 f.typ, .int .i64 f.kind, .int .i64 f.rank, .int .i64 f.got, .int .i64 f.ttl, .slice sa sl sc, .slice za zl zc, .slice ba bl bc, .slice ha hl hc, .slice ma ml mc, .slice xa xl xc, .slice ta tl tc] 57)).alloc (.cells #[.slice na' nl' nc', .int .i64 g.typ, .int .i64 g.kind, .int .i64 g.rank, .int .i64 g.got, .int .i64 g.ttl, .slice sa' sl' sc', .slice za' zl' zc', .slice ba' bl' bc', .slice ha' hl' hc', .slice ma' ml' mc', .slice xa' xl' xc', .slice ta' tl' tc'] 57)).drew.cell? ⟨(w.heap.size + 1), 7, none⟩ = some (.slice za' zl' zc') from HD0.out.cell 7)
  have HN8 := Lib.hid (show ((w.alloc (.cells #[.slice na nl nc, .int .i64 f.typ, .int .i64 f.kind, .int .i64 f.rank, .int .i64 f.got, .int .i64 f.ttl, .slice sa sl sc, .slice za zl zc, .slice ba bl bc, .slice ha hl hc, .slice ma ml mc, .slice xa xl xc, .slice ta tl tc] 57)).alloc (.cells #[.slice na' nl' nc', .int .i64 g.typ, .int .i64 g.kind, .int .i64 g.rank, .int .i64 g.got, .int .i64 g.ttl, .slice sa' sl' sc', .slice za' zl' zc', .slice ba' bl' bc', .slice ha' hl' hc', .slice ma' ml' mc', .slice xa' xl' xc', .slice ta' tl' tc'] 57)).drew.cell? ⟨(w.heap.size + 1), 8, none⟩ = some (.slice ba' bl' bc') from HD0.out.cell 8)
  have HN9 := Lib.hid (show ((w.alloc (.cells #[.slice na nl nc, .int .i64 f.typ, .int .i64 f.kind, .int .i64 f.rank, .int .i64 f.got, .int .i64 f.ttl, .slice sa sl sc, .slice za zl zc, .slice ba bl bc, .slice ha hl hc, .slice ma ml mc, .slice xa xl xc, .slice ta tl tc] 57)).alloc (.cells #[.slice na' nl' nc', .int .i64 g.typ, .int .i64 g.kind, .int .i64 g.rank, .int .i64 g.got, .int .i64 g.ttl, .slice sa' sl' sc', .slice za' zl' zc', .slice ba' bl' bc', .slice ha' hl' hc', .slice ma' ml' mc', .slice xa' xl' xc', .slice ta' tl' tc'] 57)).drew.cell? ⟨(w.heap.size + 1), 9, none⟩ = some (.slice ha' hl' hc') from HD0.out.cell 9)
  have HN10 := Lib.hid (show ((w.alloc (.cells #[.slice na nl nc, .int .i64 f.typ, .int .i64 f.kind, .int .i64 f.rank, .int .i64 f.got, .int .i64 f.ttl, .slice sa sl sc, .slice za zl zc, .slice ba bl bc, .slice ha hl hc, .slice ma ml mc, .slice xa xl xc, .slice ta tl tc] 57)).alloc (.cells #[.slice na' nl' nc', .int .i64 g.typ, .int .i64 g.kind, .int .i64 g.rank, .int .i64 g.got, .int .i64 g.ttl, .slice sa' sl' sc', .slice za' zl' zc', .slice ba' bl' bc', .slice ha' hl' hc', .slice ma' ml' mc', .slice xa' xl' xc', .slice ta' tl' tc'] 57)).drew.cell? ⟨(w.heap.size + 1), 10, none⟩ = some (.slice ma' ml' mc') from HD0.out.cell 10)
  have HN11 := Lib.hid (show ((w.alloc (.cells #[.slice na nl nc, .int .i64 f.typ, .int .i64 f.kind, .int .i64 f.rank, .int .i64 f.got, .int .i64 f.ttl, .slice sa sl sc, .slice za zl zc, .slice ba bl bc, .slice ha hl hc, .slice ma ml mc, .slice xa xl xc, .slice ta tl tc] 57)).alloc (.cells #[.slice na' nl' nc', .int .i64 g.typ, .int .i64 g.kind, .int .i64 g.rank, .int .i64 g.got, .int .i64 g.ttl, .slice sa' sl' sc', .slice za' zl' zc', .slice ba' bl' bc', .slice ha' hl' hc', .slice ma' ml' mc', .slice xa' xl' xc', .slice ta' tl' tc'] 57)).drew.cell? ⟨(w.heap.size + 1), 11, none⟩ = some (.slice xa' xl' xc') from HD0.out.cell 11)
  have HN12 := Lib.hid (show ((w.alloc (.cells #[.slice na nl nc, .int .i64 f.typ, .int .i64 f.kind, .int .i64 f.rank, .int .i64 f.got, .int .i64 f.ttl, .slice sa sl sc, .slice za zl zc, .slice ba bl bc, .slice ha hl hc, .slice ma ml mc, .slice xa xl xc, .slice ta tl tc] 57)).alloc (.cells #[.slice na' nl' nc', .int .i64 g.typ, .int .i64 g.kind, .int .i64 g.rank, .int .i64 g.got, .int .i64 g.ttl, .slice sa' sl' sc', .slice za' zl' zc', .slice ba' bl' bc', .slice ha' hl' hc', .slice ma' ml' mc', .slice xa' xl' xc', .slice ta' tl' tc'] 57)).drew.cell? ⟨(w.heap.size + 1), 12, none⟩ = some (.slice ta' tl' tc') from HD0.out.cell 12)
  go_enter Tryz.func76, Tryz.ntmps76
  simp only [factC]
  go_wp2_with fail
  obtain ⟨X2, hX2⟩ : ∃ q : Bool, q = FB := ⟨_, rfl⟩
  have HX2 := Lib.hid hX2
  clear hX2
  obtain ⟨X5, hX5⟩ : ∃ q : Bool, q = (X2 && GB) := ⟨_, rfl⟩
  have HX5 := Lib.hid hX5
  clear hX5
  obtain ⟨X6, hX6⟩ : ∃ q : Bool, q = X5 := ⟨_, rfl⟩
  have HX6 := Lib.hid hX6
  clear hX6
  obtain ⟨X9, hX9⟩ : ∃ q : Bool, q = (X6 && TB) := ⟨_, rfl⟩
  have HX9 := Lib.hid hX9
  clear hX9
  obtain ⟨X10, hX10⟩ : ∃ q : Bool, q = X9 := ⟨_, rfl⟩
  have HX10 := Lib.hid hX10
  clear hX10
  obtain ⟨X16, hX16⟩ : ∃ q : Bool, q = (X10 && (K1.toList == K2.toList)) := ⟨_, rfl⟩
  have HX16 := Lib.hid hX16
  clear hX16
  obtain ⟨X17, hX17⟩ : ∃ q : Bool, q = X16 := ⟨_, rfl⟩
  have HX17 := Lib.hid hX17
  clear hX17
  obtain ⟨X23, hX23⟩ : ∃ q : Bool, q = (decide (f.rank ≤ g.rank)) := ⟨_, rfl⟩
  have HX23 := Lib.hid hX23
  clear hX23
  obtain ⟨X31, hX31⟩ : ∃ q : Bool, q = (X23 || (!RB)) := ⟨_, rfl⟩
  have HX31 := Lib.hid hX31
  clear hX31
  obtain ⟨X32, hX32⟩ : ∃ q : Bool, q = (X17 && X31) := ⟨_, rfl⟩
  have HX32 := Lib.hid hX32
  clear hX32
  have HSX := Lib.hid (fun (e : X10 = true) => show FB = true ∧ GB = true by
    simp only [HX10.out, HX9.out, HX6.out, HX5.out, HX2.out, Bool.and_eq_true] at e
    exact ⟨e.1.1, e.1.2⟩)
  refine wp_soup0 (m := 40) (by kernel_rfl) (fun x y => Below x.heap.size x y) (fun i v xw => match i with | 0 => v = .agg #[.slice na nl nc, .int .i64 f.typ, .int .i64 f.kind, .int .i64 f.rank, .int .i64 f.got, .int .i64 f.ttl, .slice sa sl sc, .slice za zl zc, .slice ba bl bc, .slice ha hl hc, .slice ma ml mc, .slice xa xl xc, .slice ta tl tc] | 1 => v = .bool FB | 2 => v = .bool X2 | 3 => v = (bif X2 then (.agg #[.slice na' nl' nc', .int .i64 g.typ, .int .i64 g.kind, .int .i64 g.rank, .int .i64 g.got, .int .i64 g.ttl, .slice sa' sl' sc', .slice za' zl' zc', .slice ba' bl' bc', .slice ha' hl' hc', .slice ma' ml' mc', .slice xa' xl' xc', .slice ta' tl' tc']) else undef) | 4 => v = (bif X2 then (.bool GB) else undef) | 5 => v = .bool X5 | 6 => v = .bool X6 | 7 => v = (bif X6 then (.int .i64 now) else undef) | 8 => v = (bif X6 then (.bool TB) else undef) | 9 => v = .bool X9 | 10 => v = .bool X10 | 11 => v = (bif X10 then (.agg #[.slice na nl nc, .int .i64 f.typ, .int .i64 f.kind, .int .i64 f.rank, .int .i64 f.got, .int .i64 f.ttl, .slice sa sl sc, .slice za zl zc, .slice ba bl bc, .slice ha hl hc, .slice ma ml mc, .slice xa xl xc, .slice ta tl tc]) else undef) | 12 => v = (bif X10 then (.string K1) else undef) | 13 => v = (bif X10 then (.agg #[.slice na' nl' nc', .int .i64 g.typ, .int .i64 g.kind, .int .i64 g.rank, .int .i64 g.got, .int .i64 g.ttl, .slice sa' sl' sc', .slice za' zl' zc', .slice ba' bl' bc', .slice ha' hl' hc', .slice ma' ml' mc', .slice xa' xl' xc', .slice ta' tl' tc']) else undef) | 14 => v = (bif X10 then (.string K2) else undef) | 15 => v = (bif X10 then (.bool (K1.toList == K2.toList)) else undef) | 16 => v = .bool X16 | 17 => v = .bool X17 | 18 => v = (bif X17 then (.pointer (some ⟨(w.heap.size + 1), 3, none⟩)) else undef) | 19 => v = (bif X17 then (.int .i64 g.rank) else undef) | 20 => v = (bif X17 then (.pointer (some ⟨w.heap.size, 3, none⟩)) else undef) | 21 => v = (bif X17 then (.int .i64 f.rank) else undef) | 22 => v = (bif X17 then (.bool (decide (f.rank ≤ g.rank))) else undef) | 23 => v = (bif X17 then (.bool X23) else undef) | 24 => v = (bif X17 then ((bif X23 then undef else (.pointer (some ⟨w.heap.size, 4, none⟩)))) else undef) | 25 => v = (bif X17 then ((bif X23 then undef else (.int .i64 f.got))) else undef) | 26 => v = (bif X17 then ((bif X23 then undef else (.pointer (some ⟨w.heap.size, 5, none⟩)))) else undef) | 27 => v = (bif X17 then ((bif X23 then undef else (.int .i64 f.ttl))) else undef) | 28 => v = (bif X17 then ((bif X23 then undef else (.int .i64 now))) else undef) | 29 => v = (bif X17 then ((bif X23 then undef else (.bool RB))) else undef) | 30 => v = (bif X17 then ((bif X23 then undef else (.bool (!RB)))) else undef) | 31 => v = (bif X17 then (.bool X31) else undef) | 32 => v = .bool X32 | 33 => v = .bool X32 | _ => True) rfl (by kernel_rfl) (fun _ _ _ h1 h2 => below_on h1 h2 (Nat.le_refl _)) (Below.refl _ _) (fun _ _ _ _ h _ => h) (dst_but 34 (by kernel_rfl) (fun _ _ h => h)) ?_ ?_
  rotate_left
  · intro a W hR hS hdep
    have e6 : a.tmps.getD 6 undef = .bool X32 := hdep 33 (by decide +kernel)
    obtain ⟨T, df⟩ := a
    obtain rfl : df = [] := hS.defers
    have hT : T = #[T.getD 0 undef, T.getD 1 undef, T.getD 2 undef, T.getD 3 undef, T.getD 4 undef, T.getD 5 undef, T.getD 6 undef, T.getD 7 undef, T.getD 8 undef, T.getD 9 undef, T.getD 10 undef, T.getD 11 undef, T.getD 12 undef, T.getD 13 undef, T.getD 14 undef, T.getD 15 undef, T.getD 16 undef, T.getD 17 undef, T.getD 18 undef, T.getD 19 undef, T.getD 20 undef, T.getD 21 undef, T.getD 22 undef, T.getD 23 undef, T.getD 24 undef, T.getD 25 undef, T.getD 26 undef, T.getD 27 undef, T.getD 28 undef, T.getD 29 undef, T.getD 30 undef, T.getD 31 undef, T.getD 32 undef, T.getD 33 undef, T.getD 34 undef, T.getD 35 undef, T.getD 36 undef, T.getD 37 undef, T.getD 38 undef, T.getD 39 undef] := arr_eta T 40 hS.size
    have k6 : T.getD 6 undef = .bool X32 := e6
    clear hS hdep
    rw [hT]
    rw [k6]
    clear k6 e6
    clear hT
    generalize T.getD 0 undef = u0
    generalize T.getD 1 undef = u1
    generalize T.getD 2 undef = u2
    generalize T.getD 3 undef = u3
    generalize T.getD 4 undef = u4
    generalize T.getD 5 undef = u5
    generalize T.getD 7 undef = u7
    generalize T.getD 8 undef = u8
    generalize T.getD 9 undef = u9
    generalize T.getD 10 undef = u10
    generalize T.getD 11 undef = u11
    generalize T.getD 12 undef = u12
    generalize T.getD 13 undef = u13
    generalize T.getD 14 undef = u14
    generalize T.getD 15 undef = u15
    generalize T.getD 16 undef = u16
    generalize T.getD 17 undef = u17
    generalize T.getD 18 undef = u18
    generalize T.getD 19 undef = u19
    generalize T.getD 20 undef = u20
    generalize T.getD 21 undef = u21
    generalize T.getD 22 undef = u22
    generalize T.getD 23 undef = u23
    generalize T.getD 24 undef = u24
    generalize T.getD 25 undef = u25
    generalize T.getD 26 undef = u26
    generalize T.getD 27 undef = u27
    generalize T.getD 28 undef = u28
    generalize T.getD 29 undef = u29
    generalize T.getD 30 undef = u30
    generalize T.getD 31 undef = u31
    generalize T.getD 32 undef = u32
    generalize T.getD 33 undef = u33
    generalize T.getD 34 undef = u34
    generalize T.getD 35 undef = u35
    generalize T.getD 36 undef = u36
    generalize T.getD 37 undef = u37
    generalize T.getD 38 undef = u38
    generalize T.getD 39 undef = u39
    have HR := Lib.hid (below_on HB0.out (below_on (Below.drew (Below.refl _ _)) hR (Nat.le_refl _)) (Nat.le_refl _))
    have HVB := Lib.hid (show X32 = B by
      rw [HBE.out]
      simp only [HX32.out, HX17.out, HX31.out, HX16.out, HX23.out, HX10.out, HX9.out, HX6.out, HX5.out, HX2.out]
      generalize (K1.toList == K2.toList) = y1
      generalize decide (f.rank ≤ g.rank) = y2
      cases FB <;> cases GB <;> cases TB <;> cases y1 <;> cases y2 <;> cases RB <;> rfl)
    clear hR
    go_wp2_with fail
    go_ret
    exact ⟨ret_bool HVB.out, HR.out⟩
  refine soup_cons rfl rfl (fun a W hR hS hdep K hK => ?_) ?_
  · have e3 : a.tmps[3]?.getD undef = .pointer (some ⟨w.heap.size, 0, none⟩) := slot_of (hS.keep 3 (by kernel_rfl))
    have m0 := cell_keep hR HM0.out
    have m1 := cell_keep hR HM1.out
    have m2 := cell_keep hR HM2.out
    have m3 := cell_keep hR HM3.out
    have m4 := cell_keep hR HM4.out
    have m5 := cell_keep hR HM5.out
    have m6 := cell_keep hR HM6.out
    have m7 := cell_keep hR HM7.out
    have m8 := cell_keep hR HM8.out
    have m9 := cell_keep hR HM9.out
    have m10 := cell_keep hR HM10.out
    have m11 := cell_keep hR HM11.out
    have m12 := cell_keep hR HM12.out
    go_simp
    exact hK _ _ (Below.refl _ _) (by first | rfl | simp)
  refine soup_cons rfl rfl (fun a W hR hS hdep K hK => ?_) ?_
  · have e7 : a.tmps[7]?.getD undef = .agg #[.slice na nl nc, .int .i64 f.typ, .int .i64 f.kind, .int .i64 f.rank, .int .i64 f.got, .int .i64 f.ttl, .slice sa sl sc, .slice za zl zc, .slice ba bl bc, .slice ha hl hc, .slice ma ml mc, .slice xa xl xc, .slice ta tl tc] := slot_of (hdep 0 (by decide +kernel))
    go_simp
    have hbx := below_on (B := ((w.alloc (.cells #[.slice na nl nc, .int .i64 f.typ, .int .i64 f.kind, .int .i64 f.rank, .int .i64 f.got, .int .i64 f.ttl, .slice sa sl sc, .slice za zl zc, .slice ba bl bc, .slice ha hl hc, .slice ma ml mc, .slice xa xl xc, .slice ta tl tc] 57)).alloc (.cells #[.slice na' nl' nc', .int .i64 g.typ, .int .i64 g.kind, .int .i64 g.rank, .int .i64 g.got, .int .i64 g.ttl, .slice sa' sl' sc', .slice za' zl' zc', .slice ba' bl' bc', .slice ha' hl' hc', .slice ma' ml' mc', .slice xa' xl' xc', .slice ta' tl' tc'] 57)).heap.size) (Below.drew (Below.refl _ _)) hR (Nat.le_refl _)
    refine (HFB.out _ (HF0.out.on hbx)).mono ?_
    rintro e W' ⟨rfl, hb⟩
    exact hK _ _ hb rfl
  refine soup_cons rfl rfl (fun a W hR hS hdep K hK => ?_) ?_
  · have e8 : a.tmps[8]?.getD undef = .bool FB := slot_of (hdep 1 (by decide +kernel))
    go_simp
    exact hK _ _ (Below.refl _ _) (by first | rfl | (rw [HX2.out]; rfl) | (rw [HX2.out]; simp) | simp [HX2.out])
  refine soup_cons rfl rfl (fun a W hR hS hdep K hK => ?_) ?_
  · have e4 : a.tmps[4]?.getD undef = .pointer (some ⟨(w.heap.size + 1), 0, none⟩) := slot_of (hS.keep 4 (by kernel_rfl))
    have e9 : a.tmps[9]?.getD undef = .bool X2 := slot_of (hdep 2 (by decide +kernel))
    have g9 : a.tmps[9]? = some (.bool X2) := slot_at (show _ = 40 from hS.size) (by decide) (hdep 2 (by decide +kernel))
    have m0 := cell_keep hR HN0.out
    have m1 := cell_keep hR HN1.out
    have m2 := cell_keep hR HN2.out
    have m3 := cell_keep hR HN3.out
    have m4 := cell_keep hR HN4.out
    have m5 := cell_keep hR HN5.out
    have m6 := cell_keep hR HN6.out
    have m7 := cell_keep hR HN7.out
    have m8 := cell_keep hR HN8.out
    have m9 := cell_keep hR HN9.out
    have m10 := cell_keep hR HN10.out
    have m11 := cell_keep hR HN11.out
    have m12 := cell_keep hR HN12.out
    try clear hS
    all_goals (cases X2)
    all_goals
      try dsimp only [cond] at *
      go_simp
      exact hK _ _ (Below.refl _ _) (by first | rfl | simp)
  refine soup_cons rfl rfl (fun a W hR hS hdep K hK => ?_) ?_
  · have e10 : a.tmps[10]?.getD undef = (bif X2 then (.agg #[.slice na' nl' nc', .int .i64 g.typ, .int .i64 g.kind, .int .i64 g.rank, .int .i64 g.got, .int .i64 g.ttl, .slice sa' sl' sc', .slice za' zl' zc', .slice ba' bl' bc', .slice ha' hl' hc', .slice ma' ml' mc', .slice xa' xl' xc', .slice ta' tl' tc']) else undef) := slot_of (hdep 3 (by decide +kernel))
    have e9 : a.tmps[9]?.getD undef = .bool X2 := slot_of (hdep 2 (by decide +kernel))
    have g9 : a.tmps[9]? = some (.bool X2) := slot_at (show _ = 40 from hS.size) (by decide) (hdep 2 (by decide +kernel))
    try clear hS
    all_goals (cases X2)
    all_goals
      try dsimp only [cond] at *
      first
      | (go_simp
         exact hK _ _ (Below.refl _ _) rfl)
      | (go_simp
         have hbx := below_on (B := ((w.alloc (.cells #[.slice na nl nc, .int .i64 f.typ, .int .i64 f.kind, .int .i64 f.rank, .int .i64 f.got, .int .i64 f.ttl, .slice sa sl sc, .slice za zl zc, .slice ba bl bc, .slice ha hl hc, .slice ma ml mc, .slice xa xl xc, .slice ta tl tc] 57)).alloc (.cells #[.slice na' nl' nc', .int .i64 g.typ, .int .i64 g.kind, .int .i64 g.rank, .int .i64 g.got, .int .i64 g.ttl, .slice sa' sl' sc', .slice za' zl' zc', .slice ba' bl' bc', .slice ha' hl' hc', .slice ma' ml' mc', .slice xa' xl' xc', .slice ta' tl' tc'] 57)).heap.size) (Below.drew (Below.refl _ _)) hR (Nat.le_refl _)
         refine (HGB.out _ (HG0.out.on hbx)).mono ?_
         rintro e W' ⟨rfl, hb⟩
         exact hK _ _ hb rfl)
  refine soup_cons rfl rfl (fun a W hR hS hdep K hK => ?_) ?_
  · have e9 : a.tmps[9]?.getD undef = .bool X2 := slot_of (hdep 2 (by decide +kernel))
    have e11 : a.tmps[11]?.getD undef = (bif X2 then (.bool GB) else undef) := slot_of (hdep 4 (by decide +kernel))
    try clear hS
    all_goals (cases X2)
    all_goals
      try dsimp only [cond] at *
      go_simp
      exact hK _ _ (Below.refl _ _) (by first | rfl | (rw [HX5.out]; rfl) | (rw [HX5.out]; simp) | simp [HX5.out])
  refine soup_cons rfl rfl (fun a W hR hS hdep K hK => ?_) ?_
  · have e12 : a.tmps[12]?.getD undef = .bool X5 := slot_of (hdep 5 (by decide +kernel))
    go_simp
    exact hK _ _ (Below.refl _ _) (by first | rfl | (rw [HX6.out]; rfl) | (rw [HX6.out]; simp) | simp [HX6.out])
  refine soup_cons rfl rfl (fun a W hR hS hdep K hK => ?_) ?_
  · have e2 : a.tmps[2]?.getD undef = .int .i64 now := slot_of (hS.keep 2 (by kernel_rfl))
    have e13 : a.tmps[13]?.getD undef = .bool X6 := slot_of (hdep 6 (by decide +kernel))
    have g13 : a.tmps[13]? = some (.bool X6) := slot_at (show _ = 40 from hS.size) (by decide) (hdep 6 (by decide +kernel))
    try clear hS
    all_goals (cases X6)
    all_goals
      try dsimp only [cond] at *
      go_simp
      exact hK _ _ (Below.refl _ _) (by first | rfl | simp)
  refine soup_cons rfl rfl (fun a W hR hS hdep K hK => ?_) ?_
  · have e14 : a.tmps[14]?.getD undef = (bif X6 then (.int .i64 now) else undef) := slot_of (hdep 7 (by decide +kernel))
    have e13 : a.tmps[13]?.getD undef = .bool X6 := slot_of (hdep 6 (by decide +kernel))
    have g13 : a.tmps[13]? = some (.bool X6) := slot_at (show _ = 40 from hS.size) (by decide) (hdep 6 (by decide +kernel))
    try clear hS
    all_goals (cases X6)
    all_goals
      try dsimp only [cond] at *
      first
      | (go_simp
         exact hK _ _ (Below.refl _ _) rfl)
      | (go_simp
         have hbx := below_on (B := ((w.alloc (.cells #[.slice na nl nc, .int .i64 f.typ, .int .i64 f.kind, .int .i64 f.rank, .int .i64 f.got, .int .i64 f.ttl, .slice sa sl sc, .slice za zl zc, .slice ba bl bc, .slice ha hl hc, .slice ma ml mc, .slice xa xl xc, .slice ta tl tc] 57)).alloc (.cells #[.slice na' nl' nc', .int .i64 g.typ, .int .i64 g.kind, .int .i64 g.rank, .int .i64 g.got, .int .i64 g.ttl, .slice sa' sl' sc', .slice za' zl' zc', .slice ba' bl' bc', .slice ha' hl' hc', .slice ma' ml' mc', .slice xa' xl' xc', .slice ta' tl' tc'] 57)).heap.size) (Below.drew (Below.refl _ _)) hR (Nat.le_refl _)
         refine (HTB.out _).mono ?_
         rintro e W' ⟨rfl, rfl⟩
         exact hK _ _ (Below.refl _ _) rfl)
  refine soup_cons rfl rfl (fun a W hR hS hdep K hK => ?_) ?_
  · have e13 : a.tmps[13]?.getD undef = .bool X6 := slot_of (hdep 6 (by decide +kernel))
    have e15 : a.tmps[15]?.getD undef = (bif X6 then (.bool TB) else undef) := slot_of (hdep 8 (by decide +kernel))
    try clear hS
    all_goals (cases X6)
    all_goals
      try dsimp only [cond] at *
      go_simp
      exact hK _ _ (Below.refl _ _) (by first | rfl | (rw [HX9.out]; rfl) | (rw [HX9.out]; simp) | simp [HX9.out])
  refine soup_cons rfl rfl (fun a W hR hS hdep K hK => ?_) ?_
  · have e16 : a.tmps[16]?.getD undef = .bool X9 := slot_of (hdep 9 (by decide +kernel))
    go_simp
    exact hK _ _ (Below.refl _ _) (by first | rfl | (rw [HX10.out]; rfl) | (rw [HX10.out]; simp) | simp [HX10.out])
  refine soup_cons rfl rfl (fun a W hR hS hdep K hK => ?_) ?_
  · have e3 : a.tmps[3]?.getD undef = .pointer (some ⟨w.heap.size, 0, none⟩) := slot_of (hS.keep 3 (by kernel_rfl))
    have e17 : a.tmps[17]?.getD undef = .bool X10 := slot_of (hdep 10 (by decide +kernel))
    have g17 : a.tmps[17]? = some (.bool X10) := slot_at (show _ = 40 from hS.size) (by decide) (hdep 10 (by decide +kernel))
    have m0 := cell_keep hR HM0.out
    have m1 := cell_keep hR HM1.out
    have m2 := cell_keep hR HM2.out
    have m3 := cell_keep hR HM3.out
    have m4 := cell_keep hR HM4.out
    have m5 := cell_keep hR HM5.out
    have m6 := cell_keep hR HM6.out
    have m7 := cell_keep hR HM7.out
    have m8 := cell_keep hR HM8.out
    have m9 := cell_keep hR HM9.out
    have m10 := cell_keep hR HM10.out
    have m11 := cell_keep hR HM11.out
    have m12 := cell_keep hR HM12.out
    try clear hS
    all_goals (cases X10)
    all_goals
      try dsimp only [cond] at *
      go_simp
      exact hK _ _ (Below.refl _ _) (by first | rfl | simp)
  refine soup_cons rfl rfl (fun a W hR hS hdep K hK => ?_) ?_
  · have e18 : a.tmps[18]?.getD undef = (bif X10 then (.agg #[.slice na nl nc, .int .i64 f.typ, .int .i64 f.kind, .int .i64 f.rank, .int .i64 f.got, .int .i64 f.ttl, .slice sa sl sc, .slice za zl zc, .slice ba bl bc, .slice ha hl hc, .slice ma ml mc, .slice xa xl xc, .slice ta tl tc]) else undef) := slot_of (hdep 11 (by decide +kernel))
    have e17 : a.tmps[17]?.getD undef = .bool X10 := slot_of (hdep 10 (by decide +kernel))
    have g17 : a.tmps[17]? = some (.bool X10) := slot_at (show _ = 40 from hS.size) (by decide) (hdep 10 (by decide +kernel))
    try clear hS
    all_goals (cases X10)
    all_goals
      try dsimp only [cond] at *
      first
      | (go_simp
         exact hK _ _ (Below.refl _ _) rfl)
      | (go_simp
         have hbx := below_on (B := ((w.alloc (.cells #[.slice na nl nc, .int .i64 f.typ, .int .i64 f.kind, .int .i64 f.rank, .int .i64 f.got, .int .i64 f.ttl, .slice sa sl sc, .slice za zl zc, .slice ba bl bc, .slice ha hl hc, .slice ma ml mc, .slice xa xl xc, .slice ta tl tc] 57)).alloc (.cells #[.slice na' nl' nc', .int .i64 g.typ, .int .i64 g.kind, .int .i64 g.rank, .int .i64 g.got, .int .i64 g.ttl, .slice sa' sl' sc', .slice za' zl' zc', .slice ba' bl' bc', .slice ha' hl' hc', .slice ma' ml' mc', .slice xa' xl' xc', .slice ta' tl' tc'] 57)).heap.size) (Below.drew (Below.refl _ _)) hR (Nat.le_refl _)
         refine (HK1.out _ (HF0.out.on hbx) (HSF.out (HSX.out rfl).1)).mono ?_
         rintro e W' ⟨rfl, hb⟩
         exact hK _ _ hb rfl)
  refine soup_cons rfl rfl (fun a W hR hS hdep K hK => ?_) ?_
  · have e4 : a.tmps[4]?.getD undef = .pointer (some ⟨(w.heap.size + 1), 0, none⟩) := slot_of (hS.keep 4 (by kernel_rfl))
    have e17 : a.tmps[17]?.getD undef = .bool X10 := slot_of (hdep 10 (by decide +kernel))
    have g17 : a.tmps[17]? = some (.bool X10) := slot_at (show _ = 40 from hS.size) (by decide) (hdep 10 (by decide +kernel))
    have m0 := cell_keep hR HN0.out
    have m1 := cell_keep hR HN1.out
    have m2 := cell_keep hR HN2.out
    have m3 := cell_keep hR HN3.out
    have m4 := cell_keep hR HN4.out
    have m5 := cell_keep hR HN5.out
    have m6 := cell_keep hR HN6.out
    have m7 := cell_keep hR HN7.out
    have m8 := cell_keep hR HN8.out
    have m9 := cell_keep hR HN9.out
    have m10 := cell_keep hR HN10.out
    have m11 := cell_keep hR HN11.out
    have m12 := cell_keep hR HN12.out
    try clear hS
    all_goals (cases X10)
    all_goals
      try dsimp only [cond] at *
      go_simp
      exact hK _ _ (Below.refl _ _) (by first | rfl | simp)
  refine soup_cons rfl rfl (fun a W hR hS hdep K hK => ?_) ?_
  · have e20 : a.tmps[20]?.getD undef = (bif X10 then (.agg #[.slice na' nl' nc', .int .i64 g.typ, .int .i64 g.kind, .int .i64 g.rank, .int .i64 g.got, .int .i64 g.ttl, .slice sa' sl' sc', .slice za' zl' zc', .slice ba' bl' bc', .slice ha' hl' hc', .slice ma' ml' mc', .slice xa' xl' xc', .slice ta' tl' tc']) else undef) := slot_of (hdep 13 (by decide +kernel))
    have e17 : a.tmps[17]?.getD undef = .bool X10 := slot_of (hdep 10 (by decide +kernel))
    have g17 : a.tmps[17]? = some (.bool X10) := slot_at (show _ = 40 from hS.size) (by decide) (hdep 10 (by decide +kernel))
    try clear hS
    all_goals (cases X10)
    all_goals
      try dsimp only [cond] at *
      first
      | (go_simp
         exact hK _ _ (Below.refl _ _) rfl)
      | (go_simp
         have hbx := below_on (B := ((w.alloc (.cells #[.slice na nl nc, .int .i64 f.typ, .int .i64 f.kind, .int .i64 f.rank, .int .i64 f.got, .int .i64 f.ttl, .slice sa sl sc, .slice za zl zc, .slice ba bl bc, .slice ha hl hc, .slice ma ml mc, .slice xa xl xc, .slice ta tl tc] 57)).alloc (.cells #[.slice na' nl' nc', .int .i64 g.typ, .int .i64 g.kind, .int .i64 g.rank, .int .i64 g.got, .int .i64 g.ttl, .slice sa' sl' sc', .slice za' zl' zc', .slice ba' bl' bc', .slice ha' hl' hc', .slice ma' ml' mc', .slice xa' xl' xc', .slice ta' tl' tc'] 57)).heap.size) (Below.drew (Below.refl _ _)) hR (Nat.le_refl _)
         refine (HK2.out _ (HG0.out.on hbx) (HSG.out (HSX.out rfl).2)).mono ?_
         rintro e W' ⟨rfl, hb⟩
         exact hK _ _ hb rfl)
  refine soup_cons rfl rfl (fun a W hR hS hdep K hK => ?_) ?_
  · have e19 : a.tmps[19]?.getD undef = (bif X10 then (.string K1) else undef) := slot_of (hdep 12 (by decide +kernel))
    have e21 : a.tmps[21]?.getD undef = (bif X10 then (.string K2) else undef) := slot_of (hdep 14 (by decide +kernel))
    have e17 : a.tmps[17]?.getD undef = .bool X10 := slot_of (hdep 10 (by decide +kernel))
    have g17 : a.tmps[17]? = some (.bool X10) := slot_at (show _ = 40 from hS.size) (by decide) (hdep 10 (by decide +kernel))
    try clear hS
    all_goals (cases X10)
    all_goals
      try dsimp only [cond] at *
      go_simp
      exact hK _ _ (Below.refl _ _) (by first | rfl | simp)
  refine soup_cons rfl rfl (fun a W hR hS hdep K hK => ?_) ?_
  · have e17 : a.tmps[17]?.getD undef = .bool X10 := slot_of (hdep 10 (by decide +kernel))
    have e22 : a.tmps[22]?.getD undef = (bif X10 then (.bool (K1.toList == K2.toList)) else undef) := slot_of (hdep 15 (by decide +kernel))
    try clear hS
    all_goals (cases X10)
    all_goals
      try dsimp only [cond] at *
      go_simp
      exact hK _ _ (Below.refl _ _) (by first | rfl | (rw [HX16.out]; rfl) | (rw [HX16.out]; simp) | simp [HX16.out])
  refine soup_cons rfl rfl (fun a W hR hS hdep K hK => ?_) ?_
  · have e23 : a.tmps[23]?.getD undef = .bool X16 := slot_of (hdep 16 (by decide +kernel))
    go_simp
    exact hK _ _ (Below.refl _ _) (by first | rfl | (rw [HX17.out]; rfl) | (rw [HX17.out]; simp) | simp [HX17.out])
  refine soup_cons rfl rfl (fun a W hR hS hdep K hK => ?_) ?_
  · have e4 : a.tmps[4]?.getD undef = .pointer (some ⟨(w.heap.size + 1), 0, none⟩) := slot_of (hS.keep 4 (by kernel_rfl))
    have e24 : a.tmps[24]?.getD undef = .bool X17 := slot_of (hdep 17 (by decide +kernel))
    have g24 : a.tmps[24]? = some (.bool X17) := slot_at (show _ = 40 from hS.size) (by decide) (hdep 17 (by decide +kernel))
    try clear hS
    all_goals (cases X17)
    all_goals
      try dsimp only [cond] at *
      go_simp
      exact hK _ _ (Below.refl _ _) (by first | rfl | simp)
  refine soup_cons rfl rfl (fun a W hR hS hdep K hK => ?_) ?_
  · have e25 : a.tmps[25]?.getD undef = (bif X17 then (.pointer (some ⟨(w.heap.size + 1), 3, none⟩)) else undef) := slot_of (hdep 18 (by decide +kernel))
    have e24 : a.tmps[24]?.getD undef = .bool X17 := slot_of (hdep 17 (by decide +kernel))
    have g24 : a.tmps[24]? = some (.bool X17) := slot_at (show _ = 40 from hS.size) (by decide) (hdep 17 (by decide +kernel))
    have m0 := cell_keep hR HN3.out
    try clear hS
    all_goals (cases X17)
    all_goals
      try dsimp only [cond] at *
      go_simp
      exact hK _ _ (Below.refl _ _) (by first | rfl | simp)
  refine soup_cons rfl rfl (fun a W hR hS hdep K hK => ?_) ?_
  · have e3 : a.tmps[3]?.getD undef = .pointer (some ⟨w.heap.size, 0, none⟩) := slot_of (hS.keep 3 (by kernel_rfl))
    have e24 : a.tmps[24]?.getD undef = .bool X17 := slot_of (hdep 17 (by decide +kernel))
    have g24 : a.tmps[24]? = some (.bool X17) := slot_at (show _ = 40 from hS.size) (by decide) (hdep 17 (by decide +kernel))
    try clear hS
    all_goals (cases X17)
    all_goals
      try dsimp only [cond] at *
      go_simp
      exact hK _ _ (Below.refl _ _) (by first | rfl | simp)
  refine soup_cons rfl rfl (fun a W hR hS hdep K hK => ?_) ?_
  · have e27 : a.tmps[27]?.getD undef = (bif X17 then (.pointer (some ⟨w.heap.size, 3, none⟩)) else undef) := slot_of (hdep 20 (by decide +kernel))
    have e24 : a.tmps[24]?.getD undef = .bool X17 := slot_of (hdep 17 (by decide +kernel))
    have g24 : a.tmps[24]? = some (.bool X17) := slot_at (show _ = 40 from hS.size) (by decide) (hdep 17 (by decide +kernel))
    have m0 := cell_keep hR HM3.out
    try clear hS
    all_goals (cases X17)
    all_goals
      try dsimp only [cond] at *
      go_simp
      exact hK _ _ (Below.refl _ _) (by first | rfl | simp)
  refine soup_cons rfl rfl (fun a W hR hS hdep K hK => ?_) ?_
  · have e26 : a.tmps[26]?.getD undef = (bif X17 then (.int .i64 g.rank) else undef) := slot_of (hdep 19 (by decide +kernel))
    have e28 : a.tmps[28]?.getD undef = (bif X17 then (.int .i64 f.rank) else undef) := slot_of (hdep 21 (by decide +kernel))
    have e24 : a.tmps[24]?.getD undef = .bool X17 := slot_of (hdep 17 (by decide +kernel))
    have g24 : a.tmps[24]? = some (.bool X17) := slot_at (show _ = 40 from hS.size) (by decide) (hdep 17 (by decide +kernel))
    try clear hS
    all_goals (cases X17)
    all_goals
      try dsimp only [cond] at *
      go_simp
      exact hK _ _ (Below.refl _ _) (by first | rfl | simp)
  refine soup_cons rfl rfl (fun a W hR hS hdep K hK => ?_) ?_
  · have e29 : a.tmps[29]?.getD undef = (bif X17 then (.bool (decide (f.rank ≤ g.rank))) else undef) := slot_of (hdep 22 (by decide +kernel))
    have e24 : a.tmps[24]?.getD undef = .bool X17 := slot_of (hdep 17 (by decide +kernel))
    have g24 : a.tmps[24]? = some (.bool X17) := slot_at (show _ = 40 from hS.size) (by decide) (hdep 17 (by decide +kernel))
    try clear hS
    all_goals (cases X17)
    all_goals
      try dsimp only [cond] at *
      go_simp
      exact hK _ _ (Below.refl _ _) (by first | rfl | (rw [HX23.out]; rfl) | (rw [HX23.out]; simp) | simp [HX23.out])
  refine soup_cons rfl rfl (fun a W hR hS hdep K hK => ?_) ?_
  · have e3 : a.tmps[3]?.getD undef = .pointer (some ⟨w.heap.size, 0, none⟩) := slot_of (hS.keep 3 (by kernel_rfl))
    have e30 : a.tmps[30]?.getD undef = (bif X17 then (.bool X23) else undef) := slot_of (hdep 23 (by decide +kernel))
    have g30 : a.tmps[30]? = some ((bif X17 then (.bool X23) else undef)) := slot_at (show _ = 40 from hS.size) (by decide) (hdep 23 (by decide +kernel))
    try clear hS
    all_goals (cases X17)
    all_goals (cases X23)
    all_goals
      try dsimp only [cond] at *
      go_simp
      exact hK _ _ (Below.refl _ _) (by first | rfl | simp)
  refine soup_cons rfl rfl (fun a W hR hS hdep K hK => ?_) ?_
  · have e31 : a.tmps[31]?.getD undef = (bif X17 then ((bif X23 then undef else (.pointer (some ⟨w.heap.size, 4, none⟩)))) else undef) := slot_of (hdep 24 (by decide +kernel))
    have e30 : a.tmps[30]?.getD undef = (bif X17 then (.bool X23) else undef) := slot_of (hdep 23 (by decide +kernel))
    have g30 : a.tmps[30]? = some ((bif X17 then (.bool X23) else undef)) := slot_at (show _ = 40 from hS.size) (by decide) (hdep 23 (by decide +kernel))
    have m0 := cell_keep hR HM4.out
    try clear hS
    all_goals (cases X17)
    all_goals (cases X23)
    all_goals
      try dsimp only [cond] at *
      go_simp
      exact hK _ _ (Below.refl _ _) (by first | rfl | simp)
  refine soup_cons rfl rfl (fun a W hR hS hdep K hK => ?_) ?_
  · have e3 : a.tmps[3]?.getD undef = .pointer (some ⟨w.heap.size, 0, none⟩) := slot_of (hS.keep 3 (by kernel_rfl))
    have e30 : a.tmps[30]?.getD undef = (bif X17 then (.bool X23) else undef) := slot_of (hdep 23 (by decide +kernel))
    have g30 : a.tmps[30]? = some ((bif X17 then (.bool X23) else undef)) := slot_at (show _ = 40 from hS.size) (by decide) (hdep 23 (by decide +kernel))
    try clear hS
    all_goals (cases X17)
    all_goals (cases X23)
    all_goals
      try dsimp only [cond] at *
      go_simp
      exact hK _ _ (Below.refl _ _) (by first | rfl | simp)
  refine soup_cons rfl rfl (fun a W hR hS hdep K hK => ?_) ?_
  · have e33 : a.tmps[33]?.getD undef = (bif X17 then ((bif X23 then undef else (.pointer (some ⟨w.heap.size, 5, none⟩)))) else undef) := slot_of (hdep 26 (by decide +kernel))
    have e30 : a.tmps[30]?.getD undef = (bif X17 then (.bool X23) else undef) := slot_of (hdep 23 (by decide +kernel))
    have g30 : a.tmps[30]? = some ((bif X17 then (.bool X23) else undef)) := slot_at (show _ = 40 from hS.size) (by decide) (hdep 23 (by decide +kernel))
    have m0 := cell_keep hR HM5.out
    try clear hS
    all_goals (cases X17)
    all_goals (cases X23)
    all_goals
      try dsimp only [cond] at *
      go_simp
      exact hK _ _ (Below.refl _ _) (by first | rfl | simp)
  refine soup_cons rfl rfl (fun a W hR hS hdep K hK => ?_) ?_
  · have e2 : a.tmps[2]?.getD undef = .int .i64 now := slot_of (hS.keep 2 (by kernel_rfl))
    have e30 : a.tmps[30]?.getD undef = (bif X17 then (.bool X23) else undef) := slot_of (hdep 23 (by decide +kernel))
    have g30 : a.tmps[30]? = some ((bif X17 then (.bool X23) else undef)) := slot_at (show _ = 40 from hS.size) (by decide) (hdep 23 (by decide +kernel))
    try clear hS
    all_goals (cases X17)
    all_goals (cases X23)
    all_goals
      try dsimp only [cond] at *
      go_simp
      exact hK _ _ (Below.refl _ _) (by first | rfl | simp)
  refine soup_cons rfl rfl (fun a W hR hS hdep K hK => ?_) ?_
  · have e32 : a.tmps[32]?.getD undef = (bif X17 then ((bif X23 then undef else (.int .i64 f.got))) else undef) := slot_of (hdep 25 (by decide +kernel))
    have e34 : a.tmps[34]?.getD undef = (bif X17 then ((bif X23 then undef else (.int .i64 f.ttl))) else undef) := slot_of (hdep 27 (by decide +kernel))
    have e35 : a.tmps[35]?.getD undef = (bif X17 then ((bif X23 then undef else (.int .i64 now))) else undef) := slot_of (hdep 28 (by decide +kernel))
    have e30 : a.tmps[30]?.getD undef = (bif X17 then (.bool X23) else undef) := slot_of (hdep 23 (by decide +kernel))
    have g30 : a.tmps[30]? = some ((bif X17 then (.bool X23) else undef)) := slot_at (show _ = 40 from hS.size) (by decide) (hdep 23 (by decide +kernel))
    try clear hS
    all_goals (cases X17)
    all_goals (cases X23)
    all_goals
      try dsimp only [cond] at *
      first
      | (go_simp
         exact hK _ _ (Below.refl _ _) rfl)
      | (go_simp
         have hbx := below_on (B := ((w.alloc (.cells #[.slice na nl nc, .int .i64 f.typ, .int .i64 f.kind, .int .i64 f.rank, .int .i64 f.got, .int .i64 f.ttl, .slice sa sl sc, .slice za zl zc, .slice ba bl bc, .slice ha hl hc, .slice ma ml mc, .slice xa xl xc, .slice ta tl tc] 57)).alloc (.cells #[.slice na' nl' nc', .int .i64 g.typ, .int .i64 g.kind, .int .i64 g.rank, .int .i64 g.got, .int .i64 g.ttl, .slice sa' sl' sc', .slice za' zl' zc', .slice ba' bl' bc', .slice ha' hl' hc', .slice ma' ml' mc', .slice xa' xl' xc', .slice ta' tl' tc'] 57)).heap.size) (Below.drew (Below.refl _ _)) hR (Nat.le_refl _)
         refine (HRB.out _).mono ?_
         rintro e W' ⟨rfl, rfl⟩
         exact hK _ _ (Below.refl _ _) rfl)
  refine soup_cons rfl rfl (fun a W hR hS hdep K hK => ?_) ?_
  · have e36 : a.tmps[36]?.getD undef = (bif X17 then ((bif X23 then undef else (.bool RB))) else undef) := slot_of (hdep 29 (by decide +kernel))
    have e30 : a.tmps[30]?.getD undef = (bif X17 then (.bool X23) else undef) := slot_of (hdep 23 (by decide +kernel))
    have g30 : a.tmps[30]? = some ((bif X17 then (.bool X23) else undef)) := slot_at (show _ = 40 from hS.size) (by decide) (hdep 23 (by decide +kernel))
    try clear hS
    all_goals (cases X17)
    all_goals (cases X23)
    all_goals
      try dsimp only [cond] at *
      go_simp
      exact hK _ _ (Below.refl _ _) (by first | rfl | simp)
  refine soup_cons rfl rfl (fun a W hR hS hdep K hK => ?_) ?_
  · have e30 : a.tmps[30]?.getD undef = (bif X17 then (.bool X23) else undef) := slot_of (hdep 23 (by decide +kernel))
    have e37 : a.tmps[37]?.getD undef = (bif X17 then ((bif X23 then undef else (.bool (!RB)))) else undef) := slot_of (hdep 30 (by decide +kernel))
    have e24 : a.tmps[24]?.getD undef = .bool X17 := slot_of (hdep 17 (by decide +kernel))
    have g24 : a.tmps[24]? = some (.bool X17) := slot_at (show _ = 40 from hS.size) (by decide) (hdep 17 (by decide +kernel))
    try clear hS
    all_goals (cases X23)
    all_goals (cases X17)
    all_goals
      try dsimp only [cond] at *
      go_simp
      exact hK _ _ (Below.refl _ _) (by first | rfl | (rw [HX31.out]; rfl) | (rw [HX31.out]; simp) | simp [HX31.out])
  refine soup_cons rfl rfl (fun a W hR hS hdep K hK => ?_) ?_
  · have e24 : a.tmps[24]?.getD undef = .bool X17 := slot_of (hdep 17 (by decide +kernel))
    have e38 : a.tmps[38]?.getD undef = (bif X17 then (.bool X31) else undef) := slot_of (hdep 31 (by decide +kernel))
    try clear hS
    all_goals (cases X17)
    all_goals
      try dsimp only [cond] at *
      go_simp
      exact hK _ _ (Below.refl _ _) (by first | rfl | (rw [HX32.out]; rfl) | (rw [HX32.out]; simp) | simp [HX32.out])
  refine soup_cons rfl rfl (fun a W hR hS hdep K hK => ?_) ?_
  · have e39 : a.tmps[39]?.getD undef = .bool X32 := slot_of (hdep 32 (by decide +kernel))
    go_simp
    exact hK _ _ (Below.refl _ _) (by first | rfl | simp)
  exact fun j h1 h2 => absurd h1 (by simp only [List.size_toArray, List.length_cons, List.length_nil]; omega)
end
section
open Go.ChangeShapes Go.WideShapes Go.ChangeAt Go.RowKit
def ptrO (o : Option Nat) : Value := match o with | some b => .pointer (some ⟨b, 0, none⟩) | none => .pointer none
theorem ptrR_shape (v : Value) (y : DataW Unit × List MemPlace) (h : ptrR v = some y) : ∃ o, v = ptrO o := by
  unfold ptrR at h
  split at h
  · exact ⟨some _, rfl⟩
  · exact ⟨none, rfl⟩
  · cases h
theorem str_key (key : Value) (kl : Lit) (h : keyOf Tryz.prog 9 key = some kl) : ∃ x : ByteArray, key = .string x := by
  rw [keyOf_string Tryz.underlying9] at h
  cases key <;> simp [mapKey, Tryz.underlying9] at h
  exact ⟨_, rfl⟩
theorem str_key_lit {x : ByteArray} {kl : Lit} (h : keyOf Tryz.prog 9 (.string x) = some kl) : kl = .string x.data.toList := by
  rw [keyOf_string Tryz.underlying9] at h
  simp [mapKey, Tryz.underlying9] at h
  exact h.2.symm
theorem ptrO_at {D : DataW Unit} {L : List Slot} (h4 : ∀ key z, D.atKey (.string key) z = (match atL L key with | some s => .lit (.int .i64 s.b) | none => z)) {x : ByteArray} {o : Option Nat} {y : DataW Unit × List MemPlace} (hR : ptrR (ptrO o) = some y) (hat : ∀ zd, D.atKey (.string x.data.toList) zd = y.1) :
    ∃ s ∈ L, o = some s.b ∧ x.data.toList = keyF s.f := by
  have h5 := hat .nil
  have h6 := hat (.lit (.bool true))
  rw [h4] at h5 h6
  cases ha : atL L x.data.toList with
  | none => rw [ha] at h5 h6; rw [← h5] at h6; cases h6
  | some s =>
    rw [ha] at h5
    obtain ⟨hs, hk⟩ := atL_mem ha
    refine ⟨s, hs, ?_, hk.symm⟩
    cases o with
    | none => simp [ptrO, ptrR] at hR; rw [← hR] at h5; cases h5
    | some b =>
      simp [ptrO, ptrR] at hR
      rw [← hR] at h5
      injection h5 with e
      injection e with _ e
      have : s.b = b := by omega
      rw [this]
theorem IsCache.iter {B : Nat} {w w' : World} {C k r : Nat} {most stale : Int} {L : List Slot} (h : IsCache B w C most stale k L) (hg : w.grownBy w' (some r)) (hr : ∀ cs t q, w.heap[r]? ≠ some (.cells cs t q)) (hr2 : ∀ es c, w.heap[r]? ≠ some (.map es c)) (hB : B ≤ r) (hrl : r < w.heap.size) : IsCache B w' C most stale k L ∧ Left B w w' := by
  obtain ⟨M, a, b, c⟩ := h.ex
  have hMr : M ≠ r := by
    rintro rfl
    obtain ⟨_, _, ⟨es, clock, h1, _⟩, _⟩ := c
    exact hr2 _ _ h1
  have hbl : ∀ {g : Nat} {cs : Array Value} {T : TypeId}, Blk w g cs T → g ≠ r := by
    intro g cs T hx e
    subst e
    exact hr _ _ _ hx
  have same : Same (tagged gT w) w w' := fun b hb ht => hg.block b hb (fun e => by
    obtain ⟨cs, t, h1, _⟩ := ht
    exact hr _ _ _ (Option.some.inj e ▸ h1))
  refine ⟨⟨⟨M, a.but hg (hbl a), b, c.on (hg.block M c.lt (fun e => hMr (Option.some.inj e)))⟩, h.base, fun s hs => ?_, h.apart, h.keys, h.used, h.order⟩, (Below.refl B w).grown hg (by omega) (fun j e => by cases e; exact hB), same⟩
  obtain ⟨p, q, i, d⟩ := h.slot s hs
  exact ⟨p, q.but hg (hbl q), i.step (same.mono (fun _ _ ht => tagged_mono ht fT_gT)), d⟩
theorem iter_cells {w : World} {M r n cnt : Nat} {D : DataW Unit} {left : Lit → Bool} (h : w.ranges Tryz.prog 9 ptrR M r n D left cnt) : (∀ cs t q, w.heap[r]? ≠ some (.cells cs t q)) ∧ (∀ es c, w.heap[r]? ≠ some (.map es c)) := by
  obtain ⟨es, clock, since, seen, c0, h1, h2, h3, h4, h5, h6⟩ := h
  exact ⟨fun _ _ _ e => (by rw [h5] at e; cases e), fun _ _ e => (by rw [h5] at e; cases e)⟩
end
section
open Go.ChangeShapes Go.WideShapes Go.ChangeAt Go.RowKit
set_option maxHeartbeats 16000000 in
set_option maxRecDepth 100000 in
theorem lay_full (w : World) (S : Nat → Prop) (B C : Nat) (most stale : Int) (k : Nat) (L : List Slot) (hC : IsCache B w C most stale k L) (hk : k < 4000000000000000000) (hL : L.length < 100000) (h : FactH) (f : FactP) (hf : IsFact S w h f) (hB : factB f = true) (hl : FLen f) :
    Calls Tryz.prog 73 #[.pointer (some ⟨C, 0, none⟩), .agg (factC h f)] w fun e w' => e = .returned (.tuple #[]) ∧ ∃ b kk, IsCache B w' C most stale (k + 1) (trimL most (offL L (keyF f) ++ [⟨b, kk, f, k + 1⟩])) ∧ Left B w w' := by
  obtain ⟨M, hCb, hMB, hML⟩ := hC.ex
  have hb1 : Below w.heap.size w (w.alloc (.cells (factC h f) 57)) := (Below.refl _ _).alloc (Nat.le_refl _) _
  have hA : Blk (w.alloc (.cells (factC h f) 57)) w.heap.size (factC h f) 57 := heap_alloc_new w _
  have HA := Lib.hid hA
  have HB := Lib.hid hb1
  have HCC := Lib.hid hC
  have HMM := Lib.hid (And.intro hCb (And.intro hMB hML))
  have HF1 := Lib.hid (hf.on hb1)
  have HFW := Lib.hid hf
  have HV := Lib.hid (And.intro hB (And.intro hl (And.intro hk hL)))
  have hz := fact_small hB
  clear hC hCb hMB hML hf hB hl hb1 hk hL
  have m0 : (w.alloc (.cells (factC h f) 57)).cell? ⟨w.heap.size, 0, none⟩ = some (.slice h.na h.nl h.nc) := hA.cell 0
  have m1 : (w.alloc (.cells (factC h f) 57)).cell? ⟨w.heap.size, 1, none⟩ = some (.int .i64 f.typ) := hA.cell 1
  have m2 : (w.alloc (.cells (factC h f) 57)).cell? ⟨w.heap.size, 2, none⟩ = some (.int .i64 f.kind) := hA.cell 2
  have m3 : (w.alloc (.cells (factC h f) 57)).cell? ⟨w.heap.size, 3, none⟩ = some (.int .i64 f.rank) := hA.cell 3
  have m4 : (w.alloc (.cells (factC h f) 57)).cell? ⟨w.heap.size, 4, none⟩ = some (.int .i64 f.got) := hA.cell 4
  have m5 : (w.alloc (.cells (factC h f) 57)).cell? ⟨w.heap.size, 5, none⟩ = some (.int .i64 f.ttl) := hA.cell 5
  have m6 : (w.alloc (.cells (factC h f) 57)).cell? ⟨w.heap.size, 6, none⟩ = some (.slice h.sa h.sl h.sc) := hA.cell 6
  have m7 : (w.alloc (.cells (factC h f) 57)).cell? ⟨w.heap.size, 7, none⟩ = some (.slice h.za h.zl h.zc) := hA.cell 7
  have m8 : (w.alloc (.cells (factC h f) 57)).cell? ⟨w.heap.size, 8, none⟩ = some (.slice h.d.ba h.d.bl h.d.bc) := hA.cell 8
  have m9 : (w.alloc (.cells (factC h f) 57)).cell? ⟨w.heap.size, 9, none⟩ = some (.slice h.d.ha h.d.hl h.d.hc) := hA.cell 9
  have m10 : (w.alloc (.cells (factC h f) 57)).cell? ⟨w.heap.size, 10, none⟩ = some (.slice h.d.ma h.d.ml h.d.mc) := hA.cell 10
  have m11 : (w.alloc (.cells (factC h f) 57)).cell? ⟨w.heap.size, 11, none⟩ = some (.slice h.d.na h.d.nl h.d.nc) := hA.cell 11
  have m12 : (w.alloc (.cells (factC h f) 57)).cell? ⟨w.heap.size, 12, none⟩ = some (.slice h.d.ta h.d.tl h.d.tc) := hA.cell 12
  clear hA
  go_enter Tryz.func73, Tryz.ntmps73
  simp only [factC]
  go_wp2_with (go_at_call 77; refine (fown_any _ S h f HF1.out HV.out.2.1).mono ?_; rintro e W2 ⟨⟨kk, rfl, hown⟩, hb2⟩; simp only [factC])
  clear m0 m1 m2 m3 m4 m5 m6 m7 m8 m9 m10 m11 m12
  (try change Code.wp _ (Code.region _ _ _) _ _ (W2.alloc (.cells (itemC ⟨W2.heap.size, kk, f, 0⟩) 134)))
  have hb3 : Below w.heap.size w (W2.alloc (.cells (itemC ⟨W2.heap.size, kk, f, 0⟩) 134)) := (below_on HB.out hb2 (Nat.le_refl _)).alloc ((below_on HB.out hb2 (Nat.le_refl _)).size) _
  have hb4 : Below W2.heap.size W2 (W2.alloc (.cells (itemC ⟨W2.heap.size, kk, f, 0⟩) 134)) := (Below.refl _ _).alloc (Nat.le_refl _) _
  have hA := (HA.out.on hb2).on hb4
  have hX : Blk (W2.alloc (.cells (itemC ⟨W2.heap.size, kk, f, 0⟩) 134)) W2.heap.size (itemC ⟨W2.heap.size, kk, f, 0⟩) 134 := heap_alloc_new _ _
  have hF : IsFact (tagged fT (W2.alloc (.cells (itemC ⟨W2.heap.size, kk, f, 0⟩) 134))) (W2.alloc (.cells (itemC ⟨W2.heap.size, kk, f, 0⟩) 134)) kk f := (hown.mono (fun b _ ht => ht.1)).step (Same.below hb4 _)
  have hC3 := HMM.out.1.on hb3
  have hXw : w.heap.size ≤ W2.heap.size := (below_on HB.out hb2 (Nat.le_refl _)).size
  have hAX := HA.out.lt
  have hAX2 : w.heap.size < W2.heap.size := Nat.lt_of_lt_of_le hAX hb2.size
  rename_i K0 hK0
  have HK0 := Lib.hid hK0
  clear hK0 hb2 hb4 hown hAX
  generalize W2.alloc (.cells (itemC ⟨W2.heap.size, kk, f, 0⟩) 134) = Y at hb3 hA hX hF hC3 ⊢
  generalize W2.heap.size = X at hX hXw hAX2 hF hb3 hA hC3 ⊢
  have HM0 := Lib.hid (show Y.drew.cell? ⟨w.heap.size, 0, none⟩ = some (.slice h.na h.nl h.nc) from hA.cell 0)
  have HM1 := Lib.hid (show Y.drew.cell? ⟨w.heap.size, 1, none⟩ = some (.int .i64 f.typ) from hA.cell 1)
  have HM2 := Lib.hid (show Y.drew.cell? ⟨w.heap.size, 2, none⟩ = some (.int .i64 f.kind) from hA.cell 2)
  have HM3 := Lib.hid (show Y.drew.cell? ⟨w.heap.size, 3, none⟩ = some (.int .i64 f.rank) from hA.cell 3)
  have HM4 := Lib.hid (show Y.drew.cell? ⟨w.heap.size, 4, none⟩ = some (.int .i64 f.got) from hA.cell 4)
  have HM5 := Lib.hid (show Y.drew.cell? ⟨w.heap.size, 5, none⟩ = some (.int .i64 f.ttl) from hA.cell 5)
  have HM6 := Lib.hid (show Y.drew.cell? ⟨w.heap.size, 6, none⟩ = some (.slice h.sa h.sl h.sc) from hA.cell 6)
  have HM7 := Lib.hid (show Y.drew.cell? ⟨w.heap.size, 7, none⟩ = some (.slice h.za h.zl h.zc) from hA.cell 7)
  have HM8 := Lib.hid (show Y.drew.cell? ⟨w.heap.size, 8, none⟩ = some (.slice h.d.ba h.d.bl h.d.bc) from hA.cell 8)
  have HM9 := Lib.hid (show Y.drew.cell? ⟨w.heap.size, 9, none⟩ = some (.slice h.d.ha h.d.hl h.d.hc) from hA.cell 9)
  have HM10 := Lib.hid (show Y.drew.cell? ⟨w.heap.size, 10, none⟩ = some (.slice h.d.ma h.d.ml h.d.mc) from hA.cell 10)
  have HM11 := Lib.hid (show Y.drew.cell? ⟨w.heap.size, 11, none⟩ = some (.slice h.d.na h.d.nl h.d.nc) from hA.cell 11)
  have HM12 := Lib.hid (show Y.drew.cell? ⟨w.heap.size, 12, none⟩ = some (.slice h.d.ta h.d.tl h.d.tc) from hA.cell 12)
  have HMC := Lib.hid (show Y.drew.cell? ⟨C, 2, none⟩ = some (.map (some M)) from hC3.cell 2)
  have HKY := Lib.hid (fun w' (p : Below Y.heap.size Y w') => fkey_any w' h f ((HFW.out.on hb3).on p).name (Nat.le_trans hz (by decide)))
  have HY := Lib.hid (And.intro hb3 (And.intro hX (And.intro hF (And.intro hXw hAX2))))
  have HML := Lib.hid (HMM.out.2.2.on (hb3.block M HMM.out.2.2.lt))
  simp only [factC] at HKY
  clear hb3 hA hX hF hC3 hXw hAX2
  refine wp_soup_tail (m := 66) 7 (by kernel_rfl) (fun x y => Below x.heap.size x y) (fun i v xw => match i with | 0 => v = .pointer (some ⟨C, 0, none⟩) | 1 => v = .pointer (some ⟨C, 0, none⟩) | 2 => v = .pointer (some ⟨C, 2, none⟩) | 3 => v = .map (some M) | 4 => v = .agg #[.slice h.na h.nl h.nc, .int .i64 f.typ, .int .i64 f.kind, .int .i64 f.rank, .int .i64 f.got, .int .i64 f.ttl, .slice h.sa h.sl h.sc, .slice h.za h.zl h.zc, .slice h.d.ba h.d.bl h.d.bc, .slice h.d.ha h.d.hl h.d.hc, .slice h.d.ma h.d.ml h.d.mc, .slice h.d.na h.d.nl h.d.nc, .slice h.d.ta h.d.tl h.d.tc] | 5 => v = .string (⟨(keyF f).toArray⟩) | 6 => v = .pointer (some ⟨X, 0, none⟩) | _ => True) rfl (by kernel_rfl) (by kernel_rfl) (fun _ _ _ h1 h2 => below_on h1 h2 (Nat.le_refl _)) (Below.refl _ _) (fun _ _ _ _ h _ => h) (dst_head (by kernel_rfl)) ?_ ?_
  rotate_left
  · intro a W hR hS hdep
    have e0 : a.tmps.getD 0 undef = .pointer (some ⟨C, 0, none⟩) := hS.keep 0 (by kernel_rfl)
    have e4 : a.tmps.getD 4 undef = .pointer (some ⟨X, 0, none⟩) := hS.keep 4 (by kernel_rfl)
    have e15 : a.tmps.getD 15 undef = .map (some M) := hdep 3 (by decide +kernel)
    have e17 : a.tmps.getD 17 undef = .string (⟨(keyF f).toArray⟩) := hdep 5 (by decide +kernel)
    have e18 : a.tmps.getD 18 undef = .pointer (some ⟨X, 0, none⟩) := hdep 6 (by decide +kernel)
    obtain ⟨T, df⟩ := a
    obtain rfl : df = [] := hS.defers
    have hT : T = #[T.getD 0 undef, T.getD 1 undef, T.getD 2 undef, T.getD 3 undef, T.getD 4 undef, T.getD 5 undef, T.getD 6 undef, T.getD 7 undef, T.getD 8 undef, T.getD 9 undef, T.getD 10 undef, T.getD 11 undef, T.getD 12 undef, T.getD 13 undef, T.getD 14 undef, T.getD 15 undef, T.getD 16 undef, T.getD 17 undef, T.getD 18 undef, T.getD 19 undef, T.getD 20 undef, T.getD 21 undef, T.getD 22 undef, T.getD 23 undef, T.getD 24 undef, T.getD 25 undef, T.getD 26 undef, T.getD 27 undef, T.getD 28 undef, T.getD 29 undef, T.getD 30 undef, T.getD 31 undef, T.getD 32 undef, T.getD 33 undef, T.getD 34 undef, T.getD 35 undef, T.getD 36 undef, T.getD 37 undef, T.getD 38 undef, T.getD 39 undef, T.getD 40 undef, T.getD 41 undef, T.getD 42 undef, T.getD 43 undef, T.getD 44 undef, T.getD 45 undef, T.getD 46 undef, T.getD 47 undef, T.getD 48 undef, T.getD 49 undef, T.getD 50 undef, T.getD 51 undef, T.getD 52 undef, T.getD 53 undef, T.getD 54 undef, T.getD 55 undef, T.getD 56 undef, T.getD 57 undef, T.getD 58 undef, T.getD 59 undef, T.getD 60 undef, T.getD 61 undef, T.getD 62 undef, T.getD 63 undef, T.getD 64 undef, T.getD 65 undef] := arr_eta T 66 hS.size
    have k0 : T.getD 0 undef = .pointer (some ⟨C, 0, none⟩) := e0
    have k4 : T.getD 4 undef = .pointer (some ⟨X, 0, none⟩) := e4
    have k15 : T.getD 15 undef = .map (some M) := e15
    have k17 : T.getD 17 undef = .string (⟨(keyF f).toArray⟩) := e17
    have k18 : T.getD 18 undef = .pointer (some ⟨X, 0, none⟩) := e18
    clear hS hdep
    rw [hT]
    rw [k0]
    clear k0 e0
    rw [k4]
    clear k4 e4
    rw [k15]
    clear k15 e15
    rw [k17]
    clear k17 e17
    rw [k18]
    clear k18 e18
    clear hT
    generalize T.getD 1 undef = u1
    generalize T.getD 2 undef = u2
    generalize T.getD 3 undef = u3
    generalize T.getD 5 undef = u5
    generalize T.getD 6 undef = u6
    generalize T.getD 7 undef = u7
    generalize T.getD 8 undef = u8
    generalize T.getD 9 undef = u9
    generalize T.getD 10 undef = u10
    generalize T.getD 11 undef = u11
    generalize T.getD 12 undef = u12
    generalize T.getD 13 undef = u13
    generalize T.getD 14 undef = u14
    generalize T.getD 16 undef = u16
    generalize T.getD 19 undef = u19
    generalize T.getD 20 undef = u20
    generalize T.getD 21 undef = u21
    generalize T.getD 22 undef = u22
    generalize T.getD 23 undef = u23
    generalize T.getD 24 undef = u24
    generalize T.getD 25 undef = u25
    generalize T.getD 26 undef = u26
    generalize T.getD 27 undef = u27
    generalize T.getD 28 undef = u28
    generalize T.getD 29 undef = u29
    generalize T.getD 30 undef = u30
    generalize T.getD 31 undef = u31
    generalize T.getD 32 undef = u32
    generalize T.getD 33 undef = u33
    generalize T.getD 34 undef = u34
    generalize T.getD 35 undef = u35
    generalize T.getD 36 undef = u36
    generalize T.getD 37 undef = u37
    generalize T.getD 38 undef = u38
    generalize T.getD 39 undef = u39
    generalize T.getD 40 undef = u40
    generalize T.getD 41 undef = u41
    generalize T.getD 42 undef = u42
    generalize T.getD 43 undef = u43
    generalize T.getD 44 undef = u44
    generalize T.getD 45 undef = u45
    generalize T.getD 46 undef = u46
    generalize T.getD 47 undef = u47
    generalize T.getD 48 undef = u48
    generalize T.getD 49 undef = u49
    generalize T.getD 50 undef = u50
    generalize T.getD 51 undef = u51
    generalize T.getD 52 undef = u52
    generalize T.getD 53 undef = u53
    generalize T.getD 54 undef = u54
    generalize T.getD 55 undef = u55
    generalize T.getD 56 undef = u56
    generalize T.getD 57 undef = u57
    generalize T.getD 58 undef = u58
    generalize T.getD 59 undef = u59
    generalize T.getD 60 undef = u60
    generalize T.getD 61 undef = u61
    generalize T.getD 62 undef = u62
    generalize T.getD 63 undef = u63
    generalize T.getD 64 undef = u64
    generalize T.getD 65 undef = u65
    have hbx := below_on (B := Y.heap.size) (Below.drew (Below.refl _ _)) hR (Nat.le_refl _)
    have hMW := HML.out.on (hbx.block M HML.out.lt)
    obtain ⟨W4, hrun, hM4, hg4, hs4⟩ := hMW.store HCC.out.keys HV.out.2.2.2 ⟨X, kk, f, k + 1⟩ (by show (keyF f).length ≤ _; rw [keyF, keyP_size]; omega)
    clear hR
    go_wp2_with fail
    have hlen : (offL L (keyF f)).length + 1 = (offL L (keyF f) ++ [(⟨X, kk, f, k + 1⟩ : Slot)]).length := by simp
    have hC4 := (HMM.out.1.on (HY.out.1.trans (hbx.mono HY.out.1.size))).but hg4 (blk_map_ne HMM.out.1 HMM.out.2.2)
    have hXW := HY.out.2.1.on hbx
    have hX4 := hXW.but hg4 (blk_map_ne hXW hMW)
    have hCX : C ≠ X := blk_ne hC4 hX4 (by decide)
    have h0W : Below w.heap.size w W := below_on HY.out.1 hbx (Nat.le_refl _)
    have HC4 := Lib.hid hC4
    have HX4 := Lib.hid hX4
    have HG4 := Lib.hid (And.intro hg4 (And.intro hs4 hM4))
    have HXW := Lib.hid (And.intro hXW h0W)
    have HFW2 := Lib.hid (HY.out.2.2.1.step (Same.below hbx _))
    have HLEN := Lib.hid hlen
    clear hC4 hX4 hg4 hs4 hM4 hXW h0W hrun hMW hbx hlen
    refine HK0.out _ _ ?_
    clear HK0
    go_wp2_with (go_at_call 101; refine (use_any W4 C X M k most stale _ HC4.out HX4.out rfl hCX HV.out.2.2.1).mono ?_; rintro e W5 ⟨rfl, hC5, hX5, hs5, ho5, hb5⟩; have HFIN := Lib.hid (lay_law HCC.out HMM.out.1 HMM.out.2.1 HMM.out.2.2 HXW.out.2 HY.out.2.2.2.1 HXW.out.1 HFW2.out HV.out.1 HV.out.2.1 HG4.out.2.2 HG4.out.1 HG4.out.2.1 hC5 hX5 hs5 ho5 hb5); have HMW5 := Lib.hid (show MapL W5 M _ from HG4.out.2.2.on (ho5 M (fun e => blk_map_ne HC4.out HG4.out.2.2 e.symm) (fun e => blk_map_ne HX4.out HG4.out.2.2 e.symm))); have HC5A := Lib.hid hC5; have HQ2 := Lib.hid (show W5.drew.cell? ⟨C, 2, none⟩ = some (.map (some M)) from hC5.cell 2); have HQ0 := Lib.hid (show W5.drew.cell? ⟨C, 0, none⟩ = some (.int .i64 most) from hC5.cell 0); clear hC5 hX5 hs5 ho5 hb5)
    obtain ⟨N, hN⟩ : ∃ q : Int, q = ((offL L (keyF f) ++ [(⟨X, kk, f, k + 1⟩ : Slot)]).length : Int) := ⟨_, rfl⟩
    have HLN := Lib.hid (fun w' (p : Below W5.heap.size W5 w') ty => (HMW5.out.on (p.block M HMW5.out.lt)).len ty)
    rw [← hN] at HLN
    have HLN0 := Lib.hid hN
    have HC5B := Lib.hid (show Blk W5 C #[.int .i64 most, .int .i64 stale, .map (some M), .int .i64 ((k + 1 : Nat) : Int)] 75 from HC5A.out)
    clear HLEN hN
    by_cases hnm : N ≤ most
    · have HNM := Lib.hid hnm
      have HTRIM := Lib.hid (show trimL most (offL L (keyF f) ++ [(⟨X, kk, f, k + 1⟩ : Slot)]) = (offL L (keyF f) ++ [(⟨X, kk, f, k + 1⟩ : Slot)]) by rw [trimL, if_pos (by rw [← HLN0.out]; exact hnm)])
      clear hnm
      refine wp_soup0 (m := 66) (by kernel_rfl) (fun x y => Below x.heap.size x y) (fun i v xw => match i with | 0 => v = .pointer (some ⟨C, 0, none⟩) | 1 => v = .pointer (some ⟨C, 0, none⟩) | 2 => v = .pointer (some ⟨C, 2, none⟩) | 3 => v = .map (some M) | 4 => v = .int .i64 N | 5 => v = .pointer (some ⟨C, 0, none⟩) | 6 => v = .pointer (some ⟨C, 0, none⟩) | 7 => v = .pointer (some ⟨C, 0, none⟩) | 8 => v = .int .i64 most | 9 => v = .bool (decide (N ≤ most)) | _ => True) rfl (by kernel_rfl) (fun _ _ _ h1 h2 => below_on h1 h2 (Nat.le_refl _)) (Below.refl _ _) (fun _ _ _ _ h _ => h) (dst_but 10 (by kernel_rfl) (fun _ _ h => h)) ?_ ?_
      rotate_left
      · intro a W hR hS hdep
        have e31 : a.tmps.getD 31 undef = .bool (decide (N ≤ most)) := hdep 9 (by decide +kernel)
        obtain ⟨T, df⟩ := a
        obtain rfl : df = [] := hS.defers
        have hT : T = #[T.getD 0 undef, T.getD 1 undef, T.getD 2 undef, T.getD 3 undef, T.getD 4 undef, T.getD 5 undef, T.getD 6 undef, T.getD 7 undef, T.getD 8 undef, T.getD 9 undef, T.getD 10 undef, T.getD 11 undef, T.getD 12 undef, T.getD 13 undef, T.getD 14 undef, T.getD 15 undef, T.getD 16 undef, T.getD 17 undef, T.getD 18 undef, T.getD 19 undef, T.getD 20 undef, T.getD 21 undef, T.getD 22 undef, T.getD 23 undef, T.getD 24 undef, T.getD 25 undef, T.getD 26 undef, T.getD 27 undef, T.getD 28 undef, T.getD 29 undef, T.getD 30 undef, T.getD 31 undef, T.getD 32 undef, T.getD 33 undef, T.getD 34 undef, T.getD 35 undef, T.getD 36 undef, T.getD 37 undef, T.getD 38 undef, T.getD 39 undef, T.getD 40 undef, T.getD 41 undef, T.getD 42 undef, T.getD 43 undef, T.getD 44 undef, T.getD 45 undef, T.getD 46 undef, T.getD 47 undef, T.getD 48 undef, T.getD 49 undef, T.getD 50 undef, T.getD 51 undef, T.getD 52 undef, T.getD 53 undef, T.getD 54 undef, T.getD 55 undef, T.getD 56 undef, T.getD 57 undef, T.getD 58 undef, T.getD 59 undef, T.getD 60 undef, T.getD 61 undef, T.getD 62 undef, T.getD 63 undef, T.getD 64 undef, T.getD 65 undef] := arr_eta T 66 hS.size
        have k31 : T.getD 31 undef = .bool (decide (N ≤ most)) := e31
        clear hS hdep
        rw [hT]
        rw [k31]
        clear k31 e31
        clear hT
        generalize T.getD 0 undef = u0
        generalize T.getD 1 undef = u1
        generalize T.getD 2 undef = u2
        generalize T.getD 3 undef = u3
        generalize T.getD 4 undef = u4
        generalize T.getD 5 undef = u5
        generalize T.getD 6 undef = u6
        generalize T.getD 7 undef = u7
        generalize T.getD 8 undef = u8
        generalize T.getD 9 undef = u9
        generalize T.getD 10 undef = u10
        generalize T.getD 11 undef = u11
        generalize T.getD 12 undef = u12
        generalize T.getD 13 undef = u13
        generalize T.getD 14 undef = u14
        generalize T.getD 15 undef = u15
        generalize T.getD 16 undef = u16
        generalize T.getD 17 undef = u17
        generalize T.getD 18 undef = u18
        generalize T.getD 19 undef = u19
        generalize T.getD 20 undef = u20
        generalize T.getD 21 undef = u21
        generalize T.getD 22 undef = u22
        generalize T.getD 23 undef = u23
        generalize T.getD 24 undef = u24
        generalize T.getD 25 undef = u25
        generalize T.getD 26 undef = u26
        generalize T.getD 27 undef = u27
        generalize T.getD 28 undef = u28
        generalize T.getD 29 undef = u29
        generalize T.getD 30 undef = u30
        generalize T.getD 32 undef = u32
        generalize T.getD 33 undef = u33
        generalize T.getD 34 undef = u34
        generalize T.getD 35 undef = u35
        generalize T.getD 36 undef = u36
        generalize T.getD 37 undef = u37
        generalize T.getD 38 undef = u38
        generalize T.getD 39 undef = u39
        generalize T.getD 40 undef = u40
        generalize T.getD 41 undef = u41
        generalize T.getD 42 undef = u42
        generalize T.getD 43 undef = u43
        generalize T.getD 44 undef = u44
        generalize T.getD 45 undef = u45
        generalize T.getD 46 undef = u46
        generalize T.getD 47 undef = u47
        generalize T.getD 48 undef = u48
        generalize T.getD 49 undef = u49
        generalize T.getD 50 undef = u50
        generalize T.getD 51 undef = u51
        generalize T.getD 52 undef = u52
        generalize T.getD 53 undef = u53
        generalize T.getD 54 undef = u54
        generalize T.getD 55 undef = u55
        generalize T.getD 56 undef = u56
        generalize T.getD 57 undef = u57
        generalize T.getD 58 undef = u58
        generalize T.getD 59 undef = u59
        generalize T.getD 60 undef = u60
        generalize T.getD 61 undef = u61
        generalize T.getD 62 undef = u62
        generalize T.getD 63 undef = u63
        generalize T.getD 64 undef = u64
        generalize T.getD 65 undef = u65
        have hbx := below_on (B := W5.heap.size) (Below.drew (Below.refl _ _)) hR (Nat.le_refl _)
        have HT := Lib.hid (show decide (N ≤ most) = true from decide_eq_true HNM.out)
        clear hR
        rw [HT.out]
        have HFW5 := Lib.hid hbx
        clear hbx
        go_wp2_with fail
        refine bodyPost_ret (results_none rfl _ _ _) rfl ?_
        exact ⟨rfl, X, kk, (by rw [HTRIM.out]; exact HFIN.out.1.on HFW5.out), HFIN.out.2.trans (Left.below HFW5.out (by have := HFIN.out.1.base; have := HQ2.out; have := HCC.out.base; have := HFIN.out.2.bel.size; have := HMM.out.1.lt; omega))⟩
      refine soup_cons rfl rfl (fun a W hR hS hdep K hK => ?_) ?_
      · have e0 : a.tmps[0]?.getD undef = .pointer (some ⟨C, 0, none⟩) := slot_of (hS.keep 0 (by kernel_rfl))
        go_simp
        exact hK _ _ (Below.refl _ _) (by first | rfl | simp)
      refine soup_cons rfl rfl (fun a W hR hS hdep K hK => ?_) ?_
      · have e22 : a.tmps[22]?.getD undef = .pointer (some ⟨C, 0, none⟩) := slot_of (hdep 0 (by decide +kernel))
        go_simp
        exact hK _ _ (Below.refl _ _) (by first | rfl | simp)
      refine soup_cons rfl rfl (fun a W hR hS hdep K hK => ?_) ?_
      · have e23 : a.tmps[23]?.getD undef = .pointer (some ⟨C, 0, none⟩) := slot_of (hdep 1 (by decide +kernel))
        go_simp
        exact hK _ _ (Below.refl _ _) (by first | rfl | simp)
      refine soup_cons rfl rfl (fun a W hR hS hdep K hK => ?_) ?_
      · have e24 : a.tmps[24]?.getD undef = .pointer (some ⟨C, 2, none⟩) := slot_of (hdep 2 (by decide +kernel))
        have m0 := cell_keep hR HQ2.out
        go_simp
        exact hK _ _ (Below.refl _ _) (by first | rfl | simp)
      refine soup_cons rfl rfl (fun a W hR hS hdep K hK => ?_) ?_
      · have e25 : a.tmps[25]?.getD undef = .map (some M) := slot_of (hdep 3 (by decide +kernel))
        go_simp
        have hbx := below_on (B := W5.heap.size) (Below.drew (Below.refl _ _)) hR (Nat.le_refl _)
        rw [HLN.out _ hbx]
        exact hK _ _ (Below.refl _ _) rfl
      refine soup_cons rfl rfl (fun a W hR hS hdep K hK => ?_) ?_
      · have e0 : a.tmps[0]?.getD undef = .pointer (some ⟨C, 0, none⟩) := slot_of (hS.keep 0 (by kernel_rfl))
        go_simp
        exact hK _ _ (Below.refl _ _) (by first | rfl | simp)
      refine soup_cons rfl rfl (fun a W hR hS hdep K hK => ?_) ?_
      · have e27 : a.tmps[27]?.getD undef = .pointer (some ⟨C, 0, none⟩) := slot_of (hdep 5 (by decide +kernel))
        go_simp
        exact hK _ _ (Below.refl _ _) (by first | rfl | simp)
      refine soup_cons rfl rfl (fun a W hR hS hdep K hK => ?_) ?_
      · have e28 : a.tmps[28]?.getD undef = .pointer (some ⟨C, 0, none⟩) := slot_of (hdep 6 (by decide +kernel))
        go_simp
        exact hK _ _ (Below.refl _ _) (by first | rfl | simp)
      refine soup_cons rfl rfl (fun a W hR hS hdep K hK => ?_) ?_
      · have e29 : a.tmps[29]?.getD undef = .pointer (some ⟨C, 0, none⟩) := slot_of (hdep 7 (by decide +kernel))
        have m0 := cell_keep hR HQ0.out
        go_simp
        exact hK _ _ (Below.refl _ _) (by first | rfl | simp)
      refine soup_cons rfl rfl (fun a W hR hS hdep K hK => ?_) ?_
      · have e26 : a.tmps[26]?.getD undef = .int .i64 N := slot_of (hdep 4 (by decide +kernel))
        have e30 : a.tmps[30]?.getD undef = .int .i64 most := slot_of (hdep 8 (by decide +kernel))
        go_simp
        exact hK _ _ (Below.refl _ _) (by first | rfl | simp)
      exact fun j h1 h2 => absurd h1 (by simp only [List.size_toArray, List.length_cons, List.length_nil]; omega)
    · have HNM := Lib.hid hnm
      have HTRIM := Lib.hid (show trimL most (offL L (keyF f) ++ [(⟨X, kk, f, k + 1⟩ : Slot)]) = ((offL L (keyF f) ++ [(⟨X, kk, f, k + 1⟩ : Slot)])).tail by rw [trimL, if_neg (by rw [← HLN0.out]; exact hnm)])
      clear hnm
      refine wp_soup0 (m := 66) (by kernel_rfl) (fun x y => Below x.heap.size x y) (fun i v xw => match i with | 0 => v = .pointer (some ⟨C, 0, none⟩) | 1 => v = .pointer (some ⟨C, 0, none⟩) | 2 => v = .pointer (some ⟨C, 2, none⟩) | 3 => v = .map (some M) | 4 => v = .int .i64 N | 5 => v = .pointer (some ⟨C, 0, none⟩) | 6 => v = .pointer (some ⟨C, 0, none⟩) | 7 => v = .pointer (some ⟨C, 0, none⟩) | 8 => v = .int .i64 most | 9 => v = .bool (decide (N ≤ most)) | _ => True) rfl (by kernel_rfl) (fun _ _ _ h1 h2 => below_on h1 h2 (Nat.le_refl _)) (Below.refl _ _) (fun _ _ _ _ h _ => h) (dst_but 10 (by kernel_rfl) (fun _ _ h => h)) ?_ ?_
      rotate_left
      · intro a W hR hS hdep
        have e0 : a.tmps.getD 0 undef = .pointer (some ⟨C, 0, none⟩) := hS.keep 0 (by kernel_rfl)
        have e31 : a.tmps.getD 31 undef = .bool (decide (N ≤ most)) := hdep 9 (by decide +kernel)
        obtain ⟨T, df⟩ := a
        obtain rfl : df = [] := hS.defers
        have hT : T = #[T.getD 0 undef, T.getD 1 undef, T.getD 2 undef, T.getD 3 undef, T.getD 4 undef, T.getD 5 undef, T.getD 6 undef, T.getD 7 undef, T.getD 8 undef, T.getD 9 undef, T.getD 10 undef, T.getD 11 undef, T.getD 12 undef, T.getD 13 undef, T.getD 14 undef, T.getD 15 undef, T.getD 16 undef, T.getD 17 undef, T.getD 18 undef, T.getD 19 undef, T.getD 20 undef, T.getD 21 undef, T.getD 22 undef, T.getD 23 undef, T.getD 24 undef, T.getD 25 undef, T.getD 26 undef, T.getD 27 undef, T.getD 28 undef, T.getD 29 undef, T.getD 30 undef, T.getD 31 undef, T.getD 32 undef, T.getD 33 undef, T.getD 34 undef, T.getD 35 undef, T.getD 36 undef, T.getD 37 undef, T.getD 38 undef, T.getD 39 undef, T.getD 40 undef, T.getD 41 undef, T.getD 42 undef, T.getD 43 undef, T.getD 44 undef, T.getD 45 undef, T.getD 46 undef, T.getD 47 undef, T.getD 48 undef, T.getD 49 undef, T.getD 50 undef, T.getD 51 undef, T.getD 52 undef, T.getD 53 undef, T.getD 54 undef, T.getD 55 undef, T.getD 56 undef, T.getD 57 undef, T.getD 58 undef, T.getD 59 undef, T.getD 60 undef, T.getD 61 undef, T.getD 62 undef, T.getD 63 undef, T.getD 64 undef, T.getD 65 undef] := arr_eta T 66 hS.size
        have k0 : T.getD 0 undef = .pointer (some ⟨C, 0, none⟩) := e0
        have k31 : T.getD 31 undef = .bool (decide (N ≤ most)) := e31
        clear hS hdep
        rw [hT]
        rw [k0]
        clear k0 e0
        rw [k31]
        clear k31 e31
        clear hT
        generalize T.getD 1 undef = u1
        generalize T.getD 2 undef = u2
        generalize T.getD 3 undef = u3
        generalize T.getD 4 undef = u4
        generalize T.getD 5 undef = u5
        generalize T.getD 6 undef = u6
        generalize T.getD 7 undef = u7
        generalize T.getD 8 undef = u8
        generalize T.getD 9 undef = u9
        generalize T.getD 10 undef = u10
        generalize T.getD 11 undef = u11
        generalize T.getD 12 undef = u12
        generalize T.getD 13 undef = u13
        generalize T.getD 14 undef = u14
        generalize T.getD 15 undef = u15
        generalize T.getD 16 undef = u16
        generalize T.getD 17 undef = u17
        generalize T.getD 18 undef = u18
        generalize T.getD 19 undef = u19
        generalize T.getD 20 undef = u20
        generalize T.getD 21 undef = u21
        generalize T.getD 22 undef = u22
        generalize T.getD 23 undef = u23
        generalize T.getD 24 undef = u24
        generalize T.getD 25 undef = u25
        generalize T.getD 26 undef = u26
        generalize T.getD 27 undef = u27
        generalize T.getD 28 undef = u28
        generalize T.getD 29 undef = u29
        generalize T.getD 30 undef = u30
        generalize T.getD 32 undef = u32
        generalize T.getD 33 undef = u33
        generalize T.getD 34 undef = u34
        generalize T.getD 35 undef = u35
        generalize T.getD 36 undef = u36
        generalize T.getD 37 undef = u37
        generalize T.getD 38 undef = u38
        generalize T.getD 39 undef = u39
        generalize T.getD 40 undef = u40
        generalize T.getD 41 undef = u41
        generalize T.getD 42 undef = u42
        generalize T.getD 43 undef = u43
        generalize T.getD 44 undef = u44
        generalize T.getD 45 undef = u45
        generalize T.getD 46 undef = u46
        generalize T.getD 47 undef = u47
        generalize T.getD 48 undef = u48
        generalize T.getD 49 undef = u49
        generalize T.getD 50 undef = u50
        generalize T.getD 51 undef = u51
        generalize T.getD 52 undef = u52
        generalize T.getD 53 undef = u53
        generalize T.getD 54 undef = u54
        generalize T.getD 55 undef = u55
        generalize T.getD 56 undef = u56
        generalize T.getD 57 undef = u57
        generalize T.getD 58 undef = u58
        generalize T.getD 59 undef = u59
        generalize T.getD 60 undef = u60
        generalize T.getD 61 undef = u61
        generalize T.getD 62 undef = u62
        generalize T.getD 63 undef = u63
        generalize T.getD 64 undef = u64
        generalize T.getD 65 undef = u65
        have hbx := below_on (B := W5.heap.size) (Below.drew (Below.refl _ _)) hR (Nat.le_refl _)
        have HT := Lib.hid (show decide (N ≤ most) = false from decide_eq_false HNM.out)
        clear hR
        rw [HT.out]
        have HFW5 := Lib.hid hbx
        obtain ⟨n, D, h1, h2, h3, h4⟩ := HMW5.out.on (hbx.block M HMW5.out.lt)
        have HOWN := Lib.hid (And.intro h1 (And.intro h2 (And.intro h3 h4)))
        have HC5 := Lib.hid (HFIN.out.1.on hbx)
        have hq2 : W.cell? ⟨C, 2, none⟩ = some (.map (some M)) := (cell_keep hbx HQ2.out)
        clear hbx h1 h2 h3 h4
        go_wp2_with (at_range; go_loud (refine wpList_range_own _ rfl _ 73 rfl 9 131 lawK Tryz.underlying73 ptrR M n D rfl HOWN.out.1 ?_; intro W6 hrg0 hg0 hs0))
        clear hq2
        have HS6 := Lib.hid (And.intro hrg0 (And.intro hg0 hs0))
        clear hrg0 hg0 hs0
        go_loopw [5] (fun o wr => ∃ od : ByteArray, o = .string od ∧ Hid (∃ left cnt, wr.ranges Tryz.prog 9 ptrR M W.heap.size n D left cnt ∧ Below W.heap.size W wr ∧ EvSt (offL L (keyF f) ++ [(⟨X, kk, f, k + 1⟩ : Slot)]) left od)) (fun _ wr => wr.rangeLeft M W.heap.size)
        case atStart => exact ⟨_, rfl, Lib.hid ⟨_, _, HS6.out.1, (Below.refl _ _).grown HS6.out.2.1 (Nat.le_refl _) (fun k e => by cases e), ev_start HOWN.out.2.2.2 HFIN.out.1.keys⟩⟩
        case round =>
          obtain ⟨od, rfl, hinv⟩ := hrel
          obtain ⟨left, cnt, hrg, hbw, hev⟩ := hinv.out
          have HRG := Lib.hid (And.intro hrg (And.intro hbw hev))
          have HCR := Lib.hid (HC5.out.on hbw)
          clear hinv hrg hbw hev
          go_wp2_with (at_next; refine wpList_next_ranges _ rfl _ rfl 9 lawK ptrR Value.string ptrO str_key ptrR_shape M W.heap.size n D left cnt rfl HRG.out.1 ?_ ?_)
          · intro hc0 hl0
            obtain ⟨s0, T0, hLT, hod, hoff⟩ := ev_end HFIN.out.1.keys HFIN.out.1.order HRG.out.2.2 hl0 (by simp)
            have hq2 : wr.cell? ⟨C, 2, none⟩ = some (.map (some M)) := cell_keep HRG.out.2.1 (cell_keep HFW5.out HQ2.out)
            have hkey : keyOf Tryz.prog 9 (.string od) = some (.string (keyF s0.f)) := by rw [hod]; exact keyStr (by have := fact_small (HFIN.out.1.slot s0 (by rw [hLT]; exact List.mem_cons_self ..)).2.2.2.1; rw [keyF, keyP_size]; omega)
            have HE := Lib.hid (And.intro hLT hoff)
            have HKEY := Lib.hid hkey
            clear hl0 hLT hod hoff hkey
            go_wp2_with (at_delete; go_loud (refine wpList_delete_own _ rfl _ _ 73 9 rfl 131 lawK Tryz.underlying73 ptrR M n D rfl HRG.out.1.owns _ _ rfl HKEY.out ?_; intro w9 hown9 hturn9; have HD9 := Lib.hid (And.intro hown9 hturn9); clear hown9 hturn9))
            refine bodyPost_end (results_none rfl _ _ _) rfl ?_
            have hML := MapL.dropped HRG.out.1.owns HOWN.out.2.1 HOWN.out.2.2.1 HOWN.out.2.2.2 HFIN.out.1.keys (atL_of_mem HFIN.out.1.keys (show s0 ∈ _ by rw [HE.out.1]; exact List.mem_cons_self ..)) HD9.out.1
            have hML0 : MapL wr M (offL L (keyF f) ++ [(⟨X, kk, f, k + 1⟩ : Slot)]) := ⟨n, D, HRG.out.1.owns, HOWN.out.2⟩
            have hCw : Blk wr C #[.int .i64 most, .int .i64 stale, .map (some M), .int .i64 ((k + 1 : Nat) : Int)] 75 := HC5B.out.on (below_on HFW5.out HRG.out.2.1 (Nat.le_refl _))
            have hcr := HCR.out
            have hoff := HE.out.2
            rw [hoff] at hML
            rw [HE.out.1] at hcr hML0
            obtain ⟨t1, t2⟩ := trim_law hcr hCw HMM.out.2.1 hML0 hML HD9.out.2.grown
            refine ⟨rfl, ⟨X, kk, by rw [HTRIM.out, HE.out.1]; exact t1⟩, ?_⟩
            have hB5 : B ≤ W5.heap.size := by have := HFIN.out.1.base; have := HC5B.out.lt; omega
            exact (HFIN.out.2.trans (Left.below (below_on HFW5.out HRG.out.2.1 (Nat.le_refl _)) hB5)).trans t2
          · intro x o kl y1 y2 w1 cnt1 hxk hlk hRy hat hrg1 hlt hg1 hs1 hen
            obtain rfl := str_key_lit hxk
            obtain ⟨s, hsL, rfl, hxs⟩ := ptrO_at (y := (y1, y2)) HOWN.out.2.2.2 hRy hat
            simp only [ptrO] at hen ⊢
            have hbw1 : Below W.heap.size W w1 := HRG.out.2.1.grown hg1 HRG.out.2.1.size (fun k e => by cases e; exact Nat.le_refl _)
            have HR1 := Lib.hid (And.intro hrg1 (And.intro hlt hbw1))
            have HC1 := Lib.hid (HC5.out.on hbw1)
            have HSL := Lib.hid (And.intro hsL hxs)
            have hq13 : w1.drew.cell? ⟨s.b, 13, none⟩ = some (.int .i64 s.used) := (HC1.out.slot s hsL).2.1.cell 13
            have HQ13 := Lib.hid hq13
            have HQC := Lib.hid (show w1.drew.cell? ⟨C, 2, none⟩ = some (.map (some M)) from cell_keep (Below.drew (below_on HFW5.out hbw1 (Nat.le_refl _))) HQ2.out)
            clear hxk hlk hRy hat hrg1 hlt hg1 hs1 hbw1 hsL hxs hq13
            go_wp2_with fail
            clear hen
            by_cases hod : od = ⟨#[]⟩
            · subst hod
              refine wp_soup0 (m := 66) (by kernel_rfl) (fun x y => Below x.heap.size x y) (fun i v xw => match i with | 0 => v = .string (⟨#[]⟩) | 1 => v = .bool true | 2 => v = .bool true | 3 => v = undef | 4 => v = undef | 5 => v = undef | 6 => v = undef | 7 => v = undef | 8 => v = undef | 9 => v = undef | 10 => v = undef | 11 => v = undef | 12 => v = undef | 13 => v = undef | 14 => v = undef | 15 => v = undef | 16 => v = undef | 17 => v = .bool true | _ => True) rfl (by kernel_rfl) (fun _ _ _ h1 h2 => below_on h1 h2 (Nat.le_refl _)) (Below.refl _ _) (fun _ _ _ _ h _ => h) (dst_but 18 (by kernel_rfl) (fun _ _ h => h)) ?_ ?_
              rotate_left
              · intro a W hR hS hdep
                have e59 : a.tmps.getD 59 undef = .bool true := hdep 17 (by decide +kernel)
                obtain ⟨T, df⟩ := a
                obtain rfl : df = [] := hS.defers
                have hT := tmps_same hS 66 rfl [42, 43, 44, 45, 46, 47, 48, 49, 50, 51, 52, 53, 54, 55, 56, 57, 58, 59] (by kernel_rfl)
                simp only [List.foldl_cons, List.foldl_nil, List.setIfInBounds_toArray, List.set_cons_succ, List.set_cons_zero] at hT
                have k59 : T.getD 59 undef = .bool true := e59
                clear hS hdep
                rw [hT]
                rw [k59]
                clear k59 e59
                clear hT
                generalize T.getD 42 undef = u42
                generalize T.getD 43 undef = u43
                generalize T.getD 44 undef = u44
                generalize T.getD 45 undef = u45
                generalize T.getD 46 undef = u46
                generalize T.getD 47 undef = u47
                generalize T.getD 48 undef = u48
                generalize T.getD 49 undef = u49
                generalize T.getD 50 undef = u50
                generalize T.getD 51 undef = u51
                generalize T.getD 52 undef = u52
                generalize T.getD 53 undef = u53
                generalize T.getD 54 undef = u54
                generalize T.getD 55 undef = u55
                generalize T.getD 56 undef = u56
                generalize T.getD 57 undef = u57
                generalize T.getD 58 undef = u58
                have hbx := below_on (B := w1.heap.size) (Below.drew (Below.refl _ _)) hR (Nat.le_refl _)
                have HX9 := Lib.hid hbx
                clear hR hbx
                go_wp2_with fail
                go_roundw
                case rel =>
                  have hrgW := ranges_on HR1.out.1 (HX9.out.block M HR1.out.1.owns.lt) (HX9.out.block _ HR1.out.1.lt)
                  exact ⟨x, rfl, Lib.hid ⟨_, _, hrgW, below_on HR1.out.2.2 HX9.out (Nat.le_refl _), by have := ev_step HFIN.out.1.keys HRG.out.2.2 HSL.out.1 HSL.out.2 (take := true) ⟨fun _ => .inl rfl, fun _ => rfl⟩; rwa [if_pos rfl] at this⟩⟩
                case measure =>
                  have hrgW := ranges_on HR1.out.1 (HX9.out.block M HR1.out.1.owns.lt) (HX9.out.block _ HR1.out.1.lt)
                  rw [hrgW.left_eq, HRG.out.1.left_eq]; exact HR1.out.2.1
              refine soup_cons rfl rfl (fun a W hR hS hdep K hK => ?_) ?_
              · have e5 : a.tmps[5]?.getD undef = .string (⟨#[]⟩) := slot_of (hS.keep 5 (by kernel_rfl))
                go_simp
                exact hK _ _ (Below.refl _ _) (by first | rfl | simp)
              refine soup_cons rfl rfl (fun a W hR hS hdep K hK => ?_) ?_
              · have e42 : a.tmps[42]?.getD undef = .string (⟨#[]⟩) := slot_of (hdep 0 (by decide +kernel))
                go_simp
                exact hK _ _ (Below.refl _ _) rfl
              refine soup_cons rfl rfl (fun a W hR hS hdep K hK => ?_) ?_
              · have e43 : a.tmps[43]?.getD undef = .bool true := slot_of (hdep 1 (by decide +kernel))
                go_simp
                exact hK _ _ (Below.refl _ _) rfl
              refine soup_cons rfl rfl (fun a W hR hS hdep K hK => ?_) ?_
              · have e44 : a.tmps[44]?.getD undef = .bool true := slot_of (hdep 2 (by decide +kernel))
                have g44 : a.tmps[44]? = some (.bool true) := slot_at (show _ = 66 from hS.size) (by decide) (hdep 2 (by decide +kernel))
                go_simp
                exact hK _ _ (Below.refl _ _) (by first | rfl | simp)
              refine soup_cons rfl rfl (fun a W hR hS hdep K hK => ?_) ?_
              · have e44 : a.tmps[44]?.getD undef = .bool true := slot_of (hdep 2 (by decide +kernel))
                have g44 : a.tmps[44]? = some (.bool true) := slot_at (show _ = 66 from hS.size) (by decide) (hdep 2 (by decide +kernel))
                go_simp
                exact hK _ _ (Below.refl _ _) (by first | rfl | simp)
              refine soup_cons rfl rfl (fun a W hR hS hdep K hK => ?_) ?_
              · have e44 : a.tmps[44]?.getD undef = .bool true := slot_of (hdep 2 (by decide +kernel))
                have g44 : a.tmps[44]? = some (.bool true) := slot_at (show _ = 66 from hS.size) (by decide) (hdep 2 (by decide +kernel))
                go_simp
                exact hK _ _ (Below.refl _ _) (by first | rfl | simp)
              refine soup_cons rfl rfl (fun a W hR hS hdep K hK => ?_) ?_
              · have e44 : a.tmps[44]?.getD undef = .bool true := slot_of (hdep 2 (by decide +kernel))
                have g44 : a.tmps[44]? = some (.bool true) := slot_at (show _ = 66 from hS.size) (by decide) (hdep 2 (by decide +kernel))
                go_simp
                exact hK _ _ (Below.refl _ _) (by first | rfl | simp)
              refine soup_cons rfl rfl (fun a W hR hS hdep K hK => ?_) ?_
              · have e44 : a.tmps[44]?.getD undef = .bool true := slot_of (hdep 2 (by decide +kernel))
                have g44 : a.tmps[44]? = some (.bool true) := slot_at (show _ = 66 from hS.size) (by decide) (hdep 2 (by decide +kernel))
                go_simp
                exact hK _ _ (Below.refl _ _) (by first | rfl | simp)
              refine soup_cons rfl rfl (fun a W hR hS hdep K hK => ?_) ?_
              · have e44 : a.tmps[44]?.getD undef = .bool true := slot_of (hdep 2 (by decide +kernel))
                have g44 : a.tmps[44]? = some (.bool true) := slot_at (show _ = 66 from hS.size) (by decide) (hdep 2 (by decide +kernel))
                go_simp
                exact hK _ _ (Below.refl _ _) (by first | rfl | simp)
              refine soup_cons rfl rfl (fun a W hR hS hdep K hK => ?_) ?_
              · have e44 : a.tmps[44]?.getD undef = .bool true := slot_of (hdep 2 (by decide +kernel))
                have g44 : a.tmps[44]? = some (.bool true) := slot_at (show _ = 66 from hS.size) (by decide) (hdep 2 (by decide +kernel))
                go_simp
                exact hK _ _ (Below.refl _ _) (by first | rfl | simp)
              refine soup_cons rfl rfl (fun a W hR hS hdep K hK => ?_) ?_
              · have e44 : a.tmps[44]?.getD undef = .bool true := slot_of (hdep 2 (by decide +kernel))
                have g44 : a.tmps[44]? = some (.bool true) := slot_at (show _ = 66 from hS.size) (by decide) (hdep 2 (by decide +kernel))
                go_simp
                exact hK _ _ (Below.refl _ _) (by first | rfl | simp)
              refine soup_cons rfl rfl (fun a W hR hS hdep K hK => ?_) ?_
              · have e44 : a.tmps[44]?.getD undef = .bool true := slot_of (hdep 2 (by decide +kernel))
                have g44 : a.tmps[44]? = some (.bool true) := slot_at (show _ = 66 from hS.size) (by decide) (hdep 2 (by decide +kernel))
                go_simp
                exact hK _ _ (Below.refl _ _) (by first | rfl | simp)
              refine soup_cons rfl rfl (fun a W hR hS hdep K hK => ?_) ?_
              · have e44 : a.tmps[44]?.getD undef = .bool true := slot_of (hdep 2 (by decide +kernel))
                have g44 : a.tmps[44]? = some (.bool true) := slot_at (show _ = 66 from hS.size) (by decide) (hdep 2 (by decide +kernel))
                go_simp
                exact hK _ _ (Below.refl _ _) (by first | rfl | simp)
              refine soup_cons rfl rfl (fun a W hR hS hdep K hK => ?_) ?_
              · have e44 : a.tmps[44]?.getD undef = .bool true := slot_of (hdep 2 (by decide +kernel))
                have g44 : a.tmps[44]? = some (.bool true) := slot_at (show _ = 66 from hS.size) (by decide) (hdep 2 (by decide +kernel))
                go_simp
                exact hK _ _ (Below.refl _ _) (by first | rfl | simp)
              refine soup_cons rfl rfl (fun a W hR hS hdep K hK => ?_) ?_
              · have e44 : a.tmps[44]?.getD undef = .bool true := slot_of (hdep 2 (by decide +kernel))
                have g44 : a.tmps[44]? = some (.bool true) := slot_at (show _ = 66 from hS.size) (by decide) (hdep 2 (by decide +kernel))
                go_simp
                exact hK _ _ (Below.refl _ _) (by first | rfl | simp)
              refine soup_cons rfl rfl (fun a W hR hS hdep K hK => ?_) ?_
              · have e44 : a.tmps[44]?.getD undef = .bool true := slot_of (hdep 2 (by decide +kernel))
                have g44 : a.tmps[44]? = some (.bool true) := slot_at (show _ = 66 from hS.size) (by decide) (hdep 2 (by decide +kernel))
                go_simp
                exact hK _ _ (Below.refl _ _) (by first | rfl | simp)
              refine soup_cons rfl rfl (fun a W hR hS hdep K hK => ?_) ?_
              · have e44 : a.tmps[44]?.getD undef = .bool true := slot_of (hdep 2 (by decide +kernel))
                have g44 : a.tmps[44]? = some (.bool true) := slot_at (show _ = 66 from hS.size) (by decide) (hdep 2 (by decide +kernel))
                go_simp
                exact hK _ _ (Below.refl _ _) (by first | rfl | simp)
              refine soup_cons rfl rfl (fun a W hR hS hdep K hK => ?_) ?_
              · have e44 : a.tmps[44]?.getD undef = .bool true := slot_of (hdep 2 (by decide +kernel))
                have e58 : a.tmps[58]?.getD undef = undef := slot_of (hdep 16 (by decide +kernel))
                go_simp
                exact hK _ _ (Below.refl _ _) rfl
              exact fun j h1 h2 => absurd h1 (by simp only [List.size_toArray, List.length_cons, List.length_nil]; omega)
            · obtain ⟨s2, hs2, hod2, hl2⟩ : ∃ s2 ∈ (offL L (keyF f) ++ [(⟨X, kk, f, k + 1⟩ : Slot)]), od = ⟨(keyF s2.f).toArray⟩ ∧ True := by
                rcases HRG.out.2.2 with ⟨h, _⟩ | ⟨o, h1, h2, _⟩
                · exact absurd h hod
                · exact ⟨o, h1, h2, trivial⟩
              have hq14 : w1.drew.cell? ⟨s2.b, 13, none⟩ = some (.int .i64 s2.used) := (HC1.out.slot s2 hs2).2.1.cell 13
              have HQ14 := Lib.hid hq14
              have HS2 := Lib.hid (And.intro hs2 (And.intro hod2 hod))
              have HNE := Lib.hid (show od.toList.isEmpty = false by
                have h5 := str_beq (keyF s2.f) []
                have h6 := keyP_len s2.f.name s2.f.typ
                rw [hod2]
                have h7 : decide (keyF s2.f = []) = false := decide_eq_false (fun e => by rw [keyF] at e; rw [e] at h6; simp at h6)
                rw [h7] at h5
                have h8 : (⟨([] : List UInt8).toArray⟩ : ByteArray).toList = [] := by first | rfl | simp
                rw [h8] at h5
                cases hx : (⟨(keyF s2.f).toArray⟩ : ByteArray).toList with
                | nil => rw [hx] at h5; simp at h5
                | cons a l => rfl)
              have HLK2 := Lib.hid (fun w' (p : Below w1.heap.size w1 w') => show (Instr.lookup 73 (.map (some M)) (.string od) false).run Tryz.prog w' = .ok (.pointer (some ⟨s2.b, 0, none⟩)) w' by
                have hML0 : MapL w1 M (offL L (keyF f) ++ [(⟨X, kk, f, k + 1⟩ : Slot)]) := ⟨n, D, HR1.out.1.owns, HOWN.out.2⟩
                have := (hML0.on (p.block M hML0.lt)).look (key := keyF s2.f) (by have := fact_small (HFIN.out.1.slot s2 hs2).2.2.2.1; rw [keyF, keyP_size]; omega)
                rw [atL_of_mem HFIN.out.1.keys hs2] at this
                rw [hod2]; exact this)
              clear hs2 hod2 hq14 hod hl2
              obtain ⟨Y17, hY17⟩ : ∃ q : Bool, q = (false || (decide (((s.used : Int)) < ((s2.used : Int))))) := ⟨_, rfl⟩
              have HY17 := Lib.hid hY17
              clear hY17
              refine wp_soup0 (m := 66) (by kernel_rfl) (fun x y => Below x.heap.size x y) (fun i v xw => match i with | 0 => v = .string od | 1 => v = .bool false | 2 => v = .bool false | 3 => v = .pointer (some ⟨s.b, 0, none⟩) | 4 => v = .pointer (some ⟨s.b, 0, none⟩) | 5 => v = .pointer (some ⟨s.b, 13, none⟩) | 6 => v = .int .i64 ((s.used : Int)) | 7 => v = .pointer (some ⟨C, 0, none⟩) | 8 => v = .pointer (some ⟨C, 0, none⟩) | 9 => v = .pointer (some ⟨C, 2, none⟩) | 10 => v = .map (some M) | 11 => v = .string od | 12 => v = .pointer (some ⟨s2.b, 0, none⟩) | 13 => v = .pointer (some ⟨s2.b, 0, none⟩) | 14 => v = .pointer (some ⟨s2.b, 13, none⟩) | 15 => v = .int .i64 ((s2.used : Int)) | 16 => v = .bool (decide (((s.used : Int)) < ((s2.used : Int)))) | 17 => v = .bool Y17 | _ => True) rfl (by kernel_rfl) (fun _ _ _ h1 h2 => below_on h1 h2 (Nat.le_refl _)) (Below.refl _ _) (fun _ _ _ _ h _ => h) (dst_but 18 (by kernel_rfl) (fun _ _ h => h)) ?_ ?_
              rotate_left
              · intro a W hR hS hdep
                have e59 : a.tmps.getD 59 undef = .bool Y17 := hdep 17 (by decide +kernel)
                obtain ⟨T, df⟩ := a
                obtain rfl : df = [] := hS.defers
                have hT := tmps_same hS 66 rfl [42, 43, 44, 45, 46, 47, 48, 49, 50, 51, 52, 53, 54, 55, 56, 57, 58, 59] (by kernel_rfl)
                simp only [List.foldl_cons, List.foldl_nil, List.setIfInBounds_toArray, List.set_cons_succ, List.set_cons_zero] at hT
                have k59 : T.getD 59 undef = .bool Y17 := e59
                clear hS hdep
                rw [hT]
                rw [k59]
                clear k59 e59
                clear hT
                generalize T.getD 42 undef = u42
                generalize T.getD 43 undef = u43
                generalize T.getD 44 undef = u44
                generalize T.getD 45 undef = u45
                generalize T.getD 46 undef = u46
                generalize T.getD 47 undef = u47
                generalize T.getD 48 undef = u48
                generalize T.getD 49 undef = u49
                generalize T.getD 50 undef = u50
                generalize T.getD 51 undef = u51
                generalize T.getD 52 undef = u52
                generalize T.getD 53 undef = u53
                generalize T.getD 54 undef = u54
                generalize T.getD 55 undef = u55
                generalize T.getD 56 undef = u56
                generalize T.getD 57 undef = u57
                generalize T.getD 58 undef = u58
                have hbx := below_on (B := w1.heap.size) (Below.drew (Below.refl _ _)) hR (Nat.le_refl _)
                have HX9 := Lib.hid hbx
                clear hR hbx
                have HTK := Lib.hid (show (Y17 = true ↔ (od = ⟨#[]⟩ ∨ ∀ t ∈ (offL L (keyF f) ++ [(⟨X, kk, f, k + 1⟩ : Slot)]), od = ⟨(keyF t.f).toArray⟩ → s.used < t.used)) by
                  rw [HY17.out, Bool.false_or, decide_eq_true_eq]
                  constructor
                  · intro h
                    refine .inr fun t ht e => ?_
                    have : t = s2 := key_inj HFIN.out.1.keys ht HS2.out.1 (by
                      rw [HS2.out.2.1] at e
                      have e2 : (keyF s2.f).toArray = (keyF t.f).toArray := by injection e
                      have := congrArg Array.toList e2
                      simpa using this.symm)
                    subst this; omega
                  · rintro (h | h)
                    · exact absurd h HS2.out.2.2
                    · have := h s2 HS2.out.1 HS2.out.2.1
                      omega)
                cases Y17 with
                | false =>
                  go_wp2_with fail
                  go_roundw
                  case rel =>
                    have hrgW := ranges_on HR1.out.1 (HX9.out.block M HR1.out.1.owns.lt) (HX9.out.block _ HR1.out.1.lt)
                    exact ⟨od, rfl, Lib.hid ⟨_, _, hrgW, below_on HR1.out.2.2 HX9.out (Nat.le_refl _), by have := ev_step HFIN.out.1.keys HRG.out.2.2 HSL.out.1 HSL.out.2 HTK.out; rwa [if_neg (by decide)] at this⟩⟩
                  case measure =>
                    have hrgW := ranges_on HR1.out.1 (HX9.out.block M HR1.out.1.owns.lt) (HX9.out.block _ HR1.out.1.lt)
                    rw [hrgW.left_eq, HRG.out.1.left_eq]; exact HR1.out.2.1
                | true =>
                  go_wp2_with fail
                  go_roundw
                  case rel =>
                    have hrgW := ranges_on HR1.out.1 (HX9.out.block M HR1.out.1.owns.lt) (HX9.out.block _ HR1.out.1.lt)
                    exact ⟨x, rfl, Lib.hid ⟨_, _, hrgW, below_on HR1.out.2.2 HX9.out (Nat.le_refl _), by have := ev_step HFIN.out.1.keys HRG.out.2.2 HSL.out.1 HSL.out.2 HTK.out; rwa [if_pos rfl] at this⟩⟩
                  case measure =>
                    have hrgW := ranges_on HR1.out.1 (HX9.out.block M HR1.out.1.owns.lt) (HX9.out.block _ HR1.out.1.lt)
                    rw [hrgW.left_eq, HRG.out.1.left_eq]; exact HR1.out.2.1
              refine soup_cons rfl rfl (fun a W hR hS hdep K hK => ?_) ?_
              · have e5 : a.tmps[5]?.getD undef = .string od := slot_of (hS.keep 5 (by kernel_rfl))
                go_simp
                exact hK _ _ (Below.refl _ _) (by first | rfl | simp)
              refine soup_cons rfl rfl (fun a W hR hS hdep K hK => ?_) ?_
              · have e42 : a.tmps[42]?.getD undef = .string od := slot_of (hdep 0 (by decide +kernel))
                go_simp
                exact hK _ _ (Below.refl _ _) (by show Value.bool od.toList.isEmpty = _; rw [HNE.out])
              refine soup_cons rfl rfl (fun a W hR hS hdep K hK => ?_) ?_
              · have e43 : a.tmps[43]?.getD undef = .bool false := slot_of (hdep 1 (by decide +kernel))
                go_simp
                exact hK _ _ (Below.refl _ _) rfl
              refine soup_cons rfl rfl (fun a W hR hS hdep K hK => ?_) ?_
              · have e7 : a.tmps[7]?.getD undef = .pointer (some ⟨s.b, 0, none⟩) := slot_of (hS.keep 7 (by kernel_rfl))
                have e44 : a.tmps[44]?.getD undef = .bool false := slot_of (hdep 2 (by decide +kernel))
                have g44 : a.tmps[44]? = some (.bool false) := slot_at (show _ = 66 from hS.size) (by decide) (hdep 2 (by decide +kernel))
                go_simp
                exact hK _ _ (Below.refl _ _) (by first | rfl | simp)
              refine soup_cons rfl rfl (fun a W hR hS hdep K hK => ?_) ?_
              · have e45 : a.tmps[45]?.getD undef = .pointer (some ⟨s.b, 0, none⟩) := slot_of (hdep 3 (by decide +kernel))
                have e44 : a.tmps[44]?.getD undef = .bool false := slot_of (hdep 2 (by decide +kernel))
                have g44 : a.tmps[44]? = some (.bool false) := slot_at (show _ = 66 from hS.size) (by decide) (hdep 2 (by decide +kernel))
                go_simp
                exact hK _ _ (Below.refl _ _) (by first | rfl | simp)
              refine soup_cons rfl rfl (fun a W hR hS hdep K hK => ?_) ?_
              · have e46 : a.tmps[46]?.getD undef = .pointer (some ⟨s.b, 0, none⟩) := slot_of (hdep 4 (by decide +kernel))
                have e44 : a.tmps[44]?.getD undef = .bool false := slot_of (hdep 2 (by decide +kernel))
                have g44 : a.tmps[44]? = some (.bool false) := slot_at (show _ = 66 from hS.size) (by decide) (hdep 2 (by decide +kernel))
                go_simp
                exact hK _ _ (Below.refl _ _) (by first | rfl | simp)
              refine soup_cons rfl rfl (fun a W hR hS hdep K hK => ?_) ?_
              · have e47 : a.tmps[47]?.getD undef = .pointer (some ⟨s.b, 13, none⟩) := slot_of (hdep 5 (by decide +kernel))
                have e44 : a.tmps[44]?.getD undef = .bool false := slot_of (hdep 2 (by decide +kernel))
                have g44 : a.tmps[44]? = some (.bool false) := slot_at (show _ = 66 from hS.size) (by decide) (hdep 2 (by decide +kernel))
                have m0 := cell_keep hR HQ13.out
                go_simp
                exact hK _ _ (Below.refl _ _) (by first | rfl | simp)
              refine soup_cons rfl rfl (fun a W hR hS hdep K hK => ?_) ?_
              · have e0 : a.tmps[0]?.getD undef = .pointer (some ⟨C, 0, none⟩) := slot_of (hS.keep 0 (by kernel_rfl))
                have e44 : a.tmps[44]?.getD undef = .bool false := slot_of (hdep 2 (by decide +kernel))
                have g44 : a.tmps[44]? = some (.bool false) := slot_at (show _ = 66 from hS.size) (by decide) (hdep 2 (by decide +kernel))
                go_simp
                exact hK _ _ (Below.refl _ _) (by first | rfl | simp)
              refine soup_cons rfl rfl (fun a W hR hS hdep K hK => ?_) ?_
              · have e49 : a.tmps[49]?.getD undef = .pointer (some ⟨C, 0, none⟩) := slot_of (hdep 7 (by decide +kernel))
                have e44 : a.tmps[44]?.getD undef = .bool false := slot_of (hdep 2 (by decide +kernel))
                have g44 : a.tmps[44]? = some (.bool false) := slot_at (show _ = 66 from hS.size) (by decide) (hdep 2 (by decide +kernel))
                go_simp
                exact hK _ _ (Below.refl _ _) (by first | rfl | simp)
              refine soup_cons rfl rfl (fun a W hR hS hdep K hK => ?_) ?_
              · have e50 : a.tmps[50]?.getD undef = .pointer (some ⟨C, 0, none⟩) := slot_of (hdep 8 (by decide +kernel))
                have e44 : a.tmps[44]?.getD undef = .bool false := slot_of (hdep 2 (by decide +kernel))
                have g44 : a.tmps[44]? = some (.bool false) := slot_at (show _ = 66 from hS.size) (by decide) (hdep 2 (by decide +kernel))
                go_simp
                exact hK _ _ (Below.refl _ _) (by first | rfl | simp)
              refine soup_cons rfl rfl (fun a W hR hS hdep K hK => ?_) ?_
              · have e51 : a.tmps[51]?.getD undef = .pointer (some ⟨C, 2, none⟩) := slot_of (hdep 9 (by decide +kernel))
                have e44 : a.tmps[44]?.getD undef = .bool false := slot_of (hdep 2 (by decide +kernel))
                have g44 : a.tmps[44]? = some (.bool false) := slot_at (show _ = 66 from hS.size) (by decide) (hdep 2 (by decide +kernel))
                have m0 := cell_keep hR HQC.out
                go_simp
                exact hK _ _ (Below.refl _ _) (by first | rfl | simp)
              refine soup_cons rfl rfl (fun a W hR hS hdep K hK => ?_) ?_
              · have e5 : a.tmps[5]?.getD undef = .string od := slot_of (hS.keep 5 (by kernel_rfl))
                have e44 : a.tmps[44]?.getD undef = .bool false := slot_of (hdep 2 (by decide +kernel))
                have g44 : a.tmps[44]? = some (.bool false) := slot_at (show _ = 66 from hS.size) (by decide) (hdep 2 (by decide +kernel))
                go_simp
                exact hK _ _ (Below.refl _ _) (by first | rfl | simp)
              refine soup_cons rfl rfl (fun a W hR hS hdep K hK => ?_) ?_
              · have e52 : a.tmps[52]?.getD undef = .map (some M) := slot_of (hdep 10 (by decide +kernel))
                have e53 : a.tmps[53]?.getD undef = .string od := slot_of (hdep 11 (by decide +kernel))
                have e44 : a.tmps[44]?.getD undef = .bool false := slot_of (hdep 2 (by decide +kernel))
                have g44 : a.tmps[44]? = some (.bool false) := slot_at (show _ = 66 from hS.size) (by decide) (hdep 2 (by decide +kernel))
                go_simp
                have hbx := below_on (B := w1.heap.size) (Below.drew (Below.refl _ _)) hR (Nat.le_refl _)
                rw [HLK2.out _ hbx]
                exact hK _ _ (Below.refl _ _) rfl
              refine soup_cons rfl rfl (fun a W hR hS hdep K hK => ?_) ?_
              · have e54 : a.tmps[54]?.getD undef = .pointer (some ⟨s2.b, 0, none⟩) := slot_of (hdep 12 (by decide +kernel))
                have e44 : a.tmps[44]?.getD undef = .bool false := slot_of (hdep 2 (by decide +kernel))
                have g44 : a.tmps[44]? = some (.bool false) := slot_at (show _ = 66 from hS.size) (by decide) (hdep 2 (by decide +kernel))
                go_simp
                exact hK _ _ (Below.refl _ _) (by first | rfl | simp)
              refine soup_cons rfl rfl (fun a W hR hS hdep K hK => ?_) ?_
              · have e55 : a.tmps[55]?.getD undef = .pointer (some ⟨s2.b, 0, none⟩) := slot_of (hdep 13 (by decide +kernel))
                have e44 : a.tmps[44]?.getD undef = .bool false := slot_of (hdep 2 (by decide +kernel))
                have g44 : a.tmps[44]? = some (.bool false) := slot_at (show _ = 66 from hS.size) (by decide) (hdep 2 (by decide +kernel))
                go_simp
                exact hK _ _ (Below.refl _ _) (by first | rfl | simp)
              refine soup_cons rfl rfl (fun a W hR hS hdep K hK => ?_) ?_
              · have e56 : a.tmps[56]?.getD undef = .pointer (some ⟨s2.b, 13, none⟩) := slot_of (hdep 14 (by decide +kernel))
                have e44 : a.tmps[44]?.getD undef = .bool false := slot_of (hdep 2 (by decide +kernel))
                have g44 : a.tmps[44]? = some (.bool false) := slot_at (show _ = 66 from hS.size) (by decide) (hdep 2 (by decide +kernel))
                have m0 := cell_keep hR HQ14.out
                go_simp
                exact hK _ _ (Below.refl _ _) (by first | rfl | simp)
              refine soup_cons rfl rfl (fun a W hR hS hdep K hK => ?_) ?_
              · have e48 : a.tmps[48]?.getD undef = .int .i64 ((s.used : Int)) := slot_of (hdep 6 (by decide +kernel))
                have e57 : a.tmps[57]?.getD undef = .int .i64 ((s2.used : Int)) := slot_of (hdep 15 (by decide +kernel))
                have e44 : a.tmps[44]?.getD undef = .bool false := slot_of (hdep 2 (by decide +kernel))
                have g44 : a.tmps[44]? = some (.bool false) := slot_at (show _ = 66 from hS.size) (by decide) (hdep 2 (by decide +kernel))
                go_simp
                exact hK _ _ (Below.refl _ _) (by first | rfl | simp)
              refine soup_cons rfl rfl (fun a W hR hS hdep K hK => ?_) ?_
              · have e44 : a.tmps[44]?.getD undef = .bool false := slot_of (hdep 2 (by decide +kernel))
                have e58 : a.tmps[58]?.getD undef = .bool (decide (((s.used : Int)) < ((s2.used : Int)))) := slot_of (hdep 16 (by decide +kernel))
                go_simp
                exact hK _ _ (Below.refl _ _) (by first | rfl | (rw [HY17.out]; rfl) | (rw [HY17.out]; simp) | simp [HY17.out])
              exact fun j h1 h2 => absurd h1 (by simp only [List.size_toArray, List.length_cons, List.length_nil]; omega)
      refine soup_cons rfl rfl (fun a W hR hS hdep K hK => ?_) ?_
      · have e0 : a.tmps[0]?.getD undef = .pointer (some ⟨C, 0, none⟩) := slot_of (hS.keep 0 (by kernel_rfl))
        go_simp
        exact hK _ _ (Below.refl _ _) (by first | rfl | simp)
      refine soup_cons rfl rfl (fun a W hR hS hdep K hK => ?_) ?_
      · have e22 : a.tmps[22]?.getD undef = .pointer (some ⟨C, 0, none⟩) := slot_of (hdep 0 (by decide +kernel))
        go_simp
        exact hK _ _ (Below.refl _ _) (by first | rfl | simp)
      refine soup_cons rfl rfl (fun a W hR hS hdep K hK => ?_) ?_
      · have e23 : a.tmps[23]?.getD undef = .pointer (some ⟨C, 0, none⟩) := slot_of (hdep 1 (by decide +kernel))
        go_simp
        exact hK _ _ (Below.refl _ _) (by first | rfl | simp)
      refine soup_cons rfl rfl (fun a W hR hS hdep K hK => ?_) ?_
      · have e24 : a.tmps[24]?.getD undef = .pointer (some ⟨C, 2, none⟩) := slot_of (hdep 2 (by decide +kernel))
        have m0 := cell_keep hR HQ2.out
        go_simp
        exact hK _ _ (Below.refl _ _) (by first | rfl | simp)
      refine soup_cons rfl rfl (fun a W hR hS hdep K hK => ?_) ?_
      · have e25 : a.tmps[25]?.getD undef = .map (some M) := slot_of (hdep 3 (by decide +kernel))
        go_simp
        have hbx := below_on (B := W5.heap.size) (Below.drew (Below.refl _ _)) hR (Nat.le_refl _)
        rw [HLN.out _ hbx]
        exact hK _ _ (Below.refl _ _) rfl
      refine soup_cons rfl rfl (fun a W hR hS hdep K hK => ?_) ?_
      · have e0 : a.tmps[0]?.getD undef = .pointer (some ⟨C, 0, none⟩) := slot_of (hS.keep 0 (by kernel_rfl))
        go_simp
        exact hK _ _ (Below.refl _ _) (by first | rfl | simp)
      refine soup_cons rfl rfl (fun a W hR hS hdep K hK => ?_) ?_
      · have e27 : a.tmps[27]?.getD undef = .pointer (some ⟨C, 0, none⟩) := slot_of (hdep 5 (by decide +kernel))
        go_simp
        exact hK _ _ (Below.refl _ _) (by first | rfl | simp)
      refine soup_cons rfl rfl (fun a W hR hS hdep K hK => ?_) ?_
      · have e28 : a.tmps[28]?.getD undef = .pointer (some ⟨C, 0, none⟩) := slot_of (hdep 6 (by decide +kernel))
        go_simp
        exact hK _ _ (Below.refl _ _) (by first | rfl | simp)
      refine soup_cons rfl rfl (fun a W hR hS hdep K hK => ?_) ?_
      · have e29 : a.tmps[29]?.getD undef = .pointer (some ⟨C, 0, none⟩) := slot_of (hdep 7 (by decide +kernel))
        have m0 := cell_keep hR HQ0.out
        go_simp
        exact hK _ _ (Below.refl _ _) (by first | rfl | simp)
      refine soup_cons rfl rfl (fun a W hR hS hdep K hK => ?_) ?_
      · have e26 : a.tmps[26]?.getD undef = .int .i64 N := slot_of (hdep 4 (by decide +kernel))
        have e30 : a.tmps[30]?.getD undef = .int .i64 most := slot_of (hdep 8 (by decide +kernel))
        go_simp
        exact hK _ _ (Below.refl _ _) (by first | rfl | simp)
      exact fun j h1 h2 => absurd h1 (by simp only [List.size_toArray, List.length_cons, List.length_nil]; omega)
  refine soup_cons rfl rfl (fun a W hR hS hdep K hK => ?_) ?_
  · have e0 : a.tmps[0]?.getD undef = .pointer (some ⟨C, 0, none⟩) := slot_of (hS.keep 0 (by kernel_rfl))
    go_simp
    exact hK _ _ (Below.refl _ _) (by first | rfl | simp)
  refine soup_cons rfl rfl (fun a W hR hS hdep K hK => ?_) ?_
  · have e12 : a.tmps[12]?.getD undef = .pointer (some ⟨C, 0, none⟩) := slot_of (hdep 0 (by decide +kernel))
    go_simp
    exact hK _ _ (Below.refl _ _) (by first | rfl | simp)
  refine soup_cons rfl rfl (fun a W hR hS hdep K hK => ?_) ?_
  · have e13 : a.tmps[13]?.getD undef = .pointer (some ⟨C, 0, none⟩) := slot_of (hdep 1 (by decide +kernel))
    go_simp
    exact hK _ _ (Below.refl _ _) (by first | rfl | simp)
  refine soup_cons rfl rfl (fun a W hR hS hdep K hK => ?_) ?_
  · have e14 : a.tmps[14]?.getD undef = .pointer (some ⟨C, 2, none⟩) := slot_of (hdep 2 (by decide +kernel))
    have m0 := cell_keep hR HMC.out
    go_simp
    exact hK _ _ (Below.refl _ _) (by first | rfl | simp)
  refine soup_cons rfl rfl (fun a W hR hS hdep K hK => ?_) ?_
  · have e3 : a.tmps[3]?.getD undef = .pointer (some ⟨w.heap.size, 0, none⟩) := slot_of (hS.keep 3 (by kernel_rfl))
    have m0 := cell_keep hR HM0.out
    have m1 := cell_keep hR HM1.out
    have m2 := cell_keep hR HM2.out
    have m3 := cell_keep hR HM3.out
    have m4 := cell_keep hR HM4.out
    have m5 := cell_keep hR HM5.out
    have m6 := cell_keep hR HM6.out
    have m7 := cell_keep hR HM7.out
    have m8 := cell_keep hR HM8.out
    have m9 := cell_keep hR HM9.out
    have m10 := cell_keep hR HM10.out
    have m11 := cell_keep hR HM11.out
    have m12 := cell_keep hR HM12.out
    go_simp
    exact hK _ _ (Below.refl _ _) (by first | rfl | simp)
  refine soup_cons rfl rfl (fun a W hR hS hdep K hK => ?_) ?_
  · have e16 : a.tmps[16]?.getD undef = .agg #[.slice h.na h.nl h.nc, .int .i64 f.typ, .int .i64 f.kind, .int .i64 f.rank, .int .i64 f.got, .int .i64 f.ttl, .slice h.sa h.sl h.sc, .slice h.za h.zl h.zc, .slice h.d.ba h.d.bl h.d.bc, .slice h.d.ha h.d.hl h.d.hc, .slice h.d.ma h.d.ml h.d.mc, .slice h.d.na h.d.nl h.d.nc, .slice h.d.ta h.d.tl h.d.tc] := slot_of (hdep 4 (by decide +kernel))
    go_simp
    have hbx := below_on (B := Y.heap.size) (Below.drew (Below.refl _ _)) hR (Nat.le_refl _)
    refine (HKY.out _ hbx).mono ?_
    rintro e W' ⟨rfl, hb⟩
    exact hK _ _ hb rfl
  refine soup_cons rfl rfl (fun a W hR hS hdep K hK => ?_) ?_
  · have e4 : a.tmps[4]?.getD undef = .pointer (some ⟨X, 0, none⟩) := slot_of (hS.keep 4 (by kernel_rfl))
    go_simp
    exact hK _ _ (Below.refl _ _) (by first | rfl | simp)
  exact fun j h1 h2 => absurd h1 (by omega)
end
section
open Go.ChangeShapes Go.WideShapes Go.ChangeAt Go.RowKit
def freeB (L : List Slot) (f : FactP) (now : Int) : Bool := match atL L (keyF f) with | some s => beatsB s.f f now | none => true
def putB (L : List Slot) (f : FactP) (now : Int) : Bool := factB f && (timeB now && freeB L f now)
theorem beats_small (w : World) (S R : Nat → Prop) (h k : FactH) (f g : FactP) (now : Int) (B : Bool) (hB : B = beatsB f g now) (hf : IsFact S w h f) (hg : IsFact R w k g) :
    Calls Tryz.prog 76 #[.agg (factC h f), .agg (factC k g), .int .i64 now] w fun e w' => e = .returned (.bool B) ∧ Below w.heap.size w w' := by
  rw [hB]
  exact beats_any w S R h k f g now hf hg
end
end Go.Proofs.YtjbaohcofdoinaaGreat

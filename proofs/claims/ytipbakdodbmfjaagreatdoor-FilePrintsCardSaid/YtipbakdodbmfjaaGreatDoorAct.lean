/- The contract of script.Act: which act a line is. -/
import Derived.Test.YtipbakdodbmfjaaGreatDoorActRead
import Derived.Test.YtipbakdodbmfjaaGreatDoorForms
import Derived.Test.YtipbakdodbmfjaaGreatDoorSplit
import Derived.BigQuiet
import Derived.Deep.QuietTactic
namespace Go.Proofs.YtipbakdodbmfjaaGreatDoor
open Go.ChangeShapes Go.WideShapes Go.ChangeAt Go.RowKit

theorem split_le (c : UInt8) : ∀ (l : List UInt8), ∀ w ∈ splitP c l, w.length ≤ l.length
  | [], w, h => by simp [splitP] at h; subst h; simp
  | x :: r, w, h => by
    have ih := split_le c r
    simp only [splitP] at h
    split at h
    · rcases List.mem_cons.1 h with rfl | h
      · simp
      · have := ih w h; simp; omega
    · split at h
      · rename_i v vs hv
        rcases List.mem_cons.1 h with rfl | h
        · have := ih v (by rw [hv]; simp); simp; omega
        · have := ih w (by rw [hv]; simp [h]); simp; omega
      · simp at h; subst h; simp
theorem headD_map : ∀ (ws : List ByteArray) (h : 0 < ws.length), (ws.map (fun x => x.data.toList)).headD [] = (ws[0]'h).data.toList
  | [], h => by simp at h
  | _ :: _, _ => rfl
/-- what a reading of a line hands back -/
def ActRes (w : World) (r : Option ActP) (e : Ending) (w' : World) : Prop :=
  Below w.heap.size w w' ∧ match r with
  | some x => ∃ nao nl nc dao dl dc, e = .returned (.tuple #[.agg (actCells x nao nl nc dao dl dc), .bool true]) ∧ Strs w' nao nl nc x.name ∧ Byts w' dao dl dc x.data
  | none => e = .returned (.tuple #[.agg (actCells (ActP.zero 0) none 0 0 none 0 0), .bool false])
/-- the same; the act's own slices are new -/
def ActResF (w : World) (r : Option ActP) (e : Ending) (w' : World) : Prop :=
  Below w.heap.size w w' ∧ match r with
  | some x => ∃ nao nl nc dao dl dc, e = .returned (.tuple #[.agg (actCells x nao nl nc dao dl dc), .bool true]) ∧ Strs w' nao nl nc x.name ∧ Byts w' dao dl dc x.data ∧ (∀ a, nao = some a → w.heap.size ≤ a.block) ∧ (∀ a, dao = some a → w.heap.size ≤ a.block)
  | none => e = .returned (.tuple #[.agg (actCells (ActP.zero 0) none 0 0 none 0 0), .bool false])
theorem ActResF.plain {w w' : World} {r : Option ActP} {e : Ending} (h : ActResF w r e w') : ActRes w r e w' := by
  obtain ⟨h1, h2⟩ := h
  refine ⟨h1, ?_⟩
  cases r with
  | none => exact h2
  | some x =>
    obtain ⟨a, b, c, d, e, f, h3, h4, h5, _⟩ := h2
    exact ⟨a, b, c, d, e, f, h3, h4, h5⟩
/-- the words of a line, in memory -/
structure WordsAt (w : World) (ao : Option Addr) (n : Nat) (ws : List ByteArray) (s : ByteArray) : Prop where
  strs : Strs w ao n n ws
  eq : ws.map (fun x => x.data.toList) = splitP 32 s.data.toList
  le : ∀ x ∈ ws, x.size ≤ s.size
  pos : 0 < n
  top : n ≤ 1000000001
theorem WordsAt.on {w w' : World} {ao : Option Addr} {n : Nat} {ws : List ByteArray} {s : ByteArray} (h : WordsAt w ao n ws s) (hb : Below w.heap.size w w') : WordsAt w' ao n ws s := ⟨h.strs.below hb (Nat.le_refl _), h.eq, h.le, h.pos, h.top⟩
def SplitRes (w : World) (s : ByteArray) (e : Ending) (w' : World) : Prop :=
  ∃ ao n ws, e = .returned (.slice ao n n) ∧ WordsAt w' ao n ws s ∧ Below w.heap.size w w'
theorem split_res (w : World) (s : ByteArray) (hs : s.size ≤ 1000000000) (hE : Env w) :
    Calls Tryz.prog 76 #[.string s, .string ⟨#[32]⟩] w (SplitRes w s) := by
  obtain ⟨m, hm⟩ := hE.max
  refine (Tryz.strings_Split s ⟨#[32]⟩ m w (by omega) hm (by decide)).mono fun e w' ⟨h1, h2⟩ => ?_
  have hlen := Lib.splitB_all ⟨#[32]⟩ (by decide) 0 _ s rfl
  have heq := splitB_one s 32
  obtain ⟨ws, hws⟩ : ∃ ws, ws = Lib.splitB ⟨#[32]⟩ 0 (Lib.countB s ⟨#[32]⟩) s := ⟨_, rfl⟩
  rw [← hws] at h2 hlen heq
  have hle : ∀ x ∈ ws, x.size ≤ s.size := by
    intro x hx
    have h3 : x.data.toList ∈ splitP 32 s.data.toList := by rw [← heq]; exact List.mem_map_of_mem hx
    have := split_le 32 _ _ h3
    simpa using this
  have hn : ws.length ≤ 1000000001 := by
    have h3 := Lib.countB_le ⟨#[32]⟩ (by decide) s.size s (Nat.le_refl _)
    omega
  subst h2
  refine ⟨_, _, ws, h1, ⟨?_, heq, hle, by omega, by omega⟩, (Below.refl _ _).alloc (Nat.le_refl _) _⟩
  rw [← hlen]
  refine ⟨⟨by simp, Nat.le_refl _, by omega, by omega, fun e => (by cases e), fun h0 => ⟨w.heap.size, 0, rfl, fun i hi => ?_⟩⟩, fun x hx => by have := hle x hx; omega⟩
  have := World.cell?_alloc_new w (ws.map Value.string).toArray 9 i
  rw [Nat.zero_add, this, List.getElem?_toArray, List.getElem?_eq_getElem hi]

theorem setCell_self {w : World} {g j : Nat} {cs : Array Value} {T : TypeId} {v : Value} (hB : Blk w g cs T) (hc : w.cell? ⟨g, j, none⟩ = some v) : w.setCell ⟨g, j, none⟩ v = w := by
  have h2 := hB.cell j
  rw [hc] at h2
  have hs : cs.setIfInBounds j v = cs := by
    apply Array.ext_getElem?
    intro i
    rw [Array.getElem?_setIfInBounds]
    by_cases e : j = i
    · subst e
      have hj : j < cs.size := (Array.getElem?_eq_some_iff.1 h2.symm).1
      rw [if_pos rfl, if_pos hj, ← h2]
    · rw [if_neg e]
  have hh : (w.setCell ⟨g, j, none⟩ v).heap = w.heap := by
    apply Array.ext_getElem?
    intro i
    by_cases e : i = g
    · subst e
      have := hB.set j v
      unfold Blk at this hB
      rw [this, hs, hB]
    · exact heap_setCell_other w ⟨g, j, none⟩ i v e
  cases w
  simp only [World.setCell] at hh ⊢
  simp only [World.mk.injEq, and_true]
  exact hh
theorem act_results {tmps : Array Value} {w : World} {R : Nat} {x : ActP} {nao nl nc dao dl dc} {b : Value} (h2 : tmps[2]? = some (.pointer (some ⟨R, 0, none⟩))) (h3 : tmps[3]? = some b) (hB : Blk w R (actCells x nao nl nc dao dl dc) 60) :
    (results Tryz.f36 tmps).run Tryz.prog w = .ok (.tuple #[.agg (actCells x nao nl nc dao dl dc), b]) w := by
  have c0 := hB.cell 0
  have c1 := hB.cell 1
  have c2 := hB.cell 2
  have c3 := hB.cell 3
  have c4 := hB.cell 4
  have c5 := hB.cell 5
  have c6 := hB.cell 6
  have c7 := hB.cell 7
  simp [actCells] at c0 c1 c2 c3 c4 c5 c6 c7
  simp [results, go_sem, h2, h3, c0, c1, c2, c3, c4, c5, c6, c7, actCells]
/-- a row whose block is another, for no cell of that one is an element -/
theorem row_away {w w' : World} {g : Nat} {cs : Array Value} {T : TypeId} {ao : Option Addr} {n c : Nat} {vs : List Value} (h : Row w ao n c vs) (hB : Blk w g cs T) (hg : w.grownBy w' (some g)) (hne : ∀ (v : Value), v ∈ vs → ∀ j : Nat, cs[j]? ≠ some v) : Row w' ao n c vs := by
  refine ⟨h.hlen, h.hle, h.hcap, h.hmax, h.hnil, fun h0 => ?_⟩
  obtain ⟨b, off, e, hc⟩ := h.hcells h0
  refine ⟨b, off, e, fun i hi => hg.cell (a := ⟨b, off + i, none⟩) (hc i hi) ?_⟩
  intro hb
  simp at hb
  subst hb
  have h1 := hc i hi
  rw [hB.cell] at h1
  exact hne _ (List.getElem_mem hi) _ h1
/-- the eight cells of an act put into block R -/
def putAct (w : World) (R : Nat) (x : ActP) (nao : Option Addr) (nl nc : Nat) (dao : Option Addr) (dl dc : Nat) : World :=
  (((((((w.setCell ⟨R, 0, none⟩ (.int .i64 x.kind)).setCell ⟨R, 1, none⟩ (.int .i64 x.a)).setCell ⟨R, 2, none⟩ (.int .i64 x.b)).setCell ⟨R, 3, none⟩ (.int .i64 x.n)).setCell ⟨R, 4, none⟩ (.slice nao nl nc)).setCell ⟨R, 5, none⟩ (.int .u64 (x.mask : Int))).setCell ⟨R, 6, none⟩ (.int .u64 (x.torn : Int))).setCell ⟨R, 7, none⟩ (.slice dao dl dc)
theorem putAct_blk {w : World} {R : Nat} {y x : ActP} {a1 : Option Addr} {b1 c1 : Nat} {a2 : Option Addr} {b2 c2 : Nat} {nao nl nc dao dl dc} (h : Blk w R (actCells y a1 b1 c1 a2 b2 c2) 60) :
    Blk (putAct w R x nao nl nc dao dl dc) R (actCells x nao nl nc dao dl dc) 60 := by
  have := (((((((h.set 0 (.int .i64 x.kind)).set 1 (.int .i64 x.a)).set 2 (.int .i64 x.b)).set 3 (.int .i64 x.n)).set 4 (.slice nao nl nc)).set 5 (.int .u64 (x.mask : Int))).set 6 (.int .u64 (x.torn : Int))).set 7 (.slice dao dl dc)
  simpa [actCells, putAct] using this
theorem putAct_but (w : World) (R : Nat) (x : ActP) (nao : Option Addr) (nl nc : Nat) (dao : Option Addr) (dl dc : Nat) : w.grownBy (putAct w R x nao nl nc dao dl dc) (some R) :=
  but_trans (but_trans (but_trans (but_trans (but_trans (but_trans (but_trans (but_set _ _ _ _) (but_set _ _ _ _)) (but_set _ _ _ _)) (but_set _ _ _ _)) (but_set _ _ _ _)) (but_set _ _ _ _)) (but_set _ _ _ _)) (but_set _ _ _ _)
theorem ReadRes.elim {w w' : World} {g : Nat} {r : Option ActP} {e : Ending} (h : ReadRes w g r e w') : ∃ b, e = .returned (.bool b) ∧ w.grownBy w' (some g) ∧ (b = true → ∃ y, r = some y ∧ ActSome w' g y) ∧ (b = false → r = none) := by
  obtain ⟨h1, h2⟩ := h
  cases r with
  | none => exact ⟨false, h2.1, h1, fun h => (by cases h), fun _ => rfl⟩
  | some y => exact ⟨true, h2.1, h1, fun _ => ⟨y, rfl, h2.2⟩, fun h => (by cases h)⟩
theorem readAll_drop : ∀ {fs : List Nat} {ws : List (List UInt8)} {j : Nat} {x : ActP} (h : j < fs.length) (h2 : j < ws.length), readAll (fs.drop j) (ws.drop j) x = match readP fs[j] ws[j] x with | some y => readAll (fs.drop (j + 1)) (ws.drop (j + 1)) y | none => none
  | f :: fs, w :: ws, 0, x, _, _ => by simp [readAll]; rfl
  | f :: fs, w :: ws, j + 1, x, h, h2 => by simpa using readAll_drop (fs := fs) (ws := ws) (j := j) (x := x) (by simpa using h) (by simpa using h2)
theorem fields_le : ∀ f ∈ formsP, ∀ x ∈ f.2.2, x ≤ 6 := by decide
set_option maxHeartbeats 4000000 in
set_option maxRecDepth 100000 in
theorem act_fresh (w : World) (s : ByteArray) (hs : s.size ≤ 1000000000) (hE : Env w) :
    Calls Tryz.prog 36 #[.string s] w (ActResF w (actP s.data.toList)) := by
  have hR0 : Below w.heap.size w (w.alloc (.cells (actCells (ActP.zero 0) none 0 0 none 0 0) 60)) := (Below.refl _ _).alloc (Nat.le_refl _) _
  have hRB : Blk (w.alloc (.cells (actCells (ActP.zero 0) none 0 0 none 0 0) 60)) w.heap.size (actCells (ActP.zero 0) none 0 0 none 0 0) 60 := heap_alloc_new w _
  have HE0 := Lib.hid (hE.on hR0)
  have HR0 := Lib.hid hR0
  have HRB := Lib.hid hRB
  clear hR0 hRB
  go_enter Tryz.func36, Tryz.ntmps36
  go_wp2_with fail
  refine (split_res _ s hs HE0.out).mono ?_
  rintro e w1 ⟨ao, n, ws, rfl, hW, hb1⟩
  have HW1 := Lib.hid hW
  have HB1 := Lib.hid hb1
  clear hW hb1
  go_wp2_with fail
  refine (forms_res _).mono ?_
  rintro e w2 ⟨G, rfl, hb2, hF⟩
  have HW2 := Lib.hid (HW1.out.on hb2)
  have HRB2 := Lib.hid ((HRB.out.on HB1.out).on hb2)
  have HE2 := Lib.hid ((HE0.out.on HB1.out).on hb2)
  have HB2 := Lib.hid (below_on HR0.out (below_on HB1.out hb2 (Nat.le_refl _)) (Nat.le_refl _))
  have HF := Lib.hid hF
  clear hb2 hF HW1 HE0 HRB HB1 HR0
  go_wp2_with fail
  go_loopw [14] (fun iv wr => ∃ k : Nat, k ≤ 10 ∧ iv = .int .i64 k ∧ Below w2.heap.size w2 wr ∧ Hid (∀ j (hj : j < formsP.length), j < k → fitsForm (splitP 32 s.data.toList) formsP[j] = false)) (fun iv _ => 10 - (intOf iv).toNat)
  case atStart => exact ⟨0, Nat.zero_le _, rfl, Below.refl _ _, fun j hj h => absurd h (by omega)⟩
  case round =>
    obtain ⟨k, hk, rfl, hbr, hno⟩ := hrel
    by_cases hlt : k < 10
    · have hlt' : k < formsP.length := hlt
      have hmem : formsP[k] ∈ formsP := List.getElem_mem hlt'
      obtain ⟨fo, c0, c1, c2, hrow⟩ := (HF.out.on hbr) k hlt'
      obtain ⟨f, hfe⟩ : ∃ f, f = formsP[k] := ⟨_, rfl⟩
      rw [← hfe] at c0 c1 c2 hrow hmem
      have HFE := Lib.hid hfe
      clear hfe
      have hW := HW2.out.on hbr
      obtain ⟨b, off, rfl⟩ := hW.strs.row.addr (k := 0) hW.pos
      have hn0 : 0 < n := hW.pos
      have hn1 : (0 : Int) < (n : Int) := by omega
      have hntop : n ≤ 1000000001 := hW.top
      have cw := hW.strs.at (i := 0) hW.pos
      rw [Nat.add_zero] at cw
      have hwl := hW.strs.len
      have hwp : 0 < ws.length := by omega
      obtain ⟨ws0, hws0⟩ : ∃ x, x = ws[0]'hwp := ⟨_, rfl⟩
      rw [← hws0] at cw
      have hhead : (splitP 32 s.data.toList).headD [] = ws0.data.toList := by
        rw [← hW.eq, hws0]
        exact headD_map ws hwp
      have hlenw : (splitP 32 s.data.toList).length = n := by rw [← hW.eq, List.length_map, hwl]
      have hfit : fitsForm (splitP 32 s.data.toList) f = (decide (f.1 = ws0.data.toList) && decide (f.2.2.length = n - 1)) := by
        simp only [fitsForm, hhead, hlenw]
        rw [Bool.eq_iff_iff]; simp
      have hbe := str_beq f.1 ws0
      obtain ⟨fw, hfw⟩ : ∃ x : ByteArray, x = ⟨f.1.toArray⟩ := ⟨_, rfl⟩
      obtain ⟨kd, hkd⟩ : ∃ x, x = f.2.1 := ⟨_, rfl⟩
      obtain ⟨fl, hfl⟩ : ∃ x, x = f.2.2.length := ⟨_, rfl⟩
      rw [← hfw] at c0 hbe
      rw [← hkd] at c1
      rw [← hfl] at c2 hrow hfit
      have HW := Lib.hid hW
      have HROW := Lib.hid hrow
      have HHD := Lib.hid hhead
      have HLW := Lib.hid hlenw
      have HWS := Lib.hid hws0
      have HWL := Lib.hid hwl
      have HKD := Lib.hid hkd
      have HFL := Lib.hid hfl
      clear hW hrow hhead hlenw hws0 hwl hfw hkd hfl
      have hX : Below wr.heap.size wr (wr.alloc (.cells #[.string fw, .int .i64 kd, .slice fo fl fl] 106)) := (Below.refl _ _).alloc (Nat.le_refl _) _
      have cw' := cell_keep hX cw
      have d0 := World.cell?_alloc_new wr #[.string fw, .int .i64 kd, .slice fo fl fl] 106 0
      have d1 := World.cell?_alloc_new wr #[.string fw, .int .i64 kd, .slice fo fl fl] 106 1
      have d2 := World.cell?_alloc_new wr #[.string fw, .int .i64 kd, .slice fo fl fl] 106 2
      simp at d0 d1 d2
      cases hq : decide (f.1 = ws0.data.toList)
      · rw [hq] at hbe hfit
        have hbn : (fw.toList != ws0.toList) = true := by rw [bne, hbe]; rfl
        have HNO : Hid (∀ j (hj : j < formsP.length), j < k + 1 → fitsForm (splitP 32 s.data.toList) formsP[j] = false) := by
          intro j hj h
          rcases Nat.lt_succ_iff_lt_or_eq.1 h with h | rfl
          · exact hno.out j hj h
          · rw [← HFE.out, hfit]; rfl
        clear hq hfit
        go_wp2_with fail
        go_quiet (fail)
        go_wp2
        go_roundw
        case rel => exact ⟨k + 1, by omega, by go_num, below_drewN (below_on hbr hX (Nat.le_refl _)) _, HNO.out⟩
        case measure => simp [intOf]; omega
      · rw [hq] at hbe hfit
        have hbn : (fw.toList != ws0.toList) = false := by rw [bne, hbe]; rfl
        by_cases hl : fl = n - 1
        · have HFN := Lib.hid hl
          have hln : ((fl : Int) != (n : Int) - 1) = false := by rw [bne_eq_false_iff_eq]; omega
          have hfit2 : fitsForm (splitP 32 s.data.toList) f = true := by rw [hfit, hl]; simp
          have hact : actP s.data.toList = readAll f.2.2 (splitP 32 s.data.toList).tail (ActP.zero f.2.1) := by
            have hfind : formsP.find? (fitsForm (splitP 32 s.data.toList)) = some f := by
              rw [List.find?_eq_some_iff_getElem]
              refine ⟨hfit2, k, hlt', HFE.out.symm, fun j hj => ?_⟩
              rw [hno.out j (by omega) hj]; rfl
            unfold actP actW
            rw [hfind]
          have HACT := Lib.hid hact
          clear hq hfit hfit2 hact hl
          go_wp2_with fail
          go_quiet (fail)
          go_wp2_with fail
          have hfr := HROW.out
          have hxx : ActAt ((wr.alloc (.cells #[.string fw, .int .i64 kd, .slice fo fl fl] 106)).drewN nq |>.alloc (.cells (actCells (ActP.zero kd) none 0 0 none 0 0) 60)) (wr.heap.size + 1) (ActP.zero kd) none 0 0 none 0 0 := by
            refine ⟨?_, ⟨(Row.empty (by omega) (fun _ => rfl) : Row _ none 0 0 []), fun x hx => by cases hx⟩, (Row.empty (by omega) (fun _ => rfl) : Row _ none 0 0 []), fun a ha => by (cases ha), fun a ha => by (cases ha)⟩
            have := heap_alloc_new ((wr.alloc (.cells #[.string fw, .int .i64 kd, .slice fo fl fl] 106)).drewN nq) (.cells (actCells (ActP.zero kd) none 0 0 none 0 0) 60)
            simpa [Blk] using this
          have hwx : Below wr.heap.size wr ((wr.alloc (.cells #[.string fw, .int .i64 kd, .slice fo fl fl] 106)).drewN nq |>.alloc (.cells (actCells (ActP.zero kd) none 0 0 none 0 0) 60)) := (below_drewN hX nq).alloc (by simp) _
          have HX := Lib.hid hxx
          have HWX := Lib.hid hwx
          clear hfr hxx hwx
          have hkd : decide ((k : Int) < 10) = true := by rw [decide_eq_true_eq]; omega
          simp only [hkd]
          go_loopw [39] (fun iv w3 => ∃ (j : Nat) (x : ActP), j ≤ fl ∧ iv = .int .i64 j ∧ Hid (Below wr.heap.size wr w3 ∧ ActSome w3 (wr.heap.size + 1) x ∧ actP s.data.toList = readAll (f.2.2.drop j) ((splitP 32 s.data.toList).tail.drop j) x)) (fun iv _ => fl - (intOf iv).toNat)
          case atStart => exact ⟨0, ActP.zero kd, Nat.zero_le _, rfl, HWX.out, ⟨_, _, _, _, _, _, HX.out⟩, by rw [HACT.out, HKD.out]; rfl⟩
          case round =>
            rename World => w3
            obtain ⟨j, x, hj, rfl, hinv⟩ := hrel
            obtain ⟨hb3, ⟨nao, nl, nc, dao, dl, dc, hx3⟩, hrd⟩ := hinv.out
            clear hinv
            have HRD := Lib.hid hrd
            clear hrd
            by_cases hjl : j < fl
            · have hj2 : j < f.2.2.length := by have := HFL.out; omega
              have hrow3 := HROW.out.below hb3 (Nat.le_refl _)
              obtain ⟨b2, off2, rfl⟩ := hrow3.addr (k := j) hjl
              have cf := hrow3.at hjl
              rw [List.getElem_map] at cf
              have hf6 : f.2.2[j] ≤ 6 := fields_le f hmem _ (List.getElem_mem hj2)
              obtain ⟨fj, hfj⟩ : ∃ y, y = f.2.2[j] := ⟨_, rfl⟩
              rw [← hfj] at cf hf6
              unfold fieldV at cf
              have hW3 := HW.out.on hb3
              have hjn : j + 1 < n := by have := HFN.out; omega
              have hjw : j + 1 < ws.length := by have := HWL.out; omega
              have cv := hW3.strs.at (i := j + 1) hjn
              have hsz := hW3.le _ (List.getElem_mem hjw)
              have htl : j < (splitP 32 s.data.toList).tail.length := by rw [List.length_tail, HLW.out]; omega
              have hwd : (splitP 32 s.data.toList).tail[j] = (ws[j + 1]).data.toList := by
                rw [List.getElem_tail]
                have h1 : ∀ (l1 l2 : List (List UInt8)) (h : l1 = l2) (i : Nat) (h2 : i < l2.length), l2[i] = l1[i]'(by rw [h]; exact h2) := by rintro l1 _ rfl i h2; rfl
                rw [h1 _ _ hW3.eq]
                simp
              obtain ⟨wj, hwj⟩ : ∃ y, y = ws[j + 1] := ⟨_, rfl⟩
              rw [← hwj] at cv hsz hwd
              have hstep := readAll_drop (x := x) hj2 htl
              simp only [← hfj, hwd] at hstep
              have HST := Lib.hid (HRD.out.trans hstep)
              have HCALL := Lib.hid (read_any w3 fj (wr.heap.size + 1) wj x nao nl nc dao dl dc hf6 (by omega) (HE2.out.on (below_on hbr hb3 (Nat.le_refl _))) (by have h1 := HE2.out.low; have h2 := hbr.size; omega) hx3)
              clear hstep HRD hfj hwj hwd hsz hf6 hW3 hrow3 hx3
              go_wp2_with fail
              refine HCALL.out.mono ?_
              intro e w4 hr
              obtain ⟨bb, rfl, hg4, hy, hn⟩ := hr.elim
              have HY := Lib.hid hy
              have HN := Lib.hid hn
              clear hr hy hn HCALL
              have hb4 : Below wr.heap.size wr w4 := hb3.trans (below_of_but hg4 (by omega) hb3.size)
              have HB4 := Lib.hid hb4
              clear hg4 hb4
              cases bb
              · have hact : actP s.data.toList = none := by rw [HST.out, HN.out rfl]
                have HNONE := Lib.hid hact
                clear hact
                have hR := HRB2.out.on (below_on hbr HB4.out (Nat.le_refl _))
                have r0 := hR.cell 0
                have r1 := hR.cell 1
                have r2 := hR.cell 2
                have r3 := hR.cell 3
                have r4 := hR.cell 4
                have r5 := hR.cell 5
                have r6 := hR.cell 6
                have r7 := hR.cell 7
                simp [actCells, ActP.zero] at r0 r1 r2 r3 r4 r5 r6 r7
                have q0 := hR.free 0
                have q1 := hR.free 1
                have q2 := hR.free 2
                have q3 := hR.free 3
                have q4 := hR.free 4
                have q5 := hR.free 5
                have q6 := hR.free 6
                have q7 := hR.free 7
                have HRR := Lib.hid hR
                clear hR
                have z0 : w4.setCell ⟨w.heap.size, 0, none⟩ (.int .i64 0) = w4 := setCell_self HRR.out r0
                have z1 : w4.setCell ⟨w.heap.size, 1, none⟩ (.int .i64 0) = w4 := setCell_self HRR.out r1
                have z2 : w4.setCell ⟨w.heap.size, 2, none⟩ (.int .i64 0) = w4 := setCell_self HRR.out r2
                have z3 : w4.setCell ⟨w.heap.size, 3, none⟩ (.int .i64 0) = w4 := setCell_self HRR.out r3
                have z4 : w4.setCell ⟨w.heap.size, 4, none⟩ (.slice none 0 0) = w4 := setCell_self HRR.out r4
                have z5 : w4.setCell ⟨w.heap.size, 5, none⟩ (.int .u64 0) = w4 := setCell_self HRR.out r5
                have z6 : w4.setCell ⟨w.heap.size, 6, none⟩ (.int .u64 0) = w4 := setCell_self HRR.out r6
                have z7 : w4.setCell ⟨w.heap.size, 7, none⟩ (.slice none 0 0) = w4 := setCell_self HRR.out r7
                have hbw : Below w.heap.size w w4 := below_on HB2.out (below_on hbr HB4.out (Nat.le_refl _)) (Nat.le_refl _)
                have HBW := Lib.hid hbw
                clear hbw
                go_wp2
                refine bodyPost_ret (v := .tuple #[.agg (actCells (ActP.zero 0) none 0 0 none 0 0), .bool false]) (act_results rfl rfl HRR.out) rfl ?_
                rw [HNONE.out]
                exact ⟨HBW.out, rfl⟩
              · obtain ⟨y, hy1, hy2⟩ := HY.out rfl
                have HST2 := Lib.hid (by rw [HST.out, hy1] : actP s.data.toList = readAll (f.2.2.drop (j + 1)) ((splitP 32 s.data.toList).tail.drop (j + 1)) y)
                have HY2 := Lib.hid hy2
                clear hy1 hy2
                go_wp2
                go_roundw
                case rel => exact ⟨j + 1, y, by omega, by go_num, HB4.out, HY2.out, HST2.out⟩
                case measure => simp [intOf]; omega
            · have hjf : j = fl := by omega
              subst hjf
              have hact : actP s.data.toList = some x := by
                rw [HRD.out, List.drop_eq_nil_of_le (by have := HFL.out; omega), List.drop_eq_nil_of_le (by rw [List.length_tail, HLW.out]; have := HFN.out; omega)]
                rfl
              have HSOME := Lib.hid hact
              clear hact
              have B0 := HRB2.out.on (below_on hbr hb3 (Nat.le_refl _))
              have B1 := B0.set 0 (.int .i64 x.kind)
              have r0 := B0.cell 0
              have q0 := B0.free 0
              have B2 := B1.set 1 (.int .i64 x.a)
              have r1 := B1.cell 1
              have q1 := B1.free 1
              have B3 := B2.set 2 (.int .i64 x.b)
              have r2 := B2.cell 2
              have q2 := B2.free 2
              have B4 := B3.set 3 (.int .i64 x.n)
              have r3 := B3.cell 3
              have q3 := B3.free 3
              have B5 := B4.set 4 (.slice nao nl nc)
              have r4 := B4.cell 4
              have q4 := B4.free 4
              have B6 := B5.set 5 (.int .u64 (x.mask : Int))
              have r5 := B5.cell 5
              have q5 := B5.free 5
              have B7 := B6.set 6 (.int .u64 (x.torn : Int))
              have r6 := B6.cell 6
              have q6 := B6.free 6
              have B8 := B7.set 7 (.slice dao dl dc)
              have r7 := B7.cell 7
              have q7 := B7.free 7
              simp [actCells, ActP.zero] at r0 r1 r2 r3 r4 r5 r6 r7
              have HB0 := Lib.hid B0
              clear B0 B1 B2 B3 B4 B5 B6 B7 B8
              have hG := hx3.blk
              have g0 := hG.cell 0
              have g1 := hG.cell 1
              have g2 := hG.cell 2
              have g3 := hG.cell 3
              have g4 := hG.cell 4
              have g5 := hG.cell 5
              have g6 := hG.cell 6
              have g7 := hG.cell 7
              simp [actCells] at g0 g1 g2 g3 g4 g5 g6 g7
              clear hG
              have HX3 := Lib.hid hx3
              have HB3 := Lib.hid hb3
              clear hx3 hb3
              go_wp2
              refine bodyPost_ret (v := .tuple #[.agg (actCells x nao nl nc dao dl dc), .bool true]) (act_results rfl rfl (putAct_blk (x := x) (nao := nao) (nl := nl) (nc := nc) (dao := dao) (dl := dl) (dc := dc) HB0.out)) rfl ?_
              rw [HSOME.out]
              have hp := putAct_but w3 w.heap.size x nao nl nc dao dl dc
              refine ⟨?_, nao, nl, nc, dao, dl, dc, rfl, ?_, ?_, fun a ha => (by have h1 := HX3.out.nne a ha; have h2 := HB2.out.size; have h3 := hbr.size; omega), fun a ha => (by have h1 := HX3.out.dne a ha; have h2 := HB2.out.size; have h3 := hbr.size; omega)⟩
              · exact (below_on HB2.out (below_on hbr HB3.out (Nat.le_refl _)) (Nat.le_refl _)).trans (below_of_but hp (Nat.le_refl _) (by have h1 := HB2.out.size; have h2 := hbr.size; have h3 := HB3.out.size; omega))
              · refine ⟨row_away HX3.out.name.row HB0.out hp ?_, HX3.out.name.small⟩
                intro v hv i
                simp only [List.mem_map] at hv
                obtain ⟨y, _, rfl⟩ := hv
                intro h
                have := (Array.getElem?_eq_some_iff.1 h)
                obtain ⟨hi, h⟩ := this
                have hi8 : i < 8 := hi
                match i, hi8 with
                | 0, _ => cases h
                | 1, _ => cases h
                | 2, _ => cases h
                | 3, _ => cases h
                | 4, _ => cases h
                | 5, _ => cases h
                | 6, _ => cases h
                | 7, _ => cases h
              · refine row_away HX3.out.data HB0.out hp ?_
                intro v hv i
                simp only [List.mem_map] at hv
                obtain ⟨y, _, rfl⟩ := hv
                intro h
                have := (Array.getElem?_eq_some_iff.1 h)
                obtain ⟨hi, h⟩ := this
                have hi8 : i < 8 := hi
                match i, hi8 with
                | 0, _ => cases h
                | 1, _ => cases h
                | 2, _ => cases h
                | 3, _ => cases h
                | 4, _ => cases h
                | 5, _ => cases h
                | 6, _ => cases h
                | 7, _ => cases h
        · have hln : ((fl : Int) != (n : Int) - 1) = true := by rw [bne_iff_ne]; omega
          have HNO : Hid (∀ j (hj : j < formsP.length), j < k + 1 → fitsForm (splitP 32 s.data.toList) formsP[j] = false) := by
            intro j hj h
            rcases Nat.lt_succ_iff_lt_or_eq.1 h with h | rfl
            · exact hno.out j hj h
            · rw [← HFE.out, hfit]; simp [hl]
          clear hq hfit
          go_wp2_with fail
          go_quiet (fail)
          go_wp2
          go_roundw
          case rel => exact ⟨k + 1, by omega, by go_num, below_drewN (below_on hbr hX (Nat.le_refl _)) _, HNO.out⟩
          case measure => simp [intOf]; omega
    · have hk10 : k = 10 := by omega
      have hact : actP s.data.toList = none := by
        have hfind : formsP.find? (fitsForm (splitP 32 s.data.toList)) = none := by
          rw [List.find?_eq_none]
          intro x hx
          obtain ⟨j, hj, rfl⟩ := List.getElem_of_mem hx
          have h10 : j < 10 := hj
          rw [hno.out j hj (by omega)]
          simp
        unfold actP actW
        rw [hfind]
      have HACT := Lib.hid hact
      have hR := HRB2.out.on hbr
      have r0 := hR.cell 0
      have r1 := hR.cell 1
      have r2 := hR.cell 2
      have r3 := hR.cell 3
      have r4 := hR.cell 4
      have r5 := hR.cell 5
      have r6 := hR.cell 6
      have r7 := hR.cell 7
      simp [actCells, ActP.zero] at r0 r1 r2 r3 r4 r5 r6 r7
      have q0 := hR.free 0
      have q1 := hR.free 1
      have q2 := hR.free 2
      have q3 := hR.free 3
      have q4 := hR.free 4
      have q5 := hR.free 5
      have q6 := hR.free 6
      have q7 := hR.free 7
      have HRR := Lib.hid hR
      clear hk10 hact hR
      have z0 : wr.setCell ⟨w.heap.size, 0, none⟩ (.int .i64 0) = wr := setCell_self HRR.out r0
      have z1 : wr.setCell ⟨w.heap.size, 1, none⟩ (.int .i64 0) = wr := setCell_self HRR.out r1
      have z2 : wr.setCell ⟨w.heap.size, 2, none⟩ (.int .i64 0) = wr := setCell_self HRR.out r2
      have z3 : wr.setCell ⟨w.heap.size, 3, none⟩ (.int .i64 0) = wr := setCell_self HRR.out r3
      have z4 : wr.setCell ⟨w.heap.size, 4, none⟩ (.slice none 0 0) = wr := setCell_self HRR.out r4
      have z5 : wr.setCell ⟨w.heap.size, 5, none⟩ (.int .u64 0) = wr := setCell_self HRR.out r5
      have z6 : wr.setCell ⟨w.heap.size, 6, none⟩ (.int .u64 0) = wr := setCell_self HRR.out r6
      have z7 : wr.setCell ⟨w.heap.size, 7, none⟩ (.slice none 0 0) = wr := setCell_self HRR.out r7
      have hbw : Below w.heap.size w wr := below_on HB2.out hbr (Nat.le_refl _)
      go_wp2
      refine bodyPost_ret (v := .tuple #[.agg (actCells (ActP.zero 0) none 0 0 none 0 0), .bool false]) (act_results rfl rfl HRR.out) rfl ?_
      rw [HACT.out]
      exact ⟨hbw, rfl⟩
theorem act_any (w : World) (s : ByteArray) (hs : s.size ≤ 1000000000) (hE : Env w) :
    Calls Tryz.prog 36 #[.string s] w (ActRes w (actP s.data.toList)) := (act_fresh w s hs hE).mono fun _ _ h => h.plain
end Go.Proofs.YtipbakdodbmfjaaGreatDoor

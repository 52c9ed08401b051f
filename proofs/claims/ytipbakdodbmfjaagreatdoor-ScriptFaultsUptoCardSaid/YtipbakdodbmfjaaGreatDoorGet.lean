/- The contract of script.Get: the acts of a text. -/
import Derived.Test.YtipbakdodbmfjaaGreatDoorPut
import Derived.Maps.AppendAt
namespace Go.Proofs.YtipbakdodbmfjaaGreatDoor
open Go.ChangeShapes Go.WideShapes Go.ChangeAt Go.RowKit

theorem actInfo : (Tryz.prog.info? 60).map (fun i => (i.zero.map fun z => z.cells.size, i.size, i.bytes)) = some (some 8, 8, 96) := by kernel_rfl
theorem Row.grown0 {w w' : World} {ao : Option Addr} {len cap : Nat} {vs : List Value} {row : Option Nat} (h : Row w ao len cap vs) (hg : w.grownBy w' row) (hne : 0 < len → ∀ a, ao = some a → some a.block ≠ row) : Row w' ao len cap vs := by
  refine ⟨h.hlen, h.hle, h.hcap, h.hmax, h.hnil, fun h0 => ?_⟩
  obtain ⟨b, off, e, hc⟩ := h.hcells h0
  exact ⟨b, off, e, fun i hi => hg.cell (a := ⟨b, off + i, none⟩) (hc i hi) (hne h0 ⟨b, off, none⟩ e)⟩
theorem Row.blk_lt {w : World} {ao : Option Addr} {len cap : Nat} {vs : List Value} (h : Row w ao len cap vs) (h0 : 0 < len) : ∀ a, ao = some a → a.block < w.heap.size := by
  intro a ha
  obtain ⟨b, off, e, hc⟩ := h.hcells h0
  rw [e] at ha
  cases ha
  have hl : 0 < vs.length := by have := h.hlen; omega
  have h1 := hc 0 hl
  have := World.block_lt_of_cell? w _ h1
  simpa using this
/-- an act's eight cells among those of an own row -/
def ActOf (w : World) (row : Option Nat) (cs : List Value) (i : Nat) (x : ActP) : Prop :=
  ∃ nao nl nc dao dl dc, (∀ j, j < 8 → cs[i * 8 + j]? = (actCells x nao nl nc dao dl dc)[j]?) ∧ Strs w nao nl nc x.name ∧ Byts w dao dl dc x.data ∧
    (0 < nl → ∀ a, nao = some a → some a.block ≠ row) ∧ (0 < dl → ∀ a, dao = some a → some a.block ≠ row)
/-- the acts that the call has gathered -/
structure GetSt (w0 w : World) (v : Value) (xs : List ActP) : Prop where
  own : ∃ cs : List Value, w.ownsRow w0.heap.size 60 8 v xs.length cs ∧ ∀ i (h : i < xs.length), ActOf w v.ownBlock cs i xs[i]
  bel : Below w0.heap.size w0 w
theorem ActOf.on {w w' : World} {row : Option Nat} {cs : List Value} {i : Nat} {x : ActP} (h : ActOf w row cs i x) (hb : Below w.heap.size w w') : ActOf w' row cs i x := by
  obtain ⟨nao, nl, nc, dao, dl, dc, h1, h2, h3, h4, h5⟩ := h
  exact ⟨nao, nl, nc, dao, dl, dc, h1, h2.below hb (Nat.le_refl _), h3.below hb (Nat.le_refl _), h4, h5⟩
theorem GetSt.on {w0 w w' : World} {v : Value} {xs : List ActP} (h : GetSt w0 w v xs) (hb : Below w.heap.size w w') : GetSt w0 w' v xs := by
  obtain ⟨cs, h1, h2⟩ := h.own
  exact ⟨⟨cs, owns_keep h1 hb, fun i hi => (h2 i hi).on hb⟩, below_on h.bel hb (Nat.le_refl _)⟩
theorem GetSt.nil (w0 : World) : GetSt w0 w0 (.slice none 0 0) [] := ⟨⟨[], World.ownsRow_nil _ _ _ _, fun i h => absurd h (by simp)⟩, Below.refl _ _⟩
theorem GetSt.row_lt {w0 w : World} {v : Value} {xs : List ActP} (h : GetSt w0 w v xs) : ∀ k, v.ownBlock = some k → k < w.heap.size := by
  intro k hk
  obtain ⟨cs, ho, _⟩ := h.own
  exact (ho.lt k hk).2
theorem act_cells_one (x : ActP) (nao : Option Addr) (nl nc : Nat) (dao : Option Addr) (dl dc : Nat) : ∀ u ∈ (actCells x nao nl nc dao dl dc).toList, u.oneCell' = true := by
  intro u hu
  simp [actCells] at hu
  rcases hu with rfl | rfl | rfl | rfl | rfl | rfl | rfl | rfl <;> rfl
/-- one act more -/
theorem GetSt.push {w0 w : World} {v : Value} {xs : List ActP} (h : GetSt w0 w v xs) (hlen : xs.length ≤ 1000000) (x : ActP) (nao : Option Addr) (nl nc : Nat) (dao : Option Addr) (dl dc : Nat) (hn : Strs w nao nl nc x.name) (hd : Byts w dao dl dc x.data)
    (hnf : 0 < nl → ∀ a, nao = some a → some a.block ≠ v.ownBlock) (hdf : 0 < dl → ∀ a, dao = some a → some a.block ≠ v.ownBlock) :
    ∃ v' w', (Builtin.append_ #[67, 67] 67 #[v, .slice (some ⟨w.heap.size, 0, none⟩) 1 1]).run Tryz.prog (w.alloc (.cells (actCells x nao nl nc dao dl dc) 60)) = .ok v' w' ∧ GetSt w0 w' v' (xs ++ [x]) := by
  obtain ⟨cs, h1, h2⟩ := h.own
  have hbA : Below w.heap.size w (w.alloc (.cells (actCells x nao nl nc dao dl dc) 60)) := (Below.refl _ _).alloc (Nat.le_refl _) _
  have hB : Blk (w.alloc (.cells (actCells x nao nl nc dao dl dc) 60)) w.heap.size (actCells x nao nl nc dao dl dc) 60 := heap_alloc_new w _
  obtain ⟨i0, hi, hii⟩ := Option.map_eq_some_iff.1 actInfo
  simp only [Prod.mk.injEq] at hii
  obtain ⟨z, hz, hzs⟩ := Option.map_eq_some_iff.1 hii.1
  obtain ⟨v', w', hrun, hown, hg, _, hat⟩ := run_append_own_at (P := Tryz.prog) (w.alloc (.cells (actCells x nao nl nc dao dl dc) 60)) w0.heap.size 67 67 60 i0 z 8 96 Tryz.underlying67 hi hz hii.2.1 hii.2.2 hzs (by omega) v xs.length cs (h1.alloc _)
    ⟨w.heap.size, 0, none⟩ 1 1 (actCells x nao nl nc dao dl dc).toList (by simp [actCells]) (fun j u hj => by
      rw [addr_add, hB.cell]
      simpa using hj) (act_cells_one x nao nl nc dao dl dc) (by unfold maxLen; omega) (by omega) (by have := h.bel.size; simp; omega)
  have hsz : (w.alloc (.cells (actCells x nao nl nc dao dl dc) 60)).heap.size = w.heap.size + 1 := by simp
  rw [hsz] at hat
  have hcl : cs.length = xs.length * 8 := h1.1
  refine ⟨v', w', hrun, ⟨⟨_, by simpa using hown, fun i hi' => ?_⟩, ?_⟩⟩
  · rw [List.length_append, List.length_singleton] at hi'
    have newrow : ∀ (len : Nat) (ao : Option Addr), (0 < len → ∀ a, ao = some a → some a.block ≠ v.ownBlock) → (0 < len → ∀ a, ao = some a → a.block < w.heap.size) → 0 < len → ∀ a, ao = some a → some a.block ≠ v'.ownBlock := by
      intro len ao p1 p2 h0 a ha
      rcases hat with e | e
      · rw [e]; exact p1 h0 a ha
      · rw [e]
        have := p2 h0 a ha
        simp
        omega
    by_cases hlt : i < xs.length
    · obtain ⟨nao2, nl2, nc2, dao2, dl2, dc2, q1, q2, q3, q4, q5⟩ := h2 i hlt
      have hxi : (xs ++ [x])[i] = xs[i] := List.getElem_append_left hlt
      rw [hxi]
      have q2' := q2.below hbA (Nat.le_refl _)
      have q3' := q3.below hbA (Nat.le_refl _)
      refine ⟨nao2, nl2, nc2, dao2, dl2, dc2, fun j hj => ?_, ⟨q2'.row.grown0 hg q4, q2'.small⟩, q3'.grown0 hg q5, newrow _ _ q4 q2.row.blk_lt, newrow _ _ q5 q3.blk_lt⟩
      rw [List.getElem?_append_left (by omega)]
      exact q1 j hj
    · have hie : i = xs.length := by omega
      subst hie
      have hxi : (xs ++ [x])[xs.length] = x := by simp
      rw [hxi]
      have q2' := hn.below hbA (Nat.le_refl _)
      have q3' := hd.below hbA (Nat.le_refl _)
      refine ⟨nao, nl, nc, dao, dl, dc, fun j hj => ?_, ⟨q2'.row.grown0 hg hnf, q2'.small⟩, q3'.grown0 hg hdf, newrow _ _ hnf hn.row.blk_lt, newrow _ _ hdf hd.blk_lt⟩
      rw [List.getElem?_append_right (by omega), hcl]
      simp
  · exact (below_on h.bel hbA (Nat.le_refl _)).grown hg (by have := h.bel.size; simp; omega) (fun k hk => (h1.lt k hk).1)
/-- what was gathered is a slice of acts -/
theorem GetSt.acts {w0 w : World} {v : Value} {xs : List ActP} (h : GetSt w0 w v xs) : ∃ ao c, v = .slice ao xs.length c ∧ Acts w ao xs.length c xs := by
  obtain ⟨cs, ⟨hl, h1⟩, h2⟩ := h.own
  rcases h1 with ⟨rfl, h0⟩ | ⟨g, cap, cur, rfl, _, hb, hn, hc, hs, ht⟩
  · have hx : xs = [] := List.eq_nil_of_length_eq_zero h0
    subst hx
    exact ⟨none, 0, rfl, Acts.nil (by omega)⟩
  · refine ⟨_, _, rfl, rfl, hn, ?_, fun _ => ⟨g, 0, rfl, fun i hi => ?_⟩⟩
    · unfold maxLen at hc; omega
    · obtain ⟨nao2, nl2, nc2, dao2, dl2, dc2, q1, q2, q3, _, _⟩ := h2 i hi
      refine ⟨nao2, nl2, nc2, dao2, dl2, dc2, fun j hj => ?_, q2, q3⟩
      rw [Nat.zero_add, Lib.cell_of_heap hb, ← q1 j hj, ← ht, List.getElem?_take, if_pos (by omega)]
      simp
/-- cut at one sign -/
theorem cut_one (c : UInt8) (l : List UInt8) : Lib.cut l [c] = cutP c l := by
  unfold Lib.cut
  rw [Lib.index_one]
  rcases indexByte_cases l c with ⟨h1, h2⟩ | ⟨a, b, h1, h2, h3⟩
  · rw [h1, if_neg (by omega), cutP_none c l h2]
  · rw [h1, if_pos (by omega), h2, cutP_at c b a h3]
    simp
/-- what Get hands back -/
def GetRes (w : World) (r : Except Nat (List ActP)) (e : Ending) (w' : World) : Prop :=
  Below w.heap.size w w' ∧ match r with
  | .ok xs => ∃ ao c, e = .returned (.tuple #[.slice ao xs.length c, .int .i64 0, .int .i64 0]) ∧ Acts w' ao xs.length c xs
  | .error k => e = .returned (.tuple #[.slice none 0 0, .int .i64 (k : Int), .int .i64 14])
theorem GetRes.yes {w w' : World} {r : Except Nat (List ActP)} {v : Value} {xs : List ActP} (hr : r = .ok xs) (h : GetSt w w' v xs) : GetRes w r (.returned (.tuple #[v, .int .i64 0, .int .i64 0])) w' := by
  subst hr
  obtain ⟨ao, c, e, hA⟩ := h.acts
  exact ⟨h.bel, ao, c, by rw [e], hA⟩
theorem GetRes.no {w w' : World} {r : Except Nat (List ActP)} {k : Nat} (hr : r = .error k) (h : Below w.heap.size w w') : GetRes w r (.returned (.tuple #[.slice none 0 0, .int .i64 (k : Int), .int .i64 14])) w' := by
  subst hr
  exact ⟨h, rfl⟩
/-- what is left to do -/
def andThenP (xs : List ActP) : Except Nat (List ActP) → Except Nat (List ActP)
  | .ok l => .ok (xs ++ l)
  | .error k => .error k
set_option maxHeartbeats 4000000 in
set_option maxRecDepth 100000 in
theorem get_any (w : World) (s : ByteArray) (hs : s.size ≤ 262144) (hE : Env w) (F : Nat) (hF : s.size ≤ F) :
    Calls Tryz.prog 39 #[.string s] w (GetRes w (getP F s.data.toList 1)) := by
  have d0 : decide ((262144 : Int) < (s.size : Int)) = false := by rw [decide_eq_false_iff_not]; omega
  obtain ⟨R, hR⟩ : ∃ R, R = getP F s.data.toList 1 := ⟨_, rfl⟩
  rw [← hR]
  have HR := Lib.hid hR
  have HE := Lib.hid hE
  have HF := Lib.hid hF
  clear hR hE hF
  go_enter Tryz.func39, Tryz.ntmps39
  go_wp2_with fail
  go_loopw [0, 2, 3] (fun sv lv iv wr => ∃ (L : ByteArray) (n : Nat) (xs : List ActP), sv = .string L ∧ iv = .int .i64 (n : Int) ∧ L.size + n ≤ s.size + 1 ∧ xs.length + 1 = n ∧ Hid (GetSt w wr lv xs ∧ ∃ f, L.size ≤ f ∧ R = andThenP xs (getP f L.data.toList n))) (fun sv _ _ _ => match sv with | .string L => L.size | _ => 0)
  case atStart =>
    refine ⟨s, 1, [], rfl, rfl, by omega, rfl, GetSt.nil w, F, HF.out, ?_⟩
    rw [HR.out]
    cases getP F s.data.toList 1 <;> rfl
  case round =>
    obtain ⟨L, n, xs, rfl, rfl, hLn, hxn, hinv⟩ := hrel
    obtain ⟨hst, f, hLf, hRf⟩ := hinv.out
    have hLd : L.data.toList.length = L.size := by simp
    by_cases h0 : L.size = 0
    · have hnil : L.data.toList = [] := List.eq_nil_of_length_eq_zero (by omega)
      have hfin : R = .ok xs := by rw [hRf, hnil, getP_nil]; simp [andThenP]
      have HFIN := Lib.hid hfin
      have HST := Lib.hid hst
      have e1 : L.toList = [] := by rw [ByteArray.toList_eq]; exact hnil
      have e2 : (L.toList != []) = false := by rw [e1]; rfl
      have e3 : (!L.toList.isEmpty) = false := by rw [e1]; rfl
      have e4 : L.toList.isEmpty = true := by rw [e1]; rfl
      clear hst hLf hRf hnil hfin hinv h0 hLd
      go_wp2_with fail
      go_ret3
      exact GetRes.yes HFIN.out HST.out
    · have hne : L.data.toList ≠ [] := by intro e; rw [e] at hLd; simp at hLd; omega
      have e1 : ¬ L.toList = [] := by rw [ByteArray.toList_eq]; exact hne
      have e3 : L.toList.isEmpty = false := by
        rw [ByteArray.toList_eq]
        cases h : L.data.toList with
        | nil => exact absurd h hne
        | cons _ _ => rfl
      have e2 : (!L.toList.isEmpty) = true := by rw [e3]; rfl
      obtain ⟨m, hm⟩ := (HE.out.below hst.bel HE.out.low).max
      have hcut := Tryz.strings_Cut L ⟨#[10]⟩ m wr (by omega) hm
      have hc1 : Lib.cut L.data.toList (⟨#[10]⟩ : ByteArray).data.toList = cutP 10 L.data.toList := cut_one 10 _
      rw [hc1] at hcut
      obtain ⟨A, hA⟩ : ∃ z : ByteArray, z = ⟨(cutP 10 L.data.toList).1.toArray⟩ := ⟨_, rfl⟩
      obtain ⟨B, hB⟩ : ∃ z : ByteArray, z = ⟨(cutP 10 L.data.toList).2.1.toArray⟩ := ⟨_, rfl⟩
      obtain ⟨b, hb⟩ : ∃ z : Bool, z = (cutP 10 L.data.toList).2.2 := ⟨_, rfl⟩
      have hlen := cutP_len 10 L.data.toList
      obtain ⟨f, rfl⟩ : ∃ g, f = g + 1 := ⟨f - 1, by omega⟩
      have hAd : A.data.toList = (cutP 10 L.data.toList).1 := by rw [hA]
      have hBd : B.data.toList = (cutP 10 L.data.toList).2.1 := by rw [hB]
      have hAs : A.size ≤ L.size := by have : A.data.toList.length = A.size := by simp
                                       rw [hAd] at this; omega
      have hBs : B.size + 1 ≤ L.size := by have : B.data.toList.length = B.size := by simp
                                           rw [hBd] at this; omega
      simp only [getP, if_neg hne, ← hAd, ← hBd, ← hb] at hRf
      rw [← hA, ← hB, ← hb] at hcut
      have HCUT := Lib.hid hcut
      have HRF := Lib.hid hRf
      have HST := Lib.hid hst
      have hBf : Hid (B.size ≤ f) := by show _ ≤ _; omega
      clear hst hRf hinv hcut hc1 hA hB hb hlen hAd hBd hm hne hLd hLf
      go_wp2_with fail
      refine HCUT.out.mono ?_
      rintro e w2 ⟨rfl, q, rfl⟩
      have hb2 : Below wr.heap.size wr (wr.drewN q) := below_drewN (Below.refl _ _) q
      have HST2 := Lib.hid (HST.out.on hb2)
      have hact := act_fresh (wr.drewN q) A (by omega) (HE.out.below HST2.out.bel HE.out.low)
      have HACT := Lib.hid hact
      clear hb2 hact
      go_wp2_with fail
      refine HACT.out.mono ?_
      rintro e w3 ⟨hb3, hres⟩
      have HST3 := Lib.hid (HST2.out.on hb3)
      have HB3 := Lib.hid hb3
      clear hb3
      cases hq : actP A.data.toList with
      | none =>
        rw [hq] at hres
        simp only [actCells, ActP.zero] at hres
        subst hres
        have hfin : R = .error n := by rw [HRF.out, hq]; rfl
        have HFIN := Lib.hid hfin
        have HB4 := Lib.hid (HST3.out.bel.alloc HST3.out.bel.size (.cells #[.int .i64 0, .int .i64 0, .int .i64 0, .int .i64 0, .slice none 0 0, .int .u64 0, .int .u64 0, .slice none 0 0] 60))
        clear hq hfin
        go_wp2_with fail
        go_ret3
        exact GetRes.no HFIN.out HB4.out
      | some x =>
        rw [hq] at hres
        obtain ⟨nao, nl, nc, dao, dl, dc, rfl, hn3, hd3, hnf, hdf⟩ := hres
        have hb4 : Below w3.heap.size w3 (w3.alloc (.cells (actCells x nao nl nc dao dl dc) 60)) := (Below.refl _ _).alloc (Nat.le_refl _) _
        cases b with
        | false =>
          have hfin : R = .error n := by rw [HRF.out, hq]; rfl
          have HFIN := Lib.hid hfin
          have hb5 := (HST3.out.on hb4).bel
          simp only [actCells] at hb5
          have HB5 := Lib.hid hb5
          clear hq hfin hb4 hb5 hn3 hd3 hnf hdf
          simp only [actCells]
          go_wp2_with fail
          go_ret3
          exact GetRes.no HFIN.out HB5.out
        | true =>
          have hnext : R = andThenP (xs ++ [x]) (getP f B.data.toList (n + 1)) := by
            rw [HRF.out, hq]
            simp only
            cases getP f B.data.toList (n + 1) <;> simp [andThenP]
          have HNEXT := Lib.hid hnext
          obtain ⟨v', w6, hrun, hst6⟩ := (HST3.out.on hb4).push (by omega) x nao nl nc dao dl dc (hn3.below hb4 (Nat.le_refl _)) (hd3.below hb4 (Nat.le_refl _)) (fun _ a ha e => absurd (HST2.out.row_lt _ e.symm) (by have := hnf a ha; omega)) (fun _ a ha e => absurd (HST2.out.row_lt _ e.symm) (by have := hdf a ha; omega))
          have hB7 : Blk (w3.alloc (.cells (actCells x nao nl nc dao dl dc) 60)) w3.heap.size (actCells x nao nl nc dao dl dc) 60 := heap_alloc_new w3 _
          simp only [actCells, World.size_alloc] at hrun
          have HRUN := Lib.hid hrun
          have HST6 := Lib.hid hst6
          clear hq hnext hrun hst6 hb4 hn3 hd3 hnf hdf hB7
          simp only [actCells]
          go_wp2_with (at_builtin; refine wpList_append_run rfl _ _ _ rfl _ _ rfl rfl HRUN.out ?_)
          go_roundw
          case rel =>
            refine ⟨B, n + 1, xs ++ [x], rfl, by go_num, by omega, by simp; omega, HST6.out, f, hBf.out, HNEXT.out⟩
          case measure => show B.size < L.size; omega
end Go.Proofs.YtipbakdodbmfjaaGreatDoor

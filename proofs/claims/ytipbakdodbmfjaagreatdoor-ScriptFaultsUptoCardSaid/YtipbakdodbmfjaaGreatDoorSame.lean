/- The contract of script.same: whether two acts are one. -/
import Derived.Test.YtipbakdodbmfjaaGreatDoorAct
import Derived.Laws.BytesArg
namespace Go.Proofs.YtipbakdodbmfjaaGreatDoor
open Go.ChangeShapes Go.WideShapes Go.ChangeAt Go.RowKit

theorem strOfNums_eq (l : List UInt8) : strOfNums (l.map fun c => (c.toNat : Int)) = ⟨l.toArray⟩ := strOfNums_bytes l
/-- string(b) of a row of bytes -/
theorem byts_string {w : World} {ao : Option Addr} {n c : Nat} {l : List UInt8} (h : Byts w ao n c l) :
    (convert 29 9 (.slice ao n c)).run Tryz.prog w = .ok (.string ⟨l.toArray⟩) w := by
  have hl : l.length = n := by simpa using h.hlen
  rcases Nat.eq_zero_or_pos n with h0 | h0
  · have hnil : l = [] := List.eq_nil_of_length_eq_zero (by omega)
    subst hnil
    cases ao with
    | none => exact run_convert_bytes_nil (P := Tryz.prog) (w := w) 29 5 Tryz.underlying29 Tryz.underlying5 _ _ 9 Tryz.underlying9
    | some a =>
      rw [run_convert_bytes_string w 29 9 5 _ _ _ Tryz.underlying29 Tryz.underlying5 Tryz.underlying9]
      subst h0
      exact run_bytesToString w a 0 c [] (by first | rfl | simp [loadCells, Sem.run_pure])
  · obtain ⟨b, off, rfl⟩ := h.addr (k := 0) h0
    have := run_convert_bytes_arg (P := Tryz.prog) w 29 5 Tryz.underlying29 Tryz.underlying5 b off n c (l.map fun c => (c.toNat : Int)) (by simpa using hl) (fun i hi => by
      rw [h.at hi]
      have : i < l.length := by omega
      simp [List.getD, this]) 9 Tryz.underlying9
    rw [this, strOfNums_eq]
theorem sameP_ne {x y : ActP} (h : x ≠ y) : sameP x y = false := by
  rw [Bool.eq_false_iff]; intro h2; exact h ((sameP_eq x y).1 h2)
/-- the bytes of a list of names, compared one by one -/
theorem mk_inj {a b : List UInt8} (h : (⟨a.toArray⟩ : ByteArray) = ⟨b.toArray⟩) : a = b := by
  have := congrArg (fun z => z.data.toList) h
  simpa using this
set_option maxHeartbeats 4000000 in
set_option maxRecDepth 100000 in
theorem same_any (w : World) (x y : ActP) (nao : Option Addr) (nl nc : Nat) (dao : Option Addr) (dl dc : Nat) (nao2 : Option Addr) (nl2 nc2 : Nat) (dao2 : Option Addr) (dl2 dc2 : Nat)
    (hnx : Strs w nao nl nc x.name) (hdx : Byts w dao dl dc x.data) (hny : Strs w nao2 nl2 nc2 y.name) (hdy : Byts w dao2 dl2 dc2 y.data) :
    Calls Tryz.prog 72 #[.agg (actCells x nao nl nc dao dl dc), .agg (actCells y nao2 nl2 nc2 dao2 dl2 dc2)] w fun e w' => e = .returned (.bool (sameP x y)) ∧ Below w.heap.size w w' := by
  obtain ⟨W1, hW1⟩ : ∃ z, z = w.alloc (.cells (actCells x nao nl nc dao dl dc) 60) := ⟨_, rfl⟩
  obtain ⟨W2, hW2⟩ : ∃ z, z = W1.alloc (.cells (actCells y nao2 nl2 nc2 dao2 dl2 dc2) 60) := ⟨_, rfl⟩
  have hs1 : W1.heap.size = w.heap.size + 1 := by rw [hW1, World.size_alloc]
  have hb1 : Below w.heap.size w W1 := by rw [hW1]; exact (Below.refl _ _).alloc (Nat.le_refl _) _
  have hb12 : Below W1.heap.size W1 W2 := by rw [hW2]; exact (Below.refl _ _).alloc (Nat.le_refl _) _
  have hb2 : Below w.heap.size w W2 := below_on hb1 hb12 (Nat.le_refl _)
  have hA : Blk W2 w.heap.size (actCells x nao nl nc dao dl dc) 60 := by
    refine Blk.on ?_ hb12
    rw [hW1]; exact heap_alloc_new w _
  have hB : Blk W2 (w.heap.size + 1) (actCells y nao2 nl2 nc2 dao2 dl2 dc2) 60 := by
    rw [hW2, ← hs1]; exact heap_alloc_new W1 _
  have cx := byts_string (hdx.below hb2 (Nat.le_refl _))
  have cy := byts_string (hdy.below hb2 (Nat.le_refl _))
  obtain ⟨sx, hsx⟩ : ∃ z : ByteArray, z = ⟨x.data.toArray⟩ := ⟨_, rfl⟩
  obtain ⟨sy, hsy⟩ : ∃ z : ByteArray, z = ⟨y.data.toArray⟩ := ⟨_, rfl⟩
  rw [← hsx] at cx
  rw [← hsy] at cy
  have a0 := hA.cell 0
  have b0 := hB.cell 0
  have a1 := hA.cell 1
  have b1 := hB.cell 1
  have a2 := hA.cell 2
  have b2 := hB.cell 2
  have a3 := hA.cell 3
  have b3 := hB.cell 3
  have a4 := hA.cell 4
  have b4 := hB.cell 4
  have a5 := hA.cell 5
  have b5 := hB.cell 5
  have a6 := hA.cell 6
  have b6 := hB.cell 6
  have a7 := hA.cell 7
  have b7 := hB.cell 7
  simp [actCells] at a0 b0 a1 b1 a2 b2 a3 b3 a4 b4 a5 b5 a6 b6 a7 b7
  have HNX := Lib.hid (hnx.below hb2 (Nat.le_refl _))
  have HNY := Lib.hid (hny.below hb2 (Nat.le_refl _))
  have HB2 := Lib.hid hb2
  have HA := Lib.hid hA
  have HB := Lib.hid hB
  have hxl := hnx.len
  have hyl := hny.len
  have hm1 : nl ≤ 140737488355328 := hnx.row.hmax
  have HXL := Lib.hid hxl
  have HYL := Lib.hid hyl
  have HSX := Lib.hid hsx
  have HSY := Lib.hid hsy
  simp only [actCells] at hW1 hW2
  rw [hW1] at hW2
  subst hW2
  clear hb1 hb12 hs1 hW1 W1
  clear hnx hny hdx hdy hb2 hA hB hxl hyl hsx hsy
  by_cases hl : nl = nl2
  · have hlb : ((nl : Int) != (nl2 : Int)) = false := by rw [bne_eq_false_iff_eq]; omega
    have HL := Lib.hid hl
    by_cases hd : sx = sy
    · have hdb : (sx.toList == sy.toList) = true := by rw [hd]; simp
      have HD := Lib.hid hd
      clear hl hd
      go_enter Tryz.func72, Tryz.ntmps72
      simp only [actCells]
      go_wp2_with fail
      go_loopw [25] (fun iv wr => ∃ k : Nat, k ≤ nl ∧ iv = .int .i64 k ∧ Hid (Below (w.heap.size + 1 + 1) ((w.alloc (.cells #[.int .i64 x.kind, .int .i64 x.a, .int .i64 x.b, .int .i64 x.n, .slice nao nl nc, .int .u64 (x.mask : Int), .int .u64 (x.torn : Int), .slice dao dl dc] 60)).alloc (.cells #[.int .i64 y.kind, .int .i64 y.a, .int .i64 y.b, .int .i64 y.n, .slice nao2 nl2 nc2, .int .u64 (y.mask : Int), .int .u64 (y.torn : Int), .slice dao2 dl2 dc2] 60)) wr ∧ ∀ j, j < k → x.name[j]? = y.name[j]?)) (fun iv _ => nl - (intOf iv).toNat)
      case atStart => exact ⟨0, Nat.zero_le _, rfl, Below.refl _ _, fun j h => absurd h (by omega)⟩
      case round =>
        obtain ⟨k, hk, rfl, hinv⟩ := hrel
        obtain ⟨hbr, hsame⟩ := hinv.out
        have hsz : ((w.alloc (.cells #[.int .i64 x.kind, .int .i64 x.a, .int .i64 x.b, .int .i64 x.n, .slice nao nl nc, .int .u64 (x.mask : Int), .int .u64 (x.torn : Int), .slice dao dl dc] 60)).alloc (.cells #[.int .i64 y.kind, .int .i64 y.a, .int .i64 y.b, .int .i64 y.n, .slice nao2 nl2 nc2, .int .u64 (y.mask : Int), .int .u64 (y.torn : Int), .slice dao2 dl2 dc2] 60)).heap.size = w.heap.size + 1 + 1 := by simp
        have hbr2 : Below ((w.alloc (.cells #[.int .i64 x.kind, .int .i64 x.a, .int .i64 x.b, .int .i64 x.n, .slice nao nl nc, .int .u64 (x.mask : Int), .int .u64 (x.torn : Int), .slice dao dl dc] 60)).alloc (.cells #[.int .i64 y.kind, .int .i64 y.a, .int .i64 y.b, .int .i64 y.n, .slice nao2 nl2 nc2, .int .u64 (y.mask : Int), .int .u64 (y.torn : Int), .slice dao2 dl2 dc2] 60)).heap.size ((w.alloc (.cells #[.int .i64 x.kind, .int .i64 x.a, .int .i64 x.b, .int .i64 x.n, .slice nao nl nc, .int .u64 (x.mask : Int), .int .u64 (x.torn : Int), .slice dao dl dc] 60)).alloc (.cells #[.int .i64 y.kind, .int .i64 y.a, .int .i64 y.b, .int .i64 y.n, .slice nao2 nl2 nc2, .int .u64 (y.mask : Int), .int .u64 (y.torn : Int), .slice dao2 dl2 dc2] 60)) wr := by rw [hsz]; exact hbr
        have HBR := Lib.hid hbr
        have HSAME := Lib.hid hsame
        have hA := HA.out.on hbr2
        have hB := HB.out.on hbr2
        have e0 := hA.cell 0
        have f0 := hB.cell 0
        have e1 := hA.cell 1
        have f1 := hB.cell 1
        have e2 := hA.cell 2
        have f2 := hB.cell 2
        have e3 := hA.cell 3
        have f3 := hB.cell 3
        have e4 := hA.cell 4
        have f4 := hB.cell 4
        have e5 := hA.cell 5
        have f5 := hB.cell 5
        have e6 := hA.cell 6
        have f6 := hB.cell 6
        have e7 := hA.cell 7
        have f7 := hB.cell 7
        simp [actCells] at e0 f0 e1 f1 e2 f2 e3 f3 e4 f4 e5 f5 e6 f6 e7 f7
        clear hA hB
        by_cases hlt : k < nl
        · have hx3 := HNX.out.below hbr2 (Nat.le_refl _)
          have hy3 := HNY.out.below hbr2 (Nat.le_refl _)
          have hlt2 : k < nl2 := by have := HL.out; omega
          obtain ⟨b1, o1, rfl⟩ := hx3.row.addr (k := k) hlt
          obtain ⟨b2, o2, rfl⟩ := hy3.row.addr (k := k) hlt2
          have cx1 := hx3.at hlt
          have cy1 := hy3.at hlt2
          have hkx : k < x.name.length := by have := HXL.out; omega
          have hky : k < y.name.length := by have := HYL.out; omega
          obtain ⟨nx, hnx⟩ : ∃ z, z = x.name[k] := ⟨_, rfl⟩
          obtain ⟨ny, hny⟩ : ∃ z, z = y.name[k] := ⟨_, rfl⟩
          rw [← hnx] at cx1
          rw [← hny] at cy1
          have HKX := Lib.hid (by rw [hnx, List.getElem?_eq_getElem hkx] : x.name[k]? = some nx)
          have HKY := Lib.hid (by rw [hny, List.getElem?_eq_getElem hky] : y.name[k]? = some ny)
          clear hnx hny hkx hky hx3 hy3 hbr hsame hbr2 hsz hinv
          by_cases hn : nx = ny
          · have hnb : (nx.toList == ny.toList) = true := by rw [hn]; simp
            have hnb2 : (nx.toList != ny.toList) = false := by rw [hn]; simp
            have HN := Lib.hid hn
            clear hn
            go_wp2_with fail
            go_quiet (fail)
            go_wp2
            go_roundw
            case rel =>
              refine ⟨k + 1, by omega, by go_num, below_drewN HBR.out _, fun j h => ?_⟩
              rcases Nat.lt_succ_iff_lt_or_eq.1 h with h | rfl
              · exact HSAME.out j h
              · rw [HKX.out, HKY.out, HN.out]
            case measure => simp [intOf]; omega
          · have hnl : ¬ nx.toList = ny.toList := by
              intro h; apply hn
              have h2 : nx.data.toList = ny.data.toList := by rw [← ByteArray.toList_eq, ← ByteArray.toList_eq, h]
              cases nx; cases ny; simp only [ByteArray.mk.injEq]; exact Array.toList_inj.1 h2
            have hnb : (nx.toList == ny.toList) = false := by rw [beq_eq_false_iff_ne]; exact hnl
            have hnb2 : (nx.toList != ny.toList) = true := by rw [bne_iff_ne]; exact hnl
            have HS := Lib.hid (sameP_ne (x := x) (y := y) (by intro h; apply hn; have h1 := HKX.out; rw [h, HKY.out] at h1; cases h1; rfl))
            clear hn hnl
            go_wp2_with fail
            go_quiet (fail)
            go_wp2
            go_ret
            exact ⟨by rw [HS.out]; rfl, HB2.out.trans (below_drewN (HBR.out.mono (by omega)) _)⟩
        · have hk2 : k = nl := by omega
          subst hk2
          have hnames : x.name = y.name := by
            apply List.ext_getElem?
            intro j
            by_cases hj : j < k
            · exact hsame j hj
            · rw [List.getElem?_eq_none (by have := HXL.out; omega), List.getElem?_eq_none (by have := HYL.out; have := HL.out; omega)]
          have HNM := Lib.hid hnames
          have HBW := Lib.hid (HB2.out.trans (hbr.mono (by omega)))
          clear hnames hbr hsame hbr2 hsz hinv
          by_cases h0 : x.kind = y.kind
          rotate_left
          · have g0 : (x.kind == y.kind) = false := by rw [beq_eq_false_iff_ne]; intro h; apply h0; exact h
            have HS := Lib.hid (sameP_ne (x := x) (y := y) (by intro h; apply h0; rw [h]))
            clear h0
            go_wp2
            go_ret
            exact ⟨by rw [HS.out]; rfl, HBW.out⟩
          have g0 : (x.kind == y.kind) = true := by rw [h0, beq_self_eq_true]
          have H0 := Lib.hid h0
          clear h0
          by_cases h1 : x.a = y.a
          rotate_left
          · have g1 : (x.a == y.a) = false := by rw [beq_eq_false_iff_ne]; intro h; apply h1; exact h
            have HS := Lib.hid (sameP_ne (x := x) (y := y) (by intro h; apply h1; rw [h]))
            clear h1
            go_wp2
            go_ret
            exact ⟨by rw [HS.out]; rfl, HBW.out⟩
          have g1 : (x.a == y.a) = true := by rw [h1, beq_self_eq_true]
          have H1 := Lib.hid h1
          clear h1
          by_cases h2 : x.b = y.b
          rotate_left
          · have g2 : (x.b == y.b) = false := by rw [beq_eq_false_iff_ne]; intro h; apply h2; exact h
            have HS := Lib.hid (sameP_ne (x := x) (y := y) (by intro h; apply h2; rw [h]))
            clear h2
            go_wp2
            go_ret
            exact ⟨by rw [HS.out]; rfl, HBW.out⟩
          have g2 : (x.b == y.b) = true := by rw [h2, beq_self_eq_true]
          have H2 := Lib.hid h2
          clear h2
          by_cases h3 : x.n = y.n
          rotate_left
          · have g3 : (x.n == y.n) = false := by rw [beq_eq_false_iff_ne]; intro h; apply h3; exact h
            have HS := Lib.hid (sameP_ne (x := x) (y := y) (by intro h; apply h3; rw [h]))
            clear h3
            go_wp2
            go_ret
            exact ⟨by rw [HS.out]; rfl, HBW.out⟩
          have g3 : (x.n == y.n) = true := by rw [h3, beq_self_eq_true]
          have H3 := Lib.hid h3
          clear h3
          by_cases h4 : x.mask = y.mask
          rotate_left
          · have g4 : ((x.mask : Int) == (y.mask : Int)) = false := by rw [beq_eq_false_iff_ne]; intro h; apply h4; exact_mod_cast h
            have HS := Lib.hid (sameP_ne (x := x) (y := y) (by intro h; apply h4; rw [h]))
            clear h4
            go_wp2
            go_ret
            exact ⟨by rw [HS.out]; rfl, HBW.out⟩
          have g4 : ((x.mask : Int) == (y.mask : Int)) = true := by rw [h4, beq_self_eq_true]
          have H4 := Lib.hid h4
          clear h4
          by_cases h5 : x.torn = y.torn
          rotate_left
          · have g5 : ((x.torn : Int) == (y.torn : Int)) = false := by rw [beq_eq_false_iff_ne]; intro h; apply h5; exact_mod_cast h
            have HS := Lib.hid (sameP_ne (x := x) (y := y) (by intro h; apply h5; rw [h]))
            clear h5
            go_wp2
            go_ret
            exact ⟨by rw [HS.out]; rfl, HBW.out⟩
          have g5 : ((x.torn : Int) == (y.torn : Int)) = true := by rw [h5, beq_self_eq_true]
          have H5 := Lib.hid h5
          clear h5
          have HS := Lib.hid (by
            rw [sameP_eq]
            have hdat : x.data = y.data := mk_inj (by rw [← HSX.out, ← HSY.out, HD.out])
            cases x; cases y
            simp only [ActP.mk.injEq]
            exact ⟨H0.out, H1.out, H2.out, H3.out, HNM.out, H4.out, H5.out, hdat⟩ : sameP x y = true)
          go_wp2
          go_ret
          exact ⟨by rw [HS.out]; rfl, HBW.out⟩
    · have hdb : (sx.toList == sy.toList) = false := by
        rw [beq_eq_false_iff_ne]; intro h; apply hd
        have h2 : sx.data.toList = sy.data.toList := by rw [← ByteArray.toList_eq, ← ByteArray.toList_eq, h]
        cases sx; cases sy; simp only [ByteArray.mk.injEq]; exact Array.toList_inj.1 h2
      have HS := Lib.hid (sameP_ne (x := x) (y := y) (by intro h; apply hd; rw [HSX.out, HSY.out, h]))
      clear hl hd
      go_enter Tryz.func72, Tryz.ntmps72
      simp only [actCells]
      go_wp2_with fail
      go_ret
      exact ⟨by rw [HS.out]; rfl, HB2.out⟩
  · have hlb : ((nl : Int) != (nl2 : Int)) = true := by rw [bne_iff_ne]; omega
    have HS := Lib.hid (sameP_ne (x := x) (y := y) (by intro h; apply hl; rw [← HXL.out, ← HYL.out, h]))
    clear hl
    go_enter Tryz.func72, Tryz.ntmps72
    simp only [actCells]
    go_wp2_with fail
    go_ret
    exact ⟨by rw [HS.out]; rfl, HB2.out⟩
end Go.Proofs.YtipbakdodbmfjaaGreatDoor

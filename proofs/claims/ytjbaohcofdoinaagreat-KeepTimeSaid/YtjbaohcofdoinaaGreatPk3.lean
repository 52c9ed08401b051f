/- Packed: Kblank, Klog, Kpart, Kopenb, Cuse, Lower, Side, Fkey, Cat, Fsmall, Claylaw, Ctold, Cnew, Kopenk, Knone, Kget0, Kfind, Kchase, Kknown, Kset, Kwnew, Kwname, Krest, Kcnum, Fsound, Kmapi, Kname, Kdput, Krr, Kcsound, Kcent, Kdputs, Krput, Kraw, Kenc, Kparts, Kseg. -/
import Derived.Laws.Tables
import Derived.Test.YtjbaohcofdoinaaGreatShelf
import Derived.BigQuiet
import Derived.Deep.RegionHeld3
import Derived.Lib.AppendStr
import Derived.Deep.CutBlock
import Derived.Deep.DeepCutAuto
import Derived.Laws.Rows
import Derived.Test.YtjbaohcofdoinaaGreatPk2
namespace Go.Proofs.YtjbaohcofdoinaaGreat
section
open Go.ChangeShapes Go.WideShapes Go.ChangeAt Go.RowKit
def zeroL (b : List UInt8) : Bool := b.all (fun x => x == 0)
def blankAt (d : DevP) (t : Nat) : Bool := match readP d t with
  | none => true
  | some b => zeroL b
def blankN (d : DevP) : Nat → Bool
  | 0 => true
  | t + 1 => blankN d t && blankAt d t
theorem blank_fall (d : DevP) {t : Nat} (h : blankN d t = false) (k : Nat) : blankN d (t + k) = false := by
  induction k with
  | zero => exact h
  | succ k ih => rw [← Nat.add_assoc, blankN, ih]; rfl
set_option maxHeartbeats 16000000 in
set_option maxRecDepth 100000 in
theorem blank_any (w : World) (B D : Nat) (d : DevP) (hd : IsDev B w D d) (hdn : d.down = false) :
    Calls Tryz.prog 31 #[.pointer (some ⟨D, 0, none⟩)] w fun e w' => e = .returned (.tuple #[.bool (blankN d d.sure.length), .int .i64 0]) ∧ Below w.heap.size w w' := by
  have HLN := Lib.hid (dlen_any w B D d hd)
  have hle := hd.le
  obtain ⟨n, hn⟩ : ∃ n, n = d.sure.length := ⟨_, rfl⟩
  rw [← hn] at HLN hle ⊢
  have HD := Lib.hid (And.intro hd (And.intro hdn hn))
  clear hd hdn hn
  go_enter Tryz.func31, Tryz.ntmps31
  go_wp2_with (go_at_call 13; refine HLN.out.mono ?_; rintro e W ⟨rfl, rfl⟩)
  go_loopw [11] (fun i wr => ∃ t : Nat, t ≤ n ∧ i = .int .i64 (t : Int) ∧ Hid (blankN d t = true ∧ Below W.heap.size W wr)) (fun i _ => (n - intOf i).toNat)
  case atStart => exact ⟨0, Nat.zero_le _, rfl, Lib.hid ⟨rfl, Below.refl _ _⟩⟩
  case round =>
    obtain ⟨t, ht, rfl, hinv⟩ := hrel
    by_cases h0 : t = n
    · subst h0
      go_wp2_with fail
      go_ret2
      exact ⟨by rw [hinv.out.1]; rfl, hinv.out.2⟩
    · have hlt : t < n := by omega
      have HR := Lib.hid (dread_any wr B D d (HD.out.1.on hinv.out.2) t (by rw [← HD.out.2.2]; exact hlt))
      cases hrp : readP d t with
      | none =>
        have HNX := Lib.hid (And.intro hrp (show blankN d (t + 1) = true by rw [blankN, hinv.out.1, blankAt, hrp]; rfl))
        clear hrp
        go_wp2_with (go_at_call 53; refine HR.out.mono ?_; rintro e W2 hR; obtain rfl := hR.torn HD.out.2.1 HNX.out.1; have HW := Lib.hid (below_on hinv.out.2 hR.bel (Nat.le_refl _)); clear hR)
        go_roundw
        case rel => exact ⟨t + 1, hlt, by simp, Lib.hid ⟨HNX.out.2, HW.out⟩⟩
        case measure => simp [intOf]; omega
      | some raw =>
        have HRP := Lib.hid hrp
        have HBT := Lib.hid (show blankN d (t + 1) = zeroL raw by rw [blankN, hinv.out.1, blankAt, hrp]; rfl)
        clear hrp
        go_wp2_with (go_at_call 53; refine HR.out.mono ?_; rintro e W2 hR; obtain ⟨ao, c, rfl, ho, h512⟩ := hR.ok HD.out.2.1 raw HRP.out; have HW := Lib.hid (And.intro (below_on hinv.out.2 hR.bel (Nat.le_refl _)) (And.intro ho.row h512)); clear hR ho h512)
        go_loopw [27] (fun i wi => ∃ k : Nat, k ≤ 512 ∧ i = .int .i64 (k : Int) ∧ wi = W2 ∧ Hid (zeroL (raw.take k) = true)) (fun i _ => (512 - intOf i).toNat)
        case atStart => exact ⟨0, by omega, rfl, rfl, Lib.hid (by simp [zeroL])⟩
        case round =>
          rename World => w3
          obtain ⟨k, hk, rfl, rfl, hz⟩ := hrel
          by_cases hk5 : k = 512
          · have HNX := Lib.hid (show blankN d (t + 1) = true by rw [HBT.out, ← hz.out, hk5, List.take_of_length_le (by have := HW.out.2.2; omega)])
            subst hk5
            go_wp2_with fail
            go_roundw
            case rel => exact ⟨t + 1, hlt, by simp, Lib.hid ⟨HNX.out, HW.out.1⟩⟩
            case measure => simp [intOf]; omega
          · have hk2 : k < 512 := by omega
            have hkl : k < raw.length := by have := HW.out.2.2; omega
            obtain ⟨b0, off, rfl⟩ := HW.out.2.1.addr (k := 0) (by omega)
            have c0 := HW.out.2.1.at (i := k) hk2
            obtain ⟨x, hx⟩ : ∃ x, x = raw[k] := ⟨_, rfl⟩
            simp [← hx] at c0
            have hst : zeroL (raw.take (k + 1)) = (zeroL (raw.take k) && (x == 0)) := by rw [List.take_succ_eq_append_getElem hkl, ← hx]; simp [zeroL]
            by_cases h0x : x = 0
            · subst h0x
              have HNX := Lib.hid (show zeroL (raw.take (k + 1)) = true by rw [hst, hz.out]; rfl)
              have c1 : w3.cell? ⟨b0, off + k, none⟩ = some (.int .u8 0) := c0
              clear hst hx hkl c0
              go_wp2_with fail
              go_roundw
              case rel => exact ⟨k + 1, hk2, by simp, trivial, HNX⟩
              case measure => simp [intOf]; omega
            · have hxn : ((x.toNat : Int) == 0) = false := by
                rw [Bool.eq_false_iff]
                intro h
                exact h0x (UInt8.toNat_inj.1 (by simpa using h))
              have hzr : zeroL raw = false := by
                rw [Bool.eq_false_iff]
                intro h
                rw [zeroL, List.all_eq_true] at h
                exact h0x (by simpa using h x (by rw [hx]; exact List.getElem_mem _))
              have HNX := Lib.hid (show blankN d n = false by
                have h1 := blank_fall d (HBT.out.trans hzr) (n - (t + 1))
                rwa [show t + 1 + (n - (t + 1)) = n by omega] at h1)
              have c1 : w3.cell? ⟨b0, off + k, none⟩ = some (.int .u8 (x.toNat : Int)) := c0
              clear hst hx hkl c0 hzr
              go_wp2_with fail
              go_ret2
              exact ⟨by rw [HNX.out]; rfl, HW.out.1⟩
end
section
open Go.ChangeShapes Go.WideShapes Go.ChangeAt Go.RowKit
/-- a log: its block, where its records lie (place, parts), the place behind the last one -/
structure LogP where
  block : SupP
  list : List (Nat × Nat)
  fin : Nat
  down : Bool
def recK : Kind (Nat × Nat) where
  H := Unit
  size := 2
  cells := fun _ x => #[.int .i64 (x.1 : Int), .int .i64 (x.2 : Int)]
  is := fun _ _ _ _ => True
  hsize := fun _ _ => rfl
  pos := by decide
  one := fun h x u hu => by
    simp at hu
    rcases hu with rfl | rfl <;> rfl
  mono := fun h _ => trivial
  keep := fun h _ => trivial
def logC (D : Nat) (s : SupP) (v : Value) (fin : Nat) (dn : Bool) : Array Value := #[.pointer (some ⟨D, 0, none⟩), .int .i64 s.gen, .int .i64 s.epoch, .int .i64 s.first, .int .i64 s.from', .int .i64 s.count, v, .int .i64 (fin : Int), .bool dn]
structure IsLog (B : Nat) (w : World) (L D : Nat) (l : LogP) : Prop where
  ex : ∃ v, Blk w L (logC D l.block v l.fin l.down) 80 ∧ Gath recK [] 88 B w v l.list
  base : B ≤ L
  fits : supFits l.block = true
  cnt : l.list.length ≤ 100000
theorem IsLog.on {B : Nat} {w w' : World} {L D : Nat} {l : LogP} (h : IsLog B w L D l) (hb : Below w.heap.size w w') : IsLog B w' L D l := by
  obtain ⟨v, h1, h2⟩ := h.ex
  exact ⟨⟨v, h1.on hb, h2.on hb⟩, h.base, h.fits, h.cnt⟩
/-- a log stays where blocks of other types turn -/
theorem IsLog.only {S : List TypeId} {B B' : Nat} {w w' : World} {L D : Nat} {l : LogP} (h : IsLog B w L D l) (ho : Only S B' w w') (h1 : 80 ∉ S) (h2 : 88 ∉ S) : IsLog B w' L D l := by
  obtain ⟨v, a, b⟩ := h.ex
  exact ⟨⟨v, ho.blk a h1, b.step (ho.same (T := [88]) (by intro t ht; rw [List.mem_singleton.1 ht]; exact h2))⟩, h.base, h.fits, h.cnt⟩
set_option maxHeartbeats 4000000 in
set_option maxRecDepth 100000 in
theorem lfirst_any (w : World) (B L D : Nat) (l : LogP) (hl : IsLog B w L D l) : Calls Tryz.prog 14 #[.pointer (some ⟨L, 0, none⟩)] w fun e w' => e = .returned (.int .i64 l.block.first) ∧ w' = w := by
  obtain ⟨v, h1, h2⟩ := hl.ex
  have c3 : w.cell? ⟨L, 3, none⟩ = some (.int .i64 l.block.first) := h1.cell 3
  clear h1 h2 hl
  go_enter Tryz.func14, Tryz.ntmps14
  go_wp2_with fail
  go_ret
  exact ⟨rfl, rfl⟩
set_option maxHeartbeats 4000000 in
set_option maxRecDepth 100000 in
theorem lnext_any (w : World) (B L D : Nat) (l : LogP) (hl : IsLog B w L D l) : Calls Tryz.prog 15 #[.pointer (some ⟨L, 0, none⟩)] w fun e w' => e = .returned (.int .i64 (l.block.first + (l.list.length : Int))) ∧ Below w.heap.size w w' := by
  obtain ⟨v, h1, h2⟩ := hl.ex
  obtain ⟨ao, c, rfl, hsq, _⟩ := h2.seq
  have c3 : w.cell? ⟨L, 3, none⟩ = some (.int .i64 l.block.first) := h1.cell 3
  have c6 : w.cell? ⟨L, 6, none⟩ = some (.slice ao l.list.length c) := h1.cell 6
  have hf := fit7 (supFits_at hl.fits (t := 2) (by omega))
  simp only [supNum] at hf
  have hn := hl.cnt
  obtain ⟨n, hnn⟩ : ∃ n, n = l.list.length := ⟨_, rfl⟩
  obtain ⟨x, hx⟩ : ∃ x, x = l.block.first := ⟨_, rfl⟩
  rw [← hnn] at c6 hn ⊢
  rw [← hx] at c3 hf ⊢
  clear h1 h2 hl hsq hx hnn
  go_enter Tryz.func15, Tryz.ntmps15
  go_wp2_with fail
  go_region
  go_wp2_with fail
  go_ret
  exact ⟨rfl, Below.drew (Below.refl _ _)⟩
end
section
open Go.ChangeShapes Go.WideShapes Go.ChangeAt Go.RowKit
def partA (old : Array Value) (off : Nat) (vs : List Value) : Array Value := (old.toList.take off ++ (vs ++ old.toList.drop (off + vs.length))).toArray
theorem run_storeCells_part {P : Program} (g off : Nat) (t : TypeId) : ∀ (vs : List Value) (i : Nat) (cur : Array Value) (w : World), w.heap[g]? = some (.cells cur t (0, 0)) → off + i + vs.length ≤ cur.size → (∀ v ∈ vs, v.oneCell' = true) →
    (storeCells ⟨g, off, none⟩ vs i).run P w = .ok () (w.setRow g (partA cur (off + i) vs))
  | [], i, cur, w, hg, hl, _ => by
    have hlt : g < w.heap.size := (Array.getElem?_eq_some_iff.1 hg).1
    have hv : w.heap[g] = .cells cur t (0, 0) := (Array.getElem?_eq_some_iff.1 hg).2
    have hp : partA cur (off + i) [] = cur := by
      rw [partA, List.nil_append, List.length_nil, Nat.add_zero, List.take_append_drop, Array.toArray_toList]
    rw [hp]
    simp only [storeCells]
    show Result.ok () w = _
    congr 1
    unfold World.setRow
    cases w with
    | mk heap tape drawn os output =>
      congr 1
      apply Array.ext
      · simp
      · intro k h1 h2
        simp only [Array.getElem_modify]
        split
        · rename_i hk; subst hk; simp at hv; simp [hv]
        · rfl
  | v :: rest, i, cur, w, hg, hl, h1 => by
    have hi : off + i < cur.size := by simp at hl; omega
    have hadd : (⟨g, off, none⟩ : Addr).add i = ⟨g, off + i, none⟩ := by unfold Addr.add; split <;> simp_all
    have hcell : w.cell? ⟨g, off + i, none⟩ = some cur[off + i] := by simp [World.cell?, hg, hi]
    have hfro : w.frozen? ⟨g, off + i, none⟩ = false := by simp [World.frozen?, hg]
    have hst : (store ((⟨g, off, none⟩ : Addr).add i) v).run P w = .ok () (w.setRow g (cur.setIfInBounds (off + i) v)) := by
      rw [hadd, run_store P w _ v _ (h1 v (by simp)), hcell]
      simp [hfro, setCell_eq_setRow w g (off + i) cur t (0, 0) v hg]
    have ih := run_storeCells_part (P := P) g off t rest (i + 1) (cur.setIfInBounds (off + i) v) (w.setRow g (cur.setIfInBounds (off + i) v)) (setRow_heap w g cur _ t _ hg) (by simp at hl ⊢; omega) (fun x hx => h1 x (by simp [hx]))
    simp only [storeCells, Sem.run_bind, hst, Result.andThen_ok, ih, setRow_setRow]
    congr 2
    rw [partA, partA, Array.toList_setIfInBounds]
    congr 1
    have hl2 : off + i < cur.toList.length := by rw [Array.length_toList]; exact hi
    rw [show off + (i + 1) = off + i + 1 from rfl, List.take_succ_eq_append_getElem (by rw [List.length_set]; exact hl2), List.getElem_set_self, List.take_set_of_le (Nat.le_refl _), List.drop_set_of_lt (by omega), List.length_cons, show off + i + (rest.length + 1) = off + i + 1 + rest.length by omega, List.append_assoc]
    rfl
theorem run_storeVar_part {P : Program} (w : World) (g off : Nat) (t ty : TypeId) (old cells : Array Value) (hg : w.heap[g]? = some (.cells old t (0, 0))) (hi : (P.info? ty).map (·.size) = some cells.size)
    (ho : off + cells.size ≤ old.size) (h1 : cells.all (·.oneCell') = true) :
    (storeVar ty ⟨g, off, none⟩ (.agg cells)).run P w = .ok () (w.setRow g (partA old off cells.toList)) := by
  have := run_storeCells_part (P := P) g off t cells.toList 0 old w hg (by simp; omega) (fun v hv => (Array.all_eq_true_iff_forall_mem.1 h1) v (by simpa using hv))
  cases hq : P.info? ty with
  | none => simp [hq] at hi
  | some i =>
    have hs : cells.size = i.size := by simp [hq] at hi; omega
    simp [storeVar, sizeOf, typeInfo, hq, Value.cells, hs, this]
theorem wpList_store_part {P : Program} {ops : Array Oper} {rest : List Oper} {o : Oper} {a : Act} {w : World} {Q : Exit → Act → World → Prop} (hgd : o.guard = none) (ty : TypeId) (x y : Operand) (ho : o.op = .store ty x y)
    (g off : Nat) (cells : Array Value) (hx : a.eval x = .pointer (some ⟨g, off, none⟩)) (hy : a.eval y = .agg cells)
    (t : TypeId) (old : Array Value) (hg : w.heap[g]? = some (.cells old t (0, 0))) (hi : (P.info? ty).map (·.size) = some cells.size)
    (hold : off + cells.size ≤ old.size) (h1 : cells.all (·.oneCell') = true)
    (h : wpList P ops Q rest (a.put o.dst undef) (w.setRow g (partA old off cells.toList))) : wpList P ops Q (o :: rest) a w := by
  refine wpList_plain hgd fun K hK => ?_
  unfold Oper.wp execOp
  simp only [ho, hx, hy, Instr.storeAt, Instr.sureAddr, Sem.run_bind, Sem.run_pure, Result.andThen_ok, run_storeVar_part w g off t ty old cells hg hi hold h1]
  exact hK _ _ h
end
section
open Go.ChangeShapes Go.WideShapes Go.ChangeAt Go.RowKit
def b0 : SupP := ⟨0, 1, 0, 0, 0⟩
theorem zero_read {n t : Nat} (h : t < n) : readP (newD n) t = some (List.replicate 512 0) := by
  have h1 : lastW (newD n).unsure t = none := rfl
  have h2 : (newD n).sure[t]? = some zeroS := by simp [newD, h]
  rw [readP, h1, h2]
  rfl
theorem zero_num (t : Nat) : numOf (List.replicate 512 0) t = 0 := by
  have hz : ∀ k : Nat, beN (List.replicate k (0 : UInt8)) = 0 := by
    intro k
    induction k with
    | zero => rfl
    | succ k ih => rw [List.replicate_succ', beN_snoc, ih]; rfl
  rw [numOf, List.drop_replicate, List.take_replicate, hz]
  rfl
theorem zero_open : openE (List.replicate 512 0) = 14 := by
  have hs : sealE (openH (List.replicate 512 0)) (openD (List.replicate 512 0)) = 15 := by
    have hk : (openH (List.replicate 512 0)).kind = 0 := zero_num 0
    rw [sealE]
    split
    · rfl
    · rw [if_pos (.inl hk)]
  rw [openE, if_neg (by rw [List.length_replicate]; exact fun h => h rfl), if_neg (by rw [zero_num]; decide), if_pos (.inl (by rw [hs]; decide))]
theorem zero_sup {n t : Nat} (h : t < n) : supRead (newD n) t = (zeroSup, false, 0) := by
  rw [supRead, if_neg (by simp [newD]), zero_read h]
  show (if supOk (List.replicate 512 0) = true then _ else _) = _
  rw [if_neg]
  rw [supOk, zero_open]
  decide
theorem zero_loadN {n : Nat} (h : 2 ≤ n) : loadN (newD n) 2 = none := by
  simp [loadN, zero_sup (show 1 < n by omega), zero_sup (show 0 < n by omega)]
theorem zero_load {n : Nat} (h : 2 ≤ n) : loadE (newD n) = 11 ∧ loadP (newD n) = zeroSup ∧ supNext (newD n) b0 = true := by
  have h1 := zero_loadN h
  refine ⟨by rw [loadE, if_neg (by simp [newD]), h1]; rfl, by rw [loadP, if_neg (by simp [newD]), h1]; rfl, by rw [supNext, h1]; rfl⟩
theorem zero_blank (n : Nat) : ∀ t, t ≤ n → blankN (newD n) t = true
  | 0, _ => rfl
  | t + 1, h => by
    rw [blankN, zero_blank n t (by omega), blankAt, zero_read (by omega)]
    have hz : zeroL (List.replicate 512 0) = true := by
      rw [zeroL, List.all_eq_true]
      intro x hx
      rw [List.eq_of_mem_replicate hx]
      rfl
    rw [Bool.true_and]
    exact hz
/-- a new device behind its first Open -/
def bornD (n : Nat) : DevP := { sure := (List.replicate n zeroS).set 0 (supRaw b0, false), unsure := [], limit := 0, down := false }
theorem zero_save {n : Nat} (h : 2 ≤ n) : saveP (newD n) b0 = (bornD n, 0) := by
  have h1 : syncP (newD n) = newD n := rfl
  have h2 : writeP (newD n) 0 (supRaw b0) = { newD n with unsure := [(0, supRaw b0)] } := rfl
  have h3 : syncP { newD n with unsure := [(0, supRaw b0)] } = bornD n := rfl
  rw [saveP, if_neg (by simp [newD]), if_neg (by decide), if_neg (by rw [(zero_load h).2.2]; decide), if_neg (by simp [syncE, newD, spendOk]), if_neg (by rw [h1]; simp [writeE, newD, spendOk]), h1]
  show (syncP (writeP (newD n) 0 (supRaw b0)), syncE (writeP (newD n) 0 (supRaw b0))) = _
  rw [h2, h3]
  rfl
/-- a log's own block turns -/
theorem log_block {W : World} {g D fin : Nat} {s : SupP} {v : Value} {dn : Bool} (h : Blk W g (logC D s v fin dn) 80) (b : SupP) : Blk (W.setRow g (partA (logC D s v fin dn) 1 (supC b).toList)) g (logC D b v fin dn) 80 ∧ W.grownBy (W.setRow g (partA (logC D s v fin dn) 1 (supC b).toList)) (some g) := by
  have hp : partA (logC D s v fin dn) 1 (supC b).toList = logC D b v fin dn := by simp [partA, logC, supC]
  rw [hp]
  exact ⟨blk_setRow h _, but_setRow W g _⟩
set_option maxHeartbeats 16000000 in
set_option maxRecDepth 100000 in
theorem lopen_new (w : World) (D n : Nat) (B : Nat) (h4 : 4 ≤ n) (hd : IsDev B w D (newD n)) :
    Calls Tryz.prog 12 #[.pointer (some ⟨D, 0, none⟩)] w fun e w' => (∃ L, e = .returned (.tuple #[.pointer (some ⟨L, 0, none⟩), .int .i64 0]) ∧ IsLog w.heap.size w' L D ⟨b0, [], 0, false⟩) ∧ IsDev B w' D (bornD n) ∧ Only dvT B w w' := by
  have hlen : (newD n).sure.length = n := List.length_replicate
  have HLN := Lib.hid (dlen_any w B D _ hd)
  have HDW := Lib.hid (ddown_any w B D _ hd)
  rw [hlen] at HLN
  rw [show (newD n).down = false from rfl] at HDW
  have h4i : ¬ ((n : Int) < 4) := by omega
  have HD := Lib.hid (And.intro hd (And.intro h4 hlen))
  have HBL := Lib.hid hd.Ble
  have hA : Blk (w.alloc (.cells (logC D zeroSup (.slice none 0 0) 0 false) 80)) w.heap.size (logC D zeroSup (.slice none 0 0) 0 false) 80 := heap_alloc_new w _
  have hal : Below w.heap.size w (w.alloc (.cells (logC D zeroSup (.slice none 0 0) 0 false) 80)) := (Below.refl _ _).alloc (Nat.le_refl _) _
  have HA := Lib.hid (And.intro hal hA)
  have HLD := Lib.hid (load_any (w.alloc (.cells (logC D zeroSup (.slice none 0 0) 0 false) 80)) B D _ (hd.on hal) (by rw [hlen]; omega))
  rw [(zero_load (n := n) (by omega)).1, (zero_load (n := n) (by omega)).2.1] at HLD
  clear hd h4 hlen hA hal
  go_enter Tryz.func12, Tryz.ntmps12
  go_wp2_with (first | (go_at_call 13; refine HLN.out.mono ?_; rintro e w ⟨rfl, rfl⟩) | (go_at_call 29; refine HDW.out.mono ?_; rintro e w ⟨rfl, rfl⟩) | (go_at_call 30; refine HLD.out.mono ?_; rintro e W2 ⟨rfl, hb⟩; have HW := Lib.hid (And.intro (below_on HA.out.1 hb (Nat.le_refl _)) (HA.out.2.on hb)); clear hb) | (refine wpList_store_row rfl 77 _ _ rfl W2.heap.size (supC zeroSup) rfl rfl 77 (supC zeroSup) (heap_alloc_new W2 _) supSize rfl (supC_all _) ?_; have hq := sup_new W2 zeroSup; (try change wpList _ _ _ _ _ ((W2.alloc (.cells (supC zeroSup) 77)).setRow W2.heap.size (supC zeroSup))); generalize (W2.alloc (.cells (supC zeroSup) 77)).setRow W2.heap.size (supC zeroSup) = W3 at hq ⊢; have HQ := Lib.hid (And.intro (below_on HW.out.1 hq.2 (Nat.le_refl _)) (HW.out.2.on hq.2)); clear hq) | (go_at_call 31; refine (blank_any W3 B D _ (HD.out.1.on HQ.out.1) rfl).mono ?_; rintro e W4 ⟨rfl, hb⟩; rw [HD.out.2.2, zero_blank n n (Nat.le_refl _)]; have HR := Lib.hid (And.intro (below_on HQ.out.1 hb (Nat.le_refl _)) (HQ.out.2.on hb)); clear hb) | (refine wpList_store_part rfl 77 _ _ rfl w.heap.size 1 (supC b0) rfl rfl 80 (logC D zeroSup (.slice none 0 0) 0 false) HR.out.2 supSize (by simp [supC, logC]) (supC_all _) ?_; have hq := log_block HR.out.2 b0; generalize W4.setRow w.heap.size (partA (logC D zeroSup (.slice none 0 0) 0 false) 1 (supC b0).toList) = W5 at hq ⊢; have HZ := Lib.hid (And.intro (HR.out.1.trans (below_of_but hq.2 (Nat.le_refl _) HR.out.1.size)) hq.1); clear hq; have q1 := HZ.out.2.cell 1; have q2 := HZ.out.2.cell 2; have q3 := HZ.out.2.cell 3; have q4 := HZ.out.2.cell 4; have q5 := HZ.out.2.cell 5; simp [logC, b0] at q1 q2 q3 q4 q5) | (go_at_call 33; refine (save_any W5 B D _ (HD.out.1.on HZ.out.1) (by rw [HD.out.2.2]; have := HD.out.2.1; omega) rfl b0 (by decide) (zero_load (by have := HD.out.2.1; omega)).2.2).mono ?_; rintro e W6 ⟨rfl, hd6, ho6⟩; rw [zero_save (by have := HD.out.2.1; omega)] at hd6 ⊢; have H6 := Lib.hid (And.intro hd6 ho6); clear hd6 ho6))
  go_ret2
  refine ⟨⟨_, rfl, ⟨_, H6.out.2.blk HZ.out.2 (by decide), Gath.nil _ _ _ _ _⟩, Nat.le_refl _, by decide, Nat.zero_le _⟩, H6.out.1, (Only.below HZ.out.1 HBL.out).trans H6.out.2⟩
end
section
open Go.ChangeShapes Go.WideShapes Go.ChangeAt Go.RowKit
def cacheC (most stale : Int) (M k : Nat) : Array Value := #[.int .i64 most, .int .i64 stale, .map (some M), .int .i64 k]
set_option maxHeartbeats 4000000 in
set_option maxRecDepth 100000 in
theorem use_any (w : World) (C b M k : Nat) (most stale : Int) (cs : Array Value) (hC : Blk w C (cacheC most stale M k) 75) (hb : Blk w b cs 134) (hn : cs.size = 14) (hne : C ≠ b) (hk : k < 4000000000000000000) :
    Calls Tryz.prog 101 #[.pointer (some ⟨C, 0, none⟩), .pointer (some ⟨b, 0, none⟩)] w fun e w' => e = .returned (.tuple #[]) ∧ Blk w' C (cacheC most stale M (k + 1)) 75 ∧ Blk w' b (cs.setIfInBounds 13 (.int .i64 (k + 1 : Nat))) 134 ∧
      w'.heap.size = w.heap.size ∧ (∀ j, j ≠ C → j ≠ b → w'.heap[j]? = w.heap[j]?) ∧ ∀ B, B ≤ C → B ≤ b → Below B w w' := by
  have HC := Lib.hid hC
  have HB := Lib.hid hb
  have h3 : w.cell? ⟨C, 3, none⟩ = some (.int .i64 k) := hC.cell 3
  have g3 := hC.free 3
  have g13 := hb.free 13
  have hne' : b ≠ C := fun e => hne e.symm
  have HC2 := Lib.hid (hC.set 3 (.int .i64 ((k : Int) + 1)))
  have h3' : (w.setCell ⟨C, 3, none⟩ (.int .i64 ((k : Int) + 1))).cell? ⟨C, 3, none⟩ = some (.int .i64 ((k : Int) + 1)) := HC2.out.cell 3
  obtain ⟨v13, h13⟩ : ∃ v, w.cell? ⟨b, 13, none⟩ = some v := by
    rw [hb.cell 13]
    exact ⟨_, Array.getElem?_eq_getElem (by omega)⟩
  clear hC hb
  go_enter Tryz.func101, Tryz.ntmps101
  go_wp2_with fail
  go_end0
  have hC2 := HC2.out
  have hB2 : Blk (w.setCell ⟨C, 3, none⟩ (.int .i64 ((k : Int) + 1))) b cs 134 := HB.out.but (but_set w C 3 _) hne'
  refine ⟨rfl, ?_, ?_, by simp, fun j h1 h2 => ?_, fun B h1 h2 => ((Below.refl _ _).setCell h1 _).setCell h2 _⟩
  · exact hC2.but (but_set _ b 13 _) hne
  · have := hB2.set 13 (.int .i64 ((k : Int) + 1))
    simpa using this
  · rw [Below.heap_setCell _ _ _ _ h2, Below.heap_setCell _ _ _ _ h1]
end
section
open Go.ChangeShapes Go.WideShapes Go.ChangeAt Go.RowKit
theorem lower_any (w : World) (ao : Option Addr) (len cap : Nat) (ss : List ByteArray) (hs : Strs w ao len cap ss) (hb : len * 16 ≤ 140737488355328) :
    Calls Tryz.prog 103 #[.slice ao len cap] w (StrsRes w (ss.map small)) := by
  have hl := hs.len
  have hcap := hs.row.hcap
  have hle := hs.row.hle
  obtain ⟨i0, hi, hz0, hz1, hz2⟩ := info_parts strInfo
  obtain ⟨w1, hmk, hown0, hgr0⟩ := run_make_own (P := Tryz.prog) (w := w) w.heap.size 52 9 i0 _ 1 Tryz.underlying52 hi hz0 hz1 .i64 .i64 len (by rw [hz2]; omega) (by unfold maxLen; omega) (Nat.le_refl _)
  have hb1 : Below w.heap.size w w1 := (Below.refl _ _).grown hgr0 (Nat.le_refl _) (by intro k hk; cases hk)
  clear hgr0
  have HI := Lib.hid (And.intro hi (And.intro hz0 (And.intro hz1 hz2)))
  clear hi hz0 hz1 hz2
  have HB := Lib.hid hb
  have hb' : len ≤ 8796093022208 := by omega
  clear hb
  have HO := Lib.hid hown0; clear hown0
  go_enter Tryz.func103, Tryz.ntmps103
  go_wp2
  clear hmk
  go_loopw [3, 11, 5] (fun v i _ wr => ∃ k : Nat, k ≤ len ∧ i = .int .i64 k ∧ Below w.heap.size w wr ∧ Hid (wr.ownsRow w.heap.size 9 1 v k ((ss.take k).map fun s => .string (small s)))) (fun _ i _ _ => len - (intOf i).toNat)
  case atStart => exact ⟨0, Nat.zero_le _, rfl, hb1, by simpa [Hid] using HO.out⟩
  case round =>
    obtain ⟨k, hk, rfl, hbr, hown⟩ := hrel
    clear HO hb1
    by_cases hlt : k < len
    · obtain ⟨b, off, rfl⟩ := hs.row.addr hlt
      have hc := (hs.below hbr (Nat.le_refl _)).at hlt
      have h3 := hs.get_small (i := k) (by omega)
      have h8 := List.take_succ_eq_append_getElem (l := ss) (i := k) (by omega)
      obtain ⟨s, hsk⟩ : ∃ s, s = ss[k] := ⟨_, rfl⟩
      rw [← hsk] at hc h3 h8
      have H8 := Lib.hid h8
      clear hsk h8
      go_wp2_with fail
      refine (small_any _ _ h3).mono ?_
      rintro e w2 ⟨rfl, hb2⟩
      have hown2 := Lib.hid (owns_keep hown.out hb2)
      have hb3 := below_on hbr hb2 (Nat.le_refl _)
      clear hown hbr hb2 hc
      have hz : w.heap.size ≤ w2.heap.size := hb3.size
      obtain ⟨i1, g1, g2, g3⟩ := (⟨i0, HI.out.1, HI.out.2.1, HI.out.2.2⟩ : ∃ i, Tryz.prog.info? 9 = some i ∧ i.zero = some (.string ByteArray.empty) ∧ i.size = 1 ∧ i.bytes = 16)
      obtain ⟨v', w3, hrun, hown3, hgr3⟩ := append_row (P := Tryz.prog) (w2.alloc (.cells #[.string (small s)] 9)) w.heap.size 52 52 9 i1 _ 16 Tryz.underlying52 g1 g2 g3.1 g3.2 rfl _ k _ (hown2.out.alloc _) (some ⟨w2.heap.size, 0, none⟩) 1 1 [.string (small s)] (row_one w2 _ _) (by intro u hu; simp at hu; subst hu; rfl) (by omega) (by have := HB.out; omega) (by simp; omega)
      have hb4 : Below w.heap.size w w3 := (hb3.alloc hz _).grown hgr3 (by simp; omega) (fun j hj => (hown2.out.lt j hj).1)
      have HR := Lib.hid hrun
      have HO3 := Lib.hid hown3
      clear hrun hown3 hgr3 g1 g2 g3 hown2 hb3 hz
      go_wp2_with (at_builtin; refine wpList_append_run rfl _ _ _ rfl _ _ rfl rfl HR.out ?_)
      go_roundw
      case rel => exact ⟨k + 1, by omega, by go_num, hb4, by rw [H8.out]; simpa [Hid] using HO3.out⟩
      case measure => simp [intOf]; omega
    · have hke : k = len := by omega
      subst hke
      have hall : (ss.take k).map (fun s => Value.string (small s)) = (ss.map small).map .string := by rw [List.take_of_length_le (by omega)]; simp
      have ho := hown.out
      rw [hall] at ho
      obtain ⟨ao', cap', rfl, hst⟩ := strs_of_owns ho hs.row.hmax (by
        intro s hs'
        obtain ⟨x, hx, rfl⟩ := List.mem_map.1 hs'
        rw [small_size]; exact hs.small x hx)
      have HH := Lib.hid hst
      clear ho hall hst hown
      go_wp2
      go_ret
      exact ⟨ao', cap', by rw [List.length_map, hl]; rfl, by rw [List.length_map, hl]; exact HH.out, hbr⟩
end
section
open Go.ChangeShapes Go.WideShapes Go.ChangeAt Go.RowKit
theorem owns_mono {w : World} {B C : Nat} {e : TypeId} {s : Nat} {v : Value} {n : Nat} {xs : List Value} (h : w.ownsRow C e s v n xs) (hBC : B ≤ C) : w.ownsRow B e s v n xs := by
  obtain ⟨h1, h2⟩ := h
  rcases h2 with h2 | ⟨g, cap, cur, e, hge, h3⟩
  · exact ⟨h1, .inl h2⟩
  · exact ⟨h1, .inr ⟨g, cap, cur, e, Nat.le_trans hBC hge, h3⟩⟩
theorem owns_ne {w : World} {C : Nat} {e : TypeId} {s : Nat} {v : Value} {n : Nat} {xs : List Value} (h : w.ownsRow C e s v n xs) {b : Nat} (hb : b < C) : v.ownBlock ≠ some b := by
  intro h2
  have := (h.lt b h2).1
  omega
structure SideB (C b : Nat) (bs : List Value) (w : World) : Prop where
  lt : b < C
  le : C ≤ w.heap.size
  row : ∃ p v, (p = .pointer none ∨ p = .pointer (some ⟨b, 0, none⟩)) ∧ w.heap[b]? = some (.cells #[p, v] 167 (0, 0)) ∧ w.ownsRow C 5 1 v bs.length bs
theorem SideB.is {C b : Nat} {bs : List Value} {w : World} (h : SideB C b bs w) : IsB b b bs w := by
  obtain ⟨p, v, hp, h1, h2⟩ := h.row
  rcases hp with rfl | rfl
  · exact .inl ⟨Nat.le_refl _, v, h1, owns_mono h2 (Nat.le_of_lt h.lt), owns_ne h2 h.lt⟩
  · exact .inr ⟨Nat.le_refl _, v, h1, owns_mono h2 (Nat.le_of_lt h.lt), owns_ne h2 h.lt⟩
/-- what goes on besides the builder -/
structure Besd (C b : Nat) (w w' : World) : Prop where
  bel : Below b w w'
  kept : ∀ k, k < C → k ≠ b → w'.heap[k]? = w.heap[k]?
theorem Besd.refl (C b : Nat) (w : World) : Besd C b w w := ⟨Below.refl _ _, fun _ _ _ => rfl⟩
theorem Besd.trans {C b : Nat} {w w1 w2 : World} (h1 : Besd C b w w1) (h2 : Besd C b w1 w2) : Besd C b w w2 := ⟨h1.bel.trans h2.bel, fun k hk hb => (h2.kept k hk hb).trans (h1.kept k hk hb)⟩
theorem Besd.on {C b : Nat} {w w1 w2 : World} (h1 : Besd C b w w1) (h2 : Below w1.heap.size w1 w2) (hC : C ≤ w1.heap.size) (hb : b ≤ C) : Besd C b w w2 := ⟨h1.bel.trans (h2.mono (by omega)), fun k hk hne => (h2.block k (by omega)).trans (h1.kept k hk hne)⟩
theorem SideB.on {C b : Nat} {bs : List Value} {w w' : World} (h : SideB C b bs w) (hb : Below w.heap.size w w') : SideB C b bs w' := by
  obtain ⟨p, v, hp, h1, h2⟩ := h.row
  have hlt := h.lt
  have hle := h.le
  exact ⟨h.lt, Nat.le_trans h.le hb.size, p, v, hp, by rw [hb.block b (by omega)]; exact h1, owns_keep h2 hb⟩

set_option maxHeartbeats 1000000 in
theorem copyCheck_side (C b : Nat) (bs : List Value) (w : World) (h : SideB C b bs w) :
    Calls Tryz.prog 128 #[.pointer (some ⟨b, 0, none⟩)] w fun e w' => e = .returned (.tuple #[]) ∧ ∃ v, w'.heap[b]? = some (.cells #[.pointer (some ⟨b, 0, none⟩), v] 167 (0, 0)) ∧ w'.ownsRow C 5 1 v bs.length bs ∧ Besd C b w w' := by
  obtain ⟨p, v, hp, h1, h2⟩ := h.row
  have hlt := h.lt
  rcases hp with rfl | rfl
  · refine (copyCheck_fresh b w (by simp [World.cell?, h1]) (by simp [World.shape?, h1]) (Lib.frozen_of_heap h1 0)).mono ?_
    rintro e w' ⟨rfl, rfl⟩
    refine ⟨rfl, v, heap_setCell_same w b 0 _ _ _ h1, h2.kept (but_set w b 0 _) (Or.inr (owns_ne h2 hlt)), (Below.refl b w).setCell (p := ⟨b, 0, none⟩) (Nat.le_refl _) _, fun k hk hne => ?_⟩
    exact (but_set w b 0 _).block k (by have := h.le; omega) (fun h => hne (Option.some.inj h))
  · refine (copyCheck_used b w (by simp [World.cell?, h1])).mono ?_
    rintro e w' ⟨rfl, rfl⟩
    exact ⟨rfl, v, h1, h2, Besd.refl _ _ _⟩
set_option maxHeartbeats 2000000 in
set_option maxRecDepth 100000 in
theorem writeByte_side (C b : Nat) (bs : List Value) (c : Int) (w : World) (h : SideB C b bs w) (hlen : bs.length + 1 ≤ 140737488355328) :
    Calls Tryz.prog 104 #[.pointer (some ⟨b, 0, none⟩), .int .u8 c] w fun e w' => e = .returned .nilIface ∧ (SideB C b (bs ++ [.int .u8 c]) w' ∧ Besd C b w w') := by
  obtain ⟨i0, hi, hz0, hz1, hz2⟩ := info_parts infoByte
  have hCC := Lib.hid (copyCheck_side C b bs w h)
  have hle := h.le
  have hbC := h.lt
  clear h
  go_enter Tryz.func104, Tryz.ntmps104
  go_wp2_with (go_at_call 128; refine hCC.out.mono ?_)
  rintro e w1 ⟨rfl, v, hbk, hown, hb1⟩
  have hle1 := hb1.bel.size
  have c0 : w1.cell? ⟨b, 0, none⟩ = some (.pointer (some ⟨b, 0, none⟩)) := by rw [Lib.cell_of_heap hbk]; rfl
  have c1 : w1.cell? ⟨b, 1, none⟩ = some v := by rw [Lib.cell_of_heap hbk]; rfl
  go_wp2_with (at_builtin; refine wpList_append_own _ rfl _ _ 49 rfl C 5 i0 (.int .u8 0) 1 1 Tryz.underlying49 hi hz0 hz1 hz2 rfl (by decide) _ _ _ rfl (hown.alloc _) ⟨w1.heap.size, 0, none⟩ 1 1 [.int .u8 c] rfl rfl ?c1 ?c2 ?c3 ?c4 ?c5 ?_)
  case c1 =>
    intro j u hj
    match j, hj with
    | 0, hj => simp at hj; subst hj; simp [Addr.add]
  case c2 => intro u hu; simp at hu; subst hu; rfl
  case c3 => unfold maxLen; omega
  case c4 => omega
  case c5 => simp; omega
  intro v' w2 hown' hgrow _
  have hne := owns_ne hown hbC
  have hlt : b < w1.heap.size := by omega
  have hb2 : w2.heap[b]? = some (.cells #[.pointer (some ⟨b, 0, none⟩), v] 167 (0, 0)) := by
    rw [hgrow.block b (by simp; omega) (fun e => hne e.symm), Lib.alloc_old w1 _ b hlt]
    exact hbk
  have d0 : w2.cell? ⟨b, 0, none⟩ = some (.pointer (some ⟨b, 0, none⟩)) := by rw [Lib.cell_of_heap hb2]; rfl
  have d1 : w2.cell? ⟨b, 1, none⟩ = some v := by rw [Lib.cell_of_heap hb2]; rfl
  have f1 : w2.frozen? ⟨b, 1, none⟩ = false := Lib.frozen_of_heap hb2 1
  obtain ⟨g, cap, rfl⟩ : ∃ g cap, v' = .slice (some ⟨g, 0, none⟩) (bs.length + 1) cap := by
    rcases hown'.2 with ⟨_, h0⟩ | ⟨g, cap, cur, hv, _⟩
    · omega
    · exact ⟨g, cap, hv⟩
  have hgz := hgrow.size
  have HO := Lib.hid hown
  have HO' := Lib.hid hown'
  have HG := Lib.hid hgrow
  have HB1 := Lib.hid hb1
  clear hown hown' hgrow hb1 hne
  go_wp2
  go_ret
  have hown' := HO'.out
  have hgrow := HG.out
  refine ⟨rfl, ⟨hbC, by simp at hgz ⊢; omega, _, _, .inr rfl, heap_setCell_same w2 b 1 _ _ _ hb2, ?_⟩, ?_, ?_⟩
  · have h := hown'.kept (but_set w2 b 1 (.slice (some ⟨g, 0, none⟩) (bs.length + 1) cap)) (Or.inr (owns_ne hown' hbC))
    simpa using h
  · refine (((HB1.out.bel.alloc (by omega) _).grown hgrow (by simp; omega) (fun k hk => ?_))).setCell (p := ⟨b, 1, none⟩) (Nat.le_refl _) _
    have := (HO.out.lt k hk).1
    omega
  · intro k hk hkb
    rw [(but_set w2 b 1 _).block k (by simp at hgz; omega) (fun h => hkb (Option.some.inj h)), hgrow.block k (by simp; omega) (fun e => owns_ne HO.out hk e.symm), Lib.alloc_old w1 _ k (by omega)]
    exact HB1.out.kept k hk hkb
end
section
open Go.ChangeShapes Go.WideShapes Go.ChangeAt Go.RowKit
set_option maxHeartbeats 2000000 in
set_option maxRecDepth 100000 in
theorem writeString_side (C b : Nat) (bs : List Value) (s : ByteArray) (w : World) (h : SideB C b bs w) (hlen : bs.length + s.size ≤ 140737488355328) :
    Calls Tryz.prog 105 #[.pointer (some ⟨b, 0, none⟩), .string s] w fun e w' => e = .returned (.tuple #[.int .i64 s.size, .nilIface]) ∧ (SideB C b (bs ++ Lib.strCells s) w' ∧ Besd C b w w') := by
  obtain ⟨i0, hi, hz0, hz1, hz2⟩ := info_parts infoByte
  have hCC := Lib.hid (copyCheck_side C b bs w h)
  have hle := h.le
  have hbC := h.lt
  clear h
  go_enter Tryz.func105, Tryz.ntmps105
  go_wp2_with (go_at_call 128; refine hCC.out.mono ?_)
  rintro e w1 ⟨rfl, v, hbk, hown, hb1⟩
  have hle1 := hb1.bel.size
  have c0 : w1.cell? ⟨b, 0, none⟩ = some (.pointer (some ⟨b, 0, none⟩)) := by rw [Lib.cell_of_heap hbk]; rfl
  have c1 : w1.cell? ⟨b, 1, none⟩ = some v := by rw [Lib.cell_of_heap hbk]; rfl
  go_wp2_with (at_builtin; refine Lib.wpList_append_own_string _ rfl _ _ 49 9 rfl C 5 i0 Tryz.underlying49 Tryz.underlying9 hi hz0 hz1 hz2 _ _ _ rfl hown s rfl ?c3 ?c4 ?c5 ?_)
  case c3 => unfold maxLen; omega
  case c4 => omega
  case c5 => omega
  intro v' w2 hown' hgrow _
  have hne := owns_ne hown hbC
  have hlt : b < w1.heap.size := by omega
  have hb2 : w2.heap[b]? = some (.cells #[.pointer (some ⟨b, 0, none⟩), v] 167 (0, 0)) := by
    rw [hgrow.block b hlt (fun e => hne e.symm)]
    exact hbk
  have d0 : w2.cell? ⟨b, 0, none⟩ = some (.pointer (some ⟨b, 0, none⟩)) := by rw [Lib.cell_of_heap hb2]; rfl
  have d1 : w2.cell? ⟨b, 1, none⟩ = some v := by rw [Lib.cell_of_heap hb2]; rfl
  have f1 : w2.frozen? ⟨b, 1, none⟩ = false := Lib.frozen_of_heap hb2 1
  obtain ⟨ao, n', cap, rfl⟩ : ∃ ao n' cap, v' = .slice ao n' cap := by
    rcases hown'.2 with ⟨hv, _⟩ | ⟨g, cap, cur, hv, _⟩
    · exact ⟨_, _, _, hv⟩
    · exact ⟨_, _, _, hv⟩
  have hgz := hgrow.size
  have HO := Lib.hid hown
  have HO' := Lib.hid hown'
  have HG := Lib.hid hgrow
  have HB1 := Lib.hid hb1
  clear hown hown' hgrow hb1 hne
  go_wp2
  go_ret2
  have hown' := HO'.out
  have hgrow := HG.out
  refine ⟨rfl, ⟨hbC, by simp at hgz ⊢; omega, _, _, .inr rfl, heap_setCell_same w2 b 1 _ _ _ hb2, ?_⟩, ?_, ?_⟩
  · have h := hown'.kept (but_set w2 b 1 (.slice ao n' cap)) (Or.inr (owns_ne hown' hbC))
    simpa [Lib.strCells_length] using h
  · refine ((HB1.out.bel.grown hgrow (by omega) (fun k hk => ?_))).setCell (p := ⟨b, 1, none⟩) (Nat.le_refl _) _
    have := (HO.out.lt k hk).1
    omega
  · intro k hk hkb
    rw [(but_set w2 b 1 _).block k (by omega) (fun h => hkb (Option.some.inj h)), hgrow.block k (by omega) (fun e => owns_ne HO.out hk e.symm)]
    exact HB1.out.kept k hk hkb

theorem copyCheck_but (C b : Nat) (bs : List Value) (w : World) (h : SideB C b bs w) :
    Calls Tryz.prog 128 #[.pointer (some ⟨b, 0, none⟩)] w fun e w' => e = .returned (.tuple #[]) ∧ ∃ v, w'.heap[b]? = some (.cells #[.pointer (some ⟨b, 0, none⟩), v] 167 (0, 0)) ∧ w'.ownsRow C 5 1 v bs.length bs ∧ w.grownBy w' (some b) := by
  obtain ⟨p, v, hp, h1, h2⟩ := h.row
  have hlt := h.lt
  rcases hp with rfl | rfl
  · refine (copyCheck_fresh b w (by simp [World.cell?, h1]) (by simp [World.shape?, h1]) (Lib.frozen_of_heap h1 0)).mono ?_
    rintro e w' ⟨rfl, rfl⟩
    exact ⟨rfl, v, heap_setCell_same w b 0 _ _ _ h1, h2.kept (but_set w b 0 _) (Or.inr (owns_ne h2 hlt)), but_set _ _ _ _⟩
  · refine (copyCheck_used b w (by simp [World.cell?, h1])).mono ?_
    rintro e w' ⟨rfl, rfl⟩
    exact ⟨rfl, v, h1, h2, World.grownBy.refl _ _⟩
set_option maxHeartbeats 2000000 in
set_option maxRecDepth 100000 in
theorem bwrite_side (C b : Nat) (bs : List Value) (ao : Option Addr) (n c : Nat) (l : List UInt8) (w : World) (h : SideB C b bs w) (hr : Byts w ao n c l) (hao : ∀ a, ao = some a → a.block ≠ b) (hlen : bs.length + n ≤ 140737488355328) :
    Calls Tryz.prog 106 #[.pointer (some ⟨b, 0, none⟩), .slice ao n c] w fun e w' => e = .returned (.tuple #[.int .i64 n, .nilIface]) ∧ (SideB C b (bs ++ Lib.byteCells l) w' ∧ Besd C b w w') := by
  obtain ⟨i0, hi, hz0, hz1, hz2⟩ := info_parts infoByte
  have hCC := Lib.hid (copyCheck_but C b bs w h)
  have hle := h.le
  have hbC := h.lt
  have HR := Lib.hid (And.intro hr hao)
  clear h hr hao
  go_enter Tryz.func106, Tryz.ntmps106
  go_wp2_with (go_at_call 128; refine hCC.out.mono ?_)
  rintro e w1 ⟨rfl, v, hbk, hown, hb1⟩
  have hle1 := hb1.size
  have c0 : w1.cell? ⟨b, 0, none⟩ = some (.pointer (some ⟨b, 0, none⟩)) := by rw [Lib.cell_of_heap hbk]; rfl
  have c1 : w1.cell? ⟨b, 1, none⟩ = some v := by rw [Lib.cell_of_heap hbk]; rfl
  have hr1 := HR.out.1.grown hb1 (fun a ha e => HR.out.2 a ha (Option.some.inj e))
  obtain ⟨v', w2, hrun, hown', hgrow⟩ := append_row (P := Tryz.prog) w1 C 49 49 5 i0 _ 1 Tryz.underlying49 hi hz0 hz1 hz2 rfl v bs.length bs hown ao n c _ hr1 (by
    intro u hu
    obtain ⟨x, _, rfl⟩ := List.mem_map.1 hu
    rfl) (by omega) (by omega) (by omega)
  have hne := owns_ne hown hbC
  have hlt : b < w1.heap.size := by omega
  have hb2 : w2.heap[b]? = some (.cells #[.pointer (some ⟨b, 0, none⟩), v] 167 (0, 0)) := by
    rw [hgrow.block b hlt (fun e => hne e.symm)]
    exact hbk
  have d0 : w2.cell? ⟨b, 0, none⟩ = some (.pointer (some ⟨b, 0, none⟩)) := by rw [Lib.cell_of_heap hb2]; rfl
  have d1 : w2.cell? ⟨b, 1, none⟩ = some v := by rw [Lib.cell_of_heap hb2]; rfl
  have f1 : w2.frozen? ⟨b, 1, none⟩ = false := Lib.frozen_of_heap hb2 1
  obtain ⟨ao', n', cap, rfl⟩ : ∃ ao n' cap, v' = .slice ao n' cap := by
    rcases hown'.2 with ⟨hv, _⟩ | ⟨g, cap, cur, hv, _⟩
    · exact ⟨_, _, _, hv⟩
    · exact ⟨_, _, _, hv⟩
  have HRUN := Lib.hid hrun
  clear hrun hr1 hi hz0 hz1 hz2
  go_wp2_with (at_builtin; refine wpList_append_run rfl _ _ _ rfl _ _ rfl rfl HRUN.out ?_)
  have hgz := hgrow.size
  have hln : l.length = n := by simpa using HR.out.1.hlen
  have HLN := Lib.hid hln
  have HO := Lib.hid hown
  have HO' := Lib.hid hown'
  have HG := Lib.hid hgrow
  have HB1 := Lib.hid hb1
  clear hown hown' hgrow hb1 hne hln
  go_wp2
  go_ret2
  have hown' := HO'.out
  have hgrow := HG.out
  refine ⟨rfl, ⟨hbC, by simp at hgz ⊢; omega, _, _, .inr rfl, heap_setCell_same w2 b 1 _ _ _ hb2, ?_⟩, ?_, ?_⟩
  · have h := hown'.kept (but_set w2 b 1 (.slice ao' n' cap)) (Or.inr (owns_ne hown' hbC))
    simpa [Lib.byteCells, HLN.out] using h
  · refine (((below_of_but HB1.out (Nat.le_refl _) (by omega)).grown hgrow (by omega) (fun k hk => ?_))).setCell (p := ⟨b, 1, none⟩) (Nat.le_refl _) _
    have := (HO.out.lt k hk).1
    omega
  · intro k hk hkb
    rw [(but_set w2 b 1 _).block k (by omega) (fun h => hkb (Option.some.inj h)), hgrow.block k (by omega) (fun e => owns_ne HO.out hk e.symm)]
    exact HB1.out.block k (by omega) (fun e => hkb (Option.some.inj e))

theorem nameK_snoc (n : List ByteArray) (k : Nat) (h : k < n.length) : nameK (n.take (k + 1)) = nameK (n.take k) ++ labelK n[k] := by
  rw [nameK, List.take_succ_eq_append_getElem h, List.flatMap_append]; simp [nameK]
theorem nameK_len (n : List ByteArray) : (nameK n).length = sizeN n := by
  induction n with
  | nil => rfl
  | cons a n ih =>
    simp only [nameK, List.flatMap_cons, List.length_append] at ih ⊢
    rw [ih, sizeN]
    have h1 : (small a).data.toList.length = a.size := (by simpa using (show (small a).data.size = a.size from small_size a))
    simp only [labelK, List.length_cons, h1]
theorem byteCells_append (a b : List UInt8) : Lib.byteCells a ++ Lib.byteCells b = Lib.byteCells (a ++ b) := by simp [Lib.byteCells]
theorem byte_of_nat (n : Nat) : IntKind.u8.wrap (n : Int) = ((UInt8.ofNat (n % 256)).toNat : Int) := by
  rw [UInt8.toNat_ofNat']
  simp [IntKind.wrap, IntKind.bits, IntKind.signed]
theorem byteZ_nat (n : Int) : ((byteZ n).toNat : Int) = n % 256 := by
  rw [byteZ, UInt8.toNat_ofNat']
  have h1 := Int.emod_nonneg n (show (256 : Int) ≠ 0 by decide)
  have h2 := Int.emod_lt_of_pos n (show (0 : Int) < 256 by decide)
  omega
theorem row_new (w : World) (cs : Array Value) (e : TypeId) (h : cs.size ≤ 140737488355328) : Row (w.alloc (.cells cs e)) (some ⟨w.heap.size, 0, none⟩) cs.size cs.size cs.toList := by
  refine ⟨by simp, Nat.le_refl _, by omega, h, fun e => (by cases e), fun h0 => ⟨w.heap.size, 0, rfl, fun i hi => ?_⟩⟩
  rw [Nat.zero_add, World.cell?_alloc_new w cs e i]
  simp at hi
  simp [hi]
theorem row_not {w : World} {a : Addr} {n c : Nat} {vs : List Value} {g : Nat} {cs : Array Value} {T : TypeId} (h : Row w (some a) n c vs) (hB : Blk w g cs T) (h0 : 0 < n) (hne : ∀ (v : Value), v ∈ vs → ∀ j : Nat, cs[j]? ≠ some v) : a.block ≠ g := by
  rintro rfl
  obtain ⟨b, off, e, hc⟩ := h.hcells h0
  cases e
  have hl : 0 < vs.length := by have := h.hlen; omega
  have h1 := hc 0 hl
  rw [hB.cell] at h1
  exact hne _ (List.getElem_mem hl) _ h1
theorem strCells_bytes (s : ByteArray) : Lib.strCells s = Lib.byteCells s.data.toList := rfl
theorem small_mem_size {n : List ByteArray} {s : ByteArray} (h : s ∈ n) : s.size + 1 ≤ sizeN n := by
  induction n with
  | nil => cases h
  | cons a n ih =>
    rw [sizeN]
    rcases List.mem_cons.1 h with rfl | h
    · omega
    · have := ih h; omega
theorem sizeN_len (n : List ByteArray) : n.length ≤ sizeN n := by
  induction n with
  | nil => exact Nat.zero_le _
  | cons a n ih => rw [sizeN, List.length_cons]; omega
set_option maxHeartbeats 4000000 in
set_option maxRecDepth 100000 in
theorem fkey_any (w : World) (h : FactH) (f : FactP) (hn : Strs w h.na h.nl h.nc f.name) (hz : sizeN f.name ≤ 1099511627776) :
    Calls Tryz.prog 75 #[.agg (factC h f)] w fun e w' => e = .returned (.string ⟨(keyF f).toArray⟩) ∧ Below w.heap.size w w' := by
  have hb1 : Below w.heap.size w (w.alloc (.cells (factC h f) 57)) := (Below.refl _ _).alloc (Nat.le_refl _) _
  have hs1 : (w.alloc (.cells (factC h f) 57)).heap.size = w.heap.size + 1 := by simp
  have hb2 : Below w.heap.size w ((w.alloc (.cells (factC h f) 57)).alloc (.cells #[.pointer none, .slice none 0 0] 167)) := hb1.alloc (by omega) _
  have hA0 : Blk (w.alloc (.cells (factC h f) 57)) w.heap.size (factC h f) 57 := heap_alloc_new w _
  have hA : Blk ((w.alloc (.cells (factC h f) 57)).alloc (.cells #[.pointer none, .slice none 0 0] 167)) w.heap.size (factC h f) 57 := hA0.on ((Below.refl _ _).alloc (Nat.le_refl _) _)
  have hN : Blk ((w.alloc (.cells (factC h f) 57)).alloc (.cells #[.pointer none, .slice none 0 0] 167)) (w.heap.size + 1) #[.pointer none, .slice none 0 0] 167 := by
    have := heap_alloc_new (w.alloc (.cells (factC h f) 57)) (.cells #[.pointer none, .slice none 0 0] 167)
    simpa [Blk] using this
  have HB2 := Lib.hid hb2
  have HA := Lib.hid hA
  have HN := Lib.hid hN
  have HNM := Lib.hid (hn.below hb2 (Nat.le_refl _))
  have hl := hn.len
  have hz2 := sizeN_len f.name
  have HLW := Lib.hid (lower_any _ _ _ _ _ (hn.below hb2 (Nat.le_refl _)) (by omega))
  have HZ := Lib.hid hz
  have HL := Lib.hid hl
  have hnl : h.nl ≤ 1099511627776 := by omega
  have hsz2 : ((w.alloc (.cells (factC h f) 57)).alloc (.cells #[.pointer none, .slice none 0 0] 167)).heap.size = w.heap.size + 2 := by simp
  have HSZ2 := Lib.hid hsz2
  clear hb1 hs1 hb2 hA0 hA hN hn hl hz hz2 hsz2
  obtain ⟨na, nl, nc, sa, sl, sc, za, zl, zc, ⟨ba, bl, bc, ha, hl, hc, ma, ml, mc, xa, xl, xc, ta, tl, tc⟩⟩ := h
  simp only [factC] at HB2 HA HN HNM HLW HL hnl HSZ2
  go_enter Tryz.func75, Tryz.ntmps75
  simp only [factC]
  have a0 := HA.out.cell 0
  simp at a0
  go_wp2_with fail
  clear a0
  refine HLW.out.mono ?_
  rintro e w3 ⟨lo, lc, rfl, hlow, hb3⟩
  rw [List.length_map, HL.out] at hlow
  have hsz3 : w.heap.size + 2 ≤ w3.heap.size := by have := hb3.size; have := HSZ2.out; omega
  have hN3 := HN.out.on hb3
  have hAB : ∀ a, lo = some a → 0 < nl → a.block ≠ w.heap.size + 1 := by
    intro a ha h0
    subst ha
    exact row_not hlow.row hN3 h0 (fun v hv j => by
      obtain ⟨s, _, rfl⟩ := List.mem_map.1 hv
      match j with
      | 0 => simp
      | 1 => simp
      | j + 2 => simp)
  have HS := Lib.hid (show SideB w3.heap.size (w.heap.size + 1) (Lib.byteCells (nameK (f.name.take 0))) w3 from ⟨by omega, Nat.le_refl _, _, _, .inl rfl, hN3, by simpa [nameK, Lib.byteCells] using World.ownsRow_nil _ _ _ _⟩)
  have HA3 := Lib.hid (HA.out.on hb3)
  have HB3 := Lib.hid (below_on HB2.out hb3 (Nat.le_refl _))
  have HLO := Lib.hid hlow
  have HAB := Lib.hid hAB
  have HS3 := Lib.hid hsz3
  have hlc := hlow.row.hle
  have hlm := hlow.row.hcap
  clear hb3 hlow hAB hN3 hsz3 HLW HA HN HB2 HSZ2
  rw [List.length_map, HL.out]
  go_wp2_with fail
  go_loopw [10, 5] (fun i _ wr => ∃ k : Nat, k ≤ nl ∧ i = .int .i64 k ∧ Hid (SideB w3.heap.size (w.heap.size + 1) (Lib.byteCells (nameK (f.name.take k))) wr ∧ Besd w3.heap.size (w.heap.size + 1) w3 wr)) (fun i _ _ => nl - (intOf i).toNat)
  case atStart => exact ⟨0, Nat.zero_le _, rfl, HS.out, Besd.refl _ _ _⟩
  case round =>
    obtain ⟨k, hk, rfl, hinv⟩ := hrel
    clear HS
    by_cases hlt : k < nl
    · obtain ⟨b, off, rfl⟩ := HLO.out.row.addr hlt
      have hlow := HLO.out.keep (S := fun x => x < w3.heap.size ∧ x ≠ w.heap.size + 1) (w' := wr) (fun h0 a ha => ⟨HLO.out.row.mem_lt h0 a ha, HAB.out a ha h0⟩) (fun x hx hS => hinv.out.2.kept x hS.1 hS.2)
      have hc := hlow.at hlt
      rw [List.getElem_map] at hc
      have hkn : k < f.name.length := by have := HL.out; omega
      have hmem : f.name[k] ∈ f.name := List.getElem_mem hkn
      have hsm := small_mem_size hmem
      have hbl : (Lib.byteCells (nameK (f.name.take k))).length ≤ 1099511627776 := by
        rw [Lib.byteCells_length, nameK_len]
        exact Nat.le_trans (sizeN_take_le _ _) HZ.out
      have hsn := nameK_snoc f.name k hkn
      obtain ⟨s, hsk⟩ : ∃ s, s = f.name[k] := ⟨_, rfl⟩
      rw [← hsk] at hc hsm hsn
      have hss := small_size s
      have hsmall : s.size ≤ 1099511627776 := by have := HZ.out; omega
      obtain ⟨z, hzk⟩ : ∃ z, z = small s := ⟨_, rfl⟩
      rw [← hzk] at hc hss
      have HSN := Lib.hid hsn
      have HZK := Lib.hid hzk
      have HSS := Lib.hid hss
      have hzs : z.size ≤ 1099511627776 := by omega
      have HBL := Lib.hid hbl
      have HWB := Lib.hid (byte_of_nat z.size)
      clear hlow hmem hsm hsn hsk hss hzk hbl hkn
      obtain ⟨Y, hY⟩ : ∃ Y, Y = (UInt8.ofNat (z.size % 256)).toNat := ⟨_, rfl⟩
      have HY := Lib.hid hY
      have hwr : IntKind.u8.wrap (z.size : Int) = (Y : Int) := by rw [HWB.out, hY]
      clear hY
      have HW1 := Lib.hid (writeByte_side w3.heap.size (w.heap.size + 1) _ (Y : Int) wr hinv.out.1 (by have := HBL.out; omega))
      go_wp2_with fail
      refine HW1.out.mono ?_
      rintro e w4 ⟨rfl, hS4, hB4⟩
      have HW2 := Lib.hid (writeString_side w3.heap.size (w.heap.size + 1) _ z w4 hS4 (by have := HBL.out; simp; omega))
      have HB4 := Lib.hid (hinv.out.2.trans hB4)
      clear HW1 hS4 hB4
      go_wp2_with fail
      refine HW2.out.mono ?_
      rintro e w5 ⟨rfl, hS5, hB5⟩
      have HS5 := Lib.hid hS5
      have HB5 := Lib.hid (HB4.out.trans hB5)
      clear HW2 hS5 hB5 HB4 hc hwr
      go_wp2_with fail
      go_roundw
      case rel =>
        refine ⟨k + 1, by omega, by go_num, ?_, HB5.out⟩
        have h5 := HS5.out
        rw [HSN.out, labelK, ← byteCells_append]
        rw [show (Lib.byteCells (UInt8.ofNat (s.size % 256) :: (small s).data.toList)) = [.int .u8 (Y : Int)] ++ Lib.strCells z by rw [HY.out, strCells_bytes, HZK.out, ← HSS.out]; simp [Lib.byteCells]; rw [← HZK.out], ← List.append_assoc]
        exact h5
      case measure => simp [intOf]; omega
    · obtain rfl : k = nl := by omega
      have hkt : f.name.take k = f.name := List.take_of_length_le (by have := HL.out; omega)
      have hinv2 := hinv.out
      rw [hkt] at hinv2
      have HI := Lib.hid hinv2
      have hA4 : Blk wr w.heap.size _ _ := (hinv2.2.kept w.heap.size (by have := HS3.out; omega) (by omega)).trans HA3.out
      have a1 := hA4.cell 1
      simp at a1
      have hrow : Byts (wr.alloc (.cells #[.int .u8 0, .int .u8 (f.typ / 256 % 256), .int .u8 (f.typ % 256)] 5)) (some ⟨wr.heap.size, 0, none⟩) 3 3 [0, byteZ (f.typ / 256), byteZ f.typ] := by
        have := row_new wr #[.int .u8 0, .int .u8 (f.typ / 256 % 256), .int .u8 (f.typ % 256)] 5 (by simp)
        simpa [Byts, byteZ_nat] using this
      have hba : Below wr.heap.size wr (wr.alloc (.cells #[.int .u8 0, .int .u8 (f.typ / 256 % 256), .int .u8 (f.typ % 256)] 5)) := (Below.refl _ _).alloc (Nat.le_refl _) _
      have HW := Lib.hid (bwrite_side _ _ _ _ _ _ _ _ (hinv2.1.on hba) hrow (fun a ha => by
        cases ha
        have := hinv2.1.lt
        have := hinv2.1.le
        simp only
        omega) (by
        rw [Lib.byteCells_length, nameK_len]
        have := HZ.out
        omega))
      have HBA := Lib.hid hba
      clear hinv hinv2 hA4 hrow hba
      go_wp2_with fail
      refine HW.out.mono ?_
      rintro e w5 ⟨rfl, hS5, hB5⟩
      rw [byteCells_append] at hS5
      have hsz5 : w.heap.size + 1 ≤ w5.heap.size := by
        have := hS5.le
        have := hS5.lt
        omega
      have HST := Lib.hid (Tryz.Builder_String_any (w.heap.size + 1) (w.heap.size + 1) _ w5 hS5.is hsz5)
      have HB5 := Lib.hid hB5
      clear hS5 hB5 HW hsz5
      go_wp2_with fail
      refine HST.out.mono ?_
      rintro e w6 ⟨rfl, hB6⟩
      go_wp2_with fail
      go_ret
      refine ⟨rfl, ?_⟩
      have h1 : Below w.heap.size wr w5 := (((Below.refl w.heap.size wr).alloc (by have := HI.out.1.le; have := HI.out.1.lt; omega) _)).trans (HB5.out.bel.mono (by omega))
      exact ((HB3.out.trans (HI.out.2.bel.mono (by omega))).trans h1).trans (hB6.mono (by omega))
end
section
open Go.ChangeShapes Go.WideShapes Go.ChangeAt Go.RowKit
theorem keyP_size (n : List ByteArray) (t : Int) : (keyP n t).length = sizeN n + 3 := by simp [keyP, nameK_len]
end
section
open Go.ChangeShapes Go.WideShapes Go.ChangeAt Go.RowKit
theorem typed_any (w : World) (k : Int) : Calls Tryz.prog 90 #[.int .i64 k] w fun e w' => e = .returned (.bool (typedB k)) ∧ w = w' := by
  by_cases h1 : 1 ≤ k
  · have d1 : decide (1 ≤ k) = true := decide_eq_true h1
    by_cases h2 : k ≤ 65534
    · have d2 : decide (k ≤ 65534) = true := decide_eq_true h2
      by_cases h3 : k = 41
      · subst h3
        go_enter Tryz.func90, Tryz.ntmps90
        go_wp2_with fail
        go_ret
        exact ⟨rfl, rfl⟩
      · have q3 : (k != 41) = true := by rw [bne_iff_ne]; exact h3
        have H := Lib.hid (show typedB k = (k != 255) by
          rw [typedB, d1, d2, decide_eq_true h3]
          rw [Bool.eq_iff_iff, bne_iff_ne]; simp)
        clear h1 h2 h3
        rw [H.out]
        go_enter Tryz.func90, Tryz.ntmps90
        go_wp2_with fail
        go_ret
        exact ⟨rfl, rfl⟩
    · have d2 : decide (k ≤ 65534) = false := decide_eq_false h2
      have H := Lib.hid (show typedB k = false by rw [typedB, d1, d2]; rfl)
      clear h1 h2
      rw [H.out]
      go_enter Tryz.func90, Tryz.ntmps90
      go_wp2_with fail
      go_ret
      exact ⟨rfl, rfl⟩
  · have d1 : decide (1 ≤ k) = false := decide_eq_false h1
    have H := Lib.hid (show typedB k = false by rw [typedB, d1]; rfl)
    clear h1
    rw [H.out]
    go_enter Tryz.func90, Tryz.ntmps90
    go_wp2_with fail
    go_ret
    exact ⟨rfl, rfl⟩
set_option maxRecDepth 100000 in
theorem none_any (w : World) (h : DataH) (d : DataP) (hd : IsData w h d) : Calls Tryz.prog 93 #[.agg (dataC h)] w fun e w' => e = .returned (.bool (noneB d)) ∧ Below w.heap.size w w' := by
  have hb1 : Below w.heap.size w (w.alloc (.cells (dataC h) 55)) := (Below.refl _ _).alloc (Nat.le_refl _) _
  have hA : Blk (w.alloc (.cells (dataC h) 55)) w.heap.size (dataC h) 55 := heap_alloc_new w _
  have hl := hd.len
  have hm0 := hd.bytes.hmax
  have hm1 := hd.host.row.hmax
  have hm2 := hd.mail.row.hmax
  have hm3 := hd.nums.hmax
  have hm4 := hd.texts.row.hmax
  have HB := Lib.hid hb1
  have HN := Lib.hid (show noneB d = (((((h.bl : Int) + (h.hl : Int)) + (h.ml : Int)) + (h.nl : Int)) + (h.tl : Int) == 0) by
    rw [noneB, Bool.eq_iff_iff, decide_eq_true_eq, beq_iff_eq, hl.bytes, hl.host, hl.mail, hl.nums, hl.texts]
    omega)
  obtain ⟨ba, bl, bc, ha, hl, hc, ma, ml, mc, xa, xl, xc, ta, tl, tc⟩ := h
  simp only [dataC] at *
  have c0 := hA.cell 0
  have c1 := hA.cell 1
  have c2 := hA.cell 2
  have c3 := hA.cell 3
  have c4 := hA.cell 4
  simp at c0 c1 c2 c3 c4
  rw [HN.out]
  clear hb1 hA hd hl HN
  go_enter Tryz.func93, Tryz.ntmps93
  go_wp2_with fail
  go_ret
  exact ⟨rfl, HB.out⟩
set_option maxHeartbeats 4000000 in
set_option maxRecDepth 100000 in
theorem dist1_any (w : World) (h k : DataH) (x d : DataP) (hx : IsData w h x) (hd : IsData w k d) (g : Nat) (hg : Blk w g (dataC k) 55) :
    Calls Tryz.prog 116 #[.agg (dataC h), .pointer (some ⟨g, 0, none⟩)] w fun e w' => e = .returned (.bool (sameD x d)) ∧ Below w.heap.size w w' := by
  have hb1 : Below w.heap.size w (w.alloc (.cells (dataC h) 55)) := (Below.refl _ _).alloc (Nat.le_refl _) _
  have hA0 : Blk (w.alloc (.cells (dataC h) 55)) w.heap.size (dataC h) 55 := heap_alloc_new w _
  have HQ := Lib.hid (dsame_any (w.alloc (.cells (dataC h) 55)) h k x d (hx.on hb1) (hd.on hb1))
  have HA := Lib.hid hA0
  have HB := Lib.hid (hg.on hb1)
  have HBE := Lib.hid hb1
  clear hb1 hA0 hx hd hg
  obtain ⟨ba, bl, bc, ha, hl, hc, ma, ml, mc, xa, xl, xc, ta, tl, tc⟩ := h
  obtain ⟨ba', bl', bc', ha', hl', hc', ma', ml', mc', xa', xl', xc', ta', tl', tc'⟩ := k
  simp only [dataC] at HA HB HBE HQ
  go_enter Tryz.func116, Tryz.ntmps116
  simp only [dataC]
  have a0 := HA.out.cell 0
  have a1 := HA.out.cell 1
  have a2 := HA.out.cell 2
  have a3 := HA.out.cell 3
  have a4 := HA.out.cell 4
  have b0 := HB.out.cell 0
  have b1 := HB.out.cell 1
  have b2 := HB.out.cell 2
  have b3 := HB.out.cell 3
  have b4 := HB.out.cell 4
  simp at a0 a1 a2 a3 a4 b0 b1 b2 b3 b4
  go_wp2_with fail
  refine HQ.out.mono ?_
  rintro e w2 ⟨rfl, hb2⟩
  go_wp2_with fail
  go_ret
  exact ⟨rfl, below_on HBE.out hb2 (Nat.le_refl _)⟩

abbrev distF (g : Nat) : Value := .func (.func 116) #[] #[.pointer (some ⟨g, 0, none⟩)]
theorem sany_none {rs : List DataP} {r : DataP} (h : ∀ j (hj : j < rs.length), sameD rs[j] r = false) : sameAny rs r = false := by
  rw [sameAny, List.any_eq_false]
  intro x hx
  obtain ⟨j, hj, rfl⟩ := List.getElem_of_mem hx
  simp [h j hj]
theorem sany_some {rs : List DataP} {r : DataP} {j : Nat} (hj : j < rs.length) (h : sameD rs[j] r = true) : sameAny rs r = true := List.any_eq_true.2 ⟨_, List.getElem_mem hj, h⟩
set_option maxHeartbeats 4000000 in
set_option maxRecDepth 100000 in
theorem indexD_any (w : World) (S : Nat → Prop) (ao : Option Addr) (n c : Nat) (rs : List DataP) (hrs : Datas S w ao n c rs) (k : DataH) (r : DataP) (hr : IsData w k r) (g : Nat) (hg : Blk w g (dataC k) 55) :
    Calls Tryz.prog 135 #[.slice ao n c, distF g] w fun e w' => (∃ i : Int, e = .returned (.int .i64 i) ∧ decide (0 ≤ i) = sameAny rs r) ∧ Below w.heap.size w w' := by
  have hl := hrs.hlen
  have hle := hrs.hle
  have hmx := hrs.hmax
  have HRS := Lib.hid hrs
  have HR := Lib.hid hr
  have HG := Lib.hid hg
  have HL := Lib.hid hl
  clear hrs hr hg hl
  go_enter Tryz.func135, Tryz.ntmps135
  go_wp2_with fail
  go_loopw [8, 5] (fun i _ wr => ∃ j : Nat, j ≤ n ∧ i = .int .i64 j ∧ Hid (Below w.heap.size w wr ∧ ∀ q (hq : q < rs.length), q < j → sameD rs[q] r = false)) (fun i _ _ => n - (intOf i).toNat)
  case atStart => exact ⟨0, Nat.zero_le _, rfl, Below.refl _ _, fun j hj h => absurd h (by omega)⟩
  case round =>
    obtain ⟨j, hj, rfl, hinv⟩ := hrel
    by_cases hlt : j < n
    · obtain ⟨b, off, rfl⟩ := HRS.out.addr hlt
      obtain ⟨h, hc, ho, _⟩ := data_elem ((HRS.out.on hinv.out.1).at hlt)
      obtain ⟨o, hox⟩ : ∃ o, o = rs[j]'(by have := HL.out; omega) := ⟨_, rfl⟩
      rw [← hox] at ho
      have HOX := Lib.hid hox
      have hcall := dist1_any wr h k o r ho (HR.out.on hinv.out.1) g (HG.out.on hinv.out.1)
      obtain ⟨Z, hS⟩ : ∃ S, S = sameD o r := ⟨_, rfl⟩
      rw [← hS] at hcall
      have HS := Lib.hid hS
      have HC := Lib.hid hcall
      have e0 := hc 0 (by omega)
      have e1 := hc 1 (by omega)
      have e2 := hc 2 (by omega)
      have e3 := hc 3 (by omega)
      have e4 := hc 4 (by omega)
      clear hc ho hox hcall hS
      obtain ⟨ba, bl, bc, ha, hl, hc, ma, ml, mc, xa, xl, xc, ta, tl, tc⟩ := h
      simp only [dataC] at HC
      simp [dataC, dataK] at e0 e1 e2 e3 e4
      go_wp2_with fail
      refine HC.out.mono ?_
      rintro e w2 ⟨rfl, hb2⟩
      have HB2 := Lib.hid (below_on hinv.out.1 hb2 (Nat.le_refl _))
      clear hb2 e0 e1 e2 e3 e4
      cases Z
      · go_wp2_with fail
        go_roundw
        case rel =>
          refine ⟨j + 1, by omega, by go_num, HB2.out, fun q hq h => ?_⟩
          rcases Nat.lt_succ_iff_lt_or_eq.1 h with h | rfl
          · exact hinv.out.2 q hq h
          · rw [← HOX.out]; exact HS.out.symm
        case measure => simp [intOf]; omega
      · go_wp2_with fail
        go_ret
        exact ⟨⟨_, rfl, by rw [sany_some (j := j) (by have := HL.out; omega) (by rw [← HOX.out]; exact HS.out.symm)]; simp⟩, HB2.out⟩
    · go_wp2_with fail
      go_ret
      exact ⟨⟨_, rfl, by rw [sany_none fun q hq => hinv.out.2 q hq (by have := HL.out; omega)]; rfl⟩, hinv.out.1⟩
set_option maxRecDepth 100000 in
theorem containsD_any (w : World) (S : Nat → Prop) (ao : Option Addr) (n c : Nat) (rs : List DataP) (hrs : Datas S w ao n c rs) (k : DataH) (r : DataP) (hr : IsData w k r) (g : Nat) (hg : Blk w g (dataC k) 55) :
    Calls Tryz.prog 115 #[.slice ao n c, distF g] w fun e w' => e = .returned (.bool (sameAny rs r)) ∧ Below w.heap.size w w' := by
  have HC := Lib.hid (indexD_any w S ao n c rs hrs k r hr g hg)
  clear hrs hr hg
  go_enter Tryz.func115, Tryz.ntmps115
  go_wp2_with fail
  refine HC.out.mono ?_
  rintro e w2 ⟨⟨i, rfl, hi⟩, hb2⟩
  go_wp2_with fail
  go_ret
  exact ⟨rfl, hb2⟩
end
section
open Go.ChangeShapes Go.WideShapes Go.ChangeAt Go.RowKit
theorem blk_map_ne {w : World} {b M : Nat} {cs : Array Value} {T : TypeId} {L : List Slot} (h : Blk w b cs T) (hM : MapL w M L) : b ≠ M := by
  intro e
  subst e
  obtain ⟨n, D, ⟨es, clock, h1, _⟩, _⟩ := hM
  rw [Blk, h1] at h
  cases h
theorem blk_ne {w : World} {b c : Nat} {cs cs' : Array Value} {T T' : TypeId} (h : Blk w b cs T) (h' : Blk w c cs' T') (hT : T ≠ T') : b ≠ c := by
  intro e
  subst e
  rw [Blk, h'] at h
  cases h
  exact hT rfl
theorem tagged_mapL {T : List TypeId} {w : World} {b M : Nat} {L : List Slot} (hM : MapL w M L) (h : tagged T w b) : b ≠ M := by
  obtain ⟨n, D, ⟨es, clock, h1, _⟩, _⟩ := hM
  exact tagged_map h1 h
theorem offL_mem {L : List Slot} {key : List UInt8} {s : Slot} (h : s ∈ offL L key) : s ∈ L ∧ keyF s.f ≠ key := by
  simpa [offL] using h
theorem offL_sub (L : List Slot) (key : List UInt8) : (offL L key).Sublist L := List.filter_sublist
theorem fT_gT : ∀ t ∈ fT, t ∈ gT := by decide
/-- what a step of the cache leaves as it was -/
structure Left (B : Nat) (w w' : World) : Prop where
  bel : Below B w w'
  same : Same (tagged gT w) w w'
theorem Left.trans {B : Nat} {a b c : World} (h : Left B a b) (k : Left B b c) : Left B a c := ⟨h.bel.trans k.bel, h.same.step k.same⟩
theorem Left.below {B : Nat} {w w' : World} (h : Below w.heap.size w w') (hB : B ≤ w.heap.size) : Left B w w' := ⟨h.mono hB, Same.below h _⟩
theorem lay_law {B : Nat} {w W0 W1 W2 : World} {C M X k : Nat} {most stale : Int} {L : List Slot} {kk : FactH} {f : FactP} (hC : IsCache B w C most stale k L) (hCb : Blk w C (cacheC most stale M k) 75) (hMB : B ≤ M) (hML : MapL w M L)
    (h0 : Below w.heap.size w W0) (hX : w.heap.size ≤ X) (hXB : Blk W0 X (itemC ⟨X, kk, f, 0⟩) 134) (hF : IsFact (tagged fT W0) W0 kk f) (hfB : factB f = true) (hl : FLen f)
    (hM1 : MapL W1 M (offL L (keyF f) ++ [⟨X, kk, f, k + 1⟩])) (g1 : W0.grownBy W1 (some M)) (sz1 : W1.heap.size = W0.heap.size)
    (hC2 : Blk W2 C (cacheC most stale M (k + 1)) 75) (hX2 : Blk W2 X ((itemC ⟨X, kk, f, 0⟩).setIfInBounds 13 (.int .i64 (k + 1 : Nat))) 134) (sz2 : W2.heap.size = W1.heap.size) (hs2 : ∀ j, j ≠ C → j ≠ X → W2.heap[j]? = W1.heap[j]?)
    (hb2 : ∀ B, B ≤ C → B ≤ X → Below B W1 W2) : IsCache B W2 C most stale (k + 1) (offL L (keyF f) ++ [⟨X, kk, f, k + 1⟩]) ∧ Left B w W2 := by
  have hCw := hCb.lt
  have hMw := hML.lt
  have hBC := hC.base
  have hCM := blk_map_ne hCb hML
  have hM0 : MapL W0 M L := hML.on (h0.block M hMw)
  have hXM := blk_map_ne hXB hM0
  have old : ∀ j, j < w.heap.size → j ≠ M → j ≠ C → W2.heap[j]? = w.heap[j]? := fun j h1 h2 h3 => by
    rw [hs2 j h3 (by omega), g1.block j (by have := h0.size; omega) (by intro e; exact h2 (Option.some.inj e)), h0.block j h1]
  have hXeq : (itemC ⟨X, kk, f, 0⟩).setIfInBounds 13 (.int .i64 (k + 1 : Nat)) = itemC ⟨X, kk, f, k + 1⟩ := by simp [itemC]
  rw [hXeq] at hX2
  have bel1 : Below B w W1 := (h0.mono (by omega : B ≤ w.heap.size)).grown g1 (by have := h0.size; omega) (fun j e => by cases e; exact hMB)
  have bel2 : Below B w W2 := bel1.trans (hb2 B hBC (by omega))
  have same : Same (tagged gT w) w W2 := fun b hb ht => old b hb (tagged_mapL hML ht) (tagged_ne hCb (by decide) ht)
  refine ⟨⟨⟨M, hC2, hMB, ?_⟩, hBC, ?_, ?_, ?_, ?_, ?_⟩, bel2, same⟩
  · exact hM1.on (hs2 M (fun e => hCM e.symm) (fun e => hXM e.symm))
  · intro s hs
    rcases List.mem_append.1 hs with hs | hs
    · obtain ⟨h1, _⟩ := offL_mem hs
      obtain ⟨a, b, c, d, e⟩ := hC.slot s h1
      refine ⟨a, ?_, c.step (same.mono (fun b hb ht => tagged_mono ht fT_gT)), d, e⟩
      rw [Blk, old s.b b.lt (blk_map_ne b hML) (blk_ne b hCb (by decide))]
      exact b
    · rw [List.mem_singleton] at hs
      subst hs
      refine ⟨show B ≤ X by omega, hX2, ?_, hfB, hl⟩
      refine hF.step (fun b hb ht => ?_)
      rw [hs2 b ?_ ?_, g1.block b hb ?_]
      · intro e
        exact tagged_mapL hM0 ht (Option.some.inj e)
      · exact tagged_ne (hCb.on h0) (by decide) ht
      · exact tagged_ne hXB (by decide) ht
  · rw [List.pairwise_append]
    refine ⟨hC.apart.sublist (offL_sub _ _), List.pairwise_singleton _ _, fun a ha b hb => ?_⟩
    rw [List.mem_singleton] at hb
    subst hb
    have := (hC.slot a (offL_mem ha).1).2.1.lt
    show a.b ≠ X
    omega
  · rw [List.pairwise_append]
    refine ⟨hC.keys.sublist (offL_sub _ _), List.pairwise_singleton _ _, fun a ha b hb => ?_⟩
    rw [List.mem_singleton] at hb
    subst hb
    exact (offL_mem ha).2
  · intro s hs
    rcases List.mem_append.1 hs with hs | hs
    · have := hC.used s (offL_mem hs).1
      omega
    · rw [List.mem_singleton] at hs
      subst hs
      exact Nat.le_refl _
  · rw [List.pairwise_append]
    refine ⟨hC.order.sublist (offL_sub _ _), List.pairwise_singleton _ _, fun a ha b hb => ?_⟩
    rw [List.mem_singleton] at hb
    subst hb
    have := hC.used a (offL_mem ha).1
    show a.used < k + 1
    omega
end
section
open Go.ChangeShapes Go.WideShapes Go.ChangeAt Go.RowKit
theorem IsCache.but {B : Nat} {w w' : World} {C k R : Nat} {most stale : Int} {L : List Slot} {cs : Array Value} {T : TypeId} (h : IsCache B w C most stale k L) (hg : w.grownBy w' (some R)) (hR : Blk w R cs T) (h1 : T ∉ fT) (h2 : T ≠ 75) (h3 : T ≠ 134) : IsCache B w' C most stale k L := by
  obtain ⟨M, a, b, c⟩ := h.ex
  have hMR := blk_map_ne hR c
  exact ⟨⟨M, a.but hg (blk_ne a hR (fun e => h2 e.symm)), b, c.on (hg.block M c.lt (fun e => hMR (Option.some.inj e).symm))⟩, h.base, fun s hs => by
    obtain ⟨p, q, r, t⟩ := h.slot s hs
    exact ⟨p, q.but hg (blk_ne q hR (fun e => h3 e.symm)), r.step (Same.but hg hR h1), t⟩, h.apart, h.keys, h.used, h.order⟩
theorem Left.row {B : Nat} {w W : World} (h : Left B w W) (hB : B ≤ w.heap.size) {R : Nat} (hR : w.heap.size ≤ R) (cs : Array Value) : Left B w (W.setRow R cs) :=
  ⟨h.bel.grown (but_setRow _ _ _) (by have := h.bel.size; omega) (fun j e => by cases e; omega), fun b hb ht => by
    rw [(but_setRow W R cs).block b (by have := h.bel.size; omega) (fun e => by have := Option.some.inj e; omega)]
    exact h.same b hb ht⟩
end
section
open Go.ChangeShapes Go.WideShapes Go.ChangeAt Go.RowKit
theorem cache_new (w : World) (B : Nat) (hB : B ≤ w.heap.size) (most stale : Int) : IsCache B ((w.alloc (.map #[] 0)).alloc (.cells (cacheC most stale w.heap.size 0) 75)) (w.heap.size + 1) most stale 0 [] := by
  have hb : Below (w.alloc (.map #[] 0)).heap.size (w.alloc (.map #[] 0)) ((w.alloc (.map #[] 0)).alloc (.cells (cacheC most stale w.heap.size 0) 75)) := (Below.refl _ _).alloc (Nat.le_refl _) _
  have hM : MapL (w.alloc (.map #[] 0)) w.heap.size [] := ⟨0, _, World.ownsMap_made w _ _ _, by decide, rfl, fun key z => rfl⟩
  refine ⟨⟨w.heap.size, ?_, hB, hM.on (hb.block _ hM.lt)⟩, by omega, by simp, List.Pairwise.nil, List.Pairwise.nil, by simp, List.Pairwise.nil⟩
  have := heap_alloc_new (w.alloc (.map #[] 0)) (.cells (cacheC most stale w.heap.size 0) 75)
  simpa [Blk, cacheC] using this
set_option maxHeartbeats 4000000 in
set_option maxRecDepth 100000 in
theorem new_any (w : World) (B : Nat) (hB : B ≤ w.heap.size) (most stale : Int) (h1 : 1 ≤ most) (h2 : most ≤ 4096) (hs : timeB stale = true) :
    Calls Tryz.prog 11 #[.int .i64 most, .int .i64 stale] w fun e w' => (∃ C, e = .returned (.tuple #[.pointer (some ⟨C, 0, none⟩), .int .i64 0]) ∧ IsCache B w' C most stale 0 []) ∧ Below w.heap.size w w' := by
  have hc1 : ¬ most < 1 := by omega
  have hc2 : ¬ 4096 < most := by omega
  have hT := time_any stale w
  rw [hs] at hT
  have hmm := @run_makeMap Tryz.prog
  go_enter Tryz.func11, Tryz.ntmps11
  go_wp2_with (go_at_call 28; refine hT.mono ?_; rintro e w' ⟨rfl, rfl⟩)
  go_ret2
  refine ⟨⟨w.heap.size + 1, ?_, cache_new w B hB most stale⟩, ((Below.refl _ _).alloc (Nat.le_refl _) _).alloc (by simp) _⟩
  simp
set_option maxHeartbeats 4000000 in
set_option maxRecDepth 100000 in
theorem len_any (w : World) (B C : Nat) (most stale : Int) (k : Nat) (L : List Slot) (hC : IsCache B w C most stale k L) : Calls Tryz.prog 22 #[.pointer (some ⟨C, 0, none⟩)] w fun e w' => e = .returned (.int .i64 L.length) ∧ w' = w := by
  obtain ⟨M, hCb, _, hM⟩ := hC.ex
  have h2 : w.cell? ⟨C, 2, none⟩ = some (.map (some M)) := hCb.cell 2
  have hl := hM.len
  go_enter Tryz.func22, Tryz.ntmps22
  go_wp2_with fail
  go_ret
  exact ⟨rfl, rfl⟩
end
section
open Go.ChangeShapes Go.WideShapes Go.ChangeAt Go.RowKit
theorem Gath.mono {α : Type} {K : Kind α} {T : List TypeId} {ty : TypeId} {B B' : Nat} {w : World} {v : Value} {xs : List α} (h : Gath K T ty B w v xs) (hB : B' ≤ B) : Gath K T ty B' w v xs := by
  obtain ⟨cs, h1, h2⟩ := h
  obtain ⟨h3, h4⟩ := h1
  refine ⟨cs, ⟨h3, h4.imp id ?_⟩, h2⟩
  rintro ⟨g, cap, cur, a, b, c⟩
  exact ⟨g, cap, cur, a, by omega, c⟩
theorem IsLog.mono {B B' : Nat} {w : World} {L D : Nat} {l : LogP} (h : IsLog B w L D l) (hB : B' ≤ B) : IsLog B' w L D l := by
  obtain ⟨v, h1, h2⟩ := h.ex
  exact ⟨⟨v, h1, h2.mono hB⟩, Nat.le_trans hB h.base, h.fits, h.cnt⟩
/-- a cache stays where blocks of other types turn -/
theorem IsCache.only {S : List TypeId} {B B' : Nat} {w w' : World} {C k : Nat} {most stale : Int} {L : List Slot} (h : IsCache B w C most stale k L) (ho : Only S B' w w') (h1 : ∀ t ∈ fT, t ∉ S) (h2 : 75 ∉ S) (h3 : 134 ∉ S) : IsCache B w' C most stale k L := by
  obtain ⟨M, a, b, c⟩ := h.ex
  refine ⟨⟨M, ho.blk a h2, b, c.on (ho.keep M c.lt fun ht => ?_)⟩, h.base, fun s hs => ?_, h.apart, h.keys, h.used, h.order⟩
  · obtain ⟨n, D, ⟨es, clock, hm, _⟩, _⟩ := c
    obtain ⟨cs, t, e, _⟩ := ht
    rw [hm] at e
    cases e
  · obtain ⟨p, q, r, t⟩ := h.slot s hs
    exact ⟨p, ho.blk q h3, r.step (ho.same h1), t⟩
def keepC (C L : Nat) (places now told : Int) (mem dn : Bool) : Array Value := #[.pointer (some ⟨C, 0, none⟩), .pointer (some ⟨L, 0, none⟩), .int .i64 places, .int .i64 now, .int .i64 told, .bool mem, .bool dn]
set_option maxHeartbeats 16000000 in
set_option maxRecDepth 100000 in
theorem kopen_new (w : World) (D n : Nat) (B : Nat) (h4 : 4 ≤ n) (hd : IsDev B w D (newD n)) (most stale : Int) (h1 : 1 ≤ most) (h2 : most ≤ 4096) (hs : timeB stale = true) :
    Calls Tryz.prog 5 #[.pointer (some ⟨D, 0, none⟩), .int .i64 most, .int .i64 stale] w fun e w' => (∃ K C L, e = .returned (.tuple #[.pointer (some ⟨K, 0, none⟩), .int .i64 0]) ∧ Blk w' K (keepC C L ((n : Int) - 2) 0 0 false false) 48 ∧ w.heap.size ≤ K ∧ IsCache w.heap.size w' C most stale 0 [] ∧ IsLog w.heap.size w' L D ⟨b0, [], 0, false⟩) ∧ IsDev B w' D (bornD n) ∧ Only dvT B w w' := by
  have HNW := Lib.hid (new_any w w.heap.size (Nat.le_refl _) most stale h1 h2 hs)
  have HD := Lib.hid (And.intro hd h4)
  have HBL := Lib.hid hd.Ble
  have hn4 := hd.le
  rw [show (newD n).sure.length = n from List.length_replicate] at hn4
  clear hd h4 h1 h2 hs
  go_enter Tryz.func5, Tryz.ntmps5
  go_wp2_with (first | (go_at_call 11; refine HNW.out.mono ?_; rintro e W1 ⟨⟨C, rfl, hc⟩, hb1⟩; have H1 := Lib.hid (And.intro hc hb1); clear hc hb1) | (go_at_call 12; refine (lopen_new W1 D n B HD.out.2 (HD.out.1.on H1.out.2)).mono ?_; rintro e W2 ⟨⟨L, rfl, hl⟩, hd2, ho2⟩; have H2 := Lib.hid (And.intro (hl.mono H1.out.2.size) (And.intro hd2 (And.intro ho2 (And.intro ((Only.below H1.out.2 HBL.out).trans ho2) (H1.out.1.only ho2 (by decide) (by decide) (by decide)))))); clear hl hd2 ho2) | (go_at_call 13; refine (dlen_any W2 B D _ H2.out.2.1).mono ?_; rintro e W2 ⟨rfl, rfl⟩; rw [show (bornD n).sure.length = n by simp [bornD]]) | (go_at_call 14; have hK := heap_alloc_new W2 (.cells (keepC C L ((n : Int) - 2) 0 0 false false) 48); have hb3 := (Below.refl W2.heap.size W2).alloc (Nat.le_refl _) (.cells (keepC C L ((n : Int) - 2) 0 0 false false) 48); (try change Calls _ _ _ (W2.alloc (.cells (keepC C L ((n : Int) - 2) 0 0 false false) 48)) _); generalize W2.alloc (.cells (keepC C L ((n : Int) - 2) 0 0 false false) 48) = W3 at hK hb3 ⊢; have H3 := Lib.hid (And.intro hK hb3); clear hK hb3; refine (lfirst_any W3 _ L D _ (H2.out.1.on H3.out.2)).mono ?_; rintro e W3 ⟨rfl, rfl⟩))
  go_loopw [12] (fun i wr => i = .int .i64 0 ∧ wr = W3) (fun _ _ => 0)
  case atStart => exact ⟨rfl, rfl⟩
  case round =>
    obtain ⟨rfl, rfl⟩ := hrel
    go_wp2_with (go_at_call 15; refine (lnext_any wr _ L D _ (H2.out.1.on H3.out.2)).mono ?_; rintro e W4 ⟨rfl, hb4⟩; have H4 := Lib.hid hb4; clear hb4; (try simp [b0]))
    go_ret2
    have hb := below_on H3.out.2 H4.out (Nat.le_refl _)
    have hsz := H2.out.2.2.2.1.bel.size
    have hle := HBL.out
    have hw1 := H1.out.2.size
    have hw2 := H2.out.2.2.1.bel.size
    exact ⟨⟨W2.heap.size, C, L, rfl, Blk.on H3.out.1 H4.out, by omega, H2.out.2.2.2.2.on hb, H2.out.1.on hb⟩, H2.out.2.1.on hb, H2.out.2.2.2.1.trans (Only.below hb (by omega))⟩
end
section
open Go.ChangeShapes Go.WideShapes Go.ChangeAt Go.RowKit
/-- a Keep's time behind a call -/
def atT (known now : Int) : Int := if timeB now = true then max known now else known
set_option maxHeartbeats 4000000 in
set_option maxRecDepth 100000 in
theorem kat_any (w : World) (B K C L : Nat) (pl kn told : Int) (mem dn : Bool) (hK : Blk w K (keepC C L pl kn told mem dn) 48) (hB : B ≤ K) (now : Int) :
    Calls Tryz.prog 23 #[.pointer (some ⟨K, 0, none⟩), .int .i64 now] w fun e w' => e = .returned (.int .i64 (atT kn now)) ∧ Blk w' K (keepC C L pl (atT kn now) told mem dn) 48 ∧ Only [48] B w w' := by
  have hT := time_any now w
  have c3 : w.cell? ⟨K, 3, none⟩ = some (.int .i64 kn) := hK.cell 3
  have f3 := hK.free 3
  have hg := but_set w K 3 (.int .i64 (max kn now))
  have hB2 := hK.set 3 (.int .i64 (max kn now))
  have c3' : (w.setCell ⟨K, 3, none⟩ (.int .i64 (max kn now))).cell? ⟨K, 3, none⟩ = some (.int .i64 (max kn now)) := by have := hB2.cell 3; simpa [keepC] using this
  have HO := Lib.hid (And.intro hK (And.intro (Only.but (S := [48]) hg hK (by decide) hB) hB2))
  cases ht : timeB now with
  | true =>
    have HT := Lib.hid (show atT kn now = max kn now by rw [atT, if_pos ht])
    rw [ht] at hT
    clear hK hg hB2 ht
    go_enter Tryz.func23, Tryz.ntmps23
    go_wp2_with (go_at_call 28; refine hT.mono ?_; rintro e w ⟨rfl, rfl⟩)
    go_ret
    exact ⟨by rw [HT.out]; rfl, by rw [HT.out]; simpa [keepC] using HO.out.2.2, HO.out.2.1⟩
  | false =>
    have HT := Lib.hid (show atT kn now = kn by rw [atT, if_neg (by rw [ht]; decide)])
    rw [ht] at hT
    clear hK hg hB2 ht
    go_enter Tryz.func23, Tryz.ntmps23
    go_wp2_with (go_at_call 28; refine hT.mono ?_; rintro e w ⟨rfl, rfl⟩)
    go_ret
    exact ⟨by rw [HT.out]; rfl, by rw [HT.out]; exact HO.out.1, Only.refl _ _ _⟩
end
section
open Go.ChangeShapes Go.WideShapes Go.ChangeAt Go.RowKit
/-- what lies in a Keep, and the cache that it leads to -/
structure KeepAt (B : Nat) (w : World) (K C L : Nat) (pl kn told : Int) (mem dn : Bool) (most stale : Int) (k : Nat) (S : List Slot) : Prop where
  blk : Blk w K (keepC C L pl kn told mem dn) 48
  ca : IsCache B w C most stale k S
  base : B ≤ K
theorem KeepAt.on {B : Nat} {w w' : World} {K C L : Nat} {pl kn told : Int} {mem dn : Bool} {most stale : Int} {k : Nat} {S : List Slot} (h : KeepAt B w K C L pl kn told mem dn most stale k S) (hb : Below w.heap.size w w') : KeepAt B w' K C L pl kn told mem dn most stale k S := ⟨h.blk.on hb, h.ca.on hb, h.base⟩
end
section
open Go.ChangeShapes Go.WideShapes Go.ChangeAt Go.RowKit
theorem KeepAt.row {B : Nat} {w : World} {K C L : Nat} {pl kn told : Int} {mem dn : Bool} {most stale : Int} {k : Nat} {S : List Slot} (h : KeepAt B w K C L pl kn told mem dn most stale k S) {X : Nat} {old : Array Value} (hX : Blk w X old 57) (cs : Array Value) : KeepAt B (w.setRow X cs) K C L pl kn told mem dn most stale k S :=
  ⟨h.blk.but (but_setRow w X cs) (blk_ne h.blk hX (by decide)), h.ca.but (but_setRow w X cs) hX (by decide) (by decide) (by decide), h.base⟩
end
section
open Go.ChangeShapes Go.WideShapes Go.ChangeAt Go.RowKit
theorem KeepAt.set {B : Nat} {w : World} {K C L : Nat} {pl kn told : Int} {mem dn : Bool} {most stale : Int} {k : Nat} {S : List Slot} (h : KeepAt B w K C L pl kn told mem dn most stale k S) {X : Nat} {old : Array Value} {T : TypeId} (hX : Blk w X old T) (h0 : T ≠ 48) (h1 : T ∉ fT) (h2 : T ≠ 75) (h3 : T ≠ 134) (i : Nat) (v : Value) : KeepAt B (w.setCell ⟨X, i, none⟩ v) K C L pl kn told mem dn most stale k S :=
  ⟨h.blk.but (but_set w X i v) (blk_ne h.blk hX (fun e => h0 e.symm)), h.ca.but (but_set w X i v) hX h1 h2 h3, h.base⟩
end
section
open Go.ChangeShapes Go.WideShapes Go.ChangeAt Go.RowKit
set_option maxHeartbeats 4000000 in
set_option maxRecDepth 100000 in
theorem know_any (w : World) (K C L : Nat) (pl kn told : Int) (mem dn : Bool) (hK : Blk w K (keepC C L pl kn told mem dn) 48) :
    Calls Tryz.prog 9 #[.pointer (some ⟨K, 0, none⟩)] w fun e w' => e = .returned (.int .i64 kn) ∧ w' = w := by
  have c3 : w.cell? ⟨K, 3, none⟩ = some (.int .i64 kn) := hK.cell 3
  clear hK
  go_enter Tryz.func9, Tryz.ntmps9
  go_wp2_with fail
  go_ret
  exact ⟨rfl, rfl⟩
end
section
open Go.ChangeShapes Go.WideShapes Go.ChangeAt Go.RowKit
/-- slices of bytes, of strings, as elements -/
def rootK : Kind (List UInt8) where
  H := Option Addr × Nat
  size := 1
  cells := fun h x => #[.slice h.1 x.length h.2]
  is := fun S w h x => Byts w h.1 x.length h.2 x ∧ rowIn S h.1 x.length
  hsize := fun _ _ => rfl
  pos := by decide
  one := fun h x u hu => by
    simp at hu
    rcases hu with rfl
    rfl
  mono := fun h hS => ⟨h.1, h.2.mono h.1 hS⟩
  keep := fun h hs => ⟨h.1.keep h.2 hs, h.2⟩
def namesK : Kind (List ByteArray) where
  H := Option Addr × Nat
  size := 1
  cells := fun h x => #[.slice h.1 x.length h.2]
  is := fun S w h x => Strs w h.1 x.length h.2 x ∧ rowIn S h.1 x.length
  hsize := fun _ _ => rfl
  pos := by decide
  one := fun h x u hu => by
    simp at hu
    rcases hu with rfl
    rfl
  mono := fun h hS => ⟨h.1, h.2.mono h.1.row hS⟩
  keep := fun h hs => ⟨h.1.keep h.2 hs, h.2⟩
structure SetP where
  roots : List (List UInt8)
  cache : Int
  stale : Int
  timeout : Int
  tries : Int
  deadline : Int
  pending : Int
  zones : List (List ByteArray)
structure SetH where
  ra : Option Addr
  rc : Nat
  za : Option Addr
  zc : Nat
structure IsSet (S : Nat → Prop) (w : World) (h : SetH) (s : SetP) : Prop where
  roots : Seq rootK S w h.ra s.roots.length h.rc s.roots
  zones : Seq namesK S w h.za s.zones.length h.zc s.zones
theorem IsSet.on {S : Nat → Prop} {w w' : World} {h : SetH} {s : SetP} (i : IsSet S w h s) (hb : Below w.heap.size w w') : IsSet S w' h s := ⟨i.roots.on hb, i.zones.on hb⟩
theorem IsSet.keep {S : Nat → Prop} {w w' : World} {h : SetH} {s : SetP} (i : IsSet S w h s) (hs : Same S w w') : IsSet S w' h s := ⟨i.roots.keep hs, i.zones.keep hs⟩
end
section
open Go.ChangeShapes Go.WideShapes Go.ChangeAt Go.RowKit
/-- blocks that a step that turns a Keep alone leaves as they are -/
def NK (B : Nat) (w : World) (b : Nat) : Prop := b < w.heap.size ∧ (b < B ∨ ¬ tagged [48] w b)
theorem NK.only {B : Nat} {w w' : World} (ho : Only [48] B w w') {b : Nat} (h : NK B w b) : NK B w' b ∧ w'.heap[b]? = w.heap[b]? := by
  have hl := ho.bel.size
  have hB := h.1
  rcases h.2 with h2 | h2
  · have e := ho.bel.block b h2
    exact ⟨⟨by omega, .inl h2⟩, e⟩
  · have e := ho.keep b h.1 h2
    exact ⟨⟨by omega, .inr fun ht => h2 (by obtain ⟨cs, t, a, k⟩ := ht; exact ⟨cs, t, e ▸ a, k⟩)⟩, e⟩
theorem IsSet.mono {S S' : Nat → Prop} {w : World} {h : SetH} {s : SetP} (i : IsSet S w h s) (hS : ∀ b, b < w.heap.size → S b → S' b) : IsSet S' w h s := ⟨i.roots.mono hS, i.zones.mono hS⟩
theorem IsSet.only {B : Nat} {w w' : World} {h : SetH} {s : SetP} (i : IsSet (NK B w) w h s) (ho : Only [48] B w w') : IsSet (NK B w') w' h s :=
  (i.keep (fun _ _ hb => (NK.only ho hb).2)).mono (fun _ _ hb => (NK.only ho hb).1)
end
section
open Go.ChangeShapes Go.WideShapes Go.ChangeAt Go.RowKit
theorem owns_tag {w : World} {base : Nat} {e : TypeId} {size : Nat} {v : Value} {n : Nat} {xs : List Value} (h : w.ownsRow base e size v n xs) {k : Nat} (hk : v.ownBlock = some k) : ∃ cs, Blk w k cs e ∧ base ≤ k := by
  obtain ⟨_, ⟨rfl, _⟩ | ⟨g, cap, cur, rfl, hg, hc, _⟩⟩ := h
  · cases hk
  · have e : g = k := by simpa [Value.ownBlock] using hk
    subst e
    exact ⟨cur, hc, hg⟩
theorem owns_but {w w' : World} {base : Nat} {e : TypeId} {size : Nat} {v : Value} {n : Nat} {xs : List Value} (h : w.ownsRow base e size v n xs) {R : Nat} {cs : Array Value} {T : TypeId} (hg : w.grownBy w' (some R)) (hR : Blk w R cs T) (hT : e ≠ T) : w'.ownsRow base e size v n xs :=
  h.kept hg (by
    cases hv : v.ownBlock with
    | none => exact .inl rfl
    | some k =>
      right
      intro e2
      obtain ⟨cs2, h2, _⟩ := owns_tag h hv
      have e3 : k = R := Option.some.inj e2
      subst e3
      exact blk_ne h2 hR hT rfl)
def wrT : List TypeId := [159, 5]
/-- what was written -/
structure IsW (N : Nat) (w : World) (R M : Nat) (b : List UInt8) : Prop where
  ex : ∃ v, Blk w R #[v, .map (some M)] 159 ∧ w.ownsRow N 5 1 v b.length (b.map u8V)
  base : N ≤ R
theorem IsW.on {N : Nat} {w w' : World} {R M : Nat} {b : List UInt8} (h : IsW N w R M b) (hb : Below w.heap.size w w') : IsW N w' R M b := by
  obtain ⟨v, h1, h2⟩ := h.ex
  exact ⟨⟨v, h1.on hb, owns_keep h2 hb⟩, h.base⟩
theorem IsW.lt {N : Nat} {w : World} {R M : Nat} {b : List UInt8} (h : IsW N w R M b) : N ≤ w.heap.size := by
  obtain ⟨v, h1, _⟩ := h.ex
  have := h1.lt
  have := h.base
  omega
set_option maxHeartbeats 4000000 in
set_option maxRecDepth 100000 in
theorem wname_new (w : World) : Calls Tryz.prog 68 #[] w fun e w' => (∃ R M, e = .returned (.pointer (some ⟨R, 0, none⟩)) ∧ IsW w.heap.size w' R M [] ∧ w'.heap[M]? = some (.map #[] 0) ∧ w.heap.size ≤ M) ∧ Below w.heap.size w w' := by
  have hmm := @run_makeMap Tryz.prog
  go_enter Tryz.func68, Tryz.ntmps68
  go_wp2_with fail
  go_ret
  have b1 : Below w.heap.size w (w.alloc (.map #[] 0)) := (Below.refl _ _).alloc (Nat.le_refl _) _
  have h1 := heap_alloc_new w (.map #[] 0)
  have e1 : (w.alloc (.map #[] 0)).heap.size = w.heap.size + 1 := Array.size_push _
  have b2 : Below (w.alloc (.map #[] 0)).heap.size (w.alloc (.map #[] 0)) ((w.alloc (.map #[] 0)).alloc (.cells #[.slice none 0 0, .map (some w.heap.size)] 159)) := (Below.refl _ _).alloc (Nat.le_refl _) _
  have h2 : Blk ((w.alloc (.map #[] 0)).alloc (.cells #[.slice none 0 0, .map (some w.heap.size)] 159)) (w.alloc (.map #[] 0)).heap.size #[.slice none 0 0, .map (some w.heap.size)] 159 := heap_alloc_new (w.alloc (.map #[] 0)) _
  rw [e1] at h2
  exact ⟨⟨w.heap.size + 1, w.heap.size, by simp, ⟨⟨_, h2, World.ownsRow_nil _ _ _ _⟩, Nat.le_succ _⟩, (b2.block _ (by omega)).trans h1, Nat.le_refl _⟩, below_on b1 b2 (Nat.le_refl _)⟩
set_option maxHeartbeats 8000000 in
set_option maxRecDepth 100000 in
theorem wraw_any (w : World) (N R M : Nat) (b : List UInt8) (hW : IsW N w R M b) (ao : Option Addr) (m c : Nat) (l : List UInt8) (hl : Byts w ao m c l) (hm : b.length + m ≤ 1000000000) :
    Calls Tryz.prog 98 #[.pointer (some ⟨R, 0, none⟩), .slice ao m c] w fun e w' => e = .returned (.tuple #[]) ∧ IsW N w' R M (b ++ l) ∧ Only wrT N w w' := by
  obtain ⟨v, h1, h2⟩ := hW.ex
  have hN := hW.lt
  have hlen := hl.hlen
  rw [List.length_map] at hlen
  obtain ⟨i0, hi, hz0, hz1, hz2⟩ := info_parts u8Info
  obtain ⟨v', w1, hrun, hown, hgr⟩ := append_row (P := Tryz.prog) w N 49 49 5 i0 _ 1 Tryz.underlying49 hi hz0 hz1 hz2 rfl v b.length (b.map u8V) h2 ao m c (l.map u8V) hl (u8_one l) (by omega) (by omega) hN
  have hrow : ∀ k, v.ownBlock = some k → ∃ cs, Blk w k cs 5 ∧ N ≤ k := fun k hk => by
    exact owns_tag h2 hk
  obtain ⟨va, vc, hv', _⟩ := own1_of_owns hown (by omega)
  obtain ⟨q, hq⟩ : ∃ q, q = b.length + m := ⟨_, rfl⟩
  rw [← hq] at hv' hown
  subst hv'
  have c0 : w.cell? ⟨R, 0, none⟩ = some v := h1.cell 0
  have h1' : Blk w1 R #[v, .map (some M)] 159 := grown_blk hgr hrow h1 (by decide)
  have c1 : w1.cell? ⟨R, 0, none⟩ = some v := h1'.cell 0
  have f1 := h1'.free 0
  have hg2 := but_set w1 R 0 (.slice va q vc)
  have h1'' := h1'.set 0 (.slice va q vc)
  have ho1 : Only wrT N w w1 := grown_only hgr hrow (by decide) hN
  have ho2 : Only wrT N w (w1.setCell ⟨R, 0, none⟩ (.slice va q vc)) := ho1.trans (Only.but hg2 h1' (by decide) hW.base)
  have hown2 : (w1.setCell ⟨R, 0, none⟩ (.slice va q vc)).ownsRow N 5 1 (.slice va q vc) q (b.map u8V ++ l.map u8V) := owns_but hown hg2 h1' (by decide)
  have HF := Lib.hid (And.intro h1'' (And.intro ho2 hown2))
  have HR := Lib.hid hrun
  have HB := Lib.hid (And.intro hW.base (And.intro hlen hq))
  clear hW h1 h2 hi hz0 hz1 hz2 hrun hown hgr hrow h1' hg2 h1'' ho1 ho2 hown2 hl hlen hq
  go_enter Tryz.func98, Tryz.ntmps98
  go_wp2_with (at_builtin; refine wpList_append_run rfl _ _ _ rfl _ _ rfl rfl HR.out ?_)
  go_end0
  refine ⟨rfl, ⟨⟨_, by simpa using HF.out.1, ?_⟩, HB.out.1⟩, HF.out.2.1⟩
  rw [List.length_append, List.map_append, HB.out.2.1, ← HB.out.2.2]
  exact HF.out.2.2
set_option maxHeartbeats 8000000 in
set_option maxRecDepth 100000 in
theorem wnum_any (w : World) (N R M : Nat) (b : List UInt8) (hW : IsW N w R M b) (n : Int) (size : Nat) (hs : 1 ≤ size) (hs7 : size ≤ 7) (hf : fitK n size = true) (hm : b.length ≤ 100000000) :
    Calls Tryz.prog 69 #[.pointer (some ⟨R, 0, none⟩), .int .i64 n, .int .i64 (size : Int)] w fun e w' => e = .returned (.tuple #[]) ∧ IsW N w' R M (b ++ putN n size) ∧ Only wrT N w w' := by
  have hN := hW.lt
  have HP := Lib.hid (putk_any w none 0 0 [] (Row.empty (by omega) (fun _ => rfl)) (by omega) n size hs hs7)
  have hpl : putL [] n size = putN n size := by rw [putL, if_pos hf]; rfl
  rw [hpl, putB_len] at HP
  have HW := Lib.hid (And.intro hW (And.intro hN hm))
  clear hW hN hpl hf hm hs
  go_enter Tryz.func69, Tryz.ntmps69
  go_wp2_with (first | (go_at_call 57; refine HP.out.mono ?_; rintro e W1 ⟨⟨v, rfl, hown⟩, hb1⟩; obtain ⟨ao, cap, rfl, hrow⟩ := row_of_owns hown (by omega); have H1 := Lib.hid (And.intro hrow hb1); clear hown hrow hb1) | (go_at_call 98; refine (wraw_any W1 N R M b (HW.out.1.on H1.out.2) ao size cap (putN n size) H1.out.1 (by have := HW.out.2.2; omega)).mono ?_; rintro e W2 ⟨rfl, hw2, ho2⟩; have H2 := Lib.hid (And.intro hw2 ((Only.below H1.out.2 HW.out.2.1).trans ho2)); clear hw2 ho2))
  go_end0
  exact ⟨rfl, H2.out.1, H2.out.2⟩
set_option maxHeartbeats 8000000 in
set_option maxRecDepth 100000 in
theorem wbytes_any (w : World) (N R M : Nat) (b : List UInt8) (hW : IsW N w R M b) (hm : b.length ≤ 100000000) :
    Calls Tryz.prog 72 #[.pointer (some ⟨R, 0, none⟩)] w fun e w' => (∃ ao c, e = .returned (.slice ao b.length c) ∧ Own1 [5] w.heap.size w' ao b.length c (b.map u8V)) ∧ Below w.heap.size w w' := by
  obtain ⟨v, h1, h2⟩ := hW.ex
  obtain ⟨ao, c, rfl, ho⟩ := own1_of_owns h2 (by omega)
  have c0 : w.cell? ⟨R, 0, none⟩ = some (.slice ao b.length c) := h1.cell 0
  have HC := Lib.hid (clone_byts w ao b.length c (b.map u8V) ho.row (u8_one b) (by omega))
  clear hW h1 h2 ho
  go_enter Tryz.func72, Tryz.ntmps72
  go_wp2_with (go_at_call 85; refine HC.out.mono ?_; rintro e W1 ⟨⟨a2, c2, rfl, ho2⟩, hb2⟩; have H1 := Lib.hid (And.intro ho2 hb2); clear ho2 hb2)
  go_ret
  exact ⟨⟨a2, c2, rfl, H1.out.1⟩, H1.out.2⟩
end
section
open Go.ChangeShapes Go.WideShapes Go.ChangeAt Go.RowKit
def labP (l : ByteArray) : List UInt8 := UInt8.ofNat l.size :: l.data.toList
def restP (ss : List ByteArray) : List UInt8 := ss.flatMap labP
theorem restP_len (ss : List ByteArray) : (restP ss).length = sizeN ss := by
  induction ss with
  | nil => rfl
  | cons l ss ih =>
    have h : (labP l).length = l.size + 1 := by simp [labP]
    simp only [restP, List.flatMap_cons, List.length_append] at ih ⊢
    rw [ih, h, sizeN]
theorem restP_snoc (ss : List ByteArray) {k : Nat} (h : k < ss.length) : restP (ss.take (k + 1)) = (restP (ss.take k) ++ [UInt8.ofNat ss[k].size]) ++ ss[k].data.toList := by
  rw [List.take_succ_eq_append_getElem h, restP, List.flatMap_append]
  simp [restP, labP]
theorem wpList_append_run2 {P : Program} {w : World} {ops : Array Oper} {rest : List Oper} {o : Oper} {a : Act} {Q : Exit → Act → World → Prop} (hgd : o.guard = none) (s x : Operand) (t u : TypeId)
    (ho : o.op = .call { callee := .builtin .append, args := #[s, x], argTypes := #[t, u] }) (v xv : Value) (hs : a.eval s = v) (hx : a.eval x = xv) {v' : Value} {w' : World}
    (hrun : (Builtin.append_ #[t, u] o.type #[v, xv]).run P w = .ok v' w') (h : wpList P ops Q rest (a.put o.dst v') w') : wpList P ops Q (o :: rest) a w := by
  refine wpList_plain hgd fun K hK => ?_
  unfold Oper.wp
  simp [execOp, ho, resolve, invoke, builtin, hs, hx, hrun, Result.andThen]
  exact hK _ _ h
/-- the owned bytes as a string -/
theorem conv_owned {w : World} {N n : Nat} {v : Value} {l : List UInt8} (h : w.ownsRow N 5 1 v n (l.map u8V)) (hl : l.length = n) : (convert 49 9 v).run Tryz.prog w = .ok (.string ⟨l.toArray⟩) w := by
  rcases h.2 with ⟨rfl, rfl⟩ | ⟨g, cap, cur, rfl, _⟩
  · have e : l = [] := List.eq_nil_of_length_eq_zero hl
    subst e
    have h0 : ∀ w : World, (convert 49 9 (.slice none 0 0)).run Tryz.prog w = .ok (.string ⟨#[]⟩) w := fun w => by kernel_rfl
    exact h0 w
  · have hc := h.cells (g := g) rfl
    have := run_convert_bytes_arg (P := Tryz.prog) w 49 5 Tryz.underlying49 Tryz.underlying5 g 0 n cap (l.map fun c => (c.toNat : Int)) (by simpa using hl) (fun i hi => by
      have h2 := hc i (u8V (l[i]'(by omega))) (by simp [hl, hi])
      have e : (⟨g, 0, none⟩ : Addr).add i = ⟨g, 0 + i, none⟩ := addr_add _ _ _
      rw [e] at h2
      rw [h2]
      simp [List.getD, show i < l.length by omega, u8V]) 9 Tryz.underlying9
    rw [this, strOfNums_bytes]
set_option maxHeartbeats 16000000 in
set_option maxRecDepth 100000 in
theorem rest_any (w : World) (ao : Option Addr) (len cap : Nat) (ss : List ByteArray) (hs : Strs w ao len cap ss) (hz : sizeN ss ≤ 1000000) :
    Calls Tryz.prog 100 #[.slice ao len cap] w fun e w' => e = .returned (.string ⟨(restP ss).toArray⟩) ∧ Below w.heap.size w w' := by
  have hlen : ss.length = len := by have := hs.row.hlen; simpa using this
  have hcap := hs.row.hcap
  have hle := hs.row.hle
  have hlz : len ≤ 1000000 := by have := sizeN_len ss; omega
  have HS := Lib.hid (And.intro hs (And.intro hlen hz))
  clear hs hlen hz
  go_enter Tryz.func100, Tryz.ntmps100
  go_wp2_with fail
  go_loopw [3, 5, 8] (fun v _ i wr => ∃ k : Nat, k ≤ len ∧ i = .int .i64 (k : Int) ∧ Hid (wr.ownsRow w.heap.size 5 1 v (sizeN (ss.take k)) ((restP (ss.take k)).map u8V) ∧ Below w.heap.size w wr)) (fun _ _ i _ => len - (intOf i).toNat)
  case atStart => exact ⟨0, Nat.zero_le _, rfl, Lib.hid ⟨World.ownsRow_nil _ _ _ _, Below.refl _ _⟩⟩
  case round =>
    obtain ⟨k, hk, rfl, hinv⟩ := hrel
    by_cases hlt : k < len
    · have hkx : k < ss.length := by rw [HS.out.2.1]; exact hlt
      have hrow := HS.out.1.below hinv.out.2 (Nat.le_refl _)
      obtain ⟨b, off, rfl, hc⟩ := hrow.row.hcells (by omega)
      have c0 : wr.cell? ⟨b, off + k, none⟩ = some (.string ss[k]) := by have := hc k (by simpa using hkx); simpa using this
      obtain ⟨x, hx⟩ : ∃ x, x = ss[k] := ⟨_, rfl⟩
      rw [← hx] at c0
      have hsz : sizeN (ss.take (k + 1)) = sizeN (ss.take k) + 1 + x.size := by rw [sizeN_take_succ _ _ hkx, hx]; omega
      have hsm := Nat.le_trans (sizeN_take_le ss (k + 1)) HS.out.2.2
      have hcells : (restP (ss.take (k + 1))).map u8V = ((restP (ss.take k)).map u8V ++ [.int .u8 ((x.size : Int) % 256)]) ++ Lib.strCells x := by
        rw [restP_snoc ss hkx, List.map_append, List.map_append, hx]
        have e1 : [UInt8.ofNat ss[k].size].map u8V = [.int .u8 ((ss[k].size : Int) % 256)] := by simp [u8V]
        rw [e1]
        rfl
      obtain ⟨i1, g1, g2, g3, g4⟩ := info_parts u8Info
      obtain ⟨v', w6, hrun, hown, hgr⟩ := append_row (P := Tryz.prog) (wr.alloc (.cells #[.int .u8 ((x.size : Int) % 256)] 5)) w.heap.size 49 49 5 i1 _ 1 Tryz.underlying49 g1 g2 g3 g4 rfl u3 _ _ (hinv.out.1.alloc _) (some ⟨wr.heap.size, 0, none⟩) 1 1 [.int .u8 ((x.size : Int) % 256)] (row_one wr _ _) (by intro u hu; simp at hu; subst hu; rfl) (by omega) (by omega) (by have := hinv.out.2.size; simp; omega)
      have hb6 : Below w.heap.size w w6 := (hinv.out.2.alloc hinv.out.2.size _).grown hgr (by have := hinv.out.2.size; simp; omega) (fun j hj => (hinv.out.1.lt j hj).1)
      obtain ⟨i2, q1, q2, q3, q4⟩ := info_parts u8Info
      obtain ⟨v7, w7, hrun7, hown7, hgr7, _⟩ := Lib.run_append_own_string (P := Tryz.prog) w6 w.heap.size 49 9 49 5 i2 Tryz.underlying49 Tryz.underlying9 q1 q2 q3 q4 v' _ _ hown x (by unfold maxLen; omega) (by omega) hb6.size
      have hb7 : Below w.heap.size w w7 := hb6.grown hgr7 hb6.size (fun j hj => (hown.lt j hj).1)
      rw [← hcells, show sizeN (ss.take k) + 1 + x.size = sizeN (ss.take (k + 1)) by omega] at hown7
      have HR6 := Lib.hid hrun
      have HR7 := Lib.hid hrun7
      have H7 := Lib.hid (And.intro hown7 hb7)
      clear hx hsz hcells g1 g2 g3 g4 q1 q2 q3 q4 hrun hown hgr hb6 hrun7 hown7 hgr7 hb7 hinv hc hrow hkx hsm
      go_wp2_with (at_builtin; first | (refine wpList_append_run rfl _ _ _ rfl _ _ rfl rfl HR6.out ?_) | (refine wpList_append_run2 rfl _ _ _ _ rfl _ _ rfl rfl HR7.out ?_))
      go_roundw
      case rel => exact ⟨k + 1, by omega, by go_num, H7⟩
      case measure => simp [intOf]; omega
    · have hkl : k = ss.length := by rw [HS.out.2.1]; omega
      have ho := hinv.out.1
      rw [hkl, List.take_length] at ho
      have hcv := conv_owned ho (restP_len ss)
      have HB := Lib.hid hinv.out.2
      clear ho hinv hkl
      go_wp2_with fail
      go_ret
      exact ⟨rfl, HB.out⟩
end
section
open Go.ChangeShapes Go.WideShapes Go.ChangeAt Go.RowKit
/-- a reader of bytes -/
def rdC (bo : Option Addr) (bl bc : Nat) (p : Nat) : Array Value := #[.slice bo bl bc, .int .i64 (p : Int)]
set_option maxHeartbeats 4000000 in
set_option maxRecDepth 100000 in
theorem must_ok (w : World) : Calls Tryz.prog 88 #[.int .i64 0] w fun e w' => e = .returned (.tuple #[]) ∧ w' = w := by
  go_enter Tryz.func88, Tryz.ntmps88
  go_wp2_with fail
  go_end0
  exact ⟨rfl, rfl⟩
set_option maxHeartbeats 8000000 in
set_option maxRecDepth 100000 in
theorem cnum_any (w : World) (r : Nat) (bo : Option Addr) (bl bc : Nat) (l : List UInt8) (hl : Byts w bo bl bc l) (p size : Nat) (n : Int) (hp : p ≤ 1000000) (hs : 1 ≤ size) (hs7 : size ≤ 7) (hg : getP l p size = (n, 0)) (hr : Blk w r (rdC bo bl bc p) 95) :
    Calls Tryz.prog 62 #[.pointer (some ⟨r, 0, none⟩), .int .i64 (size : Int)] w fun e w' => e = .returned (.int .i64 n) ∧ Blk w' r (rdC bo bl bc (p + size)) 95 ∧ w.grownBy w' (some r) := by
  have hbd := Below.drew (Below.refl w.heap.size w)
  have hrd := hr.on hbd
  have c0 : w.drew.cell? ⟨r, 0, none⟩ = some (.slice bo bl bc) := hrd.cell 0
  have c1 : w.drew.cell? ⟨r, 1, none⟩ = some (.int .i64 (p : Int)) := hrd.cell 1
  have f1 := hrd.free 1
  have hgk := getk_any w.drew bo bl bc l (hl.below hbd (Nat.le_refl _)) p size (by omega) hs hs7
  rw [hg] at hgk
  have HG := Lib.hid hgk
  have hset := hrd.set 1 (.int .i64 ((p + size : Nat) : Int))
  have hgr := but_set w.drew r 1 (.int .i64 ((p + size : Nat) : Int))
  have HS := Lib.hid (And.intro hset (but_trans (but_of_below r hbd) hgr))
  clear hbd hrd hgk hset hgr hl hr hg hs
  go_enter Tryz.func62, Tryz.ntmps62
  go_wp2_with fail
  go_region_held3 (fun w' => w' = w.drew)
    (first | go_keep | rfl)
    (first | (go_at_call 83; refine HG.out.mono ?_; rintro e w2 ⟨rfl, rfl⟩))
  all_goals go_split_ands
  all_goals go_wp2_with (go_at_call 88; refine (must_ok _).mono ?_; rintro e w2 ⟨rfl, rfl⟩)
  all_goals go_ret
  all_goals
    have h := HS.out
    rw [show ((p + size : Nat) : Int) = (p : Int) + (size : Int) by push_cast; rfl] at h
    refine ⟨rfl, ?_, h.2⟩
    have h1 := h.1
    simp only [rdC, Int.natCast_add] at h1 ⊢
    exact h1
end
section
open Go.ChangeShapes Go.WideShapes Go.ChangeAt Go.RowKit
set_option maxHeartbeats 8000000 in
set_option maxRecDepth 100000 in
theorem distinct_any (w : World) (S : Nat → Prop) (k : Int) (hk : wfi k) (ao : Option Addr) (n c : Nat) (ds : List DataP) (hds : Datas S w ao n c ds) :
    Calls Tryz.prog 92 #[.int .i64 k, .slice ao n c] w fun e w' => e = .returned (.bool (distinctB k [] ds)) ∧ Below w.heap.size w w' := by
  have hl := hds.hlen
  have hle := hds.hle
  have hmx := hds.hmax
  have HD := Lib.hid hds
  have HL := Lib.hid hl
  have HK := Lib.hid hk
  obtain ⟨B, hB⟩ : ∃ B, B = distinctB k [] ds := ⟨_, rfl⟩
  rw [← hB]
  have HB := Lib.hid (show B = distinctB k (ds.take 0) (ds.drop 0) from hB)
  clear hds hl hB hk
  go_enter Tryz.func92, Tryz.ntmps92
  go_wp2_with fail
  go_loopw [9, 5, 6] (fun i _ _ wr => ∃ j : Nat, j ≤ n ∧ i = .int .i64 j ∧ Hid (Below w.heap.size w wr ∧ B = distinctB k (ds.take j) (ds.drop j))) (fun i _ _ _ => n - (intOf i).toNat)
  case atStart => exact ⟨0, Nat.zero_le _, rfl, Below.refl _ _, HB.out⟩
  case round =>
    obtain ⟨j, hj, rfl, hinv⟩ := hrel
    clear HB
    by_cases hlt : j < n
    · obtain ⟨b, off, rfl⟩ := HD.out.addr hlt
      obtain ⟨h, hc, ho, _⟩ := data_elem ((HD.out.on hinv.out.1).at hlt)
      obtain ⟨o, hox⟩ : ∃ o, o = ds[j]'(by have := HL.out; omega) := ⟨_, rfl⟩
      rw [← hox] at ho
      obtain ⟨Z, hZ⟩ : ∃ q, q = dataB k o := ⟨_, rfl⟩
      obtain ⟨Y, hY⟩ : ∃ q, q = sameAny (ds.take j) o := ⟨_, rfl⟩
      have HE := Lib.hid (show B = (Z && (!Y && distinctB k (ds.take (j + 1)) (ds.drop (j + 1)))) by rw [hinv.out.2, distinct_at (by have := HL.out; omega), hZ, hY, hox])
      have hbA : Below wr.heap.size wr (wr.alloc (.cells (dataC h) 55)) := (Below.refl _ _).alloc (Nat.le_refl _) _
      have hA : Blk (wr.alloc (.cells (dataC h) 55)) wr.heap.size (dataC h) 55 := heap_alloc_new wr _
      have HS := Lib.hid (dsound_any _ k h o (ho.on hbA))
      rw [← hZ] at HS
      have HC := Lib.hid (fun w' (p : Datas S w' (some ⟨b, off, none⟩) j c (ds.take j)) (q : IsData w' h o) (r : Blk w' wr.heap.size (dataC h) 55) => containsD_any w' S _ _ _ _ p h o q _ r)
      rw [← hY] at HC
      have HO := Lib.hid (ho.on hbA)
      have HA := Lib.hid hA
      have HB1 := Lib.hid (below_on hinv.out.1 hbA (Nat.le_refl _))
      have HTK := Lib.hid ((HD.out.on (below_on hinv.out.1 hbA (Nat.le_refl _))).take (k := j) (by omega))
      have e0 := hc 0 (by omega)
      have e1 := hc 1 (by omega)
      have e2 := hc 2 (by omega)
      have e3 := hc 3 (by omega)
      have e4 := hc 4 (by omega)
      clear hc ho hox hZ hY hbA hA
      obtain ⟨ba, bl, bc, ha, hl, hc, ma, ml, mc, xa, xl, xc, ta, tl, tc⟩ := h
      simp only [dataC] at HS HC HA HO HB1 HTK
      simp [dataC, dataK] at e0 e1 e2 e3 e4
      go_wp2_with fail
      clear e0 e1 e2 e3 e4
      refine HS.out.mono ?_
      rintro e w2 ⟨rfl, hb2⟩
      have HA2 := Lib.hid (HA.out.on hb2)
      have HB2 := Lib.hid (below_on HB1.out hb2 (Nat.le_refl _))
      have HO2 := Lib.hid (HO.out.on hb2)
      have HT2 := Lib.hid (HTK.out.on hb2)
      clear hb2 HA HB1 HO HTK HS
      cases Z
      · have HF := Lib.hid (show B = false by rw [HE.out]; rfl)
        go_wp2_with fail
        go_ret
        exact ⟨ret_bool HF.out.symm, HB2.out⟩
      have HE2 := Lib.hid (show B = (!Y && distinctB k (ds.take (j + 1)) (ds.drop (j + 1))) by rw [HE.out]; rfl)
      clear HE
      go_wp2_with fail
      refine (HC.out _ HT2.out HO2.out HA2.out).mono ?_
      rintro e w3 ⟨rfl, hb3⟩
      have HB3 := Lib.hid (below_on HB2.out hb3 (Nat.le_refl _))
      clear hb3
      cases Y
      · have HF := Lib.hid (show B = distinctB k (ds.take (j + 1)) (ds.drop (j + 1)) by rw [HE2.out]; rfl)
        go_wp2_with fail
        go_roundw
        case rel => exact ⟨j + 1, by omega, by go_num, HB3.out, HF.out⟩
        case measure => simp [intOf]; omega
      · have HF := Lib.hid (show B = false by rw [HE2.out]; rfl)
        go_wp2_with fail
        go_ret
        exact ⟨ret_bool HF.out.symm, HB3.out⟩
    · obtain rfl : j = n := by omega
      have HBE := Lib.hid (show B = true by rw [hinv.out.2, List.take_of_length_le (by have := HL.out; omega), List.drop_eq_nil_of_le (by have := HL.out; omega)]; rfl)
      clear hlt
      go_wp2_with fail
      go_ret
      exact ⟨ret_bool HBE.out.symm, hinv.out.1⟩
set_option maxHeartbeats 16000000 in
set_option maxRecDepth 100000 in
theorem fsound_any (w : World) (S : Nat → Prop) (h : FactH) (f : FactP) (hf : IsFact S w h f) :
    Calls Tryz.prog 65 #[.agg (factC h f)] w fun e w' => e = .returned (.bool (factB f)) ∧ Below w.heap.size w w' := by
  have hb1 : Below w.heap.size w (w.alloc (.cells (factC h f) 57)) := (Below.refl _ _).alloc (Nat.le_refl _) _
  have hA : Blk (w.alloc (.cells (factC h f) 57)) w.heap.size (factC h f) 57 := heap_alloc_new w _
  have HF0 := Lib.hid (hf.on hb1)
  have HA0 := Lib.hid hA
  have HB0 := Lib.hid hb1
  have HY0 := Lib.hid (Below.refl (w.alloc (.cells (factC h f) 57)).heap.size (w.alloc (.cells (factC h f) 57)))
  have hls := hf.set.hlen
  have hlz := hf.zone.len
  have hsm := hf.set.hmax
  have hsl := hf.set.hle
  have hzm := hf.zone.row.hmax
  obtain ⟨NB, hNB⟩ : ∃ q, q = soundB f.name := ⟨_, rfl⟩
  obtain ⟨GB, hGB⟩ : ∃ q, q = timeB f.got := ⟨_, rfl⟩
  obtain ⟨TB, hTB⟩ : ∃ q, q = typedB f.typ := ⟨_, rfl⟩
  obtain ⟨DB, hDB⟩ : ∃ q, q = distinctB f.typ [] f.set := ⟨_, rfl⟩
  obtain ⟨OB, hOB⟩ : ∃ q, q = noneB f.soa := ⟨_, rfl⟩
  obtain ⟨ZB, hZB⟩ : ∃ q, q = soundB f.zone := ⟨_, rfl⟩
  obtain ⟨UB, hUB⟩ : ∃ q, q = underB f.name f.zone := ⟨_, rfl⟩
  obtain ⟨AB, hAB⟩ : ∃ q, q = dataB 6 f.soa := ⟨_, rfl⟩
  obtain ⟨B, hB⟩ : ∃ q, q = factB f := ⟨_, rfl⟩
  have HNB := Lib.hid (sound_any _ _ _ _ _ HF0.out.name)
  rw [← hNB] at HNB
  have HGB := Lib.hid (fun w' => time_any f.got w')
  rw [← hGB] at HGB
  have HTB := Lib.hid (fun w' => typed_any w' f.typ)
  rw [← hTB] at HTB
  have HDB := Lib.hid (fun w' (p : Datas S w' h.sa h.sl h.sc f.set) => distinct_any w' S f.typ hf.typ _ _ _ _ p)
  rw [← hDB] at HDB
  have HOB := Lib.hid (fun w' (p : IsData w' h.d f.soa) => none_any w' _ _ p)
  rw [← hOB] at HOB
  have HZB := Lib.hid (fun w' (p : Strs w' h.za h.zl h.zc f.zone) => sound_any w' _ _ _ _ p)
  rw [← hZB] at HZB
  have HUB := Lib.hid (fun w' (p : Strs w' h.na h.nl h.nc f.name) (q : Strs w' h.za h.zl h.zc f.zone) => under_any w' _ _ _ _ _ _ _ _ p q)
  rw [← hUB] at HUB
  have HAB := Lib.hid (fun w' (p : IsData w' h.d f.soa) => dsound_any w' 6 _ _ p)
  rw [← hAB] at HAB
  have HE0 := Lib.hid (show B = (NB && (decide (1 ≤ f.rank) && (decide (f.rank ≤ 4) && (GB && (decide (0 ≤ f.ttl) && (decide (f.ttl ≤ 604800) && (if f.kind = 1 then (TB && (decide (1 ≤ h.sl) && (decide (h.sl ≤ 64) && (DB && (decide (h.zl = 0) && OB))))) else ((decide (f.ttl ≤ 10800) && (decide (h.sl = 0) && (ZB && (UB && AB)))) && ((decide (f.kind = 2) && TB) || (decide (f.kind = 3) && decide (f.typ = 0))))))))))) by
    rw [hB, factB, headB, hasB, negB, hNB, hGB, hTB, hDB, hOB, hZB, hUB, hAB, hls, hlz]
    simp only [Bool.and_assoc])
  rw [← hB]
  clear hb1 hA hf hls hlz hB hNB hGB hTB hDB hOB hZB hUB hAB
  obtain ⟨na, nl, nc, sa, sl, sc, za, zl, zc, ⟨ba, bl, bc, ha, hl, hc, ma, ml, mc, xa, xl, xc, ta, tl, tc⟩⟩ := h
  simp only [factC] at HF0 HA0 HB0 HY0 HNB
  simp only at hsm hsl hzm HE0 HDB HOB HZB HUB HAB
  simp only [dataC] at HOB HAB
  go_enter Tryz.func65, Tryz.ntmps65
  simp only [factC]
  go_wp2_with fail
  refine (HNB.out).mono ?_
  rintro e w' ⟨rfl, rfl⟩
  cases NB
  · have HF := Lib.hid (show B = false by rw [HE0.out]; rfl)
    go_wp2_with fail
    go_ret
    exact ⟨ret_bool (HF.out).symm, HB0.out⟩
  have HE1 := Lib.hid (show B = (decide (1 ≤ f.rank) && (decide (f.rank ≤ 4) && (GB && (decide (0 ≤ f.ttl) && (decide (f.ttl ≤ 604800) && ((if f.kind = 1 then (TB && (decide (1 ≤ sl) && (decide (sl ≤ 64) && (DB && (decide (zl = 0) && OB))))) else ((decide (f.ttl ≤ 10800) && (decide (sl = 0) && (ZB && (UB && AB)))) && ((decide (f.kind = 2) && TB) || (decide (f.kind = 3) && decide (f.typ = 0))))))))))) by rw [HE0.out]; rfl)
  clear HE0
  by_cases h1 : 1 ≤ f.rank
  case neg =>
    have d1 : decide (f.rank < 1) = true := decide_eq_true (by omega)
    have HF := Lib.hid (show B = false by rw [HE1.out, decide_eq_false h1]; rfl)
    clear h1
    go_wp2_with fail
    go_ret
    exact ⟨ret_bool (HF.out).symm, HB0.out⟩
  have d1 : decide (f.rank < 1) = false := decide_eq_false (by omega)
  have HE2 := Lib.hid (show B = (decide (f.rank ≤ 4) && (GB && (decide (0 ≤ f.ttl) && (decide (f.ttl ≤ 604800) && ((if f.kind = 1 then (TB && (decide (1 ≤ sl) && (decide (sl ≤ 64) && (DB && (decide (zl = 0) && OB))))) else ((decide (f.ttl ≤ 10800) && (decide (sl = 0) && (ZB && (UB && AB)))) && ((decide (f.kind = 2) && TB) || (decide (f.kind = 3) && decide (f.typ = 0)))))))))) by rw [HE1.out, decide_eq_true h1]; rfl)
  clear HE1
  clear h1
  by_cases h2 : f.rank ≤ 4
  case neg =>
    have d2 : decide (4 < f.rank) = true := decide_eq_true (by omega)
    have HF := Lib.hid (show B = false by rw [HE2.out, decide_eq_false h2]; rfl)
    clear h2
    go_wp2_with fail
    go_ret
    exact ⟨ret_bool (HF.out).symm, HB0.out⟩
  have d2 : decide (4 < f.rank) = false := decide_eq_false (by omega)
  have HE3 := Lib.hid (show B = (GB && (decide (0 ≤ f.ttl) && (decide (f.ttl ≤ 604800) && ((if f.kind = 1 then (TB && (decide (1 ≤ sl) && (decide (sl ≤ 64) && (DB && (decide (zl = 0) && OB))))) else ((decide (f.ttl ≤ 10800) && (decide (sl = 0) && (ZB && (UB && AB)))) && ((decide (f.kind = 2) && TB) || (decide (f.kind = 3) && decide (f.typ = 0))))))))) by rw [HE2.out, decide_eq_true h2]; rfl)
  clear HE2
  clear h2
  go_wp2_with fail
  refine (HGB.out _).mono ?_
  rintro e w' ⟨rfl, rfl⟩
  cases GB
  · have HF := Lib.hid (show B = false by rw [HE3.out]; rfl)
    go_wp2_with fail
    go_ret
    exact ⟨ret_bool (HF.out).symm, HB0.out⟩
  have HE4 := Lib.hid (show B = (decide (0 ≤ f.ttl) && (decide (f.ttl ≤ 604800) && ((if f.kind = 1 then (TB && (decide (1 ≤ sl) && (decide (sl ≤ 64) && (DB && (decide (zl = 0) && OB))))) else ((decide (f.ttl ≤ 10800) && (decide (sl = 0) && (ZB && (UB && AB)))) && ((decide (f.kind = 2) && TB) || (decide (f.kind = 3) && decide (f.typ = 0)))))))) by rw [HE3.out]; rfl)
  clear HE3
  by_cases h3 : 0 ≤ f.ttl
  case neg =>
    have d3 : decide (f.ttl < 0) = true := decide_eq_true (by omega)
    have HF := Lib.hid (show B = false by rw [HE4.out, decide_eq_false h3]; rfl)
    clear h3
    go_wp2_with fail
    go_ret
    exact ⟨ret_bool (HF.out).symm, HB0.out⟩
  have d3 : decide (f.ttl < 0) = false := decide_eq_false (by omega)
  have HE5 := Lib.hid (show B = (decide (f.ttl ≤ 604800) && ((if f.kind = 1 then (TB && (decide (1 ≤ sl) && (decide (sl ≤ 64) && (DB && (decide (zl = 0) && OB))))) else ((decide (f.ttl ≤ 10800) && (decide (sl = 0) && (ZB && (UB && AB)))) && ((decide (f.kind = 2) && TB) || (decide (f.kind = 3) && decide (f.typ = 0))))))) by rw [HE4.out, decide_eq_true h3]; rfl)
  clear HE4
  clear h3
  by_cases h4 : f.ttl ≤ 604800
  case neg =>
    have d4 : decide (604800 < f.ttl) = true := decide_eq_true (by omega)
    have HF := Lib.hid (show B = false by rw [HE5.out, decide_eq_false h4]; rfl)
    clear h4
    go_wp2_with fail
    go_ret
    exact ⟨ret_bool (HF.out).symm, HB0.out⟩
  have d4 : decide (604800 < f.ttl) = false := decide_eq_false (by omega)
  have HE6 := Lib.hid (show B = ((if f.kind = 1 then (TB && (decide (1 ≤ sl) && (decide (sl ≤ 64) && (DB && (decide (zl = 0) && OB))))) else ((decide (f.ttl ≤ 10800) && (decide (sl = 0) && (ZB && (UB && AB)))) && ((decide (f.kind = 2) && TB) || (decide (f.kind = 3) && decide (f.typ = 0)))))) by rw [HE5.out, decide_eq_true h4]; rfl)
  clear HE5
  clear h4
  by_cases hk : f.kind = 1
  · have HEa := Lib.hid (show B = (TB && (decide (1 ≤ sl) && (decide (sl ≤ 64) && (DB && (decide (zl = 0) && OB))))) by rw [HE6.out, if_pos hk])
    have qk : (f.kind == 1) = true := by rw [hk]; rfl
    clear hk HE6
    have HE0 := Lib.hid HEa.out
    clear HEa
    go_wp2_with fail
    refine (HTB.out _).mono ?_
    rintro e w' ⟨rfl, rfl⟩
    cases TB
    · have HF := Lib.hid (show B = false by rw [HE0.out]; rfl)
      go_wp2_with fail
      go_ret
      exact ⟨ret_bool (HF.out).symm, HB0.out⟩
    have HE1 := Lib.hid (show B = (decide (1 ≤ sl) && (decide (sl ≤ 64) && (DB && (decide (zl = 0) && (OB))))) by rw [HE0.out]; rfl)
    clear HE0
    by_cases h5 : 1 ≤ sl
    case neg =>
      have p1 : decide ((1 : Int) ≤ (sl : Int)) = false := decide_eq_false (by omega)
      have HF := Lib.hid (show B = false by rw [HE1.out, decide_eq_false h5]; rfl)
      clear h5
      go_wp2_with fail
      go_ret
      exact ⟨ret_bool (HF.out).symm, HB0.out⟩
    have p1 : decide ((1 : Int) ≤ (sl : Int)) = true := decide_eq_true (by omega)
    have HE2 := Lib.hid (show B = (decide (sl ≤ 64) && (DB && (decide (zl = 0) && (OB)))) by rw [HE1.out, decide_eq_true h5]; rfl)
    clear HE1
    clear h5
    by_cases h6 : sl ≤ 64
    case neg =>
      have p2 : decide ((sl : Int) ≤ 64) = false := decide_eq_false (by omega)
      have HF := Lib.hid (show B = false by rw [HE2.out, decide_eq_false h6]; rfl)
      clear h6
      go_wp2_with fail
      go_ret
      exact ⟨ret_bool (HF.out).symm, HB0.out⟩
    have p2 : decide ((sl : Int) ≤ 64) = true := decide_eq_true (by omega)
    have HE3 := Lib.hid (show B = (DB && (decide (zl = 0) && (OB))) by rw [HE2.out, decide_eq_true h6]; rfl)
    clear HE2
    clear h6
    go_wp2_with fail
    refine (HDB.out _ (HF0.out.set.on HY0.out)).mono ?_
    rintro e w2 ⟨rfl, hb⟩
    have HB1 := Lib.hid (below_on HB0.out hb (Nat.le_refl _))
    have HY1 := Lib.hid (below_on HY0.out hb (Nat.le_refl _))
    clear hb HB0 HY0
    have hA := HA0.out.on HY1.out
    have c0 := hA.cell 0
    have c1 := hA.cell 1
    have c2 := hA.cell 2
    have c3 := hA.cell 3
    have c4 := hA.cell 4
    have c5 := hA.cell 5
    have c6 := hA.cell 6
    have c7 := hA.cell 7
    have c8 := hA.cell 8
    have c9 := hA.cell 9
    have c10 := hA.cell 10
    have c11 := hA.cell 11
    have c12 := hA.cell 12
    simp at c0 c1 c2 c3 c4 c5 c6 c7 c8 c9 c10 c11 c12
    clear hA
    cases DB
    · have HF := Lib.hid (show B = false by rw [HE3.out]; rfl)
      go_wp2_with fail
      go_ret
      exact ⟨ret_bool (HF.out).symm, HB1.out⟩
    have HE4 := Lib.hid (show B = (decide (zl = 0) && (OB)) by rw [HE3.out]; rfl)
    clear HE3
    by_cases h7 : zl = 0
    case neg =>
      have p3 : ((zl : Int) == 0) = false := by rw [beq_eq_false_iff_ne]; omega
      have HF := Lib.hid (show B = false by rw [HE4.out, decide_eq_false h7]; rfl)
      clear h7
      go_wp2_with fail
      go_ret
      exact ⟨ret_bool (HF.out).symm, HB1.out⟩
    have HE5 := Lib.hid (show B = (OB) by rw [HE4.out, decide_eq_true h7]; rfl)
    clear HE4
    subst h7
    go_wp2_with fail
    refine (HOB.out _ (HF0.out.soa.on HY1.out)).mono ?_
    rintro e w3 ⟨rfl, hb⟩
    have HB2 := Lib.hid (below_on HB1.out hb (Nat.le_refl _))
    clear hb
    go_wp2_with fail
    go_ret
    exact ⟨ret_bool HE5.out.symm, HB2.out⟩
  · have HEa := Lib.hid (show B = (decide (f.ttl ≤ 10800) && (decide (sl = 0) && (ZB && (UB && (AB && ((decide (f.kind = 2) && TB) || (decide (f.kind = 3) && decide (f.typ = 0)))))))) by rw [HE6.out, if_neg hk]; simp only [Bool.and_assoc])
    have qk : (f.kind == 1) = false := by rw [beq_eq_false_iff_ne]; exact hk
    clear hk HE6
    have HE0 := Lib.hid HEa.out
    clear HEa
    by_cases h5 : f.ttl ≤ 10800
    case neg =>
      have p1 : decide (10800 < f.ttl) = true := decide_eq_true (by omega)
      have HF := Lib.hid (show B = false by rw [HE0.out, decide_eq_false h5]; rfl)
      clear h5
      go_wp2_with fail
      go_ret
      exact ⟨ret_bool (HF.out).symm, HB0.out⟩
    have p1 : decide (10800 < f.ttl) = false := decide_eq_false (by omega)
    have HE1 := Lib.hid (show B = (decide (sl = 0) && (ZB && (UB && (AB && (((decide (f.kind = 2) && TB) || (decide (f.kind = 3) && decide (f.typ = 0)))))))) by rw [HE0.out, decide_eq_true h5]; rfl)
    clear HE0
    clear h5
    by_cases h6 : sl = 0
    case neg =>
      have p2 : 0 < sl := by omega
      have HF := Lib.hid (show B = false by rw [HE1.out, decide_eq_false h6]; rfl)
      clear h6
      go_wp2_with fail
      go_ret
      exact ⟨ret_bool (HF.out).symm, HB0.out⟩
    have HE2 := Lib.hid (show B = (ZB && (UB && (AB && (((decide (f.kind = 2) && TB) || (decide (f.kind = 3) && decide (f.typ = 0))))))) by rw [HE1.out, decide_eq_true h6]; rfl)
    clear HE1
    subst h6
    go_wp2_with fail
    refine (HZB.out _ HF0.out.zone).mono ?_
    rintro e w' ⟨rfl, rfl⟩
    cases ZB
    · have HF := Lib.hid (show B = false by rw [HE2.out]; rfl)
      go_wp2_with fail
      go_ret
      exact ⟨ret_bool (HF.out).symm, HB0.out⟩
    have HE3 := Lib.hid (show B = (UB && (AB && (((decide (f.kind = 2) && TB) || (decide (f.kind = 3) && decide (f.typ = 0)))))) by rw [HE2.out]; rfl)
    clear HE2
    go_wp2_with fail
    refine (HUB.out _ HF0.out.name HF0.out.zone).mono ?_
    rintro e w2 ⟨rfl, hb⟩
    have HB1 := Lib.hid (below_on HB0.out hb (Nat.le_refl _))
    have HY1 := Lib.hid (below_on HY0.out hb (Nat.le_refl _))
    clear hb HB0 HY0
    have hA := HA0.out.on HY1.out
    have c0 := hA.cell 0
    have c1 := hA.cell 1
    have c2 := hA.cell 2
    have c3 := hA.cell 3
    have c4 := hA.cell 4
    have c5 := hA.cell 5
    have c6 := hA.cell 6
    have c7 := hA.cell 7
    have c8 := hA.cell 8
    have c9 := hA.cell 9
    have c10 := hA.cell 10
    have c11 := hA.cell 11
    have c12 := hA.cell 12
    simp at c0 c1 c2 c3 c4 c5 c6 c7 c8 c9 c10 c11 c12
    clear hA
    cases UB
    · have HF := Lib.hid (show B = false by rw [HE3.out]; rfl)
      go_wp2_with fail
      go_ret
      exact ⟨ret_bool (HF.out).symm, HB1.out⟩
    have HE4 := Lib.hid (show B = (AB && (((decide (f.kind = 2) && TB) || (decide (f.kind = 3) && decide (f.typ = 0))))) by rw [HE3.out]; rfl)
    clear HE3
    go_wp2_with fail
    refine (HAB.out _ (HF0.out.soa.on HY1.out)).mono ?_
    rintro e w3 ⟨rfl, hb⟩
    have HB2 := Lib.hid (below_on HB1.out hb (Nat.le_refl _))
    have HY2 := Lib.hid (below_on HY1.out hb (Nat.le_refl _))
    clear hb HB1 HY1
    clear c0 c1 c2 c3 c4 c5 c6 c7 c8 c9 c10 c11 c12
    have hA := HA0.out.on HY2.out
    have c0 := hA.cell 0
    have c1 := hA.cell 1
    have c2 := hA.cell 2
    have c3 := hA.cell 3
    have c4 := hA.cell 4
    have c5 := hA.cell 5
    have c6 := hA.cell 6
    have c7 := hA.cell 7
    have c8 := hA.cell 8
    have c9 := hA.cell 9
    have c10 := hA.cell 10
    have c11 := hA.cell 11
    have c12 := hA.cell 12
    simp at c0 c1 c2 c3 c4 c5 c6 c7 c8 c9 c10 c11 c12
    clear hA
    cases AB
    · have HF := Lib.hid (show B = false by rw [HE4.out]; rfl)
      go_wp2_with fail
      go_ret
      exact ⟨ret_bool (HF.out).symm, HB2.out⟩
    have HE5 := Lib.hid (show B = (((decide (f.kind = 2) && TB) || (decide (f.kind = 3) && decide (f.typ = 0)))) by rw [HE4.out]; rfl)
    clear HE4
    by_cases hk2 : f.kind = 2
    · have q2 : (f.kind == 2) = true := by rw [hk2]; rfl
      have q3 : (f.kind == 3) = false := by rw [hk2]; rfl
      have HG := Lib.hid (show B = TB by rw [HE5.out, decide_eq_true hk2, decide_eq_false (show ¬ f.kind = 3 by omega)]; cases TB <;> rfl)
      clear hk2 HE5 qk
      go_wp2_with fail
      refine (HTB.out _).mono ?_
      rintro e w' ⟨rfl, rfl⟩
      cases TB
      all_goals
        go_wp2_with fail
        go_ret
        exact ⟨ret_bool HG.out.symm, HB2.out⟩
    · have q2 : (f.kind == 2) = false := by rw [beq_eq_false_iff_ne]; exact hk2
      by_cases hk3 : f.kind = 3
      · have q3 : (f.kind == 3) = true := by rw [hk3]; rfl
        have HG := Lib.hid (show B = (f.typ == 0) by
          rw [HE5.out, decide_eq_true hk3, decide_eq_false hk2, Bool.eq_iff_iff, beq_iff_eq]
          simp)
        clear hk2 hk3 HE5 qk
        go_wp2_with fail
        go_ret
        exact ⟨ret_bool HG.out.symm, HB2.out⟩
      · have q3 : (f.kind == 3) = false := by rw [beq_eq_false_iff_ne]; exact hk3
        have HG := Lib.hid (show B = false by
          rw [HE5.out, decide_eq_false hk3, decide_eq_false hk2]
          rfl)
        clear hk2 hk3 HE5 qk
        go_wp2_with fail
        go_ret
        exact ⟨ret_bool HG.out.symm, HB2.out⟩
end
section
open Go.ChangeShapes Go.WideShapes Go.ChangeAt Go.RowKit
noncomputable abbrev intR : Value → Option (DataW Unit × List MemPlace) := plainElem Tryz.prog 3
/-- what stands for a key; the newest entry first -/
def getR (R : List (List UInt8 × Nat)) (key : List UInt8) : Option Nat := (R.find? fun x => decide (x.1 = key)).map (·.2)
def MapI (w : World) (M : Nat) (R : List (List UInt8 × Nat)) : Prop :=
  ∃ D, w.ownsMap Tryz.prog 9 intR M R.length D ∧ ∀ key z, D.atKey (.string key) z = (match getR R key with | some v => .lit (.int .i64 (v : Int)) | none => z)
theorem MapI.lt {w : World} {M : Nat} {R : List (List UInt8 × Nat)} (h : MapI w M R) : M < w.heap.size := by
  obtain ⟨D, h1, _⟩ := h
  exact h1.lt
theorem MapI.keep {w w' : World} {M : Nat} {R : List (List UInt8 × Nat)} (h : MapI w M R) (hb : w'.heap[M]? = w.heap[M]?) : MapI w' M R := by
  obtain ⟨D, ⟨es, clock, h1, h2⟩, r⟩ := h
  exact ⟨D, ⟨es, clock, hb.trans h1, h2⟩, r⟩
theorem MapI.on {w w' : World} {M : Nat} {R : List (List UInt8 × Nat)} (h : MapI w M R) (hb : Below w.heap.size w w') : MapI w' M R := h.keep (hb.block M h.lt)
theorem MapI.map {w : World} {M : Nat} {R : List (List UInt8 × Nat)} (h : MapI w M R) : ∃ es c, w.heap[M]? = some (.map es c) := by
  obtain ⟨D, ⟨es, clock, h1, h2⟩, r⟩ := h
  exact ⟨es, clock, h1⟩
theorem MapI.only {S : List TypeId} {B : Nat} {w w' : World} {M : Nat} {R : List (List UInt8 × Nat)} (h : MapI w M R) (ho : Only S B w w') : MapI w' M R := by
  obtain ⟨es, c, e⟩ := h.map
  exact h.keep (ho.keep M h.lt fun ht => by
    obtain ⟨cs, t, e2, _⟩ := ht
    rw [e] at e2
    cases e2)
theorem MapI.ne {w : World} {b M : Nat} {cs : Array Value} {T : TypeId} {R : List (List UInt8 × Nat)} (h : MapI w M R) (hb : Blk w b cs T) : b ≠ M := by
  rintro rfl
  obtain ⟨es, c, e⟩ := h.map
  rw [show w.heap[b]? = _ from hb] at e
  cases e
theorem MapI.fresh {w : World} {M : Nat} (h : w.heap[M]? = some (.map #[] 0)) : MapI w M [] :=
  ⟨.map [], ⟨#[], 0, h, ⟨by simp, Go.MapKept.stamped_empty 0, by simp⟩, Nat.le_refl _, rfl⟩, fun _ _ => rfl⟩
theorem zeroInt (w : World) : (zeroValue 3).run Tryz.prog w = .ok (.int .i64 0) w := by kernel_rfl
/-- 'v, ok := m[k]' -/
theorem MapI.look {w : World} {M : Nat} {R : List (List UInt8 × Nat)} (h : MapI w M R) {key : List UInt8} (hk : key.length ≤ 4611686018427387904) :
    (Instr.lookup 157 (.map (some M)) (.string ⟨key.toArray⟩) true).run Tryz.prog w = .ok (match getR R key with | some v => .tuple #[.int .i64 (v : Int), .bool true] | none => .tuple #[.int .i64 0, .bool false]) w := by
  obtain ⟨D, h1, h4⟩ := h
  have hz : intR (.int .i64 0) = some (.lit (.int .i64 0), []) := plainElem_int Tryz.underlying3 (by decide)
  obtain ⟨v, ps, hrun, hv⟩ := h1.look_ok lawK Tryz.underlying157 (zeroInt w) hz (keyStr hk)
  rw [hrun]
  obtain ⟨c, rfl, hc, hwc⟩ := plainElem_int_inv Tryz.underlying3 hv
  have h5 := h4 key
  rw [h4] at hc
  simp only [Prod.mk.injEq] at hc
  cases hat : getR R key with
  | none =>
    rw [hat] at hc h5
    have e : (0 : Int) = c := by have := hc.1; simpa using this
    rw [← e, Maps.has_false_of_atKey h5]
  | some s =>
    rw [hat] at hc h5
    have e : (s : Int) = c := by have := hc.1; simpa using this
    rw [← e, Maps.has_true_of_atKey h5]
theorem getR_cons (R : List (List UInt8 × Nat)) (k key : List UInt8) (v : Nat) : getR ((k, v) :: R) key = if key = k then some v else getR R key := by
  unfold getR
  by_cases h : key = k
  · subst h; simp
  · rw [if_neg h, List.find?_cons_of_neg (by simp; exact fun e => h e.symm)]
/-- 'm[k] = v' -/
theorem MapI.store {w : World} {M : Nat} {R : List (List UInt8 × Nat)} (h : MapI w M R) {key : List UInt8} (hk : key.length ≤ 4611686018427387904) (v : Nat) (hv : v ≤ 1000000000) (hR : R.length ≤ 1000000000) :
    ∃ w', (Instr.mapUpdate 157 (.map (some M)) (.string ⟨key.toArray⟩) (.int .i64 (v : Int))).run Tryz.prog w = .ok () w' ∧ MapI w' M ((key, v) :: R) ∧ w.grownBy w' (some M) := by
  obtain ⟨D, h1, h4⟩ := h
  have hw : (Lit.int .i64 (v : Int)).wf = true := by simp [Lit.wf, IntKind.min, IntKind.max, IntKind.bits, IntKind.signed]; omega
  obtain ⟨w', hrun, hown, hg⟩ := h1.update lawK Tryz.underlying157 (by unfold maxLen; omega) (keyStr hk) (val := .int .i64 (v : Int)) (plainElem_int Tryz.underlying3 hw)
  refine ⟨w', hrun, ⟨_, hown, fun k2 z => ?_⟩, hg⟩
  rw [getR_cons]
  by_cases hkk : k2 = key
  · subst hkk
    rw [if_pos rfl, Maps.atKey_put_same h1.isMap (lawK.key (keyStr hk))]
  · rw [if_neg hkk, Maps.atKey_put_other (by intro e; cases e; exact hkk rfl), h4]
end
section
open Go.ChangeShapes Go.WideShapes Go.ChangeAt Go.RowKit
/-- what a name turns: where rests stand, and the bytes -/
def nameW (short : Bool) : List ByteArray → List (List UInt8 × Nat) → List UInt8 → List (List UInt8 × Nat) × List UInt8
  | [], R, b => (R, b ++ putN 0 1)
  | l :: ls, R, b =>
    match getR R (restP (l :: ls)) with
    | some at' => if short then (R, b ++ putN ((49152 + at' : Nat) : Int) 2) else nameW short ls R ((b ++ putN (l.size : Int) 1) ++ l.data.toList)
    | none => nameW short ls (if b.length < 16384 then (restP (l :: ls), b.length) :: R else R) ((b ++ putN (l.size : Int) 1) ++ l.data.toList)
def lowR (R : List (List UInt8 × Nat)) : Prop := ∀ x ∈ R, x.2 < 16384
theorem lowR.get {R : List (List UInt8 × Nat)} (h : lowR R) {k : List UInt8} {v : Nat} (e : getR R k = some v) : v < 16384 := by
  unfold getR at e
  obtain ⟨x, hx, rfl⟩ := Option.map_eq_some_iff.1 e
  exact h x (List.mem_of_find?_eq_some hx)
theorem or_ptr {v : Nat} (h : v < 16384) : bits BinOp.or IntKind.i64 49152 (v : Int) = ((49152 + v : Nat) : Int) := by
  have := i64_or_nat 49152 v (by omega) (by omega)
  rw [show ((49152 : Nat) : Int) = 49152 from rfl] at this
  rw [this, nat_join 14 49152 v (by decide) (by omega)]
/-- a writer, with where rests stand -/
structure IsWR (N : Nat) (w : World) (R M : Nat) (b : List UInt8) (rs : List (List UInt8 × Nat)) : Prop where
  iw : IsW N w R M b
  m : MapI w M rs
  base : N ≤ M
  low : lowR rs
  cnt : rs.length ≤ 1000000
theorem IsWR.on {N : Nat} {w w' : World} {R M : Nat} {b : List UInt8} {rs : List (List UInt8 × Nat)} (h : IsWR N w R M b rs) (hb : Below w.heap.size w w') : IsWR N w' R M b rs := ⟨h.iw.on hb, h.m.on hb, h.base, h.low, h.cnt⟩
/-- of what is there only blocks of the types S, and the map M, turn -/
structure OnlyM (S : List TypeId) (B M : Nat) (w w' : World) : Prop where
  bel : Below B w w'
  keep : ∀ b, b < w.heap.size → ¬ tagged S w b → b ≠ M → w'.heap[b]? = w.heap[b]?
theorem OnlyM.refl (S : List TypeId) (B M : Nat) (w : World) : OnlyM S B M w w := ⟨Below.refl _ _, fun _ _ _ _ => rfl⟩
theorem OnlyM.of {S : List TypeId} {B M : Nat} {w w' : World} (h : Only S B w w') : OnlyM S B M w w' := ⟨h.bel, fun b hb hn _ => h.keep b hb hn⟩
theorem OnlyM.below {S : List TypeId} {B M : Nat} {w w' : World} (h : Below w.heap.size w w') (hB : B ≤ w.heap.size) : OnlyM S B M w w' := .of (Only.below h hB)
theorem OnlyM.put {S : List TypeId} {B M : Nat} {w w' : World} (h : w.grownBy w' (some M)) (hB : B ≤ M) (hw : B ≤ w.heap.size) : OnlyM S B M w w' := ⟨below_of_but h hB hw, fun b hb _ hm => h.block b hb (fun e => hm (Option.some.inj e))⟩
theorem OnlyM.trans {S : List TypeId} {B M : Nat} {a b c : World} (h : OnlyM S B M a b) (k : OnlyM S B M b c) : OnlyM S B M a c :=
  ⟨h.bel.trans k.bel, fun x hx hn hm => by
    have e := h.keep x hx hn hm
    have hl : x < b.heap.size := by have := h.bel.size; omega
    rw [k.keep x hl (fun ht => hn (by obtain ⟨cs, t, h1, h2⟩ := ht; exact ⟨cs, t, e ▸ h1, h2⟩)) hm, e]⟩
theorem OnlyM.same {S : List TypeId} {B M : Nat} {w w' : World} (h : OnlyM S B M w w') : Same (fun b => b < B ∨ (¬ tagged S w b ∧ b ≠ M)) w w' := fun b hb hs => hs.elim (h.bel.block b) (fun k => h.keep b hb k.1 k.2)
theorem OnlyM.blk {S : List TypeId} {B M : Nat} {w w' : World} (h : OnlyM S B M w w') {g : Nat} {cs : Array Value} {T : TypeId} (hb : Blk w g cs T) (hT : T ∉ S) (hm : g ≠ M) : Blk w' g cs T := by
  unfold Blk at hb ⊢
  rw [h.keep g (Array.getElem?_eq_some_iff.1 hb).1 (fun ⟨cs', t, h1, h2⟩ => by rw [hb] at h1; cases h1; exact hT h2) hm, hb]
theorem IsW.map {N : Nat} {w w' : World} {R M : Nat} {b : List UInt8} (h : IsW N w R M b) {rs : List (List UInt8 × Nat)} (hM : MapI w M rs) (hg : w.grownBy w' (some M)) : IsW N w' R M b := by
  obtain ⟨v, h1, h2⟩ := h.ex
  refine ⟨⟨v, h1.but hg (hM.ne h1), h2.kept hg ?_⟩, h.base⟩
  cases hv : v.ownBlock with
  | none => exact .inl rfl
  | some k =>
    right
    intro e2
    obtain ⟨cs2, h3, _⟩ := owns_tag h2 hv
    exact hM.ne h3 (Option.some.inj e2)
theorem IsW.mcell {N : Nat} {w : World} {R M : Nat} {b : List UInt8} (h : IsW N w R M b) : w.cell? ⟨R, 1, none⟩ = some (.map (some M)) := by
  obtain ⟨v, h1, _⟩ := h.ex
  exact h1.cell 1
theorem IsW.bcell {N : Nat} {w : World} {R M : Nat} {b : List UInt8} (h : IsW N w R M b) : ∃ ao c, w.cell? ⟨R, 0, none⟩ = some (.slice ao b.length c) ∧ ∀ w' : World, Below w.heap.size w w' → w'.cell? ⟨R, 0, none⟩ = some (.slice ao b.length c) := by
  obtain ⟨v, h1, h2⟩ := h.ex
  rcases h2.2 with ⟨rfl, e⟩ | ⟨g, cap, cur, rfl, _⟩
  · rw [e]
    exact ⟨none, 0, h1.cell 0, fun w' hb => (h1.on hb).cell 0⟩
  · exact ⟨_, cap, h1.cell 0, fun w' hb => (h1.on hb).cell 0⟩
theorem fit_one {n : Nat} (h : n < 256) : fitK (n : Int) 1 = true := by
  simp [fitK]
  omega
theorem byts_conv {w : World} {B n c : Nat} {l : List UInt8} (h : ByteRow w B l) (hn : l.length = n) (h1 : n ≤ c) (h2 : c ≤ 9223372036854775807) (h3 : n ≤ 140737488355328) : Byts w (some ⟨B, 0, none⟩) n c l := by
  refine ⟨by simpa using hn, h1, h2, h3, fun e => (by cases e), fun _ => ⟨B, 0, rfl, fun i hi => ?_⟩⟩
  rw [Nat.zero_add, h.cell (by simpa using hi)]
  simp
theorem data_len (x : ByteArray) : x.data.toList.length = x.size := by
  rw [Array.length_toList]
  rfl
theorem sound_small {ss : List ByteArray} (h : soundB ss = true) : sizeN ss ≤ 255 ∧ ∀ l ∈ ss, l.size ≤ 63 := by
  simp only [soundB, Bool.and_eq_true, decide_eq_true_eq, Bool.not_eq_true', List.any_eq_false] at h
  refine ⟨by omega, fun l hl => ?_⟩
  have := h.2.1 l hl
  simp only [badL, Bool.or_eq_true, not_or, decide_eq_true_eq] at this
  omega
set_option maxHeartbeats 32000000 in
set_option maxRecDepth 100000 in
theorem wname_any (w : World) (N R M : Nat) (b : List UInt8) (rs : List (List UInt8 × Nat)) (hW : IsWR N w R M b rs) (ao : Option Addr) (len cap : Nat) (ss : List ByteArray) (hs : Strs w ao len cap ss) (hso : soundB ss = true) (hni : rowIn (fun b => b < N ∨ ¬ tagged wrT w b) ao len) (short : Bool) (hb : b.length ≤ 90000000) (hr : rs.length ≤ 900000) :
    Calls Tryz.prog 71 #[.pointer (some ⟨R, 0, none⟩), .slice ao len cap, .bool short] w fun e w' => e = .returned (.int .i64 0) ∧ IsWR N w' R M (nameW short ss rs b).2 (nameW short ss rs b).1 ∧ OnlyM wrT N M w w' := by
  have HS := Lib.hid (sound_any w ao len cap ss hs)
  rw [hso] at HS
  have hlen : ss.length = len := by have := hs.row.hlen; simpa using this
  have hcap := hs.row.hcap
  have hle := hs.row.hle
  have hz := sound_small hso
  have hl255 : len ≤ 255 := by have := sizeN_len ss; omega
  have hni2 : rowIn (fun b => b < N ∨ (¬ tagged wrT w b ∧ b ≠ M)) ao len := fun h0 a ha => by
    refine (hni h0 a ha).imp id (fun hn => ⟨hn, ?_⟩)
    obtain ⟨bb, off, e, hc⟩ := hs.row.hcells h0
    rw [ha] at e
    cases e
    rintro rfl
    have c0 := hc 0 (by simpa [hlen] using h0)
    obtain ⟨es, c, e⟩ := hW.m.map
    unfold World.cell? at c0
    rw [e] at c0
    simp at c0
  have HA := Lib.hid (And.intro hs (And.intro hlen (And.intro hz (And.intro hni2 (And.intro hb (And.intro hr (And.intro hW.iw.lt hW.base)))))))
  have HW := Lib.hid hW
  clear hs hlen hz hni hni2 hb hr hW hso
  go_enter Tryz.func71, Tryz.ntmps71
  go_wp2_with (go_at_call 67; refine HS.out.mono ?_; rintro e w ⟨rfl, rfl⟩)
  go_loopw [7, 8, 9, 10, 11, 21] (fun _ _ _ _ _ i wr => ∃ k : Nat, k ≤ len ∧ i = .int .i64 (k : Int) ∧ ∃ rk bk, Hid (IsWR N wr R M bk rk ∧ OnlyM wrT N M w wr ∧ nameW short (ss.drop k) rk bk = nameW short ss rs b ∧ bk.length ≤ b.length + sizeN (ss.take k) ∧ rk.length ≤ rs.length + k)) (fun _ _ _ _ _ i _ => len - (intOf i).toNat)
  case atStart => exact ⟨0, Nat.zero_le _, rfl, rs, b, Lib.hid ⟨HW.out, OnlyM.refl _ _ _ _, rfl, by simp, by simp⟩⟩
  case round =>
    obtain ⟨k, hk, rfl, rk, bk, hinv⟩ := hrel
    have hbk : bk.length ≤ 90000300 := by have := hinv.out.2.2.2.1; have := sizeN_take_le ss k; have := HA.out.2.2.1.1; have := HA.out.2.2.2.2.1; omega
    have HBK := Lib.hid hbk
    by_cases hlt : k < len
    · have hkx : k < ss.length := by rw [HA.out.2.1]; exact hlt
      have hsw := HA.out.1.keep HA.out.2.2.2.1 hinv.out.2.1.same
      obtain ⟨bb, off, rfl, hc⟩ := hsw.row.hcells (by omega)
      have c0 : wr.cell? ⟨bb, off + k, none⟩ = some (.string ss[k]) := by have := hc k (by simpa using hkx); simpa using this
      have hck : ¬ cap = k := by omega
      have hdrop : ss.drop k = ss[k] :: ss.drop (k + 1) := List.drop_eq_getElem_cons hkx
      have hn := hinv.out.2.2.1
      rw [hdrop, nameW] at hn
      have hcut := hsw.cut (k := k) (by omega)
      rw [hdrop] at hcut
      simp only [Option.map_some, addr_add] at hcut
      obtain ⟨x, hx⟩ : ∃ x, x = ss[k] := ⟨_, rfl⟩
      rw [← hx] at c0 hn hcut
      obtain ⟨ks, hks⟩ : ∃ q, q = restP (x :: ss.drop (k + 1)) := ⟨_, rfl⟩
      rw [← hks] at hn
      have hsz1 : sizeN (x :: ss.drop (k + 1)) ≤ 255 := by
        rw [hx, ← hdrop]
        have h1 := sizeN_append (ss.take k) (ss.drop k)
        rw [List.take_append_drop] at h1
        have := HA.out.2.2.1.1
        omega
      have hkl : ks.length ≤ 255 := by rw [hks, restP_len]; exact hsz1
      have hx63 : x.size ≤ 63 := by rw [hx]; exact HA.out.2.2.1.2 _ (List.getElem_mem hkx)
      have hst : sizeN (ss.take (k + 1)) = sizeN (ss.take k) + (x.size + 1) := by rw [sizeN_take_succ _ _ hkx, hx]
      have HRE := Lib.hid (rest_any wr _ _ _ (x :: ss.drop (k + 1)) hcut (by omega))
      rw [← hks] at HRE
      have HX := Lib.hid (And.intro hn (And.intro hkl (And.intro hx63 hst)))
      clear hc hdrop hn hcut hx hks hsz1 hkl hx63 hst hsw hkx
      clear hk hcap hle hbk
      cases hg : getR rk ks with
      | some v =>
        rw [hg] at HX
        have hv := hinv.out.1.low.get hg
        have HV := Lib.hid (And.intro hg hv)
        cases short
        · simp only [Bool.false_eq_true, if_false] at HX
          clear hg hv
          go_wp2_with (first | (go_at_call 100; refine HRE.out.mono ?_; rintro e W2 ⟨rfl, hb2⟩; have hm2 := (hinv.out.1.m.on hb2).look (key := ks) (by have := HX.out.2.1; omega); rw [HV.out.1] at hm2; have c1 : W2.cell? ⟨R, 1, none⟩ = some (.map (some M)) := (hinv.out.1.iw.on hb2).mcell; have H2 := Lib.hid hb2; clear hb2) | (go_at_call 69; refine (wnum_any W2 N R M bk (hinv.out.1.iw.on H2.out) (x.size : Int) 1 (by omega) (by omega) (fit_one (by have := HX.out.2.2.1; omega)) (by have := HBK.out; omega)).mono ?_; rintro e W3 ⟨rfl, hw3, ho3⟩; obtain ⟨xc, W4, hcv, hx1, hx2, hx3, hx4, hx5⟩ := conv_bytes (P := Tryz.prog) W3 9 49 5 x Tryz.underlying9 Tryz.underlying49 Tryz.underlying5 (by have := HX.out.2.2.1; omega); have H3 := Lib.hid (And.intro (hw3.on hx3) (And.intro ho3 (And.intro hx3 (byts_conv hx5 (data_len x) hx1 hx2 (by have := HX.out.2.2.1; omega))))); clear hw3 ho3 hx1 hx2 hx3 hx4 hx5) | (go_at_call 98; refine (wraw_any W4 N R M _ H3.out.1 _ x.size xc x.data.toList H3.out.2.2.2 (by rw [List.length_append, putB_len]; have := HBK.out; have := HX.out.2.2.1; omega)).mono ?_; rintro e W5 ⟨rfl, hw5, ho5⟩; have H5 := Lib.hid (And.intro hw5 ho5); clear hw5 ho5 hcv))
          go_roundw
          case rel =>
            have z2 := H2.out.size
            have z3 := H3.out.2.1.bel.size
            have z4 := HA.out.2.2.2.2.2.2.1
            refine ⟨k + 1, by omega, by go_num, rk, _, Lib.hid ⟨⟨H5.out.1, ((((hinv.out.1.m.on H2.out).only H3.out.2.1).on H3.out.2.2.1).only H5.out.2), hinv.out.1.base, hinv.out.1.low, hinv.out.1.cnt⟩, ((hinv.out.2.1.trans (.below H2.out (by have := hinv.out.2.1.bel.size; omega))).trans (.of (H3.out.2.1.trans ((Only.below H3.out.2.2.1 (by have := hinv.out.2.1.bel.size; omega)).trans H5.out.2)))), HX.out.1, ?_, (by have := hinv.out.2.2.2.2; omega)⟩⟩
            rw [List.length_append, List.length_append, putB_len]
            have := hinv.out.2.2.2.1
            have := HX.out.2.2.2
            have e := data_len x
            omega
          case measure => simp [intOf]; omega
        · simp only [if_true] at HX
          have hor : bits BinOp.or IntKind.i64 49152 (v : Int) = 49152 + (v : Int) := by rw [or_ptr hv]; simp
          have hf : fitK (49152 + (v : Int)) 2 = true := by simp [fitK]; omega
          have HF := Lib.hid hf
          clear hg hv hf
          go_wp2_with (first | (go_at_call 100; refine HRE.out.mono ?_; rintro e W2 ⟨rfl, hb2⟩; have hm2 := (hinv.out.1.m.on hb2).look (key := ks) (by have := HX.out.2.1; omega); rw [HV.out.1] at hm2; have c1 : W2.cell? ⟨R, 1, none⟩ = some (.map (some M)) := (hinv.out.1.iw.on hb2).mcell; have H2 := Lib.hid hb2; clear hb2) | (go_at_call 69; refine (wnum_any W2 N R M bk (hinv.out.1.iw.on H2.out) (49152 + (v : Int)) 2 (by omega) (by omega) HF.out (by have := HBK.out; omega)).mono ?_; rintro e W3 ⟨rfl, hw3, ho3⟩; have H3 := Lib.hid (And.intro hw3 ho3); clear hw3 ho3))
          go_ret
          rw [← HX.out.1]
          exact ⟨rfl, ⟨by simpa using H3.out.1, (hinv.out.1.m.on H2.out).only H3.out.2, hinv.out.1.base, hinv.out.1.low, hinv.out.1.cnt⟩, (hinv.out.2.1.trans (.below H2.out (by have := hinv.out.2.1.bel.size; have := HA.out.2.2.2.2.2.2.1; omega))).trans (.of H3.out.2)⟩
      | none =>
        rw [hg] at HX
        have HV := Lib.hid hg
        obtain ⟨bo, bc, hbc, hbcw⟩ := hinv.out.1.iw.bcell
        have HBC := Lib.hid hbcw
        clear hg hbc hbcw
        cases hlow : decide ((bk.length : Int) < 16384)
        · have HX2 := Lib.hid (show nameW short (ss.drop (k + 1)) rk ((bk ++ putN (x.size : Int) 1) ++ x.data.toList) = nameW short ss rs b from by
            have h := HX.out.1
            have hn : ¬ bk.length < 16384 := by have := of_decide_eq_false hlow; omega
            rw [if_neg hn] at h
            exact h)
          go_wp2_with (first | (go_at_call 100; refine HRE.out.mono ?_; rintro e W2 ⟨rfl, hb2⟩; have hm2 := (hinv.out.1.m.on hb2).look (key := ks) (by have := HX.out.2.1; omega); rw [HV.out] at hm2; have c1 : W2.cell? ⟨R, 1, none⟩ = some (.map (some M)) := (hinv.out.1.iw.on hb2).mcell; have c0w := HBC.out W2 hb2; have H2 := Lib.hid hb2; clear hb2) | (go_at_call 69; refine (wnum_any W2 N R M bk (hinv.out.1.iw.on H2.out) (x.size : Int) 1 (by omega) (by omega) (fit_one (by have := HX.out.2.2.1; omega)) (by have := HBK.out; omega)).mono ?_; rintro e W3 ⟨rfl, hw3, ho3⟩; obtain ⟨xc, W4, hcv, hx1, hx2, hx3, hx4, hx5⟩ := conv_bytes (P := Tryz.prog) W3 9 49 5 x Tryz.underlying9 Tryz.underlying49 Tryz.underlying5 (by have := HX.out.2.2.1; omega); have H3 := Lib.hid (And.intro (hw3.on hx3) (And.intro ho3 (And.intro hx3 (byts_conv hx5 (data_len x) hx1 hx2 (by have := HX.out.2.2.1; omega))))); clear hw3 ho3 hx1 hx2 hx3 hx4 hx5) | (go_at_call 98; refine (wraw_any W4 N R M _ H3.out.1 _ x.size xc x.data.toList H3.out.2.2.2 (by rw [List.length_append, putB_len]; have := HBK.out; have := HX.out.2.2.1; omega)).mono ?_; rintro e W5 ⟨rfl, hw5, ho5⟩; have H5 := Lib.hid (And.intro hw5 ho5); clear hw5 ho5 hcv))
          go_roundw
          case rel =>
            have z2 := H2.out.size
            have z3 := H3.out.2.1.bel.size
            have z4 := HA.out.2.2.2.2.2.2.1
            refine ⟨k + 1, by omega, by go_num, rk, _, Lib.hid ⟨⟨H5.out.1, ((((hinv.out.1.m.on H2.out).only H3.out.2.1).on H3.out.2.2.1).only H5.out.2), hinv.out.1.base, hinv.out.1.low, hinv.out.1.cnt⟩, ((hinv.out.2.1.trans (.below H2.out (by have := hinv.out.2.1.bel.size; omega))).trans (.of (H3.out.2.1.trans ((Only.below H3.out.2.2.1 (by have := hinv.out.2.1.bel.size; omega)).trans H5.out.2)))), HX2.out, ?_, (by have := hinv.out.2.2.2.2; omega)⟩⟩
            rw [List.length_append, List.length_append, putB_len]
            have := hinv.out.2.2.2.1
            have := HX.out.2.2.2
            have e := data_len x
            omega
          case measure => simp [intOf]; omega
        · have hn : bk.length < 16384 := by have := of_decide_eq_true hlow; omega
          have HX2 := Lib.hid (show nameW short (ss.drop (k + 1)) ((ks, bk.length) :: rk) ((bk ++ putN (x.size : Int) 1) ++ x.data.toList) = nameW short ss rs b from by
            have h := HX.out.1
            rw [if_pos hn] at h
            exact h)
          have HLO := Lib.hid hn
          clear hn
          go_wp2_with (go_at_call 100; refine HRE.out.mono ?_; rintro e W2 ⟨rfl, hb2⟩; have hm2 := (hinv.out.1.m.on hb2).look (key := ks) (by have := HX.out.2.1; omega); rw [HV.out] at hm2; have c1 : W2.cell? ⟨R, 1, none⟩ = some (.map (some M)) := (hinv.out.1.iw.on hb2).mcell; have c0w := HBC.out W2 hb2; have H2 := Lib.hid hb2; clear hb2)
          have hbd : Below W2.heap.size W2 W2.drew := Below.drew (Below.refl _ _)
          obtain ⟨W6, hup, hm6, hg6⟩ := (hinv.out.1.m.on (below_on H2.out hbd (Nat.le_refl _))).store (key := ks) (by have := HX.out.2.1; omega) bk.length (by have := HBK.out; omega) (by have := hinv.out.1.cnt; omega)
          have hi6 := ((hinv.out.1.iw.on H2.out).on hbd).map ((hinv.out.1.m.on H2.out).on hbd) hg6
          have H6 := Lib.hid (And.intro hi6 (And.intro hm6 (And.intro hbd hg6)))
          clear hbd hm6 hg6 hi6
          go_region
          all_goals go_split_ands
          go_wp2_with (first | (go_at_call 69; refine (wnum_any W6 N R M bk H6.out.1 (x.size : Int) 1 (by omega) (by omega) (fit_one (by have := HX.out.2.2.1; omega)) (by have := HBK.out; omega)).mono ?_; rintro e W3 ⟨rfl, hw3, ho3⟩; obtain ⟨xc, W4, hcv, hx1, hx2, hx3, hx4, hx5⟩ := conv_bytes (P := Tryz.prog) W3 9 49 5 x Tryz.underlying9 Tryz.underlying49 Tryz.underlying5 (by have := HX.out.2.2.1; omega); have H3 := Lib.hid (And.intro (hw3.on hx3) (And.intro ho3 (And.intro hx3 (byts_conv hx5 (data_len x) hx1 hx2 (by have := HX.out.2.2.1; omega))))); clear hw3 ho3 hx1 hx2 hx3 hx4 hx5) | (go_at_call 98; refine (wraw_any W4 N R M _ H3.out.1 _ x.size xc x.data.toList H3.out.2.2.2 (by rw [List.length_append, putB_len]; have := HBK.out; have := HX.out.2.2.1; omega)).mono ?_; rintro e W5 ⟨rfl, hw5, ho5⟩; have H5 := Lib.hid (And.intro hw5 ho5); clear hw5 ho5 hcv))
          go_roundw
          case rel =>
            have z2 := H2.out.size
            have z3 := H3.out.2.1.bel.size
            have z5 := H6.out.2.2.1.size
            have z6 := H6.out.2.2.2.size
            have z4 := HA.out.2.2.2.2.2.2.1
            refine ⟨k + 1, by omega, by go_num, (ks, bk.length) :: rk, _, Lib.hid ⟨⟨H5.out.1, (((H6.out.2.1.only H3.out.2.1).on H3.out.2.2.1).only H5.out.2), hinv.out.1.base, (fun y hy => by rcases List.mem_cons.1 hy with rfl | hy; exact HLO.out; exact hinv.out.1.low y hy), (by have := hinv.out.2.2.2.2; have := HA.out.2.2.2.2.2.1; simp; omega)⟩, ((((hinv.out.2.1.trans (.below H2.out (by have := hinv.out.2.1.bel.size; omega))).trans (.below H6.out.2.2.1 (by have := hinv.out.2.1.bel.size; have := H2.out.size; omega))).trans (.put H6.out.2.2.2 hinv.out.1.base (by have := hinv.out.2.1.bel.size; have := H2.out.size; have := H6.out.2.2.1.size; omega))).trans (.of (H3.out.2.1.trans ((Only.below H3.out.2.2.1 (by have := hinv.out.2.1.bel.size; omega)).trans H5.out.2)))), HX2.out, ?_, (by have := hinv.out.2.2.2.2; simp; omega)⟩⟩
            rw [List.length_append, List.length_append, putB_len]
            have := hinv.out.2.2.2.1
            have := HX.out.2.2.2
            have e := data_len x
            omega
          case measure => simp [intOf]; omega
    · have hkl : k = ss.length := by rw [HA.out.2.1]; omega
      have hn0 := hinv.out.2.2.1
      rw [hkl, List.drop_length, nameW] at hn0
      have HN := Lib.hid (wnum_any wr N R M bk hinv.out.1.iw 0 1 (by omega) (by omega) (by decide) (by omega))
      have H0 := Lib.hid hn0
      clear hn0 hkl hbk
      go_wp2_with (go_at_call 69; refine HN.out.mono ?_; rintro e W2 ⟨rfl, hw2, ho2⟩; have H2 := Lib.hid (And.intro hw2 ho2); clear hw2 ho2)
      go_ret
      rw [← H0.out]
      exact ⟨rfl, ⟨H2.out.1, hinv.out.1.m.only H2.out.2, hinv.out.1.base, hinv.out.1.low, hinv.out.1.cnt⟩, hinv.out.2.1.trans (.of H2.out.2)⟩
end
section
open Go.ChangeShapes Go.WideShapes Go.ChangeAt Go.RowKit
def numsW (l : List Int) (size : Nat) : List UInt8 := l.flatMap fun n => putN n size
theorem numsW_snoc (l : List Int) (size : Nat) {k : Nat} (h : k < l.length) : numsW (l.take (k + 1)) size = numsW (l.take k) size ++ putN l[k] size := by
  rw [List.take_succ_eq_append_getElem h, numsW, List.flatMap_append]
  simp [numsW]
theorem numsW_len (l : List Int) (size : Nat) : (numsW l size).length = l.length * size := by
  induction l with
  | nil => simp [numsW]
  | cons n l ih =>
    rw [numsW, List.flatMap_cons, List.length_append, putB_len, List.length_cons, Nat.succ_mul]
    rw [numsW] at ih
    omega
def textW (t : ByteArray) : List UInt8 := putN (t.size : Int) 1 ++ t.data.toList
def textsW (l : List ByteArray) : List UInt8 := l.flatMap textW
theorem textsW_snoc (l : List ByteArray) {k : Nat} (h : k < l.length) : textsW (l.take (k + 1)) = (textsW (l.take k) ++ putN (l[k].size : Int) 1) ++ l[k].data.toList := by
  rw [List.take_succ_eq_append_getElem h, textsW, List.flatMap_append]
  simp [textsW, textW]
theorem IsWR.step {N : Nat} {w w' : World} {R M : Nat} {b b' : List UInt8} {rs : List (List UInt8 × Nat)} (h : IsWR N w R M b rs) (hw : IsW N w' R M b') (ho : Only wrT N w w') : IsWR N w' R M b' rs := ⟨hw, h.m.only ho, h.base, h.low, h.cnt⟩
set_option maxHeartbeats 16000000 in
set_option maxRecDepth 100000 in
theorem rnums_any (w : World) (N R M : Nat) (b : List UInt8) (hW : IsW N w R M b) (ao : Option Addr) (len cap : Nat) (l : List Int) (hl : Nums w ao len cap l) (hni : rowIn (fun b => b < N ∨ ¬ tagged wrT w b) ao len) (size : Nat) (hs7 : size ≤ 7) (hf : ∀ n ∈ l, 1 ≤ size ∧ fitK n size = true) (hb : b.length ≤ 90000000) (hlen7 : len ≤ 100000) :
    Calls Tryz.prog 140 #[.pointer (some ⟨R, 0, none⟩), .slice ao len cap, .int .i64 (size : Int)] w fun e w' => e = .returned (.tuple #[]) ∧ IsW N w' R M (b ++ numsW l size) ∧ Only wrT N w w' := by
  have hlen : l.length = len := by have := hl.hlen; simpa using this
  have hcap := hl.hcap
  have hle := hl.hle
  have HA := Lib.hid (And.intro hl (And.intro hlen (And.intro hni (And.intro hf (And.intro hb hs7)))))
  have HW := Lib.hid hW
  clear hl hlen hni hf hb hW hs7
  go_enter Tryz.func140, Tryz.ntmps140
  go_wp2_with fail
  go_loopw [7, 10] (fun _ i wr => ∃ k : Nat, k ≤ len ∧ i = .int .i64 (k : Int) ∧ Hid (IsW N wr R M (b ++ numsW (l.take k) size) ∧ Only wrT N w wr)) (fun _ i _ => len - (intOf i).toNat)
  case atStart => exact ⟨0, Nat.zero_le _, rfl, Lib.hid ⟨by simpa [numsW] using HW.out, Only.refl _ _ _⟩⟩
  case round =>
    obtain ⟨k, hk, rfl, hinv⟩ := hrel
    by_cases hlt : k < len
    · have hkx : k < l.length := by rw [HA.out.2.1]; exact hlt
      have hsm : Same (fun b => b < N ∨ ¬ tagged wrT w b) w wr := fun b hb hs => hs.elim (hinv.out.2.bel.block b) (fun k => hinv.out.2.keep b hb k)
      have hrow := HA.out.1.keep HA.out.2.2.1 hsm
      obtain ⟨bb, off, rfl, hc⟩ := hrow.hcells (by omega)
      have c0 : wr.cell? ⟨bb, off + k, none⟩ = some (.int .i64 l[k]) := by have := hc k (by simpa using hkx); simpa using this
      obtain ⟨x, hx⟩ : ∃ x, x = l[k] := ⟨_, rfl⟩
      rw [← hx] at c0
      have hfx := HA.out.2.2.2.1 l[k] (List.getElem_mem hkx)
      rw [← hx] at hfx
      have hsn := numsW_snoc l size hkx
      rw [← hx] at hsn
      have hlx : (b ++ numsW (l.take k) size).length ≤ 100000000 := by
        rw [List.length_append, numsW_len, List.length_take]
        have h1 : min k l.length * size ≤ 100000 * 7 := Nat.mul_le_mul (by omega) HA.out.2.2.2.2.2
        have := HA.out.2.2.2.2.1
        omega
      have HN := Lib.hid (wnum_any wr N R M _ hinv.out.1 x size hfx.1 HA.out.2.2.2.2.2 hfx.2 hlx)
      have HS := Lib.hid hsn
      clear hsm hrow hc hx hfx hsn hlx hkx
      go_wp2_with (go_at_call 69; refine HN.out.mono ?_; rintro e W2 ⟨rfl, hw2, ho2⟩; have H2 := Lib.hid (And.intro hw2 ho2); clear hw2 ho2)
      go_roundw
      case rel => exact ⟨k + 1, by omega, by go_num, Lib.hid ⟨by rw [HS.out, ← List.append_assoc]; exact H2.out.1, hinv.out.2.trans H2.out.2⟩⟩
      case measure => simp [intOf]; omega
    · have hkl : k = l.length := by rw [HA.out.2.1]; omega
      have ho := hinv.out
      rw [hkl, List.take_length] at ho
      have HO := Lib.hid ho
      clear ho hkl
      go_wp2_with fail
      go_end0
      exact ⟨rfl, HO.out⟩
/-- data in a writer's world -/
def inW (N M : Nat) (w : World) (b : Nat) : Prop := b < N ∨ (¬ tagged wrT w b ∧ b ≠ M)
theorem inW.step {N M : Nat} {w w' : World} (ho : OnlyM wrT N M w w') {b : Nat} (hb : b < w.heap.size) (h : inW N M w b) : inW N M w' b := by
  refine h.imp id (fun k => ⟨fun ht => k.1 ?_, k.2⟩)
  obtain ⟨cs, t, e, hm⟩ := ht
  rw [ho.keep b hb k.1 k.2] at e
  exact ⟨cs, t, e, hm⟩
structure DW (N M : Nat) (w : World) (h : DataH) (d : DataP) : Prop where
  data : IsData w h d
  ins : DataIn (inW N M w) h
theorem DW.step {N M : Nat} {w w' : World} {h : DataH} {d : DataP} (k : DW N M w h d) (ho : OnlyM wrT N M w w') : DW N M w' h d :=
  ⟨k.data.keep k.ins ho.same, k.ins.mono k.data (fun _ hb => inW.step ho hb)⟩
/-- what may be written -/
structure PutOk (host mail : Bool) (size : Nat) (d : DataP) : Prop where
  bytes : d.bytes.length ≤ 65535
  texts : d.texts.length ≤ 64 ∧ ∀ t ∈ d.texts, t.size ≤ 255
  nums : d.nums.length ≤ 100 ∧ ∀ n ∈ d.nums, 1 ≤ size ∧ fitK n size = true
  host : host = true → soundB d.host = true
  mail : mail = true → soundB d.mail = true
  size : size ≤ 7
def dataW1 (host short : Bool) (ss : List ByteArray) (x : List (List UInt8 × Nat) × List UInt8) : List (List UInt8 × Nat) × List UInt8 := if host then nameW short ss x.1 x.2 else x
/-- what data turns -/
def dataW (host mail short : Bool) (size : Nat) (first : Bool) (d : DataP) (rs : List (List UInt8 × Nat)) (b : List UInt8) : List (List UInt8 × Nat) × List UInt8 :=
  if first then dataW1 mail short d.mail (dataW1 host short d.host (rs, ((b ++ d.bytes) ++ textsW d.texts) ++ numsW d.nums size))
  else (fun x => (x.1, x.2 ++ numsW d.nums size)) (dataW1 mail short d.mail (dataW1 host short d.host (rs, (b ++ d.bytes) ++ textsW d.texts)))
theorem nameW_len (short : Bool) : ∀ (ss : List ByteArray) (rs : List (List UInt8 × Nat)) (b : List UInt8), (nameW short ss rs b).2.length ≤ b.length + sizeN ss + 2 ∧ (nameW short ss rs b).1.length ≤ rs.length + ss.length
  | [], rs, b => by simp [nameW, putB_len]; omega
  | l :: ss, rs, b => by
    rw [nameW]
    have hd := data_len l
    have h1 := nameW_len short ss rs ((b ++ putN (l.size : Int) 1) ++ l.data.toList)
    have h2 := nameW_len short ss (if b.length < 16384 then (restP (l :: ss), b.length) :: rs else rs) ((b ++ putN (l.size : Int) 1) ++ l.data.toList)
    have h3 : (if b.length < 16384 then (restP (l :: ss), b.length) :: rs else rs).length ≤ rs.length + 1 := by split <;> simp
    simp only [List.length_append, putB_len, hd] at h1 h2
    simp only [sizeN, List.length_cons]
    split
    · split
      · simp only [List.length_append, putB_len]; omega
      · omega
    · omega
theorem textsW_len {ss : List ByteArray} (k : Nat) (h : ss.length ≤ 64 ∧ ∀ t ∈ ss, t.size ≤ 255) : (textsW (ss.take k)).length ≤ 16400 := by
  have : ∀ (l : List ByteArray), (∀ t ∈ l, t.size ≤ 255) → (textsW l).length ≤ 256 * l.length := by
    intro l
    induction l with
    | nil => intro _; simp [textsW]
    | cons t l ih =>
      intro hl
      have h1 := hl t (by simp)
      have h2 := ih (fun x hx => hl x (by simp [hx]))
      have hd := data_len t
      rw [textsW, List.flatMap_cons, List.length_append, textW, List.length_append, putB_len, List.length_cons]
      rw [textsW] at h2
      omega
  have h1 := this (ss.take k) (fun t ht => h.2 t (List.mem_of_mem_take ht))
  rw [List.length_take] at h1
  omega
theorem ni_of {N M : Nat} {w : World} {ao : Option Addr} {n : Nat} (h : rowIn (inW N M w) ao n) : rowIn (fun b => b < N ∨ ¬ tagged wrT w b) ao n := fun h0 a ha => (h h0 a ha).imp id (·.1)
set_option maxHeartbeats 32000000 in
set_option maxRecDepth 100000 in
theorem dput_shape (w : World) (N R M : Nat) (b : List UInt8) (rs : List (List UInt8 × Nat)) (hW : IsWR N w R M b rs) (k : Int) (h : DataH) (d : DataP) (hd : DW N M w h d) (hok : dataB k d = true) (b0 : Int) (host mail short : Bool) (nums : Int) (size : Nat) (texts first : Bool) (hp : PutOk host mail size d)
    (hsh : ∀ w', Calls Tryz.prog 118 #[.int .i64 k] w' fun e w2 => e = .returned (.agg (shapeC b0 host mail short nums (size : Int) texts first)) ∧ Below w'.heap.size w' w2) (hb : b.length ≤ 50000000) (hr : rs.length ≤ 800000) :
    Calls Tryz.prog 123 #[.pointer (some ⟨R, 0, none⟩), .int .i64 k, .agg (dataC h)] w fun e w' => e = .returned (.int .i64 0) ∧ IsWR N w' R M (dataW host mail short size first d rs b).2 (dataW host mail short size first d rs b).1 ∧ OnlyM wrT N M w w' := by
  obtain ⟨ba, bl, bc, ha, hl, hc, ma, ml, mc, na, nl, nc, ta, tl, tc⟩ := h
  have hal : Below w.heap.size w (w.alloc (.cells (dataC ⟨ba, bl, bc, ha, hl, hc, ma, ml, mc, na, nl, nc, ta, tl, tc⟩) 55)) := (Below.refl _ _).alloc (Nat.le_refl _) _
  have hA : Blk (w.alloc (.cells (dataC ⟨ba, bl, bc, ha, hl, hc, ma, ml, mc, na, nl, nc, ta, tl, tc⟩) 55)) w.heap.size (dataC ⟨ba, bl, bc, ha, hl, hc, ma, ml, mc, na, nl, nc, ta, tl, tc⟩) 55 := heap_alloc_new w _
  have hN := hW.iw.lt
  have htl0 : tl ≤ 64 := by have h1 : d.texts.length = tl := hd.data.len.texts; have := hp.texts.1; omega
  have hbl0 : bl ≤ 65535 := by have h1 : d.bytes.length = bl := hd.data.len.bytes; have := hp.bytes; omega
  have hd0 := hd.step (OnlyM.below (M := M) hal hN)
  have HSO := Lib.hid (dsound_any _ k _ d hd0.data)
  rw [hok] at HSO
  have HA := Lib.hid (And.intro hal (And.intro hA (And.intro hd0 (And.intro hN (And.intro hp (And.intro hb hr))))))
  have HW := Lib.hid hW
  have HSH := Lib.hid hsh
  simp only [dataC] at HSO HA ⊢
  simp only [shapeC] at HSH
  clear hal hA hN hd0 hd hok hp hb hr hW hsh
  go_enter Tryz.func123, Tryz.ntmps123
  go_upto_region 4 with (first | (go_at_call 94; refine HSO.out.mono ?_; rintro e W1 ⟨rfl, hb1⟩; have H1 := Lib.hid hb1; clear hb1) | (go_at_call 118; refine (HSH.out W1).mono ?_; rintro e W2 ⟨rfl, hb2⟩; have H2 := Lib.hid hb2; clear hb2))
  have hal : Below W2.heap.size W2 (W2.alloc (.cells (shapeC b0 host mail short nums (size : Int) texts first) 187)) := (Below.refl _ _).alloc (Nat.le_refl _) _
  have hS : Blk (W2.alloc (.cells (shapeC b0 host mail short nums (size : Int) texts first) 187)) W2.heap.size (shapeC b0 host mail short nums (size : Int) texts first) 187 := heap_alloc_new W2 _
  simp only [shapeC] at hal hS
  generalize W2.alloc (.cells #[.int .i64 b0, .bool host, .bool mail, .bool short, .int .i64 nums, .int .i64 (size : Int), .bool texts, .bool first] 187) = W3 at hal hS ⊢
  have h13 := below_on (below_on H1.out H2.out (Nat.le_refl _)) hal (Nat.le_refl _)
  have hw3 := below_on HA.out.1 h13 (Nat.le_refl _)
  have hN3 : N ≤ w.heap.size := HA.out.2.2.2.1
  have hA3 := HA.out.2.1.on h13
  have hI3 := HW.out.on hw3
  have hD3 := HA.out.2.2.1.step (OnlyM.below (M := M) h13 (by have := HA.out.1.size; omega))
  have x0 : W3.cell? ⟨w.heap.size, 0, none⟩ = some (.slice ba bl bc) := hA3.cell 0
  have HZ := Lib.hid (And.intro hI3 (And.intro hD3 (And.intro hA3 (And.intro hS (And.intro (hI3.m.ne hA3) (And.intro (hI3.m.ne hS) hw3))))))
  have HRW := Lib.hid (wraw_any W3 N R M b hI3.iw ba bl bc d.bytes hD3.data.bytes (by have := HA.out.2.2.2.2.2.1; omega))
  clear hal hS h13 hw3 hN3 hA3 hI3 hD3
  go_wp2_with (go_at_call 98; refine HRW.out.mono ?_; rintro e W4 ⟨rfl, hw4, ho4⟩; have hom : OnlyM wrT N M W3 W4 := .of ho4; have hb4 := hom.blk HZ.out.2.2.1 (by decide) HZ.out.2.2.2.2.1; have x4 : W4.cell? ⟨w.heap.size, 4, none⟩ = some (.slice ta tl tc) := hb4.cell 4; have H4 := Lib.hid (And.intro (HZ.out.1.step hw4 ho4) hom); clear hw4 ho4 hom hb4)
  go_loopw [9, 27] (fun _ i wr => ∃ j : Nat, j ≤ tl ∧ i = .int .i64 (j : Int) ∧ Hid (IsWR N wr R M ((b ++ d.bytes) ++ textsW (d.texts.take j)) rs ∧ OnlyM wrT N M W3 wr)) (fun _ i _ => tl - (intOf i).toNat)
  case atStart => exact ⟨0, Nat.zero_le _, rfl, Lib.hid ⟨by simpa [textsW] using H4.out.1, H4.out.2⟩⟩
  case round =>
    obtain ⟨j, hj, rfl, hinv⟩ := hrel
    have hdd := HZ.out.2.1.step hinv.out.2
    have htl : d.texts.length = tl := hdd.data.len.texts
    by_cases hlt : j < tl
    · have hkx : j < d.texts.length := by rw [htl]; exact hlt
      have hsn := textsW_snoc d.texts hkx
      have hlen0 : (textsW (d.texts.take j)).length ≤ 16400 := textsW_len j HA.out.2.2.2.2.1.texts
      obtain ⟨bb, off, rfl, hcl⟩ := hdd.data.texts.row.hcells (show 0 < tl by omega)
      have c0 : wr.cell? ⟨bb, off + j, none⟩ = some (.string d.texts[j]) := by have := hcl j (by simpa using hkx); simpa using this
      have hx255 := HA.out.2.2.2.2.1.texts.2 d.texts[j] (List.getElem_mem hkx)
      obtain ⟨x, hx⟩ : ∃ x, x = d.texts[j] := ⟨_, rfl⟩
      rw [← hx] at c0 hsn hx255
      have hbyl := HA.out.2.2.2.2.1.bytes
      have hbl0 := HA.out.2.2.2.2.2.1
      have HN := Lib.hid (wnum_any wr N R M _ hinv.out.1.iw (x.size : Int) 1 (by omega) (by omega) (fit_one (by omega)) (by rw [List.length_append, List.length_append]; omega))
      have HX := Lib.hid (And.intro hsn (And.intro hx255 (And.intro hlen0 (And.intro hbyl hbl0))))
      clear hsn hlen0 hcl hx255 hx hbyl hbl0 hkx hdd htl
      go_wp2_with (first | (go_at_call 69; refine HN.out.mono ?_; rintro e W5 ⟨rfl, hw5, ho5⟩; obtain ⟨xc, W6, hcv, hx1, hx2, hx3, hx4, hx5⟩ := conv_bytes (P := Tryz.prog) W5 9 49 5 x Tryz.underlying9 Tryz.underlying49 Tryz.underlying5 (by have := HX.out.2.1; omega); have H6 := Lib.hid (And.intro (hw5.on hx3) (And.intro ho5 (And.intro hx3 (byts_conv hx5 (data_len x) hx1 hx2 (by have := HX.out.2.1; omega))))); clear hw5 ho5 hx1 hx2 hx3 hx4 hx5) | (go_at_call 98; refine (wraw_any W6 N R M _ H6.out.1 _ x.size xc x.data.toList H6.out.2.2.2 (by rw [List.length_append, List.length_append, List.length_append, putB_len]; have := HX.out.2; omega)).mono ?_; rintro e W7 ⟨rfl, hw7, ho7⟩; have H7 := Lib.hid (And.intro hw7 ho7); clear hw7 ho7 hcv))
      go_roundw
      case rel =>
        have z1 := hinv.out.2.bel.size
        have z2 := H6.out.2.1.bel.size
        have z3 := HZ.out.2.2.2.2.2.2.size
        have z4 := HA.out.2.2.2.1
        have ho : Only wrT N wr W7 := (H6.out.2.1.trans (Only.below H6.out.2.2.1 (by omega))).trans H7.out.2
        refine ⟨j + 1, by omega, by go_num, Lib.hid ⟨hinv.out.1.step ?_ ho, hinv.out.2.trans (.of ho)⟩⟩
        rw [HX.out.1, ← List.append_assoc, ← List.append_assoc]
        exact H7.out.1
      case measure => simp [intOf]; omega
    · have hjl : j = d.texts.length := by omega
      have hin := hinv.out.1
      rw [hjl, List.take_length] at hin
      have hbx := hinv.out.2.blk HZ.out.2.2.1 (by decide) HZ.out.2.2.2.2.1
      have hsx := hinv.out.2.blk HZ.out.2.2.2.1 (by decide) HZ.out.2.2.2.2.2.1
      have s1 : wr.cell? ⟨W2.heap.size, 1, none⟩ = some (.bool host) := hsx.cell 1
      have s2 : wr.cell? ⟨W2.heap.size, 2, none⟩ = some (.bool mail) := hsx.cell 2
      have s3 : wr.cell? ⟨W2.heap.size, 3, none⟩ = some (.bool short) := hsx.cell 3
      have s5 : wr.cell? ⟨W2.heap.size, 5, none⟩ = some (.int .i64 (size : Int)) := hsx.cell 5
      have s7 : wr.cell? ⟨W2.heap.size, 7, none⟩ = some (.bool first) := hsx.cell 7
      have b1 : wr.cell? ⟨w.heap.size, 1, none⟩ = some (.slice ha hl hc) := hbx.cell 1
      have b2 : wr.cell? ⟨w.heap.size, 2, none⟩ = some (.slice ma ml mc) := hbx.cell 2
      have b3 : wr.cell? ⟨w.heap.size, 3, none⟩ = some (.slice na nl nc) := hbx.cell 3
      have hlen0 : (textsW d.texts).length ≤ 16400 := by have := textsW_len d.texts.length HA.out.2.2.2.2.1.texts; rwa [List.take_length] at this
      have HI := Lib.hid (And.intro hin (And.intro hdd (And.intro hbx (And.intro hsx (And.intro hinv.out.2 hlen0)))))
      clear hjl hin hdd htl hbx hsx hj hlen0
      have hB0 : (((b ++ d.bytes) ++ textsW d.texts) : List UInt8).length ≤ 50082000 := by
        rw [List.length_append, List.length_append]
        have := HI.out.2.2.2.2.2
        have := HA.out.2.2.2.2.1.bytes
        have := HA.out.2.2.2.2.2.1
        omega
      have hr0 := HA.out.2.2.2.2.2.2
      obtain ⟨B0, hBe⟩ : ∃ q, q = ((b ++ d.bytes) ++ textsW d.texts) := ⟨_, rfl⟩
      have hI0 := HI.out.1
      rw [← hBe] at hB0 hI0
      have HE := Lib.hid hBe
      have G0 : Hid (IsWR N wr R M B0 rs ∧ OnlyM wrT N M W3 wr ∧ B0.length ≤ 50082000 ∧ rs.length ≤ 800000) := Lib.hid ⟨hI0, HI.out.2.2.2.2.1, hB0, hr0⟩
      clear hBe hI0 hB0 hr0
      cases first <;> cases host <;> cases mail
      · have T0 := Lib.hid True.intro
        go_wp2_with (first | (go_at_call 140; have hguard := T0.out; clear hguard; refine (rnums_any wr N R M B0 G0.out.1.iw na nl nc d.nums (HZ.out.2.1.step G0.out.2.1).data.nums (ni_of (HZ.out.2.1.step G0.out.2.1).ins.iN) size HA.out.2.2.2.2.1.size HA.out.2.2.2.2.1.nums.2 (by have := G0.out.2.2.1; omega) (by have h1 : d.nums.length = nl := (HZ.out.2.1.step G0.out.2.1).data.len.nums; have := HA.out.2.2.2.2.1.nums.1; omega)).mono ?_; rintro e Y1 ⟨rfl, hwy, hoy1⟩; have hoy := G0.out.2.1.trans (.of hoy1); have hbx := hoy.blk HZ.out.2.2.1 (by decide) HZ.out.2.2.2.2.1; have hsx := hoy.blk HZ.out.2.2.2.1 (by decide) HZ.out.2.2.2.2.2.1; have s1_1 : Y1.cell? ⟨W2.heap.size, 1, none⟩ = some (.bool false) := hsx.cell 1; have s2_1 : Y1.cell? ⟨W2.heap.size, 2, none⟩ = some (.bool false) := hsx.cell 2; have s3_1 : Y1.cell? ⟨W2.heap.size, 3, none⟩ = some (.bool short) := hsx.cell 3; have s5_1 : Y1.cell? ⟨W2.heap.size, 5, none⟩ = some (.int .i64 (size : Int)) := hsx.cell 5; have s7_1 : Y1.cell? ⟨W2.heap.size, 7, none⟩ = some (.bool false) := hsx.cell 7; have b1_1 : Y1.cell? ⟨w.heap.size, 1, none⟩ = some (.slice ha hl hc) := hbx.cell 1; have b2_1 : Y1.cell? ⟨w.heap.size, 2, none⟩ = some (.slice ma ml mc) := hbx.cell 2; have b3_1 : Y1.cell? ⟨w.heap.size, 3, none⟩ = some (.slice na nl nc) := hbx.cell 3; clear T0; have T1 := Lib.hid True.intro; have G1 : Hid (IsWR N Y1 R M (B0 ++ numsW d.nums size) rs ∧ OnlyM wrT N M W3 Y1 ∧ (B0 ++ numsW d.nums size).length ≤ 50083000 ∧ rs.length ≤ 800300) := Lib.hid ⟨G0.out.1.step hwy hoy1, hoy, (by rw [List.length_append, numsW_len]; have h1 : d.nums.length * size ≤ 100 * 7 := Nat.mul_le_mul HA.out.2.2.2.2.1.nums.1 HA.out.2.2.2.2.1.size; have := G0.out.2.2.1; omega), (by have := G0.out.2.2.2; omega)⟩; clear hwy hoy hoy1 hbx hsx ))
        go_ret
        rw [HE.out] at G1
        exact ⟨rfl, G1.out.1, (OnlyM.below HZ.out.2.2.2.2.2.2 HA.out.2.2.2.1).trans G1.out.2.1⟩
      · have T0 := Lib.hid True.intro
        go_wp2_with (first | (go_at_call 71; have hguard := T0.out; clear hguard; refine (wname_any wr N R M B0 rs G0.out.1 ma ml mc d.mail (HZ.out.2.1.step G0.out.2.1).data.mail (HA.out.2.2.2.2.1.mail rfl) (ni_of (HZ.out.2.1.step G0.out.2.1).ins.iM) short (by have := G0.out.2.2.1; omega) (by have := G0.out.2.2.2; omega)).mono ?_; rintro e Y1 ⟨rfl, hwy, hoy1⟩; have hoy := G0.out.2.1.trans hoy1; have hbx := hoy.blk HZ.out.2.2.1 (by decide) HZ.out.2.2.2.2.1; have hsx := hoy.blk HZ.out.2.2.2.1 (by decide) HZ.out.2.2.2.2.2.1; have s1_1 : Y1.cell? ⟨W2.heap.size, 1, none⟩ = some (.bool false) := hsx.cell 1; have s2_1 : Y1.cell? ⟨W2.heap.size, 2, none⟩ = some (.bool true) := hsx.cell 2; have s3_1 : Y1.cell? ⟨W2.heap.size, 3, none⟩ = some (.bool short) := hsx.cell 3; have s5_1 : Y1.cell? ⟨W2.heap.size, 5, none⟩ = some (.int .i64 (size : Int)) := hsx.cell 5; have s7_1 : Y1.cell? ⟨W2.heap.size, 7, none⟩ = some (.bool false) := hsx.cell 7; have b1_1 : Y1.cell? ⟨w.heap.size, 1, none⟩ = some (.slice ha hl hc) := hbx.cell 1; have b2_1 : Y1.cell? ⟨w.heap.size, 2, none⟩ = some (.slice ma ml mc) := hbx.cell 2; have b3_1 : Y1.cell? ⟨w.heap.size, 3, none⟩ = some (.slice na nl nc) := hbx.cell 3; have hln := nameW_len short d.mail rs B0; have hsz := (sound_small (HA.out.2.2.2.2.1.mail rfl)).1; have hsl := sizeN_len d.mail; clear T0; have T1 := Lib.hid True.intro; have G1 : Hid (IsWR N Y1 R M (nameW short d.mail rs B0).2 (nameW short d.mail rs B0).1 ∧ OnlyM wrT N M W3 Y1 ∧ (nameW short d.mail rs B0).2.length ≤ 50083000 ∧ (nameW short d.mail rs B0).1.length ≤ 800300) := Lib.hid ⟨hwy, hoy, (by have := G0.out.2.2.1; omega), (by have := G0.out.2.2.2; omega)⟩; clear hwy hoy hoy1 hbx hsx hln hsz hsl) | (go_at_call 140; have hguard := T1.out; clear hguard; refine (rnums_any Y1 N R M (nameW short d.mail rs B0).2 G1.out.1.iw na nl nc d.nums (HZ.out.2.1.step G1.out.2.1).data.nums (ni_of (HZ.out.2.1.step G1.out.2.1).ins.iN) size HA.out.2.2.2.2.1.size HA.out.2.2.2.2.1.nums.2 (by have := G1.out.2.2.1; omega) (by have h1 : d.nums.length = nl := (HZ.out.2.1.step G1.out.2.1).data.len.nums; have := HA.out.2.2.2.2.1.nums.1; omega)).mono ?_; rintro e Y2 ⟨rfl, hwy, hoy1⟩; have hoy := G1.out.2.1.trans (.of hoy1); have hbx := hoy.blk HZ.out.2.2.1 (by decide) HZ.out.2.2.2.2.1; have hsx := hoy.blk HZ.out.2.2.2.1 (by decide) HZ.out.2.2.2.2.2.1; have s1_2 : Y2.cell? ⟨W2.heap.size, 1, none⟩ = some (.bool false) := hsx.cell 1; have s2_2 : Y2.cell? ⟨W2.heap.size, 2, none⟩ = some (.bool true) := hsx.cell 2; have s3_2 : Y2.cell? ⟨W2.heap.size, 3, none⟩ = some (.bool short) := hsx.cell 3; have s5_2 : Y2.cell? ⟨W2.heap.size, 5, none⟩ = some (.int .i64 (size : Int)) := hsx.cell 5; have s7_2 : Y2.cell? ⟨W2.heap.size, 7, none⟩ = some (.bool false) := hsx.cell 7; have b1_2 : Y2.cell? ⟨w.heap.size, 1, none⟩ = some (.slice ha hl hc) := hbx.cell 1; have b2_2 : Y2.cell? ⟨w.heap.size, 2, none⟩ = some (.slice ma ml mc) := hbx.cell 2; have b3_2 : Y2.cell? ⟨w.heap.size, 3, none⟩ = some (.slice na nl nc) := hbx.cell 3; clear T1; have T2 := Lib.hid True.intro; have G2 : Hid (IsWR N Y2 R M ((nameW short d.mail rs B0).2 ++ numsW d.nums size) (nameW short d.mail rs B0).1 ∧ OnlyM wrT N M W3 Y2 ∧ ((nameW short d.mail rs B0).2 ++ numsW d.nums size).length ≤ 50084000 ∧ (nameW short d.mail rs B0).1.length ≤ 800600) := Lib.hid ⟨G1.out.1.step hwy hoy1, hoy, (by rw [List.length_append, numsW_len]; have h1 : d.nums.length * size ≤ 100 * 7 := Nat.mul_le_mul HA.out.2.2.2.2.1.nums.1 HA.out.2.2.2.2.1.size; have := G1.out.2.2.1; omega), (by have := G1.out.2.2.2; omega)⟩; clear hwy hoy hoy1 hbx hsx ))
        go_ret
        rw [HE.out] at G2
        exact ⟨rfl, G2.out.1, (OnlyM.below HZ.out.2.2.2.2.2.2 HA.out.2.2.2.1).trans G2.out.2.1⟩
      · have T0 := Lib.hid True.intro
        go_wp2_with (first | (go_at_call 71; have hguard := T0.out; clear hguard; refine (wname_any wr N R M B0 rs G0.out.1 ha hl hc d.host (HZ.out.2.1.step G0.out.2.1).data.host (HA.out.2.2.2.2.1.host rfl) (ni_of (HZ.out.2.1.step G0.out.2.1).ins.iH) short (by have := G0.out.2.2.1; omega) (by have := G0.out.2.2.2; omega)).mono ?_; rintro e Y1 ⟨rfl, hwy, hoy1⟩; have hoy := G0.out.2.1.trans hoy1; have hbx := hoy.blk HZ.out.2.2.1 (by decide) HZ.out.2.2.2.2.1; have hsx := hoy.blk HZ.out.2.2.2.1 (by decide) HZ.out.2.2.2.2.2.1; have s1_1 : Y1.cell? ⟨W2.heap.size, 1, none⟩ = some (.bool true) := hsx.cell 1; have s2_1 : Y1.cell? ⟨W2.heap.size, 2, none⟩ = some (.bool false) := hsx.cell 2; have s3_1 : Y1.cell? ⟨W2.heap.size, 3, none⟩ = some (.bool short) := hsx.cell 3; have s5_1 : Y1.cell? ⟨W2.heap.size, 5, none⟩ = some (.int .i64 (size : Int)) := hsx.cell 5; have s7_1 : Y1.cell? ⟨W2.heap.size, 7, none⟩ = some (.bool false) := hsx.cell 7; have b1_1 : Y1.cell? ⟨w.heap.size, 1, none⟩ = some (.slice ha hl hc) := hbx.cell 1; have b2_1 : Y1.cell? ⟨w.heap.size, 2, none⟩ = some (.slice ma ml mc) := hbx.cell 2; have b3_1 : Y1.cell? ⟨w.heap.size, 3, none⟩ = some (.slice na nl nc) := hbx.cell 3; have hln := nameW_len short d.host rs B0; have hsz := (sound_small (HA.out.2.2.2.2.1.host rfl)).1; have hsl := sizeN_len d.host; clear T0; have T1 := Lib.hid True.intro; have G1 : Hid (IsWR N Y1 R M (nameW short d.host rs B0).2 (nameW short d.host rs B0).1 ∧ OnlyM wrT N M W3 Y1 ∧ (nameW short d.host rs B0).2.length ≤ 50083000 ∧ (nameW short d.host rs B0).1.length ≤ 800300) := Lib.hid ⟨hwy, hoy, (by have := G0.out.2.2.1; omega), (by have := G0.out.2.2.2; omega)⟩; clear hwy hoy hoy1 hbx hsx hln hsz hsl) | (go_at_call 140; have hguard := T1.out; clear hguard; refine (rnums_any Y1 N R M (nameW short d.host rs B0).2 G1.out.1.iw na nl nc d.nums (HZ.out.2.1.step G1.out.2.1).data.nums (ni_of (HZ.out.2.1.step G1.out.2.1).ins.iN) size HA.out.2.2.2.2.1.size HA.out.2.2.2.2.1.nums.2 (by have := G1.out.2.2.1; omega) (by have h1 : d.nums.length = nl := (HZ.out.2.1.step G1.out.2.1).data.len.nums; have := HA.out.2.2.2.2.1.nums.1; omega)).mono ?_; rintro e Y2 ⟨rfl, hwy, hoy1⟩; have hoy := G1.out.2.1.trans (.of hoy1); have hbx := hoy.blk HZ.out.2.2.1 (by decide) HZ.out.2.2.2.2.1; have hsx := hoy.blk HZ.out.2.2.2.1 (by decide) HZ.out.2.2.2.2.2.1; have s1_2 : Y2.cell? ⟨W2.heap.size, 1, none⟩ = some (.bool true) := hsx.cell 1; have s2_2 : Y2.cell? ⟨W2.heap.size, 2, none⟩ = some (.bool false) := hsx.cell 2; have s3_2 : Y2.cell? ⟨W2.heap.size, 3, none⟩ = some (.bool short) := hsx.cell 3; have s5_2 : Y2.cell? ⟨W2.heap.size, 5, none⟩ = some (.int .i64 (size : Int)) := hsx.cell 5; have s7_2 : Y2.cell? ⟨W2.heap.size, 7, none⟩ = some (.bool false) := hsx.cell 7; have b1_2 : Y2.cell? ⟨w.heap.size, 1, none⟩ = some (.slice ha hl hc) := hbx.cell 1; have b2_2 : Y2.cell? ⟨w.heap.size, 2, none⟩ = some (.slice ma ml mc) := hbx.cell 2; have b3_2 : Y2.cell? ⟨w.heap.size, 3, none⟩ = some (.slice na nl nc) := hbx.cell 3; clear T1; have T2 := Lib.hid True.intro; have G2 : Hid (IsWR N Y2 R M ((nameW short d.host rs B0).2 ++ numsW d.nums size) (nameW short d.host rs B0).1 ∧ OnlyM wrT N M W3 Y2 ∧ ((nameW short d.host rs B0).2 ++ numsW d.nums size).length ≤ 50084000 ∧ (nameW short d.host rs B0).1.length ≤ 800600) := Lib.hid ⟨G1.out.1.step hwy hoy1, hoy, (by rw [List.length_append, numsW_len]; have h1 : d.nums.length * size ≤ 100 * 7 := Nat.mul_le_mul HA.out.2.2.2.2.1.nums.1 HA.out.2.2.2.2.1.size; have := G1.out.2.2.1; omega), (by have := G1.out.2.2.2; omega)⟩; clear hwy hoy hoy1 hbx hsx ))
        go_ret
        rw [HE.out] at G2
        exact ⟨rfl, G2.out.1, (OnlyM.below HZ.out.2.2.2.2.2.2 HA.out.2.2.2.1).trans G2.out.2.1⟩
      · have T0 := Lib.hid True.intro
        go_wp2_with (first | (go_at_call 71; have hguard := T0.out; clear hguard; refine (wname_any wr N R M B0 rs G0.out.1 ha hl hc d.host (HZ.out.2.1.step G0.out.2.1).data.host (HA.out.2.2.2.2.1.host rfl) (ni_of (HZ.out.2.1.step G0.out.2.1).ins.iH) short (by have := G0.out.2.2.1; omega) (by have := G0.out.2.2.2; omega)).mono ?_; rintro e Y1 ⟨rfl, hwy, hoy1⟩; have hoy := G0.out.2.1.trans hoy1; have hbx := hoy.blk HZ.out.2.2.1 (by decide) HZ.out.2.2.2.2.1; have hsx := hoy.blk HZ.out.2.2.2.1 (by decide) HZ.out.2.2.2.2.2.1; have s1_1 : Y1.cell? ⟨W2.heap.size, 1, none⟩ = some (.bool true) := hsx.cell 1; have s2_1 : Y1.cell? ⟨W2.heap.size, 2, none⟩ = some (.bool true) := hsx.cell 2; have s3_1 : Y1.cell? ⟨W2.heap.size, 3, none⟩ = some (.bool short) := hsx.cell 3; have s5_1 : Y1.cell? ⟨W2.heap.size, 5, none⟩ = some (.int .i64 (size : Int)) := hsx.cell 5; have s7_1 : Y1.cell? ⟨W2.heap.size, 7, none⟩ = some (.bool false) := hsx.cell 7; have b1_1 : Y1.cell? ⟨w.heap.size, 1, none⟩ = some (.slice ha hl hc) := hbx.cell 1; have b2_1 : Y1.cell? ⟨w.heap.size, 2, none⟩ = some (.slice ma ml mc) := hbx.cell 2; have b3_1 : Y1.cell? ⟨w.heap.size, 3, none⟩ = some (.slice na nl nc) := hbx.cell 3; have hln := nameW_len short d.host rs B0; have hsz := (sound_small (HA.out.2.2.2.2.1.host rfl)).1; have hsl := sizeN_len d.host; clear T0; have T1 := Lib.hid True.intro; have G1 : Hid (IsWR N Y1 R M (nameW short d.host rs B0).2 (nameW short d.host rs B0).1 ∧ OnlyM wrT N M W3 Y1 ∧ (nameW short d.host rs B0).2.length ≤ 50083000 ∧ (nameW short d.host rs B0).1.length ≤ 800300) := Lib.hid ⟨hwy, hoy, (by have := G0.out.2.2.1; omega), (by have := G0.out.2.2.2; omega)⟩; clear hwy hoy hoy1 hbx hsx hln hsz hsl) | (go_at_call 71; have hguard := T1.out; clear hguard; refine (wname_any Y1 N R M (nameW short d.host rs B0).2 (nameW short d.host rs B0).1 G1.out.1 ma ml mc d.mail (HZ.out.2.1.step G1.out.2.1).data.mail (HA.out.2.2.2.2.1.mail rfl) (ni_of (HZ.out.2.1.step G1.out.2.1).ins.iM) short (by have := G1.out.2.2.1; omega) (by have := G1.out.2.2.2; omega)).mono ?_; rintro e Y2 ⟨rfl, hwy, hoy1⟩; have hoy := G1.out.2.1.trans hoy1; have hbx := hoy.blk HZ.out.2.2.1 (by decide) HZ.out.2.2.2.2.1; have hsx := hoy.blk HZ.out.2.2.2.1 (by decide) HZ.out.2.2.2.2.2.1; have s1_2 : Y2.cell? ⟨W2.heap.size, 1, none⟩ = some (.bool true) := hsx.cell 1; have s2_2 : Y2.cell? ⟨W2.heap.size, 2, none⟩ = some (.bool true) := hsx.cell 2; have s3_2 : Y2.cell? ⟨W2.heap.size, 3, none⟩ = some (.bool short) := hsx.cell 3; have s5_2 : Y2.cell? ⟨W2.heap.size, 5, none⟩ = some (.int .i64 (size : Int)) := hsx.cell 5; have s7_2 : Y2.cell? ⟨W2.heap.size, 7, none⟩ = some (.bool false) := hsx.cell 7; have b1_2 : Y2.cell? ⟨w.heap.size, 1, none⟩ = some (.slice ha hl hc) := hbx.cell 1; have b2_2 : Y2.cell? ⟨w.heap.size, 2, none⟩ = some (.slice ma ml mc) := hbx.cell 2; have b3_2 : Y2.cell? ⟨w.heap.size, 3, none⟩ = some (.slice na nl nc) := hbx.cell 3; have hln := nameW_len short d.mail (nameW short d.host rs B0).1 (nameW short d.host rs B0).2; have hsz := (sound_small (HA.out.2.2.2.2.1.mail rfl)).1; have hsl := sizeN_len d.mail; clear T1; have T2 := Lib.hid True.intro; have G2 : Hid (IsWR N Y2 R M (nameW short d.mail (nameW short d.host rs B0).1 (nameW short d.host rs B0).2).2 (nameW short d.mail (nameW short d.host rs B0).1 (nameW short d.host rs B0).2).1 ∧ OnlyM wrT N M W3 Y2 ∧ (nameW short d.mail (nameW short d.host rs B0).1 (nameW short d.host rs B0).2).2.length ≤ 50084000 ∧ (nameW short d.mail (nameW short d.host rs B0).1 (nameW short d.host rs B0).2).1.length ≤ 800600) := Lib.hid ⟨hwy, hoy, (by have := G1.out.2.2.1; omega), (by have := G1.out.2.2.2; omega)⟩; clear hwy hoy hoy1 hbx hsx hln hsz hsl) | (go_at_call 140; have hguard := T2.out; clear hguard; refine (rnums_any Y2 N R M (nameW short d.mail (nameW short d.host rs B0).1 (nameW short d.host rs B0).2).2 G2.out.1.iw na nl nc d.nums (HZ.out.2.1.step G2.out.2.1).data.nums (ni_of (HZ.out.2.1.step G2.out.2.1).ins.iN) size HA.out.2.2.2.2.1.size HA.out.2.2.2.2.1.nums.2 (by have := G2.out.2.2.1; omega) (by have h1 : d.nums.length = nl := (HZ.out.2.1.step G2.out.2.1).data.len.nums; have := HA.out.2.2.2.2.1.nums.1; omega)).mono ?_; rintro e Y3 ⟨rfl, hwy, hoy1⟩; have hoy := G2.out.2.1.trans (.of hoy1); have hbx := hoy.blk HZ.out.2.2.1 (by decide) HZ.out.2.2.2.2.1; have hsx := hoy.blk HZ.out.2.2.2.1 (by decide) HZ.out.2.2.2.2.2.1; have s1_3 : Y3.cell? ⟨W2.heap.size, 1, none⟩ = some (.bool true) := hsx.cell 1; have s2_3 : Y3.cell? ⟨W2.heap.size, 2, none⟩ = some (.bool true) := hsx.cell 2; have s3_3 : Y3.cell? ⟨W2.heap.size, 3, none⟩ = some (.bool short) := hsx.cell 3; have s5_3 : Y3.cell? ⟨W2.heap.size, 5, none⟩ = some (.int .i64 (size : Int)) := hsx.cell 5; have s7_3 : Y3.cell? ⟨W2.heap.size, 7, none⟩ = some (.bool false) := hsx.cell 7; have b1_3 : Y3.cell? ⟨w.heap.size, 1, none⟩ = some (.slice ha hl hc) := hbx.cell 1; have b2_3 : Y3.cell? ⟨w.heap.size, 2, none⟩ = some (.slice ma ml mc) := hbx.cell 2; have b3_3 : Y3.cell? ⟨w.heap.size, 3, none⟩ = some (.slice na nl nc) := hbx.cell 3; clear T2; have T3 := Lib.hid True.intro; have G3 : Hid (IsWR N Y3 R M ((nameW short d.mail (nameW short d.host rs B0).1 (nameW short d.host rs B0).2).2 ++ numsW d.nums size) (nameW short d.mail (nameW short d.host rs B0).1 (nameW short d.host rs B0).2).1 ∧ OnlyM wrT N M W3 Y3 ∧ ((nameW short d.mail (nameW short d.host rs B0).1 (nameW short d.host rs B0).2).2 ++ numsW d.nums size).length ≤ 50085000 ∧ (nameW short d.mail (nameW short d.host rs B0).1 (nameW short d.host rs B0).2).1.length ≤ 800900) := Lib.hid ⟨G2.out.1.step hwy hoy1, hoy, (by rw [List.length_append, numsW_len]; have h1 : d.nums.length * size ≤ 100 * 7 := Nat.mul_le_mul HA.out.2.2.2.2.1.nums.1 HA.out.2.2.2.2.1.size; have := G2.out.2.2.1; omega), (by have := G2.out.2.2.2; omega)⟩; clear hwy hoy hoy1 hbx hsx ))
        go_ret
        rw [HE.out] at G3
        exact ⟨rfl, G3.out.1, (OnlyM.below HZ.out.2.2.2.2.2.2 HA.out.2.2.2.1).trans G3.out.2.1⟩
      · have T0 := Lib.hid True.intro
        go_wp2_with (first | (go_at_call 140; have hguard := T0.out; clear hguard; refine (rnums_any wr N R M B0 G0.out.1.iw na nl nc d.nums (HZ.out.2.1.step G0.out.2.1).data.nums (ni_of (HZ.out.2.1.step G0.out.2.1).ins.iN) size HA.out.2.2.2.2.1.size HA.out.2.2.2.2.1.nums.2 (by have := G0.out.2.2.1; omega) (by have h1 : d.nums.length = nl := (HZ.out.2.1.step G0.out.2.1).data.len.nums; have := HA.out.2.2.2.2.1.nums.1; omega)).mono ?_; rintro e Y1 ⟨rfl, hwy, hoy1⟩; have hoy := G0.out.2.1.trans (.of hoy1); have hbx := hoy.blk HZ.out.2.2.1 (by decide) HZ.out.2.2.2.2.1; have hsx := hoy.blk HZ.out.2.2.2.1 (by decide) HZ.out.2.2.2.2.2.1; have s1_1 : Y1.cell? ⟨W2.heap.size, 1, none⟩ = some (.bool false) := hsx.cell 1; have s2_1 : Y1.cell? ⟨W2.heap.size, 2, none⟩ = some (.bool false) := hsx.cell 2; have s3_1 : Y1.cell? ⟨W2.heap.size, 3, none⟩ = some (.bool short) := hsx.cell 3; have s5_1 : Y1.cell? ⟨W2.heap.size, 5, none⟩ = some (.int .i64 (size : Int)) := hsx.cell 5; have s7_1 : Y1.cell? ⟨W2.heap.size, 7, none⟩ = some (.bool true) := hsx.cell 7; have b1_1 : Y1.cell? ⟨w.heap.size, 1, none⟩ = some (.slice ha hl hc) := hbx.cell 1; have b2_1 : Y1.cell? ⟨w.heap.size, 2, none⟩ = some (.slice ma ml mc) := hbx.cell 2; have b3_1 : Y1.cell? ⟨w.heap.size, 3, none⟩ = some (.slice na nl nc) := hbx.cell 3; clear T0; have T1 := Lib.hid True.intro; have G1 : Hid (IsWR N Y1 R M (B0 ++ numsW d.nums size) rs ∧ OnlyM wrT N M W3 Y1 ∧ (B0 ++ numsW d.nums size).length ≤ 50083000 ∧ rs.length ≤ 800300) := Lib.hid ⟨G0.out.1.step hwy hoy1, hoy, (by rw [List.length_append, numsW_len]; have h1 : d.nums.length * size ≤ 100 * 7 := Nat.mul_le_mul HA.out.2.2.2.2.1.nums.1 HA.out.2.2.2.2.1.size; have := G0.out.2.2.1; omega), (by have := G0.out.2.2.2; omega)⟩; clear hwy hoy hoy1 hbx hsx ))
        go_ret
        rw [HE.out] at G1
        exact ⟨rfl, G1.out.1, (OnlyM.below HZ.out.2.2.2.2.2.2 HA.out.2.2.2.1).trans G1.out.2.1⟩
      · have T0 := Lib.hid True.intro
        go_wp2_with (first | (go_at_call 140; have hguard := T0.out; clear hguard; refine (rnums_any wr N R M B0 G0.out.1.iw na nl nc d.nums (HZ.out.2.1.step G0.out.2.1).data.nums (ni_of (HZ.out.2.1.step G0.out.2.1).ins.iN) size HA.out.2.2.2.2.1.size HA.out.2.2.2.2.1.nums.2 (by have := G0.out.2.2.1; omega) (by have h1 : d.nums.length = nl := (HZ.out.2.1.step G0.out.2.1).data.len.nums; have := HA.out.2.2.2.2.1.nums.1; omega)).mono ?_; rintro e Y1 ⟨rfl, hwy, hoy1⟩; have hoy := G0.out.2.1.trans (.of hoy1); have hbx := hoy.blk HZ.out.2.2.1 (by decide) HZ.out.2.2.2.2.1; have hsx := hoy.blk HZ.out.2.2.2.1 (by decide) HZ.out.2.2.2.2.2.1; have s1_1 : Y1.cell? ⟨W2.heap.size, 1, none⟩ = some (.bool false) := hsx.cell 1; have s2_1 : Y1.cell? ⟨W2.heap.size, 2, none⟩ = some (.bool true) := hsx.cell 2; have s3_1 : Y1.cell? ⟨W2.heap.size, 3, none⟩ = some (.bool short) := hsx.cell 3; have s5_1 : Y1.cell? ⟨W2.heap.size, 5, none⟩ = some (.int .i64 (size : Int)) := hsx.cell 5; have s7_1 : Y1.cell? ⟨W2.heap.size, 7, none⟩ = some (.bool true) := hsx.cell 7; have b1_1 : Y1.cell? ⟨w.heap.size, 1, none⟩ = some (.slice ha hl hc) := hbx.cell 1; have b2_1 : Y1.cell? ⟨w.heap.size, 2, none⟩ = some (.slice ma ml mc) := hbx.cell 2; have b3_1 : Y1.cell? ⟨w.heap.size, 3, none⟩ = some (.slice na nl nc) := hbx.cell 3; clear T0; have T1 := Lib.hid True.intro; have G1 : Hid (IsWR N Y1 R M (B0 ++ numsW d.nums size) rs ∧ OnlyM wrT N M W3 Y1 ∧ (B0 ++ numsW d.nums size).length ≤ 50083000 ∧ rs.length ≤ 800300) := Lib.hid ⟨G0.out.1.step hwy hoy1, hoy, (by rw [List.length_append, numsW_len]; have h1 : d.nums.length * size ≤ 100 * 7 := Nat.mul_le_mul HA.out.2.2.2.2.1.nums.1 HA.out.2.2.2.2.1.size; have := G0.out.2.2.1; omega), (by have := G0.out.2.2.2; omega)⟩; clear hwy hoy hoy1 hbx hsx ) | (go_at_call 71; have hguard := T1.out; clear hguard; refine (wname_any Y1 N R M (B0 ++ numsW d.nums size) rs G1.out.1 ma ml mc d.mail (HZ.out.2.1.step G1.out.2.1).data.mail (HA.out.2.2.2.2.1.mail rfl) (ni_of (HZ.out.2.1.step G1.out.2.1).ins.iM) short (by have := G1.out.2.2.1; omega) (by have := G1.out.2.2.2; omega)).mono ?_; rintro e Y2 ⟨rfl, hwy, hoy1⟩; have hoy := G1.out.2.1.trans hoy1; have hbx := hoy.blk HZ.out.2.2.1 (by decide) HZ.out.2.2.2.2.1; have hsx := hoy.blk HZ.out.2.2.2.1 (by decide) HZ.out.2.2.2.2.2.1; have s1_2 : Y2.cell? ⟨W2.heap.size, 1, none⟩ = some (.bool false) := hsx.cell 1; have s2_2 : Y2.cell? ⟨W2.heap.size, 2, none⟩ = some (.bool true) := hsx.cell 2; have s3_2 : Y2.cell? ⟨W2.heap.size, 3, none⟩ = some (.bool short) := hsx.cell 3; have s5_2 : Y2.cell? ⟨W2.heap.size, 5, none⟩ = some (.int .i64 (size : Int)) := hsx.cell 5; have s7_2 : Y2.cell? ⟨W2.heap.size, 7, none⟩ = some (.bool true) := hsx.cell 7; have b1_2 : Y2.cell? ⟨w.heap.size, 1, none⟩ = some (.slice ha hl hc) := hbx.cell 1; have b2_2 : Y2.cell? ⟨w.heap.size, 2, none⟩ = some (.slice ma ml mc) := hbx.cell 2; have b3_2 : Y2.cell? ⟨w.heap.size, 3, none⟩ = some (.slice na nl nc) := hbx.cell 3; have hln := nameW_len short d.mail rs (B0 ++ numsW d.nums size); have hsz := (sound_small (HA.out.2.2.2.2.1.mail rfl)).1; have hsl := sizeN_len d.mail; clear T1; have T2 := Lib.hid True.intro; have G2 : Hid (IsWR N Y2 R M (nameW short d.mail rs (B0 ++ numsW d.nums size)).2 (nameW short d.mail rs (B0 ++ numsW d.nums size)).1 ∧ OnlyM wrT N M W3 Y2 ∧ (nameW short d.mail rs (B0 ++ numsW d.nums size)).2.length ≤ 50084000 ∧ (nameW short d.mail rs (B0 ++ numsW d.nums size)).1.length ≤ 800600) := Lib.hid ⟨hwy, hoy, (by have := G1.out.2.2.1; omega), (by have := G1.out.2.2.2; omega)⟩; clear hwy hoy hoy1 hbx hsx hln hsz hsl))
        go_ret
        rw [HE.out] at G2
        exact ⟨rfl, G2.out.1, (OnlyM.below HZ.out.2.2.2.2.2.2 HA.out.2.2.2.1).trans G2.out.2.1⟩
      · have T0 := Lib.hid True.intro
        go_wp2_with (first | (go_at_call 140; have hguard := T0.out; clear hguard; refine (rnums_any wr N R M B0 G0.out.1.iw na nl nc d.nums (HZ.out.2.1.step G0.out.2.1).data.nums (ni_of (HZ.out.2.1.step G0.out.2.1).ins.iN) size HA.out.2.2.2.2.1.size HA.out.2.2.2.2.1.nums.2 (by have := G0.out.2.2.1; omega) (by have h1 : d.nums.length = nl := (HZ.out.2.1.step G0.out.2.1).data.len.nums; have := HA.out.2.2.2.2.1.nums.1; omega)).mono ?_; rintro e Y1 ⟨rfl, hwy, hoy1⟩; have hoy := G0.out.2.1.trans (.of hoy1); have hbx := hoy.blk HZ.out.2.2.1 (by decide) HZ.out.2.2.2.2.1; have hsx := hoy.blk HZ.out.2.2.2.1 (by decide) HZ.out.2.2.2.2.2.1; have s1_1 : Y1.cell? ⟨W2.heap.size, 1, none⟩ = some (.bool true) := hsx.cell 1; have s2_1 : Y1.cell? ⟨W2.heap.size, 2, none⟩ = some (.bool false) := hsx.cell 2; have s3_1 : Y1.cell? ⟨W2.heap.size, 3, none⟩ = some (.bool short) := hsx.cell 3; have s5_1 : Y1.cell? ⟨W2.heap.size, 5, none⟩ = some (.int .i64 (size : Int)) := hsx.cell 5; have s7_1 : Y1.cell? ⟨W2.heap.size, 7, none⟩ = some (.bool true) := hsx.cell 7; have b1_1 : Y1.cell? ⟨w.heap.size, 1, none⟩ = some (.slice ha hl hc) := hbx.cell 1; have b2_1 : Y1.cell? ⟨w.heap.size, 2, none⟩ = some (.slice ma ml mc) := hbx.cell 2; have b3_1 : Y1.cell? ⟨w.heap.size, 3, none⟩ = some (.slice na nl nc) := hbx.cell 3; clear T0; have T1 := Lib.hid True.intro; have G1 : Hid (IsWR N Y1 R M (B0 ++ numsW d.nums size) rs ∧ OnlyM wrT N M W3 Y1 ∧ (B0 ++ numsW d.nums size).length ≤ 50083000 ∧ rs.length ≤ 800300) := Lib.hid ⟨G0.out.1.step hwy hoy1, hoy, (by rw [List.length_append, numsW_len]; have h1 : d.nums.length * size ≤ 100 * 7 := Nat.mul_le_mul HA.out.2.2.2.2.1.nums.1 HA.out.2.2.2.2.1.size; have := G0.out.2.2.1; omega), (by have := G0.out.2.2.2; omega)⟩; clear hwy hoy hoy1 hbx hsx ) | (go_at_call 71; have hguard := T1.out; clear hguard; refine (wname_any Y1 N R M (B0 ++ numsW d.nums size) rs G1.out.1 ha hl hc d.host (HZ.out.2.1.step G1.out.2.1).data.host (HA.out.2.2.2.2.1.host rfl) (ni_of (HZ.out.2.1.step G1.out.2.1).ins.iH) short (by have := G1.out.2.2.1; omega) (by have := G1.out.2.2.2; omega)).mono ?_; rintro e Y2 ⟨rfl, hwy, hoy1⟩; have hoy := G1.out.2.1.trans hoy1; have hbx := hoy.blk HZ.out.2.2.1 (by decide) HZ.out.2.2.2.2.1; have hsx := hoy.blk HZ.out.2.2.2.1 (by decide) HZ.out.2.2.2.2.2.1; have s1_2 : Y2.cell? ⟨W2.heap.size, 1, none⟩ = some (.bool true) := hsx.cell 1; have s2_2 : Y2.cell? ⟨W2.heap.size, 2, none⟩ = some (.bool false) := hsx.cell 2; have s3_2 : Y2.cell? ⟨W2.heap.size, 3, none⟩ = some (.bool short) := hsx.cell 3; have s5_2 : Y2.cell? ⟨W2.heap.size, 5, none⟩ = some (.int .i64 (size : Int)) := hsx.cell 5; have s7_2 : Y2.cell? ⟨W2.heap.size, 7, none⟩ = some (.bool true) := hsx.cell 7; have b1_2 : Y2.cell? ⟨w.heap.size, 1, none⟩ = some (.slice ha hl hc) := hbx.cell 1; have b2_2 : Y2.cell? ⟨w.heap.size, 2, none⟩ = some (.slice ma ml mc) := hbx.cell 2; have b3_2 : Y2.cell? ⟨w.heap.size, 3, none⟩ = some (.slice na nl nc) := hbx.cell 3; have hln := nameW_len short d.host rs (B0 ++ numsW d.nums size); have hsz := (sound_small (HA.out.2.2.2.2.1.host rfl)).1; have hsl := sizeN_len d.host; clear T1; have T2 := Lib.hid True.intro; have G2 : Hid (IsWR N Y2 R M (nameW short d.host rs (B0 ++ numsW d.nums size)).2 (nameW short d.host rs (B0 ++ numsW d.nums size)).1 ∧ OnlyM wrT N M W3 Y2 ∧ (nameW short d.host rs (B0 ++ numsW d.nums size)).2.length ≤ 50084000 ∧ (nameW short d.host rs (B0 ++ numsW d.nums size)).1.length ≤ 800600) := Lib.hid ⟨hwy, hoy, (by have := G1.out.2.2.1; omega), (by have := G1.out.2.2.2; omega)⟩; clear hwy hoy hoy1 hbx hsx hln hsz hsl))
        go_ret
        rw [HE.out] at G2
        exact ⟨rfl, G2.out.1, (OnlyM.below HZ.out.2.2.2.2.2.2 HA.out.2.2.2.1).trans G2.out.2.1⟩
      · have T0 := Lib.hid True.intro
        go_wp2_with (first | (go_at_call 140; have hguard := T0.out; clear hguard; refine (rnums_any wr N R M B0 G0.out.1.iw na nl nc d.nums (HZ.out.2.1.step G0.out.2.1).data.nums (ni_of (HZ.out.2.1.step G0.out.2.1).ins.iN) size HA.out.2.2.2.2.1.size HA.out.2.2.2.2.1.nums.2 (by have := G0.out.2.2.1; omega) (by have h1 : d.nums.length = nl := (HZ.out.2.1.step G0.out.2.1).data.len.nums; have := HA.out.2.2.2.2.1.nums.1; omega)).mono ?_; rintro e Y1 ⟨rfl, hwy, hoy1⟩; have hoy := G0.out.2.1.trans (.of hoy1); have hbx := hoy.blk HZ.out.2.2.1 (by decide) HZ.out.2.2.2.2.1; have hsx := hoy.blk HZ.out.2.2.2.1 (by decide) HZ.out.2.2.2.2.2.1; have s1_1 : Y1.cell? ⟨W2.heap.size, 1, none⟩ = some (.bool true) := hsx.cell 1; have s2_1 : Y1.cell? ⟨W2.heap.size, 2, none⟩ = some (.bool true) := hsx.cell 2; have s3_1 : Y1.cell? ⟨W2.heap.size, 3, none⟩ = some (.bool short) := hsx.cell 3; have s5_1 : Y1.cell? ⟨W2.heap.size, 5, none⟩ = some (.int .i64 (size : Int)) := hsx.cell 5; have s7_1 : Y1.cell? ⟨W2.heap.size, 7, none⟩ = some (.bool true) := hsx.cell 7; have b1_1 : Y1.cell? ⟨w.heap.size, 1, none⟩ = some (.slice ha hl hc) := hbx.cell 1; have b2_1 : Y1.cell? ⟨w.heap.size, 2, none⟩ = some (.slice ma ml mc) := hbx.cell 2; have b3_1 : Y1.cell? ⟨w.heap.size, 3, none⟩ = some (.slice na nl nc) := hbx.cell 3; clear T0; have T1 := Lib.hid True.intro; have G1 : Hid (IsWR N Y1 R M (B0 ++ numsW d.nums size) rs ∧ OnlyM wrT N M W3 Y1 ∧ (B0 ++ numsW d.nums size).length ≤ 50083000 ∧ rs.length ≤ 800300) := Lib.hid ⟨G0.out.1.step hwy hoy1, hoy, (by rw [List.length_append, numsW_len]; have h1 : d.nums.length * size ≤ 100 * 7 := Nat.mul_le_mul HA.out.2.2.2.2.1.nums.1 HA.out.2.2.2.2.1.size; have := G0.out.2.2.1; omega), (by have := G0.out.2.2.2; omega)⟩; clear hwy hoy hoy1 hbx hsx ) | (go_at_call 71; have hguard := T1.out; clear hguard; refine (wname_any Y1 N R M (B0 ++ numsW d.nums size) rs G1.out.1 ha hl hc d.host (HZ.out.2.1.step G1.out.2.1).data.host (HA.out.2.2.2.2.1.host rfl) (ni_of (HZ.out.2.1.step G1.out.2.1).ins.iH) short (by have := G1.out.2.2.1; omega) (by have := G1.out.2.2.2; omega)).mono ?_; rintro e Y2 ⟨rfl, hwy, hoy1⟩; have hoy := G1.out.2.1.trans hoy1; have hbx := hoy.blk HZ.out.2.2.1 (by decide) HZ.out.2.2.2.2.1; have hsx := hoy.blk HZ.out.2.2.2.1 (by decide) HZ.out.2.2.2.2.2.1; have s1_2 : Y2.cell? ⟨W2.heap.size, 1, none⟩ = some (.bool true) := hsx.cell 1; have s2_2 : Y2.cell? ⟨W2.heap.size, 2, none⟩ = some (.bool true) := hsx.cell 2; have s3_2 : Y2.cell? ⟨W2.heap.size, 3, none⟩ = some (.bool short) := hsx.cell 3; have s5_2 : Y2.cell? ⟨W2.heap.size, 5, none⟩ = some (.int .i64 (size : Int)) := hsx.cell 5; have s7_2 : Y2.cell? ⟨W2.heap.size, 7, none⟩ = some (.bool true) := hsx.cell 7; have b1_2 : Y2.cell? ⟨w.heap.size, 1, none⟩ = some (.slice ha hl hc) := hbx.cell 1; have b2_2 : Y2.cell? ⟨w.heap.size, 2, none⟩ = some (.slice ma ml mc) := hbx.cell 2; have b3_2 : Y2.cell? ⟨w.heap.size, 3, none⟩ = some (.slice na nl nc) := hbx.cell 3; have hln := nameW_len short d.host rs (B0 ++ numsW d.nums size); have hsz := (sound_small (HA.out.2.2.2.2.1.host rfl)).1; have hsl := sizeN_len d.host; clear T1; have T2 := Lib.hid True.intro; have G2 : Hid (IsWR N Y2 R M (nameW short d.host rs (B0 ++ numsW d.nums size)).2 (nameW short d.host rs (B0 ++ numsW d.nums size)).1 ∧ OnlyM wrT N M W3 Y2 ∧ (nameW short d.host rs (B0 ++ numsW d.nums size)).2.length ≤ 50084000 ∧ (nameW short d.host rs (B0 ++ numsW d.nums size)).1.length ≤ 800600) := Lib.hid ⟨hwy, hoy, (by have := G1.out.2.2.1; omega), (by have := G1.out.2.2.2; omega)⟩; clear hwy hoy hoy1 hbx hsx hln hsz hsl) | (go_at_call 71; have hguard := T2.out; clear hguard; refine (wname_any Y2 N R M (nameW short d.host rs (B0 ++ numsW d.nums size)).2 (nameW short d.host rs (B0 ++ numsW d.nums size)).1 G2.out.1 ma ml mc d.mail (HZ.out.2.1.step G2.out.2.1).data.mail (HA.out.2.2.2.2.1.mail rfl) (ni_of (HZ.out.2.1.step G2.out.2.1).ins.iM) short (by have := G2.out.2.2.1; omega) (by have := G2.out.2.2.2; omega)).mono ?_; rintro e Y3 ⟨rfl, hwy, hoy1⟩; have hoy := G2.out.2.1.trans hoy1; have hbx := hoy.blk HZ.out.2.2.1 (by decide) HZ.out.2.2.2.2.1; have hsx := hoy.blk HZ.out.2.2.2.1 (by decide) HZ.out.2.2.2.2.2.1; have s1_3 : Y3.cell? ⟨W2.heap.size, 1, none⟩ = some (.bool true) := hsx.cell 1; have s2_3 : Y3.cell? ⟨W2.heap.size, 2, none⟩ = some (.bool true) := hsx.cell 2; have s3_3 : Y3.cell? ⟨W2.heap.size, 3, none⟩ = some (.bool short) := hsx.cell 3; have s5_3 : Y3.cell? ⟨W2.heap.size, 5, none⟩ = some (.int .i64 (size : Int)) := hsx.cell 5; have s7_3 : Y3.cell? ⟨W2.heap.size, 7, none⟩ = some (.bool true) := hsx.cell 7; have b1_3 : Y3.cell? ⟨w.heap.size, 1, none⟩ = some (.slice ha hl hc) := hbx.cell 1; have b2_3 : Y3.cell? ⟨w.heap.size, 2, none⟩ = some (.slice ma ml mc) := hbx.cell 2; have b3_3 : Y3.cell? ⟨w.heap.size, 3, none⟩ = some (.slice na nl nc) := hbx.cell 3; have hln := nameW_len short d.mail (nameW short d.host rs (B0 ++ numsW d.nums size)).1 (nameW short d.host rs (B0 ++ numsW d.nums size)).2; have hsz := (sound_small (HA.out.2.2.2.2.1.mail rfl)).1; have hsl := sizeN_len d.mail; clear T2; have T3 := Lib.hid True.intro; have G3 : Hid (IsWR N Y3 R M (nameW short d.mail (nameW short d.host rs (B0 ++ numsW d.nums size)).1 (nameW short d.host rs (B0 ++ numsW d.nums size)).2).2 (nameW short d.mail (nameW short d.host rs (B0 ++ numsW d.nums size)).1 (nameW short d.host rs (B0 ++ numsW d.nums size)).2).1 ∧ OnlyM wrT N M W3 Y3 ∧ (nameW short d.mail (nameW short d.host rs (B0 ++ numsW d.nums size)).1 (nameW short d.host rs (B0 ++ numsW d.nums size)).2).2.length ≤ 50085000 ∧ (nameW short d.mail (nameW short d.host rs (B0 ++ numsW d.nums size)).1 (nameW short d.host rs (B0 ++ numsW d.nums size)).2).1.length ≤ 800900) := Lib.hid ⟨hwy, hoy, (by have := G2.out.2.2.1; omega), (by have := G2.out.2.2.2; omega)⟩; clear hwy hoy hoy1 hbx hsx hln hsz hsl))
        go_ret
        rw [HE.out] at G3
        exact ⟨rfl, G3.out.1, (OnlyM.below HZ.out.2.2.2.2.2.2 HA.out.2.2.2.1).trans G3.out.2.1⟩
end
section
open Go.ChangeShapes Go.WideShapes Go.ChangeAt Go.RowKit
structure RRP where
  name : List ByteArray
  kind : Int
  cls : Int
  ttl : Int
  data : DataP
structure RRH where
  na : Option Addr
  nl : Nat
  nc : Nat
  d : DataH
structure IsRR (w : World) (h : RRH) (r : RRP) : Prop where
  name : Strs w h.na h.nl h.nc r.name
  data : IsData w h.d r.data
  kind : wfi r.kind
  cls : wfi r.cls
  ttl : wfi r.ttl
theorem IsRR.on {w w' : World} {h : RRH} {r : RRP} (hr : IsRR w h r) (hb : Below w.heap.size w w') : IsRR w' h r := ⟨hr.name.below hb (Nat.le_refl _), hr.data.on hb, hr.kind, hr.cls, hr.ttl⟩
set_option maxHeartbeats 4000000 in
set_option maxRecDepth 100000 in
theorem wlen_any (w : World) (N R M : Nat) (b : List UInt8) (hW : IsW N w R M b) (hm : b.length ≤ 140737488355328) :
    Calls Tryz.prog 124 #[.pointer (some ⟨R, 0, none⟩)] w fun e w' => e = .returned (.int .i64 (b.length : Int)) ∧ w' = w := by
  obtain ⟨v, h1, h2⟩ := hW.ex
  obtain ⟨ao, c, rfl, ho⟩ := own1_of_owns h2 hm
  have c0 : w.cell? ⟨R, 0, none⟩ = some (.slice ao b.length c) := h1.cell 0
  clear hW h1 h2 ho
  go_enter Tryz.func124, Tryz.ntmps124
  go_wp2_with fail
  go_ret
  exact ⟨rfl, rfl⟩
end
section
open Go.ChangeShapes Go.WideShapes Go.ChangeAt Go.RowKit
/-- an entry of no fact -/
def blankC (k t : Int) (z : Value) : Array Value := #[.int .i64 k, .int .i64 t, .slice none 0 0, .int .i64 0, .int .i64 0, .int .i64 0, .int .i64 0, .int .i64 0, .slice none 0 0, .slice none 0 0, .slice none 0 0, .slice none 0 0, .slice none 0 0, .slice none 0 0, .slice none 0 0, z]
def zeroFC : Array Value := #[.slice none 0 0, .int .i64 0, .int .i64 0, .int .i64 0, .int .i64 0, .int .i64 0, .slice none 0 0, .slice none 0 0, .slice none 0 0, .slice none 0 0, .slice none 0 0, .slice none 0 0, .slice none 0 0]
/-- an entry of a fact -/
def putC (h : FactH) (f : FactP) : Array Value := #[.int .i64 1, .int .i64 0, .slice h.na h.nl h.nc, .int .i64 f.typ, .int .i64 f.kind, .int .i64 f.rank, .int .i64 f.got, .int .i64 f.ttl, .slice h.sa h.sl h.sc, .slice h.za h.zl h.zc, .slice h.d.ba h.d.bl h.d.bc, .slice h.d.ha h.d.hl h.d.hc, .slice h.d.ma h.d.ml h.d.mc, .slice h.d.na h.d.nl h.d.nc, .slice h.d.ta h.d.tl h.d.tc, .slice none 0 0]
set_option maxHeartbeats 8000000 in
set_option maxRecDepth 100000 in
theorem cblank_any (w : World) : Calls Tryz.prog 66 #[.agg zeroFC] w fun e w' => e = .returned (.bool true) ∧ Below w.heap.size w w' := by
  have hal : Below w.heap.size w (w.alloc (.cells zeroFC 57)) := (Below.refl _ _).alloc (Nat.le_refl _) _
  have hal2 : Below w.heap.size w ((w.alloc (.cells zeroFC 57)).alloc (.cells #[.slice none 0 0, .slice none 0 0, .slice none 0 0, .slice none 0 0, .slice none 0 0] 55)) := hal.alloc (by have := hal.size; omega) _
  have HB := Lib.hid hal2
  clear hal hal2
  simp only [zeroFC] at HB ⊢
  go_enter Tryz.func66, Tryz.ntmps66
  go_wp2_with fail
  go_ret
  exact ⟨rfl, HB.out⟩
set_option maxHeartbeats 8000000 in
set_option maxRecDepth 100000 in
theorem csound_clock (w : World) (t : Int) : Calls Tryz.prog 39 #[.agg (blankC 3 t (.slice none 0 0))] w fun e w' => e = .returned (.bool (timeB t)) ∧ Below w.heap.size w w' := by
  have hal : Below w.heap.size w (w.alloc (.cells (blankC 3 t (.slice none 0 0)) 59)) := (Below.refl _ _).alloc (Nat.le_refl _) _
  have hA : Blk (w.alloc (.cells (blankC 3 t (.slice none 0 0)) 59)) w.heap.size (blankC 3 t (.slice none 0 0)) 59 := heap_alloc_new w _
  have HA := Lib.hid (And.intro hal hA)
  have HT := Lib.hid (fun w' => time_any t w')
  have HC := Lib.hid (cblank_any (w.alloc (.cells (blankC 3 t (.slice none 0 0)) 59)))
  simp only [zeroFC] at HC
  simp only [blankC] at HA HC ⊢
  clear hal hA
  cases ht : timeB t with
  | true =>
    rw [ht] at HT
    clear ht
    go_enter Tryz.func39, Tryz.ntmps39
    go_wp2_with (first | (go_at_call 28; refine (HT.out _).mono ?_; rintro e w2 ⟨rfl, rfl⟩) | (go_at_call 66; refine HC.out.mono ?_; rintro e W2 ⟨rfl, hb2⟩; have hA2 := HA.out.2.on hb2; have x15 := hA2.cell 15; simp at x15; have H2 := Lib.hid (below_on HA.out.1 hb2 (Nat.le_refl _)); clear hb2 hA2))
    go_ret
    exact ⟨rfl, H2.out⟩
  | false =>
    rw [ht] at HT
    clear ht
    go_enter Tryz.func39, Tryz.ntmps39
    go_wp2_with (first | (go_at_call 28; refine (HT.out _).mono ?_; rintro e w2 ⟨rfl, rfl⟩))
    go_ret
    exact ⟨rfl, HA.out.1⟩
set_option maxHeartbeats 8000000 in
set_option maxRecDepth 100000 in
theorem csound_put (w : World) (S : Nat → Prop) (h : FactH) (f : FactP) (hf : IsFact S w h f) : Calls Tryz.prog 39 #[.agg (putC h f)] w fun e w' => e = .returned (.bool (factB f)) ∧ Below w.heap.size w w' := by
  have hal : Below w.heap.size w (w.alloc (.cells (putC h f) 59)) := (Below.refl _ _).alloc (Nat.le_refl _) _
  have HS := Lib.hid (fsound_any (w.alloc (.cells (putC h f) 59)) S h f (hf.on hal))
  have HA := Lib.hid hal
  simp only [factC] at HS
  simp only [putC] at HA HS ⊢
  clear hal hf
  go_enter Tryz.func39, Tryz.ntmps39
  go_wp2_with (go_at_call 65; refine HS.out.mono ?_; rintro e W2 ⟨rfl, hb2⟩; have H2 := Lib.hid (below_on HA.out hb2 (Nat.le_refl _)); clear hb2)
  go_ret
  exact ⟨rfl, H2.out⟩
end
section
open Go.ChangeShapes Go.WideShapes Go.ChangeAt Go.RowKit
theorem entSize : (Tryz.prog.info? 59).map (·.size) = some 16 := by kernel_rfl
theorem but_new {w W W' : World} {r E : Nat} (h : w.grownBy W (some r)) (h2 : W.grownBy W' (some E)) (hE : w.heap.size ≤ E) : w.grownBy W' (some r) :=
  ⟨h2.os.trans h.os, h2.tape.trans h.tape, h2.output.trans h.output, Nat.le_trans h.size h2.size, fun k hk hn => (h2.block k (Nat.lt_of_lt_of_le hk h.size) (fun e => by have := Option.some.inj e; omega)).trans (h.block k hk hn)⟩
theorem blankC_all (k t : Int) : (blankC k t (.slice none 0 0)).all (·.oneCell') = true := by simp [blankC, Value.oneCell']
theorem entry_results {tmps : Array Value} {w : World} {R : Nat} {k t : Int} {z : Value} (h2 : tmps[2]? = some (.pointer (some ⟨R, 0, none⟩))) (hB : Blk w R (blankC k t z) 59) :
    (results Tryz.f38 tmps).run Tryz.prog w = .ok (.agg (blankC k t z)) w := by
  have c0 := hB.cell 0
  have c1 := hB.cell 1
  have c2 := hB.cell 2
  have c3 := hB.cell 3
  have c4 := hB.cell 4
  have c5 := hB.cell 5
  have c6 := hB.cell 6
  have c7 := hB.cell 7
  have c8 := hB.cell 8
  have c9 := hB.cell 9
  have c10 := hB.cell 10
  have c11 := hB.cell 11
  have c12 := hB.cell 12
  have c13 := hB.cell 13
  have c14 := hB.cell 14
  have c15 := hB.cell 15
  simp [blankC] at c0 c1 c2 c3 c4 c5 c6 c7 c8 c9 c10 c11 c12 c13 c14 c15
  simp [results, go_sem, h2, c0, c1, c2, c3, c4, c5, c6, c7, c8, c9, c10, c11, c12, c13, c14, c15, blankC]
set_option maxHeartbeats 8000000 in
set_option maxRecDepth 100000 in
theorem centry_clock (w : World) (r : Nat) (bo : Option Addr) (bl bc : Nat) (l : List UInt8) (hl : Byts w bo bl bc l) (hne : ∀ a, bo = some a → a.block ≠ r) (hne2 : ∀ a, bo = some a → a.block < w.heap.size) (p : Nat) (t : Int) (hp : p ≤ 900000) (hg1 : getP l p 1 = (3, 0)) (hg2 : getP l (p + 1) 7 = (t, 0)) (hr : Blk w r (rdC bo bl bc p) 95) :
    Calls Tryz.prog 38 #[.pointer (some ⟨r, 0, none⟩)] w fun e w' => e = .returned (.agg (blankC 3 t (.slice none 0 0))) ∧ Blk w' r (rdC bo bl bc (p + 8)) 95 ∧ w.grownBy w' (some r) := by
  have hal : Below w.heap.size w (w.alloc (.cells (blankC 0 0 (.slice none 0 0)) 59)) := (Below.refl _ _).alloc (Nat.le_refl _) _
  have hA : Blk (w.alloc (.cells (blankC 0 0 (.slice none 0 0)) 59)) w.heap.size (blankC 0 0 (.slice none 0 0)) 59 := heap_alloc_new w _
  have hE : w.heap.size ≠ r := fun e => by have := hr.lt; omega
  have hlA := hl.below hal (Nat.le_refl _)
  have hrA := hr.on hal
  obtain ⟨E, hEq⟩ : ∃ E, E = w.heap.size := ⟨_, rfl⟩
  have h1 := cnum_any _ r bo bl bc l hlA p 1 3 (by omega) (by omega) (by omega) hg1 hrA
  have HE := Lib.hid (And.intro hal (And.intro hA (And.intro hE (And.intro hlA (And.intro hrA (And.intro hne (And.intro hg2 hne2)))))))
  have H1 := Lib.hid h1
  clear hal hA hlA hrA h1 hl hr hne hne2 hg1 hg2 hEq hE
  go_enter Tryz.func38, Tryz.ntmps38
  go_wp2_with (first
    | (refine wpList_store_row rfl 59 _ _ rfl w.heap.size (blankC 3 t (.slice none 0 0)) rfl rfl 59 (blankC 3 t (.slice none 0 0)) H3.out.2.2 entSize rfl (blankC_all 3 t) ?_; have hq := blk_setRow H3.out.2.2 (blankC 3 t (.slice none 0 0)); have hqg := but_setRow (W2.setCell ⟨w.heap.size, 1, none⟩ (.int .i64 t)) w.heap.size (blankC 3 t (.slice none 0 0)); (try change wpList _ _ _ _ _ ((W2.setCell ⟨w.heap.size, 1, none⟩ (.int .i64 t)).setRow w.heap.size (blankC 3 t (.slice none 0 0)))); generalize (W2.setCell ⟨w.heap.size, 1, none⟩ (.int .i64 t)).setRow w.heap.size (blankC 3 t (.slice none 0 0)) = W4 at hq hqg ⊢; have H4 := Lib.hid (And.intro hq hqg); clear hq hqg)
    | (go_at_call 62; refine H2.out.1.mono ?_; rintro e W2 ⟨rfl, hr2, hg2⟩; have hb2 := H2.out.2.2.2.but hg2 HE.out.2.2.1; have hb3 : Blk (W2.setCell ⟨w.heap.size, 1, none⟩ (.int .i64 t)) w.heap.size (blankC 3 t (.slice none 0 0)) 59 := hb2.set 1 (.int .i64 t); have d1 : W2.cell? ⟨w.heap.size, 1, none⟩ = some (.int .i64 0) := hb2.cell 1; have f1 := hb2.free 1; have c0 := hb3.cell 0; have c1 := hb3.cell 1; have c2 := hb3.cell 2; have c3 := hb3.cell 3; have c4 := hb3.cell 4; have c5 := hb3.cell 5; have c6 := hb3.cell 6; have c7 := hb3.cell 7; have c8 := hb3.cell 8; have c9 := hb3.cell 9; have c10 := hb3.cell 10; have c11 := hb3.cell 11; have c12 := hb3.cell 12; have c13 := hb3.cell 13; have c14 := hb3.cell 14; have c15 := hb3.cell 15; simp [blankC] at c0 c1 c2 c3 c4 c5 c6 c7 c8 c9 c10 c11 c12 c13 c14 c15; have H3 := Lib.hid (And.intro hr2 (And.intro hg2 hb3)); clear hb3 hr2 hg2 hb2)
    | (go_at_call 62; refine H1.out.mono ?_; rintro e W1 ⟨rfl, hr1, hg1⟩; have hb1 := HE.out.2.1.but hg1 HE.out.2.2.1; have hl1 : Byts W1 bo bl bc l := HE.out.2.2.2.1.grown hg1 (fun a ha h => HE.out.2.2.2.2.2.1 a ha (Option.some.inj h)); have c0 : W1.cell? ⟨w.heap.size, 0, none⟩ = some (.int .i64 0) := hb1.cell 0; have f0 := hb1.free 0; have hs1 := hb1.set 0 (.int .i64 3); have hgs := but_set W1 w.heap.size 0 (.int .i64 3); have hr1s := hr1.but hgs (Ne.symm HE.out.2.2.1); have hl1s : Byts (W1.setCell ⟨w.heap.size, 0, none⟩ (.int .i64 3)) bo bl bc l := hl1.grown hgs (fun a ha h => Nat.ne_of_lt (HE.out.2.2.2.2.2.2.2 a ha) (Option.some.inj h)); have h2 := cnum_any _ r bo bl bc l hl1s (p + 1) 7 t (by omega) (by omega) (by omega) HE.out.2.2.2.2.2.2.1 hr1s; have H2 := Lib.hid (And.intro h2 (And.intro hg1 (And.intro hgs hs1))); clear hr1 hg1 hb1 hl1 hs1 hgs hr1s hl1s h2))
  refine bodyPost_ret (entry_results rfl H4.out.1) rfl ⟨rfl, ?_, ?_⟩
  · have h := ((H3.out.1).but (but_set W2 w.heap.size 1 (.int .i64 t)) (Ne.symm HE.out.2.2.1)).but H4.out.2 (Ne.symm HE.out.2.2.1)
    rwa [show p + 1 + 7 = p + 8 by omega] at h
  · have g0 := but_of_below r HE.out.1
    have g1 := but_new (but_trans g0 H2.out.2.1) H2.out.2.2.1 (Nat.le_refl _)
    have g2 := but_new (but_trans g1 H3.out.2.1) (but_set W2 w.heap.size 1 (.int .i64 t)) (Nat.le_refl _)
    exact but_new g2 H4.out.2 (Nat.le_refl _)
end
section
open Go.ChangeShapes Go.WideShapes Go.ChangeAt Go.RowKit
def hostK (k : Int) : Bool := decide (k = 2 ∨ k = 5 ∨ k = 12 ∨ k = 15 ∨ k = 6 ∨ k = 33)
def mailK (k : Int) : Bool := decide (k = 6)
def shortK (k : Int) : Bool := decide (k = 2 ∨ k = 5 ∨ k = 12 ∨ k = 15 ∨ k = 6)
def sizeK (k : Int) : Nat := if k = 15 ∨ k = 33 then 2 else if k = 6 then 4 else 0
def firstK (k : Int) : Bool := decide (k = 15 ∨ k = 33)
/-- what data of a kind turns -/
def rdW (k : Int) (d : DataP) (rs : List (List UInt8 × Nat)) (b : List UInt8) : List (List UInt8 × Nat) × List UInt8 := dataW (hostK k) (mailK k) (shortK k) (sizeK k) (firstK k) d rs b
set_option maxHeartbeats 4000000 in
theorem dput_any (w : World) (N R M : Nat) (b : List UInt8) (rs : List (List UInt8 × Nat)) (hW : IsWR N w R M b rs) (k : Int) (h : DataH) (d : DataP) (hd : DW N M w h d) (hok : dataB k d = true) (hb : b.length ≤ 50000000) (hr : rs.length ≤ 800000) :
    Calls Tryz.prog 123 #[.pointer (some ⟨R, 0, none⟩), .int .i64 k, .agg (dataC h)] w fun e w' => e = .returned (.int .i64 0) ∧ IsWR N w' R M (rdW k d rs b).2 (rdW k d rs b).1 ∧ OnlyM wrT N M w w' := by
  have go := fun b0 host mail short nums size texts first hp hsh => dput_shape w N R M b rs hW k h d hd hok b0 host mail short nums size texts first hp hsh hb hr
  rcases kind_cases k with hk | rfl | rfl | hk | rfl | rfl | rfl | rfl | ⟨hk1, hk⟩
  · rw [dataB_out hk] at hok; cases hok
  · have h0 := hok
    simp [dataB, emptyB] at h0
    obtain ⟨h1, h2, h3, h4, h5⟩ := h0
    exact go 4 false false false 0 0 false false ⟨by omega, by simp [h5], by simp [h4], by simp, by simp, by omega⟩ shapes_a
  · have h0 := hok
    simp [dataB, emptyB] at h0
    obtain ⟨h1, h2, h3, h4, h5⟩ := h0
    exact go 16 false false false 0 0 false false ⟨by omega, by simp [h5], by simp [h4], by simp, by simp, by omega⟩ shapes_aaaa
  · have e : rdW k d rs b = dataW true false true 0 false d rs b := by
      rcases hk with rfl | rfl | rfl <;> rfl
    have h0 := hok
    have e2 : dataB k d = (soundB d.host && emptyB d false true false false false) := by
      rcases hk with rfl | rfl | rfl <;> simp [dataB]
    rw [e2] at h0
    simp [emptyB] at h0
    obtain ⟨h1, h2, h3, h4, h5⟩ := h0
    rw [e]
    exact go 0 true false true 0 0 false false ⟨by simp [h2], by simp [h5], by simp [h4], fun _ => h1, by simp, by omega⟩ (fun w' => shapes_ns w' k hk)
  · have h0 := hok
    simp [dataB, emptyB, fitB] at h0
    obtain ⟨⟨h1, h4, h6⟩, h2, h3, h5⟩ := h0
    exact go 0 true false true 1 2 false true ⟨by simp [h2], by simp [h5], ⟨by omega, fun n hn => ⟨by omega, h6 n hn⟩⟩, fun _ => h1, by simp, by omega⟩ shapes_mx
  · have h0 := hok
    simp [dataB, emptyB, fitB] at h0
    obtain ⟨⟨⟨h1, h3⟩, h4, h6⟩, h2, h5⟩ := h0
    exact go 0 true true true 5 4 false false ⟨by simp [h2], by simp [h5], ⟨by omega, fun n hn => ⟨by omega, h6 n hn⟩⟩, fun _ => h1, fun _ => h3, by omega⟩ shapes_soa
  · have h0 := hok
    simp [dataB, emptyB, fitB] at h0
    obtain ⟨⟨h1, h4, h6⟩, h2, h3, h5⟩ := h0
    exact go 0 true false false 3 2 false true ⟨by simp [h2], by simp [h5], ⟨by omega, fun n hn => ⟨by omega, h6 n hn⟩⟩, fun _ => h1, by simp, by omega⟩ shapes_srv
  · have h0 := hok
    simp [dataB, emptyB] at h0
    obtain ⟨⟨h1, h6, h2, h3, h4, h7⟩, h5⟩ := h0
    exact go 0 false false false 0 0 true false ⟨by simp [h2], ⟨h6, h5⟩, by simp [h7], by simp, by simp, by omega⟩ shapes_txt
  · have e : rdW k d rs b = dataW false false false 0 false d rs b := by
      obtain ⟨a1, a2, a3, a4, a5, a6, a7, a8, a9⟩ := hk
      simp [rdW, hostK, mailK, shortK, sizeK, firstK, a3, a4, a5, a6, a7, a8]
    have h0 := hok
    rw [dataB_other hk1.1 hk1.2 hk] at h0
    simp [emptyB] at h0
    obtain ⟨h1, h2, h3, h4, h5⟩ := h0
    rw [e]
    exact go (-1) false false false 0 0 false false ⟨h1, by simp [h5], by simp [h4], by simp, by simp, by omega⟩ (fun w' => shapes_other w' k hk)
end
section
open Go.ChangeShapes Go.WideShapes Go.ChangeAt Go.RowKit
theorem nameW_ge (short : Bool) : ∀ (ss : List ByteArray) (rs : List (List UInt8 × Nat)) (b : List UInt8), b.length ≤ (nameW short ss rs b).2.length
  | [], rs, b => by simp [nameW, putB_len]
  | l :: ss, rs, b => by
    rw [nameW]
    have h1 := nameW_ge short ss rs ((b ++ putN (l.size : Int) 1) ++ l.data.toList)
    have h2 := nameW_ge short ss (if b.length < 16384 then (restP (l :: ss), b.length) :: rs else rs) ((b ++ putN (l.size : Int) 1) ++ l.data.toList)
    simp only [List.length_append, putB_len] at h1 h2
    split
    · split
      · simp only [List.length_append, putB_len]; omega
      · omega
    · omega
theorem dataW1_len (host short : Bool) (ss : List ByteArray) (x : List (List UInt8 × Nat) × List UInt8) (hs : host = true → soundB ss = true) : x.2.length ≤ (dataW1 host short ss x).2.length ∧ (dataW1 host short ss x).2.length ≤ x.2.length + 257 ∧ (dataW1 host short ss x).1.length ≤ x.1.length + 255 := by
  unfold dataW1
  split
  · rename_i hh
    have h1 := nameW_len short ss x.1 x.2
    have h2 := (sound_small (hs hh)).1
    have h3 := nameW_ge short ss x.1 x.2
    have h4 := sizeN_len ss
    omega
  · omega
/-- how much data adds -/
theorem dataW_len {host mail short : Bool} {size : Nat} {first : Bool} {d : DataP} (hp : PutOk host mail size d) (hbt : d.bytes.length + (textsW d.texts).length ≤ 65535) (hnb : d.nums = [] ∨ (d.bytes = [] ∧ d.texts = [])) (hhb : host = false ∧ mail = false ∨ (d.bytes = [] ∧ d.texts = [])) (rs : List (List UInt8 × Nat)) (b : List UInt8) :
    b.length ≤ (dataW host mail short size first d rs b).2.length ∧ (dataW host mail short size first d rs b).2.length ≤ b.length + 65535 ∧ (dataW host mail short size first d rs b).1.length ≤ rs.length + 510 := by
  have hn : (numsW d.nums size).length ≤ 700 ∧ (d.nums = [] → (numsW d.nums size).length = 0) := by
    rw [numsW_len]
    have h1 : d.nums.length * size ≤ 100 * 7 := Nat.mul_le_mul hp.nums.1 hp.size
    exact ⟨by omega, fun h => by simp [h]⟩
  have hb0 : (d.bytes = [] ∧ d.texts = []) → d.bytes.length + (textsW d.texts).length = 0 := fun h => by simp [h.1, h.2, textsW]
  unfold dataW
  split
  · have h1 := dataW1_len host short d.host (rs, ((b ++ d.bytes) ++ textsW d.texts) ++ numsW d.nums size) hp.host
    have h2 := dataW1_len mail short d.mail (dataW1 host short d.host (rs, ((b ++ d.bytes) ++ textsW d.texts) ++ numsW d.nums size)) hp.mail
    simp only [List.length_append] at h1
    rcases hhb with ⟨rfl, rfl⟩ | h
    · simp only [dataW1, Bool.false_eq_true, if_false, List.length_append] at h1 h2 ⊢
      rcases hnb with h | h
      · have := hn.2 h; omega
      · have := hb0 h; omega
    · have := hb0 h; omega
  · have h1 := dataW1_len host short d.host (rs, (b ++ d.bytes) ++ textsW d.texts) hp.host
    have h2 := dataW1_len mail short d.mail (dataW1 host short d.host (rs, (b ++ d.bytes) ++ textsW d.texts)) hp.mail
    simp only [List.length_append] at h1 ⊢
    rcases hhb with ⟨rfl, rfl⟩ | h
    · simp only [dataW1, Bool.false_eq_true, if_false, List.length_append] at h1 h2 ⊢
      rcases hnb with h | h
      · have := hn.2 h; omega
      · have := hb0 h; omega
    · have := hb0 h; omega
theorem rdW_len {k : Int} {d : DataP} (hok : dataB k d = true) (rs : List (List UInt8 × Nat)) (b : List UInt8) :
    b.length ≤ (rdW k d rs b).2.length ∧ (rdW k d rs b).2.length ≤ b.length + 65535 ∧ (rdW k d rs b).1.length ≤ rs.length + 510 := by
  have htx : ∀ (h : d.texts = []), d.bytes.length ≤ 65535 → d.bytes.length + (textsW d.texts).length ≤ 65535 := fun h h2 => by rw [h]; simpa [textsW] using h2
  rcases kind_cases k with hk | rfl | rfl | hk | rfl | rfl | rfl | rfl | ⟨hk1, hk⟩
  · rw [dataB_out hk] at hok; cases hok
  · have h0 := hok
    simp [dataB, emptyB] at h0
    obtain ⟨h1, h2, h3, h4, h5⟩ := h0
    exact dataW_len (host := false) (mail := false) (short := false) (size := 0) (first := false) ⟨by omega, by simp [h5], by simp [h4], by simp, by simp, by omega⟩ (htx h5 (by omega)) (.inl h4) (.inl ⟨rfl, rfl⟩) rs b
  · have h0 := hok
    simp [dataB, emptyB] at h0
    obtain ⟨h1, h2, h3, h4, h5⟩ := h0
    exact dataW_len (host := false) (mail := false) (short := false) (size := 0) (first := false) ⟨by omega, by simp [h5], by simp [h4], by simp, by simp, by omega⟩ (htx h5 (by omega)) (.inl h4) (.inl ⟨rfl, rfl⟩) rs b
  · have e : rdW k d rs b = dataW true false true 0 false d rs b := by
      rcases hk with rfl | rfl | rfl <;> rfl
    have h0 := hok
    have e2 : dataB k d = (soundB d.host && emptyB d false true false false false) := by
      rcases hk with rfl | rfl | rfl <;> simp [dataB]
    rw [e2] at h0
    simp [emptyB] at h0
    obtain ⟨h1, h2, h3, h4, h5⟩ := h0
    rw [e]
    exact dataW_len ⟨by simp [h2], by simp [h5], by simp [h4], fun _ => h1, by simp, by omega⟩ (htx h5 (by simp [h2])) (.inr ⟨h2, h5⟩) (.inr ⟨h2, h5⟩) rs b
  · have h0 := hok
    simp [dataB, emptyB, fitB] at h0
    obtain ⟨⟨h1, h4, h6⟩, h2, h3, h5⟩ := h0
    exact dataW_len (host := true) (mail := false) (short := true) (size := 2) (first := true) ⟨by simp [h2], by simp [h5], ⟨by omega, fun n hn => ⟨by omega, h6 n hn⟩⟩, fun _ => h1, by simp, by omega⟩ (htx h5 (by simp [h2])) (.inr ⟨h2, h5⟩) (.inr ⟨h2, h5⟩) rs b
  · have h0 := hok
    simp [dataB, emptyB, fitB] at h0
    obtain ⟨⟨⟨h1, h3⟩, h4, h6⟩, h2, h5⟩ := h0
    exact dataW_len (host := true) (mail := true) (short := true) (size := 4) (first := false) ⟨by simp [h2], by simp [h5], ⟨by omega, fun n hn => ⟨by omega, h6 n hn⟩⟩, fun _ => h1, fun _ => h3, by omega⟩ (htx h5 (by simp [h2])) (.inr ⟨h2, h5⟩) (.inr ⟨h2, h5⟩) rs b
  · have h0 := hok
    simp [dataB, emptyB, fitB] at h0
    obtain ⟨⟨h1, h4, h6⟩, h2, h3, h5⟩ := h0
    exact dataW_len (host := true) (mail := false) (short := false) (size := 2) (first := true) ⟨by simp [h2], by simp [h5], ⟨by omega, fun n hn => ⟨by omega, h6 n hn⟩⟩, fun _ => h1, by simp, by omega⟩ (htx h5 (by simp [h2])) (.inr ⟨h2, h5⟩) (.inr ⟨h2, h5⟩) rs b
  · have h0 := hok
    simp [dataB, emptyB] at h0
    obtain ⟨⟨h1, h6, h2, h3, h4, h7⟩, h5⟩ := h0
    have ht := textsW_len d.texts.length (⟨h6, h5⟩ : d.texts.length ≤ 64 ∧ ∀ t ∈ d.texts, t.size ≤ 255)
    rw [List.take_length] at ht
    exact dataW_len (host := false) (mail := false) (short := false) (size := 0) (first := false) ⟨by simp [h2], ⟨h6, h5⟩, by simp [h7], by simp, by simp, by omega⟩ (by simp [h2]; omega) (.inl h7) (.inl ⟨rfl, rfl⟩) rs b
  · have e : rdW k d rs b = dataW false false false 0 false d rs b := by
      obtain ⟨a1, a2, a3, a4, a5, a6, a7, a8, a9⟩ := hk
      simp [rdW, hostK, mailK, shortK, sizeK, firstK, a3, a4, a5, a6, a7, a8]
    have h0 := hok
    rw [dataB_other hk1.1 hk1.2 hk] at h0
    simp [emptyB] at h0
    obtain ⟨h1, h2, h3, h4, h5⟩ := h0
    rw [e]
    exact dataW_len ⟨h1, by simp [h5], by simp [h4], by simp, by simp, by omega⟩ (htx h5 h1) (.inl h4) (.inl ⟨rfl, rfl⟩) rs b
/-- a record in a writer's world -/
structure RW (N M : Nat) (w : World) (h : RRH) (r : RRP) : Prop where
  rr : IsRR w h r
  nm : rowIn (inW N M w) h.na h.nl
  ins : DataIn (inW N M w) h.d
theorem RW.step {N M : Nat} {w w' : World} {h : RRH} {r : RRP} (k : RW N M w h r) (ho : OnlyM wrT N M w w') : RW N M w' h r :=
  have hd := DW.step ⟨k.rr.data, k.ins⟩ ho
  ⟨⟨k.rr.name.keep k.nm ho.same, hd.data, k.rr.kind, k.rr.cls, k.rr.ttl⟩, k.nm.mono k.rr.name.row (fun _ hb => inW.step ho hb), hd.ins⟩
end
section
open Go.ChangeShapes Go.WideShapes Go.ChangeAt Go.RowKit
def clockW (t : Int) : List UInt8 := ([] ++ putN 3 1) ++ putN t 7
theorem clockW_len (t : Int) : (clockW t).length = 8 := by simp [clockW, putB_len]
set_option maxHeartbeats 16000000 in
set_option maxRecDepth 100000 in
theorem raw_clock (w : World) (t : Int) (ht : fitK t 7 = true) (u2 u3 u4 u5 u6 u7 u8 u9 ua ub uc ud ue uf : Value) :
    Calls Tryz.prog 41 #[.agg #[.int .i64 3, .int .i64 t, u2, u3, u4, u5, u6, u7, u8, u9, ua, ub, uc, ud, ue, uf]] w fun e w' => (∃ ao c, e = .returned (.slice ao 8 c) ∧ Own1 [5] w.heap.size w' ao 8 c ((clockW t).map u8V)) ∧ Below w.heap.size w w' := by
  have hal : Below w.heap.size w (w.alloc (.cells #[.int .i64 3, .int .i64 t, u2, u3, u4, u5, u6, u7, u8, u9, ua, ub, uc, ud, ue, uf] 59)) := (Below.refl _ _).alloc (Nat.le_refl _) _
  have hA : Blk (w.alloc (.cells #[.int .i64 3, .int .i64 t, u2, u3, u4, u5, u6, u7, u8, u9, ua, ub, uc, ud, ue, uf] 59)) w.heap.size #[.int .i64 3, .int .i64 t, u2, u3, u4, u5, u6, u7, u8, u9, ua, ub, uc, ud, ue, uf] 59 := heap_alloc_new w _
  have HNW := Lib.hid (wname_new (w.alloc (.cells #[.int .i64 3, .int .i64 t, u2, u3, u4, u5, u6, u7, u8, u9, ua, ub, uc, ud, ue, uf] 59)))
  obtain ⟨N, hN⟩ : ∃ N, N = (w.alloc (.cells #[.int .i64 3, .int .i64 t, u2, u3, u4, u5, u6, u7, u8, u9, ua, ub, uc, ud, ue, uf] 59)).heap.size := ⟨_, rfl⟩
  rw [← hN] at HNW
  have HA := Lib.hid (And.intro hal (And.intro hA (And.intro ht hN)))
  clear hal hA ht hN
  go_enter Tryz.func41, Tryz.ntmps41
  go_wp2_with (first
    | (go_at_call 72; refine (wbytes_any W3 N R M (clockW t) G3.out.1 (by rw [clockW_len]; omega)).mono ?_; rintro e W4 ⟨⟨ao, c, rfl, ho⟩, hb4⟩; have G4 := Lib.hid (And.intro ho hb4); clear ho hb4)
    | (go_at_call 69; refine (wnum_any W2 N R M ([] ++ putN 3 1) G2.out.1 t 7 (by omega) (by omega) HA.out.2.2.1 (by simp [putB_len])).mono ?_; rintro e W3 ⟨rfl, hw3, ho3⟩; have G3 := Lib.hid (And.intro hw3 (G2.out.2.2.trans ho3.bel)); clear hw3 ho3)
    | (go_at_call 69; refine (wnum_any W1 N R M [] G1.out.1 3 1 (by omega) (by omega) (by decide) (by simp)).mono ?_; rintro e W2 ⟨rfl, hw2, ho2⟩; have hb := ho2.blk G1.out.2.1 (by decide); have y0 : W2.cell? ⟨w.heap.size, 0, none⟩ = some (.int .i64 3) := hb.cell 0; have y1 : W2.cell? ⟨w.heap.size, 1, none⟩ = some (.int .i64 t) := hb.cell 1; have G2 := Lib.hid (And.intro hw2 (And.intro hb (G1.out.2.2.trans ho2.bel))); clear hw2 ho2 hb)
    | (go_at_call 68; refine HNW.out.mono ?_; rintro e W1 ⟨⟨R, M, rfl, hw1, _⟩, hb1⟩; have hM1 := HA.out.2.1.on (HA.out.2.2.2 ▸ hb1); have c0 : W1.cell? ⟨w.heap.size, 0, none⟩ = some (.int .i64 3) := hM1.cell 0; have G1 := Lib.hid (And.intro hw1 (And.intro hM1 hb1)); clear hw1 hM1 hb1))
  go_ret
  have e := G4.out.1
  rw [clockW_len] at e
  have hb3 : Below w.heap.size w W3 := below_on HA.out.1 (HA.out.2.2.2 ▸ G3.out.2) (Nat.le_refl _)
  have el := clockW_len t
  exact ⟨⟨ao, c, by simp [el], e.mono hb3.size⟩, below_on hb3 G4.out.2 (Nat.le_refl _)⟩
end
section
open Go.ChangeShapes Go.WideShapes Go.ChangeAt Go.RowKit
set_option maxHeartbeats 8000000 in
set_option maxRecDepth 100000 in
theorem encode_clock (w : World) (t : Int) (ht : timeB t = true) (htf : fitK t 7 = true) :
    Calls Tryz.prog 44 #[.agg (blankC 3 t (.slice none 0 0))] w fun e w' => (∃ ao c, e = .returned (.tuple #[.slice ao 8 c, .int .i64 0]) ∧ Own1 [5] w.heap.size w' ao 8 c ((clockW t).map u8V)) ∧ Below w.heap.size w w' := by
  obtain ⟨W1, hW1⟩ : ∃ W1, W1 = w.alloc (.cells (blankC 3 t (.slice none 0 0)) 59) := ⟨_, rfl⟩
  have hb1 : Below w.heap.size w W1 := by rw [hW1]; exact (Below.refl _ _).alloc (Nat.le_refl _) _
  have a1 : Blk W1 w.heap.size (blankC 3 t (.slice none 0 0)) 59 := by rw [hW1]; exact heap_alloc_new w _
  have HT := Lib.hid (And.intro ht htf)
  have hs := csound_clock W1 t
  rw [ht] at hs
  rw [hW1] at a1 hb1 hs
  have HS := Lib.hid hs
  have H1 := Lib.hid (And.intro a1 hb1)
  clear hs ht htf a1 hb1 hW1
  go_enter Tryz.func44, Tryz.ntmps44
  go_wp2_with (first
    | (refine wpList_load_row rfl 59 _ rfl w.heap.size rfl 59 (blankC 3 t (.slice none 0 0)) (0, 0) _ H2.out.1 Tryz.underlying59 rfl entSize ?_)
    | (refine wpList_load_row rfl 59 _ rfl w.heap.size rfl 59 (blankC 3 t (.slice none 0 0)) (0, 0) _ H1.out.1 Tryz.underlying59 rfl entSize ?_)
    | (go_at_call 41; refine (raw_clock W2 t HT.out.2 _ _ _ _ _ _ _ _ _ _ _ _ _ _).mono ?_; rintro e W3 ⟨⟨ao, c, rfl, ho⟩, hb⟩; have H3 := Lib.hid (And.intro ho (below_on H2.out.2 hb (Nat.le_refl _))); clear ho hb)
    | (go_at_call 39; refine HS.out.mono ?_; rintro e W2 ⟨rfl, hb⟩; have H2 := Lib.hid (And.intro (H1.out.1.on hb) (below_on H1.out.2 hb (Nat.le_refl _))); clear hb))
  go_ret2
  exact ⟨⟨ao, c, rfl, H3.out.1.mono H2.out.2.size⟩, H3.out.2⟩
end
section
open Go.ChangeShapes Go.WideShapes Go.ChangeAt Go.RowKit
def partsN (n : Nat) : Nat := max ((n + 495) / 496) 1
set_option maxHeartbeats 4000000 in
set_option maxRecDepth 100000 in
theorem parts_any (w : World) (n : Nat) (hn : n ≤ 1000000000000) :
    Calls Tryz.prog 113 #[.int .i64 (n : Int)] w fun e w' => e = .returned (.int .i64 (partsN n : Int)) ∧ w' = w := by
  have HP := Lib.hid (show max (((n : Int) + 496 - 1) / 496) 1 = (partsN n : Int) by rw [partsN]; omega)
  go_enter Tryz.func113, Tryz.ntmps113
  go_wp2_with fail
  go_ret
  exact ⟨ret_int HP.out, rfl⟩
end
section
open Go.ChangeShapes Go.WideShapes Go.ChangeAt Go.RowKit
def lgT : List TypeId := [40, 108, 71, 80, 88]
def ringN (d : DevP) : Nat := d.sure.length - 2
def atN (d : DevP) (p : Nat) : Nat := p % ringN d + 2
def nextL (l : LogP) : Int := l.block.first + (l.list.length : Int)
def roomL (d : DevP) (l : LogP) : Int := (ringN d : Int) - ((l.fin : Int) - l.block.from')
def offB (d : DevP) (l : LogP) : Bool := l.down || d.down
theorem at_lt {d : DevP} (h : 3 ≤ d.sure.length) (p : Nat) : atN d p < d.sure.length := by
  have : p % ringN d < ringN d := Nat.mod_lt _ (by unfold ringN; omega)
  unfold atN ringN at *
  omega
/-- a log's own flag turns -/
theorem IsLog.off {B : Nat} {w : World} {L D : Nat} {l : LogP} (h : IsLog B w L D l) (b : Bool) : IsLog B (w.setCell ⟨L, 8, none⟩ (.bool b)) L D { l with down := b } ∧ Only lgT B w (w.setCell ⟨L, 8, none⟩ (.bool b)) := by
  obtain ⟨v, h1, h2⟩ := h.ex
  have hg := but_set w L 8 (.bool b)
  have h3 := h1.set 8 (.bool b)
  refine ⟨⟨⟨v, by simpa [logC] using h3, h2.step (Same.but hg h1 (by decide))⟩, h.base, h.fits, h.cnt⟩, Only.but hg h1 (by decide) h.base⟩
theorem dev_lg {B : Nat} {w w' : World} {D : Nat} {d : DevP} (hd : IsDev B w D d) {L : Nat} {cs : Array Value} (hg : w.grownBy w' (some L)) (h1 : Blk w L cs 80) : IsDev B w' D d := by
  obtain ⟨SU, v, k1, k2, k3, k4⟩ := hd.ex
  refine ⟨⟨SU, v, k1.but hg (blk_ne k1 h1 (by decide)), k2.but hg (blk_ne k2 h1 (by decide)), k3, ?_⟩, hd.base, hd.pos, hd.le, hd.lens, hd.ulens, hd.lim, hd.cnt⟩
  exact k4.step (Same.but hg h1 (by decide))
set_option maxHeartbeats 4000000 in
set_option maxRecDepth 100000 in
theorem lcheck_any (w : World) (B L D : Nat) (l : LogP) (d : DevP) (hl : IsLog B w L D l) (hd : IsDev B w D d) :
    Calls Tryz.prog 34 #[.pointer (some ⟨L, 0, none⟩)] w fun e w' => e = .returned (.int .i64 (if offB d l = true then 8 else 0)) ∧ IsLog B w' L D { l with down := offB d l } ∧ IsDev B w' D d ∧ Only lgT B w w' := by
  obtain ⟨v, h1, h2⟩ := hl.ex
  have c0 : w.cell? ⟨L, 0, none⟩ = some (.pointer (some ⟨D, 0, none⟩)) := h1.cell 0
  have c8 : w.cell? ⟨L, 8, none⟩ = some (.bool l.down) := h1.cell 8
  have f8 : w.frozen? ⟨L, 8, none⟩ = false := h1.free 8
  have HDN := Lib.hid (ddown_any w B D d hd)
  have HS := Lib.hid (And.intro (hl.off true) (dev_lg hd (but_set w L 8 (.bool true)) h1))
  have HL := Lib.hid (And.intro hl hd)
  clear h1 h2 hl hd
  cases hld : l.down with
  | true =>
    have HE := Lib.hid (show offB d l = true by rw [offB, hld]; rfl)
    rw [hld] at c8
    rw [HE.out]
    clear hld
    go_enter Tryz.func34, Tryz.ntmps34
    go_wp2_with fail
    go_ret
    exact ⟨rfl, HS.out.1.1, HS.out.2, HS.out.1.2⟩
  | false =>
    rw [hld] at c8
    cases hdn : d.down with
    | true =>
      have HE := Lib.hid (show offB d l = true by rw [offB, hld, hdn]; rfl)
      rw [HE.out]
      rw [hdn] at HDN
      clear hld hdn
      go_enter Tryz.func34, Tryz.ntmps34
      go_wp2_with (go_at_call 29; refine HDN.out.mono ?_; rintro e w2 ⟨rfl, rfl⟩)
      go_ret
      exact ⟨rfl, HS.out.1.1, HS.out.2, HS.out.1.2⟩
    | false =>
      have HE := Lib.hid (show offB d l = false by rw [offB, hld, hdn]; rfl)
      have HQ := Lib.hid (show { l with down := false } = l by rw [← hld])
      rw [HE.out]
      rw [hdn] at HDN
      clear hld hdn
      go_enter Tryz.func34, Tryz.ntmps34
      go_wp2_with (go_at_call 29; refine HDN.out.mono ?_; rintro e w2 ⟨rfl, rfl⟩)
      go_ret
      exact ⟨rfl, by rw [HQ.out]; exact HL.out.1, HL.out.2, Only.refl _ _ _⟩
set_option maxHeartbeats 4000000 in
set_option maxRecDepth 100000 in
theorem ldid_any (w : World) (B L D : Nat) (l : LogP) (d : DevP) (hl : IsLog B w L D l) (hd : IsDev B w D d) (k : Int) :
    Calls Tryz.prog 36 #[.pointer (some ⟨L, 0, none⟩), .int .i64 k] w fun e w' => e = .returned (.int .i64 k) ∧ IsLog B w' L D { l with down := l.down || decide (k = 8) } ∧ IsDev B w' D d ∧ Only lgT B w w' := by
  obtain ⟨v, h1, h2⟩ := hl.ex
  have c8 : w.cell? ⟨L, 8, none⟩ = some (.bool l.down) := h1.cell 8
  have f8 : w.frozen? ⟨L, 8, none⟩ = false := h1.free 8
  have HS := Lib.hid (fun b => And.intro (hl.off b) (dev_lg hd (but_set w L 8 (.bool b)) h1))
  clear h1 h2 hl hd
  cases hld : l.down with
  | true =>
    rw [hld] at c8
    clear hld
    go_enter Tryz.func36, Tryz.ntmps36
    go_wp2_with fail
    go_ret
    exact ⟨rfl, (HS.out _).1.1, (HS.out _).2, (HS.out _).1.2⟩
  | false =>
    rw [hld] at c8
    clear hld
    have HB := Lib.hid (show (k == 8) = (false || decide (k = 8)) by rw [Bool.eq_iff_iff]; simp)
    go_enter Tryz.func36, Tryz.ntmps36
    go_wp2_with fail
    go_ret
    rw [HB.out]
    exact ⟨rfl, (HS.out _).1.1, (HS.out _).2, (HS.out _).1.2⟩
set_option maxHeartbeats 4000000 in
set_option maxRecDepth 100000 in
theorem lring_any (w : World) (B L D : Nat) (l : LogP) (d : DevP) (hl : IsLog B w L D l) (hd : IsDev B w D d) (h2 : 2 ≤ d.sure.length) :
    Calls Tryz.prog 78 #[.pointer (some ⟨L, 0, none⟩)] w fun e w' => e = .returned (.int .i64 (ringN d : Int)) ∧ w' = w := by
  obtain ⟨v, h1, h3⟩ := hl.ex
  have c0 : w.cell? ⟨L, 0, none⟩ = some (.pointer (some ⟨D, 0, none⟩)) := h1.cell 0
  have hle := hd.le
  have HL := Lib.hid (dlen_any w B D d hd)
  obtain ⟨n, hn⟩ : ∃ n, n = d.sure.length := ⟨_, rfl⟩
  have HR := Lib.hid (show (n : Int) - 2 = (ringN d : Int) by rw [ringN, ← hn]; omega)
  rw [← hn] at HL hle h2
  clear h1 h3 hl hd hn
  go_enter Tryz.func78, Tryz.ntmps78
  go_wp2_with (go_at_call 13; refine HL.out.mono ?_; rintro e w ⟨rfl, rfl⟩)
  go_ret
  exact ⟨ret_int HR.out, rfl⟩
set_option maxHeartbeats 4000000 in
set_option maxRecDepth 100000 in
theorem lat_any (w : World) (B L D : Nat) (l : LogP) (d : DevP) (hl : IsLog B w L D l) (hd : IsDev B w D d) (h3 : 3 ≤ d.sure.length) (p : Nat) (hp : p ≤ 1000000000) :
    Calls Tryz.prog 60 #[.pointer (some ⟨L, 0, none⟩), .int .i64 (p : Int)] w fun e w' => e = .returned (.int .i64 (atN d p : Int)) ∧ w' = w := by
  have HR := Lib.hid (lring_any w B L D l d hl hd (by omega))
  have hle := hd.le
  have hrb : 1 ≤ ringN d ∧ ringN d ≤ 4096 := by unfold ringN; omega
  have HE := Lib.hid (show ((p % ringN d : Nat) : Int) + 2 = (atN d p : Int) by unfold atN; omega)
  obtain ⟨r, hr⟩ : ∃ r, r = ringN d := ⟨_, rfl⟩
  rw [← hr] at HR hrb HE
  have HM := Lib.hid (show (p : Int) % (r : Int) = ((p % r : Nat) : Int) by omega)
  have hb : p % r ≤ 4096 := by have := Nat.mod_lt p (show 0 < r by omega); omega
  clear hl hd hr h3 hle
  go_enter Tryz.func60, Tryz.ntmps60
  go_wp2_with (go_at_call 78; refine HR.out.mono ?_; rintro e w ⟨rfl, rfl⟩)
  go_ret
  exact ⟨ret_int (by have := HM.out; have := HE.out; omega), rfl⟩
set_option maxHeartbeats 4000000 in
set_option maxRecDepth 100000 in
theorem lroom_any (w : World) (B L D : Nat) (l : LogP) (d : DevP) (hl : IsLog B w L D l) (hd : IsDev B w D d) (h2 : 2 ≤ d.sure.length) (hf : l.fin ≤ 1000000000) :
    Calls Tryz.prog 48 #[.pointer (some ⟨L, 0, none⟩)] w fun e w' => e = .returned (.int .i64 (roomL d l)) ∧ Below w.heap.size w w' := by
  obtain ⟨v, h1, h3⟩ := hl.ex
  have HW := Lib.hid (fun w' (hb : Below w.heap.size w w') => lring_any w' B L D l d (hl.on hb) (hd.on hb) h2)
  have hbd := Below.drew (Below.refl w.heap.size w)
  have HB := Lib.hid hbd
  have c4 : w.drew.cell? ⟨L, 4, none⟩ = some (.int .i64 l.block.from') := (h1.on hbd).cell 4
  have c7 : w.drew.cell? ⟨L, 7, none⟩ = some (.int .i64 (l.fin : Int)) := (h1.on hbd).cell 7
  have hle := hd.le
  have hrb : ringN d ≤ 4096 := by unfold ringN; omega
  have hf4 := fit7 (supFits_at hl.fits (t := 3) (by omega))
  simp only [supNum] at hf4
  have HE := Lib.hid (show IntKind.i64.wrap ((ringN d : Int) - IntKind.i64.wrap ((l.fin : Int) - l.block.from')) = roomL d l by
    rw [IntWalk.i64_in ((l.fin : Int) - l.block.from') (by omega), IntWalk.i64_in _ (by omega)]
    rfl)
  obtain ⟨r, hr⟩ : ∃ r, r = ringN d := ⟨_, rfl⟩
  obtain ⟨f, hff⟩ : ∃ r, r = l.block.from' := ⟨_, rfl⟩
  obtain ⟨q, hq⟩ : ∃ r, r = l.fin := ⟨_, rfl⟩
  rw [← hr] at HW hrb HE
  rw [← hff] at c4 hf4 HE
  rw [← hq] at c7 hf HE
  clear h1 h3 hl hd hr hff hq hbd
  go_enter Tryz.func48, Tryz.ntmps48
  go_wp2_with fail
  go_region_held3 (fun w' => w' = w.drew)
    (first | go_keep | rfl)
    (first | (go_at_call 78; refine (HW.out _ HB.out).mono ?_; rintro e w2 ⟨rfl, rfl⟩))
  all_goals go_split_ands
  all_goals go_wp2_with fail
  all_goals go_ret
  all_goals exact ⟨ret_int HE.out, HB.out⟩
theorem down_eq (l : LogP) (b : Bool) (h : l.down = b) : { l with down := b } = l := by rw [← h]
def lsyncL (d : DevP) (l : LogP) : LogP := { l with down := offB d l || decide (syncE d = 8) }
def lsyncE (d : DevP) (l : LogP) : Int := if offB d l = true then 8 else syncE d
def lsyncD (d : DevP) (l : LogP) : DevP := if offB d l = true then d else syncP d
set_option maxHeartbeats 4000000 in
set_option maxRecDepth 100000 in
theorem lsync_any (w : World) (B L D : Nat) (l : LogP) (d : DevP) (hl : IsLog B w L D l) (hd : IsDev B w D d) :
    Calls Tryz.prog 26 #[.pointer (some ⟨L, 0, none⟩)] w fun e w' => e = .returned (.int .i64 (lsyncE d l)) ∧ IsLog B w' L D (lsyncL d l) ∧ IsDev B w' D (lsyncD d l) ∧ Only lgT B w w' := by
  have HC := Lib.hid (lcheck_any w B L D l d hl hd)
  cases ho : offB d l with
  | true =>
    have HX := Lib.hid (show lsyncE d l = 8 ∧ lsyncL d l = { l with down := true } ∧ lsyncD d l = d by simp [lsyncE, lsyncL, lsyncD, ho])
    rw [ho] at HC
    clear hl hd ho
    go_enter Tryz.func26, Tryz.ntmps26
    go_wp2_with (go_at_call 34; refine HC.out.mono ?_; rintro e W1 ⟨rfl, hl1, hd1, ho1⟩; have H1 := Lib.hid (And.intro hl1 (And.intro hd1 ho1)); clear hl1 hd1 ho1; (try simp))
    go_ret
    rw [HX.out.1, HX.out.2.1, HX.out.2.2]
    exact ⟨rfl, H1.out⟩
  | false =>
    have HX := Lib.hid (show lsyncE d l = syncE d ∧ lsyncL d l = { l with down := false || decide (syncE d = 8) } ∧ lsyncD d l = syncP d by simp [lsyncE, lsyncL, lsyncD, ho])
    rw [ho] at HC
    clear hl hd ho
    go_enter Tryz.func26, Tryz.ntmps26
    go_wp2_with (first
      | (go_at_call 36; refine (ldid_any W2 B L D _ _ H2.out.2.1 H2.out.1 (syncE d)).mono ?_; rintro e W3 ⟨rfl, hl3, hd3, ho3⟩; have H3 := Lib.hid (And.intro hl3 (And.intro hd3 (H2.out.2.2.trans ho3))); clear hl3 hd3 ho3)
      | (go_at_call 51; refine (dsync_any W1 B D d H1.out.2.1).mono ?_; rintro e W2 ⟨rfl, hd2, ho2⟩; have H2 := Lib.hid (And.intro hd2 (And.intro (H1.out.1.only ho2 (by decide) (by decide)) (H1.out.2.2.trans (ho2.mono (by decide))))); clear hd2 ho2)
      | (go_at_call 34; refine HC.out.mono ?_; rintro e W1 ⟨rfl, hl1, hd1, ho1⟩; obtain ⟨v1, g1, g2⟩ := hl1.ex; have c0 : W1.cell? ⟨L, 0, none⟩ = some (.pointer (some ⟨D, 0, none⟩)) := g1.cell 0; have H1 := Lib.hid (And.intro hl1 (And.intro hd1 ho1)); clear hl1 hd1 ho1 g1 g2; (try simp)))
    go_ret
    rw [HX.out.1, HX.out.2.1, HX.out.2.2]
    exact ⟨rfl, H3.out⟩
end
end Go.Proofs.YtjbaohcofdoinaaGreat

/- Words on memory for the walks of this seat: a slice whose elements take one cell each reads as a list of values; a slice of strings. Nothing of the program is named here. -/
import Derived.WalkKit
import Derived.ProofKit
import Derived.Lib.Hide
import Derived.SliceStrings
import Derived.Laws.AppendOwnNone
import Derived.Deep.Draws
namespace Go.Proofs.YtgfibbjifbghdaaGreat
open Go.ChangeShapes Go.WideShapes Go.ChangeAt Go.RowKit

theorem ret_bool {a b : Bool} (h : a = b) : Ending.returned (.bool a) = .returned (.bool b) := by rw [h]
theorem ret_int {k : IntKind} {a b : Int} (h : a = b) : Ending.returned (.int k a) = .returned (.int k b) := by rw [h]
theorem ret_str {a b : ByteArray} (h : a = b) : Ending.returned (.string a) = .returned (.string b) := by rw [h]

/-- The value '.slice ao len cap' reads as the list vs, each element one cell. -/
structure Row (w : World) (ao : Option Addr) (len cap : Nat) (vs : List Value) : Prop where
  hlen : vs.length = len
  hle : len ≤ cap
  hcap : cap ≤ 9223372036854775807
  hmax : len ≤ 140737488355328
  hnil : ao = none → cap = 0
  hcells : 0 < len → ∃ b off, ao = some ⟨b, off, none⟩ ∧ ∀ i (h : i < vs.length), w.cell? ⟨b, off + i, none⟩ = some vs[i]

theorem Row.empty {w : World} {ao : Option Addr} {cap : Nat} (h : cap ≤ 9223372036854775807) (hn : ao = none → cap = 0) : Row w ao 0 cap [] :=
  ⟨rfl, Nat.zero_le _, h, by omega, hn, fun h => absurd h (by omega)⟩

theorem Row.lt {w : World} {b off : Nat} {len cap : Nat} {vs : List Value} (h : Row w (some ⟨b, off, none⟩) len cap vs) (h0 : 0 < len) : b < w.heap.size := by
  obtain ⟨b', off', e, hc⟩ := h.hcells h0
  cases e
  exact World.block_lt_of_cell? w _ (hc 0 (by have := h.hlen; omega))

theorem Row.below {w w' : World} {ao : Option Addr} {len cap : Nat} {vs : List Value} (h : Row w ao len cap vs) {B : Nat} (hb : Below B w w') (hB : w.heap.size ≤ B) : Row w' ao len cap vs := by
  refine ⟨h.hlen, h.hle, h.hcap, h.hmax, h.hnil, fun h0 => ?_⟩
  obtain ⟨b, off, e, hc⟩ := h.hcells h0
  refine ⟨b, off, e, fun i hi => ?_⟩
  have := World.block_lt_of_cell? w _ (hc i hi)
  rw [hb.cell (p := ⟨b, off + i, none⟩) (by simp at this ⊢; omega)]
  exact hc i hi

theorem Row.at {w : World} {b off : Nat} {len cap : Nat} {vs : List Value} (h : Row w (some ⟨b, off, none⟩) len cap vs) {i : Nat} (hi : i < len) : w.cell? ⟨b, off + i, none⟩ = some (vs[i]'(by have := h.hlen; omega)) := by
  obtain ⟨b', off', e, hc⟩ := h.hcells (by omega)
  cases e
  exact hc i (by have := h.hlen; omega)

/-- either empty, or at an address -/
theorem Row.split {w : World} {ao : Option Addr} {len cap : Nat} {vs : List Value} (h : Row w ao len cap vs) : len = 0 ∨ ∃ b off, 0 < len ∧ ao = some ⟨b, off, none⟩ := by
  rcases Nat.eq_zero_or_pos len with h0 | h0
  · exact .inl h0
  · obtain ⟨b, off, e, _⟩ := h.hcells h0
    exact .inr ⟨b, off, h0, e⟩

theorem Row.addr {w : World} {ao : Option Addr} {len cap : Nat} {vs : List Value} (h : Row w ao len cap vs) {k : Nat} (hk : k < len) : ∃ b off, ao = some ⟨b, off, none⟩ := by
  obtain ⟨b, off, e, _⟩ := h.hcells (by omega)
  exact ⟨b, off, e⟩

theorem cell_keep {w w' : World} {p : Addr} {v : Value} (hb : Below w.heap.size w w') (h : w.cell? p = some v) : w'.cell? p = some v := by
  rw [hb.cell (World.block_lt_of_cell? w _ h)]; exact h
theorem below_on {w w1 w2 : World} {B : Nat} (h1 : Below B w w1) (h2 : Below w1.heap.size w1 w2) (hB : B ≤ w.heap.size) : Below B w w2 :=
  h1.trans (h2.mono (Nat.le_trans hB h1.size))

/-- A slice of strings reads as the list ss. -/
structure Strs (w : World) (ao : Option Addr) (len cap : Nat) (ss : List ByteArray) : Prop where
  row : Row w ao len cap (ss.map .string)
  small : ∀ s ∈ ss, s.size ≤ 9223372036854775807

theorem Strs.len {w : World} {ao : Option Addr} {len cap : Nat} {ss : List ByteArray} (h : Strs w ao len cap ss) : ss.length = len := by simpa using h.row.hlen
theorem Strs.below {w w' : World} {ao : Option Addr} {len cap : Nat} {ss : List ByteArray} (h : Strs w ao len cap ss) {B : Nat} (hb : Below B w w') (hB : w.heap.size ≤ B) : Strs w' ao len cap ss := ⟨h.row.below hb hB, h.small⟩
theorem Strs.at {w : World} {b off : Nat} {len cap : Nat} {ss : List ByteArray} (h : Strs w (some ⟨b, off, none⟩) len cap ss) {i : Nat} (hi : i < len) : w.cell? ⟨b, off + i, none⟩ = some (.string (ss[i]'(by have := h.len; omega))) := by
  rw [h.row.at hi]; simp
theorem Strs.get_small {w : World} {ao : Option Addr} {len cap : Nat} {ss : List ByteArray} (h : Strs w ao len cap ss) {i : Nat} (hi : i < ss.length) : (ss[i]).size ≤ 9223372036854775807 := h.small _ (List.getElem_mem hi)
/-- a slice of the last labels -/
theorem Row.drop {w : World} {ao : Option Addr} {len cap : Nat} {vs : List Value} (h : Row w ao len cap vs) {k : Nat} (hk : k ≤ len) (ao' : Option Addr) (he : k < len → ∀ b off, ao = some ⟨b, off, none⟩ → ao' = some ⟨b, off + k, none⟩) (hn : ao' = none → cap - k = 0) : Row w ao' (len - k) (cap - k) (vs.drop k) := by
  have hl := h.hlen
  refine ⟨by simp [hl], by have := h.hle; omega, by have := h.hcap; omega, by have := h.hmax; omega, hn, fun h0 => ?_⟩
  obtain ⟨b, off, e, hc⟩ := h.hcells (by omega)
  refine ⟨b, off + k, he (by omega) b off e, fun i hi => ?_⟩
  have hi' : k + i < vs.length := by simp at hi; omega
  have := hc (k + i) hi'
  rw [show off + k + i = off + (k + i) from by omega, this]
  simp
theorem Strs.drop {w : World} {ao : Option Addr} {len cap : Nat} {ss : List ByteArray} (h : Strs w ao len cap ss) {k : Nat} (hk : k ≤ len) (ao' : Option Addr) (he : k < len → ∀ b off, ao = some ⟨b, off, none⟩ → ao' = some ⟨b, off + k, none⟩) (hn : ao' = none → cap - k = 0) : Strs w ao' (len - k) (cap - k) (ss.drop k) :=
  ⟨by rw [List.map_drop]; exact h.row.drop hk ao' he hn, fun s hs => h.small s (List.mem_of_mem_drop hs)⟩

theorem addr_add (b off k : Nat) : (⟨b, off, none⟩ : Addr).add k = ⟨b, off + k, none⟩ := by unfold Addr.add; split <;> simp_all
theorem Row.cut {w : World} {ao : Option Addr} {len cap : Nat} {vs : List Value} (h : Row w ao len cap vs) {k : Nat} (hk : k ≤ len) : Row w (Option.map (fun x => x.add k) ao) (len - k) (cap - k) (vs.drop k) :=
  h.drop hk _ (fun _ b off e => by subst e; simp [addr_add]) (fun e => by cases ao with | none => simp [h.hnil rfl] | some a => simp at e)
theorem Row.cut0 {w : World} {ao : Option Addr} {len cap : Nat} {vs : List Value} (h : Row w ao len cap vs) {k : Nat} (hk : k ≤ len) (hc : cap = k) : Row w ao (len - k) 0 (vs.drop k) := by
  have := h.drop hk ao (fun h1 => absurd h.hle (by omega)) (fun _ => by omega)
  rwa [show cap - k = 0 from by omega] at this
theorem Strs.cut {w : World} {ao : Option Addr} {len cap : Nat} {ss : List ByteArray} (h : Strs w ao len cap ss) {k : Nat} (hk : k ≤ len) : Strs w (Option.map (fun x => x.add k) ao) (len - k) (cap - k) (ss.drop k) :=
  ⟨by rw [List.map_drop]; exact h.row.cut hk, fun s hs => h.small s (List.mem_of_mem_drop hs)⟩
theorem Strs.cut0 {w : World} {ao : Option Addr} {len cap : Nat} {ss : List ByteArray} (h : Strs w ao len cap ss) {k : Nat} (hk : k ≤ len) (hc : cap = k) : Strs w ao (len - k) 0 (ss.drop k) :=
  ⟨by rw [List.map_drop]; exact h.row.cut0 hk hc, fun s hs => h.small s (List.mem_of_mem_drop hs)⟩

/-- A builtin append whose run is known. -/
theorem wpList_append_run {P : Program} {w : World} {ops : Array Oper} {rest : List Oper} {o : Oper} {a : Act} {Q : Exit → Act → World → Prop} (hgd : o.guard = none) (s x : Operand) (t : TypeId)
    (ho : o.op = .call { callee := .builtin .append, args := #[s, x], argTypes := #[t, t] }) (v xv : Value) (hs : a.eval s = v) (hx : a.eval x = xv) {v' : Value} {w' : World}
    (hrun : (Builtin.append_ #[t, t] o.type #[v, xv]).run P w = .ok v' w') (h : wpList P ops Q rest (a.put o.dst v') w') : wpList P ops Q (o :: rest) a w := by
  refine wpList_plain hgd fun K hK => ?_
  unfold Oper.wp
  simp [execOp, ho, resolve, invoke, builtin, hs, hx, hrun, Result.andThen]
  exact hK _ _ h

/-- 'append(v, src...)', v the call's own, src whatever (one-cell elements). -/
theorem append_row {P : Program} (w : World) (base : Nat) (t ty e : TypeId) (i : TypeInfo) (z : Value) (bytes : Nat) (ht : P.underlying t = some (.slice e)) (hi : P.info? e = some i) (hz : i.zero = some z)
    (hsize : i.size = 1) (hby : i.bytes = bytes) (hzs : z.cells.size = 1) (v : Value) (n : Nat) (xs : List Value) (hown : w.ownsRow base e 1 v n xs)
    (ao : Option Addr) (m c : Nat) (news : List Value) (hr : Row w ao m c news) (h1 : ∀ u ∈ news, u.oneCell' = true) (h63 : n + m ≤ 9223372036854775807) (hbytes : (n + m) * bytes ≤ 140737488355328) (hbase : base ≤ w.heap.size) :
    ∃ v' w', (Builtin.append_ #[t, t] ty #[v, .slice ao m c]).run P w = .ok v' w' ∧ w'.ownsRow base e 1 v' (n + m) (xs ++ news) ∧ w.grownBy w' v.ownBlock := by
  have hl := hr.hlen
  cases ao with
  | none =>
    have hc := hr.hnil rfl
    have hm : m = 0 := by have := hr.hle; omega
    subst hc; subst hm
    obtain rfl : news = [] := List.eq_nil_of_length_eq_zero hl
    exact ⟨v, w, run_append_owned_none (P := P) (w := w) base t ty e i 1 ht hi v n xs hown, by simpa using hown, World.grownBy.refl _ _⟩
  | some a =>
    obtain ⟨v', w', h2, h3, h4, _⟩ := run_append_own (P := P) w base t ty e i z 1 bytes ht hi hz hsize hby hzs (by decide) v n xs hown a m c news (by omega) (by
      intro j u hj
      have hj' : j < news.length := by
        rcases Nat.lt_or_ge j news.length with h | h
        · exact h
        · rw [List.getElem?_eq_none h] at hj; cases hj
      obtain ⟨b, off, e', hc⟩ := hr.hcells (by omega)
      cases e'
      rw [addr_add, hc j hj', ← hj, List.getElem?_eq_getElem hj']) h1 (by unfold maxLen; omega) hbytes hbase
    exact ⟨v', w', h2, h3, h4⟩

/-- What the call owns reads as a row. -/
theorem row_of_owns {w : World} {base : Nat} {e : TypeId} {v : Value} {n : Nat} {xs : List Value} (h : w.ownsRow base e 1 v n xs) (hmx : n ≤ 140737488355328) :
    ∃ ao cap, v = .slice ao n cap ∧ Row w ao n cap xs := by
  obtain ⟨h1, h2⟩ := h
  rcases h2 with ⟨rfl, rfl⟩ | ⟨g, cap, cur, rfl, hg, hh, hn, hm, hs, ht⟩
  · exact ⟨none, 0, rfl, by omega, Nat.le_refl _, by omega, by omega, fun _ => rfl, fun h0 => absurd h0 (by omega)⟩
  · refine ⟨_, _, rfl, by omega, hn, hm, hmx, fun e => (by cases e), fun h0 => ⟨g, 0, rfl, fun i hi => ?_⟩⟩
    have hi' : i < cur.size := by omega
    simp only [World.cell?, hh, Nat.zero_add]
    have e1 : xs[i]? = cur[i]? := by
      rw [← ht, List.getElem?_take, if_pos (by omega)]
      simp
    rw [List.getElem?_eq_getElem hi] at e1
    simpa using e1.symm
theorem strs_of_owns {w : World} {base : Nat} {e : TypeId} {v : Value} {n : Nat} {ss : List ByteArray} (h : w.ownsRow base e 1 v n (ss.map .string)) (hmx : n ≤ 140737488355328) (hs : ∀ s ∈ ss, s.size ≤ 9223372036854775807) :
    ∃ ao cap, v = .slice ao n cap ∧ Strs w ao n cap ss := by
  obtain ⟨ao, cap, e, hr⟩ := row_of_owns h hmx
  exact ⟨ao, cap, e, hr, hs⟩
theorem strings_oneCell (ss : List ByteArray) : ∀ u ∈ ss.map Value.string, u.oneCell' = true := by
  intro u hu
  obtain ⟨s, _, rfl⟩ := List.mem_map.1 hu
  rfl
theorem owns_keep {w w' : World} {base : Nat} {e : TypeId} {size : Nat} {v : Value} {n : Nat} {xs : List Value} (h : w.ownsRow base e size v n xs) (hb : Below w.heap.size w w') : w'.ownsRow base e size v n xs :=
  h.kept (row := none) ⟨hb.os, hb.tape, hb.output, hb.size, fun k hk _ => hb.block k hk⟩ (by cases v.ownBlock <;> simp)
theorem row_one (w : World) (x : Value) (e : TypeId) : Row (w.alloc (.cells #[x] e)) (some ⟨w.heap.size, 0, none⟩) 1 1 [x] := by
  refine ⟨rfl, Nat.le_refl _, by omega, by omega, fun e => (by cases e), fun h0 => ⟨w.heap.size, 0, rfl, fun i hi => ?_⟩⟩
  have := World.cell?_alloc_new w #[x] e i
  rw [Nat.zero_add, this]
  simp at hi
  subst hi
  rfl
theorem below_drewN {B : Nat} {a w : World} (h : Below B a w) (n : Nat) : Below B a (w.drewN n) := h.trans ⟨rfl, rfl, rfl, Nat.le_refl _, fun _ _ => rfl⟩
/-- what a call hands back: a slice of strings -/
def StrsRes (w : World) (ss : List ByteArray) (e : Ending) (w' : World) : Prop :=
  ∃ ao cap, e = .returned (.slice ao ss.length cap) ∧ Strs w' ao ss.length cap ss ∧ Below w.heap.size w w'
end Go.Proofs.YtgfibbjifbghdaaGreat

/- A cache in memory: its map of pointers to items, each with a fact of its own. -/
import Derived.Test.YtgfibbjifbghdaaGreatFown
import Derived.Maps.OwnSet
import Derived.Maps.RangeWalk
import Derived.StringKeys
namespace Go.Proofs.YtgfibbjifbghdaaGreat
open Go.ChangeShapes Go.WideShapes Go.ChangeAt Go.RowKit
open Go.ChangeMaps Go.MapKept
open Go.Maps (Keyed)

/-- how an item's pointer reads: as the number of its block -/
def ptrR (v : Value) : Option (DataW Unit × List MemPlace) :=
  match v with
  | .pointer (some ⟨b, 0, none⟩) => some (.lit (.int .i64 b), [])
  | .pointer none => some (.nil, [])
  | _ => none
theorem ptrR_inv {v : Value} {b : Nat} {ps : List MemPlace} (h : ptrR v = some (.lit (.int .i64 b), ps)) : v = .pointer (some ⟨b, 0, none⟩) := by
  unfold ptrR at h
  split at h
  · rename_i b'
    simp at h
    obtain rfl : b' = b := by have := h.1; omega
    rfl
  · simp at h
  · cases h
theorem ptrR_nil {v : Value} {ps : List MemPlace} (h : ptrR v = some (.nil, ps)) : v = .pointer none := by
  unfold ptrR at h
  split at h
  · simp at h
  · rfl
  · cases h
structure Slot where
  b : Nat
  h : FactH
  f : FactP
  used : Nat
def itemC (s : Slot) : Array Value := #[.slice s.h.na s.h.nl s.h.nc, .int .i64 s.f.typ, .int .i64 s.f.kind, .int .i64 s.f.rank, .int .i64 s.f.got, .int .i64 s.f.ttl, .slice s.h.sa s.h.sl s.h.sc, .slice s.h.za s.h.zl s.h.zc,
  .slice s.h.d.ba s.h.d.bl s.h.d.bc, .slice s.h.d.ha s.h.d.hl s.h.d.hc, .slice s.h.d.ma s.h.d.ml s.h.d.mc, .slice s.h.d.na s.h.d.nl s.h.d.nc, .slice s.h.d.ta s.h.d.tl s.h.d.tc, .int .i64 s.used]
def atL (L : List Slot) (key : List UInt8) : Option Slot := L.find? fun s => decide (keyF s.f = key)
abbrev lawK : Keyed Tryz.prog 9 := Maps.string_keyed Tryz.underlying9
/-- the map in block M reads as the list -/
def MapL (w : World) (M : Nat) (L : List Slot) : Prop :=
  ∃ n D, w.ownsMap Tryz.prog 9 ptrR M n D ∧ n ≤ 1000000 ∧ Maps.size D = L.length ∧ ∀ key z, D.atKey (.string key) z = (match atL L key with | some s => .lit (.int .i64 s.b) | none => z)
/-- blocks that a cache leaves alone, by their types -/
def gT : List TypeId := [5, 9, 3, 98, 100, 83, 229, 226, 136, 145, 92, 60, 51, 74, 123, 177, 164, 38, 42, 28, 29, 4, 243]
structure IsCache (B : Nat) (w : World) (C : Nat) (most stale : Int) (clock : Nat) (L : List Slot) : Prop where
  ex : ∃ M, Blk w C #[.int .i64 most, .int .i64 stale, .map (some M), .int .i64 clock] 131 ∧ B ≤ M ∧ MapL w M L
  base : B ≤ C
  slot : ∀ s ∈ L, B ≤ s.b ∧ Blk w s.b (itemC s) 203 ∧ IsFact (tagged fT w) w s.h s.f ∧ factB s.f = true ∧ FLen s.f
  apart : L.Pairwise fun a b => a.b ≠ b.b
  keys : L.Pairwise fun a b => keyF a.f ≠ keyF b.f
  used : ∀ s ∈ L, s.used ≤ clock
  order : L.Pairwise fun a b => a.used < b.used
theorem MapL.on {w w' : World} {M : Nat} {L : List Slot} (h : MapL w M L) (hb : w'.heap[M]? = w.heap[M]?) : MapL w' M L := by
  obtain ⟨n, D, ⟨es, clock, h1, h2⟩, r⟩ := h
  exact ⟨n, D, ⟨es, clock, hb.trans h1, h2⟩, r⟩
theorem MapL.lt {w : World} {M : Nat} {L : List Slot} (h : MapL w M L) : M < w.heap.size := by
  obtain ⟨n, D, h1, _⟩ := h
  exact h1.lt
theorem IsCache.on {B : Nat} {w w' : World} {C : Nat} {most stale : Int} {clock : Nat} {L : List Slot} (h : IsCache B w C most stale clock L) (hb : Below w.heap.size w w') : IsCache B w' C most stale clock L := by
  obtain ⟨M, h1, h2, h3⟩ := h.ex
  exact ⟨⟨M, h1.on hb, h2, h3.on (hb.block M h3.lt)⟩, h.base, fun s hs => by
    obtain ⟨a, b, c, d⟩ := h.slot s hs
    exact ⟨a, b.on hb, c.step (Same.below hb _), d⟩, h.apart, h.keys, h.used, h.order⟩
theorem zeroPtr (w : World) : (zeroValue 201).run Tryz.prog w = .ok (.pointer none) w := by kernel_rfl
theorem keyStr {key : List UInt8} (h : key.length ≤ 4611686018427387904) : keyOf Tryz.prog 9 (.string ⟨key.toArray⟩) = some (.string key) := by
  have := Go.WideMaps.keyOf_string_mk (P := Tryz.prog) Tryz.underlying9 (s := ⟨key.toArray⟩) (by unfold maxLen; show key.toArray.size ≤ _; simp; omega)
  simpa using this
/-- 'm[k]' -/
theorem MapL.look {w : World} {M : Nat} {L : List Slot} (h : MapL w M L) {key : List UInt8} (hk : key.length ≤ 4611686018427387904) :
    (Instr.lookup 129 (.map (some M)) (.string ⟨key.toArray⟩) false).run Tryz.prog w = .ok (match atL L key with | some s => .pointer (some ⟨s.b, 0, none⟩) | none => .pointer none) w := by
  obtain ⟨n, D, h1, _, _, h4⟩ := h
  obtain ⟨v, ps, hrun, hv⟩ := h1.lookup lawK Tryz.underlying129 (zeroPtr w) (zd := .nil) (zp := []) rfl (keyStr hk)
  rw [hrun]
  rw [h4] at hv
  cases hat : atL L key with
  | none => rw [hat] at hv; rw [ptrR_nil hv]
  | some s => rw [hat] at hv; rw [ptrR_inv hv]
/-- 'v, ok := m[k]' -/
theorem MapL.look_ok {w : World} {M : Nat} {L : List Slot} (h : MapL w M L) {key : List UInt8} (hk : key.length ≤ 4611686018427387904) :
    (Instr.lookup 129 (.map (some M)) (.string ⟨key.toArray⟩) true).run Tryz.prog w = .ok (match atL L key with | some s => .tuple #[.pointer (some ⟨s.b, 0, none⟩), .bool true] | none => .tuple #[.pointer none, .bool false]) w := by
  obtain ⟨n, D, h1, _, _, h4⟩ := h
  obtain ⟨v, ps, hrun, hv⟩ := h1.look_ok lawK Tryz.underlying129 (zeroPtr w) (zd := .nil) (zp := []) rfl (keyStr hk)
  rw [hrun]
  have h5 := h4 key
  rw [h4] at hv
  cases hat : atL L key with
  | none =>
    rw [hat] at hv h5
    rw [ptrR_nil hv, Maps.has_false_of_atKey h5]
  | some s =>
    rw [hat] at hv h5
    rw [ptrR_inv hv, Maps.has_true_of_atKey h5]
/-- 'len(m)' -/
theorem MapL.len {w : World} {M : Nat} {L : List Slot} (h : MapL w M L) (ty : TypeId) : (Builtin.len_ #[129] ty #[.map (some M)]).run Tryz.prog w = .ok (.int .i64 L.length) w := by
  obtain ⟨n, D, h1, _, h3, _⟩ := h
  rw [h1.len Tryz.underlying129 ty, h3]
theorem atL_mem {L : List Slot} {key : List UInt8} {s : Slot} (h : atL L key = some s) : s ∈ L ∧ keyF s.f = key := by
  refine ⟨List.mem_of_find?_eq_some h, ?_⟩
  have := List.find?_some h
  simpa using this
theorem atL_none {L : List Slot} {key : List UInt8} (h : atL L key = none) : ∀ s ∈ L, keyF s.f ≠ key := fun s hs e => by
  have := List.find?_eq_none.1 h s hs
  simp [e] at this
/-- all but the one at a key -/
def offL (L : List Slot) (key : List UInt8) : List Slot := L.filter fun s => decide (keyF s.f ≠ key)
theorem atL_off (L : List Slot) (key k : List UInt8) : atL (offL L key) k = if k = key then none else atL L k := by
  induction L with
  | nil => simp [offL, atL]
  | cons s L ih =>
    simp only [offL, atL] at ih ⊢
    by_cases h1 : keyF s.f = key
    · rw [List.filter_cons_of_neg (by simp [h1])]
      by_cases h2 : k = key
      · rw [ih, if_pos h2, if_pos h2]
      · rw [ih, if_neg h2, if_neg h2, List.find?_cons_of_neg (by simp [h1]; exact fun e => h2 e.symm)]
    · rw [List.filter_cons_of_pos (by simp [h1])]
      by_cases h3 : keyF s.f = k
      · rw [List.find?_cons_of_pos (by simp [h3]), List.find?_cons_of_pos (by simp [h3]), if_neg (by rw [← h3]; exact h1)]
      · rw [List.find?_cons_of_neg (by simp [h3]), List.find?_cons_of_neg (by simp [h3]), ih]
theorem atL_snoc (L : List Slot) (s : Slot) (k : List UInt8) : atL (L ++ [s]) k = (match atL L k with | some x => some x | none => if keyF s.f = k then some s else none) := by
  simp only [atL, List.find?_append]
  cases h : List.find? (fun s => decide (keyF s.f = k)) L with
  | some x => simp
  | none =>
    by_cases h2 : keyF s.f = k <;> simp [h2]
theorem off_none {L : List Slot} {key : List UInt8} (h : atL L key = none) : offL L key = L := by
  rw [offL, List.filter_eq_self]
  intro s hs
  simp [atL_none h s hs]
theorem off_len {L : List Slot} {key : List UInt8} {s : Slot} (hk : L.Pairwise fun a b => keyF a.f ≠ keyF b.f) (h : atL L key = some s) : (offL L key).length + 1 = L.length := by
  induction L with
  | nil => cases h
  | cons x L ih =>
    obtain ⟨h1, h2⟩ := List.pairwise_cons.1 hk
    by_cases hx : keyF x.f = key
    · have hn : atL L key = none := List.find?_eq_none.2 fun y hy => by simp; exact fun e => h1 y hy (hx.trans e.symm)
      have := off_none hn
      simp only [offL] at this ⊢
      rw [List.filter_cons_of_neg (by simp [hx]), this, List.length_cons]
    · have h3 : atL L key = some s := by
        simp only [atL] at h ⊢
        rwa [List.find?_cons_of_neg (by simp [hx])] at h
      have := ih h2 h3
      simp only [offL] at this ⊢
      rw [List.filter_cons_of_pos (by simp [hx]), List.length_cons, List.length_cons, this]
/-- 'm[k] = p' -/
theorem MapL.store {w : World} {M : Nat} {L : List Slot} (h : MapL w M L) (hk : L.Pairwise fun a b => keyF a.f ≠ keyF b.f) (hL : L.length < 100000) (s : Slot) (hs : (keyF s.f).length ≤ 4611686018427387904) :
    ∃ w', (Instr.mapUpdate 129 (.map (some M)) (.string ⟨(keyF s.f).toArray⟩) (.pointer (some ⟨s.b, 0, none⟩))).run Tryz.prog w = .ok () w' ∧ MapL w' M (offL L (keyF s.f) ++ [s]) ∧ w.grownBy w' (some M) ∧ w'.heap.size = w.heap.size := by
  obtain ⟨n, D, h1, h2, h3, h4⟩ := h
  have hsz : w.ownsMap Tryz.prog 9 ptrR M L.length D := by
    obtain ⟨es, clock, hb, F, _, hD⟩ := h1
    refine ⟨es, clock, hb, F, ?_, hD⟩
    rw [hD] at h3
    simp [Maps.size, length_sorted] at h3
    omega
  obtain ⟨w', hrun, hown, hturn⟩ := hsz.store lawK Tryz.underlying129 (by unfold maxLen; omega) (keyStr hs) (val := .pointer (some ⟨s.b, 0, none⟩)) (d := .lit (.int .i64 s.b)) (ps := []) rfl
  have hg := hturn.grown
  have hat : ∀ key z, (D.put (.string (keyF s.f)) (.lit (.int .i64 s.b))).atKey (.string key) z = (match atL (offL L (keyF s.f) ++ [s]) key with | some s => .lit (.int .i64 s.b) | none => z) := by
    intro key z
    rw [atL_snoc, atL_off]
    by_cases hkk : key = keyF s.f
    · subst hkk
      rw [if_pos rfl, Maps.atKey_put_same h1.isMap (lawK.key (keyStr hs))]
      simp
    · rw [if_neg hkk, Maps.atKey_put_other (by intro e; cases e; exact hkk rfl), h4]
      cases atL L key with
      | some x => rfl
      | none => rw [if_neg (fun e => hkk e.symm)]
  refine ⟨w', hrun, ⟨_, _, hown, by omega, ?_, hat⟩, hg, ?_⟩
  · rw [Maps.size_put (h1.tidy lawK), h3, List.length_append, List.length_singleton]
    have h5 := h4 (keyF s.f)
    cases hh : atL L (keyF s.f) with
    | none => rw [hh] at h5; rw [Maps.has_false_of_atKey h5, off_none hh]; simp
    | some x =>
      rw [hh] at h5
      rw [Maps.has_true_of_atKey h5, if_pos rfl]
      exact (off_len hk hh).symm
  · obtain ⟨es, clock, es', clock', hb, rfl⟩ := hturn
    simp [Go.ChangeMaps.setBlock]
end Go.Proofs.YtgfibbjifbghdaaGreat

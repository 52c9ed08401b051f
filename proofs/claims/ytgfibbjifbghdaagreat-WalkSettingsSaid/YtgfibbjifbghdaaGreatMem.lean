/- Memory read with its support: which blocks a reading looks at; slices of structs, whatever the struct. -/
import Derived.Test.YtgfibbjifbghdaaGreatCells
import Derived.Test.YtgfibbjifbghdaaGreatRows
import Derived.Maps.AppendAt
namespace Go.Proofs.YtgfibbjifbghdaaGreat
open Go.ChangeShapes Go.WideShapes Go.ChangeAt Go.RowKit

/-- block b is cells of one of the types T -/
def tagged (T : List TypeId) (w : World) (b : Nat) : Prop := ∃ cs t, w.heap[b]? = some (.cells cs t (0, 0)) ∧ t ∈ T
/-- the row's memory lies in blocks of S -/
def rowIn (S : Nat → Prop) (ao : Option Addr) (n : Nat) : Prop := 0 < n → ∀ a, ao = some a → S a.block
/-- the blocks of S are as they were -/
def Same (S : Nat → Prop) (w w' : World) : Prop := ∀ b, b < w.heap.size → S b → w'.heap[b]? = w.heap[b]?
theorem Same.refl (S : Nat → Prop) (w : World) : Same S w w := fun _ _ _ => rfl
theorem Same.mono {S S' : Nat → Prop} {w w' : World} (h : Same S w w') (hs : ∀ b, b < w.heap.size → S' b → S b) : Same S' w w' := fun b hb hS => h b hb (hs b hb hS)
theorem Same.below {w w' : World} (h : Below w.heap.size w w') (S : Nat → Prop) : Same S w w' := fun b hb _ => h.block b hb
theorem Same.under {w w' : World} {B : Nat} (h : Below B w w') {S : Nat → Prop} (hS : ∀ b, S b → b < B) : Same S w w' := fun b _ hb => h.block b (hS b hb)
theorem Same.grown {w w' : World} {row : Option Nat} (h : w.grownBy w' row) {S : Nat → Prop} (hS : ∀ b, S b → some b ≠ row) : Same S w w' := fun b hb hSb => h.block b hb (hS b hSb)
theorem tagged_lt {T : List TypeId} {w : World} {b : Nat} (h : tagged T w b) : b < w.heap.size := by
  obtain ⟨cs, t, h, _⟩ := h
  exact (Array.getElem?_eq_some_iff.1 h).1
theorem tagged_keep {T : List TypeId} {w w' : World} {b : Nat} (h : tagged T w b) (hs : w'.heap[b]? = w.heap[b]?) : tagged T w' b := by
  obtain ⟨cs, t, h, ht⟩ := h
  exact ⟨cs, t, hs.trans h, ht⟩
theorem tagged_mono {T T' : List TypeId} {w : World} {b : Nat} (h : tagged T w b) (ht : ∀ t ∈ T, t ∈ T') : tagged T' w b := by
  obtain ⟨cs, t, h, h1⟩ := h
  exact ⟨cs, t, h, ht t h1⟩
/-- two steps that leave what is tagged -/
theorem Same.step {T : List TypeId} {w w1 w2 : World} (h1 : Same (tagged T w) w w1) (h2 : Same (tagged T w1) w1 w2) : Same (tagged T w) w w2 := fun b hb ht => by
  have e := h1 b hb ht
  have t1 := tagged_keep ht e
  rw [h2 b (tagged_lt t1) t1, e]
/-- a block of another type turns -/
theorem tagged_ne {T : List TypeId} {w : World} {g b : Nat} {cs : Array Value} {t : TypeId} (hg : Blk w g cs t) (ht : t ∉ T) (h : tagged T w b) : b ≠ g := by
  rintro rfl
  obtain ⟨cs', t', h, h1⟩ := h
  unfold Blk at hg
  rw [hg] at h
  cases h
  exact ht h1
theorem Same.but {T : List TypeId} {w w' : World} {g : Nat} {cs : Array Value} {t : TypeId} (hb : w.grownBy w' (some g)) (hg : Blk w g cs t) (ht : t ∉ T) : Same (tagged T w) w w' :=
  Same.grown hb (fun b h e => tagged_ne hg ht h (by cases e; rfl))
theorem tagged_map {T : List TypeId} {w : World} {g b : Nat} {es : Array MapEntry} {k : Nat} (hg : w.heap[g]? = some (.map es k)) (h : tagged T w b) : b ≠ g := by
  rintro rfl
  obtain ⟨cs', t', h, h1⟩ := h
  rw [hg] at h
  cases h
theorem Row.keep {S : Nat → Prop} {w w' : World} {ao : Option Addr} {n c : Nat} {vs : List Value} (h : Row w ao n c vs) (hi : rowIn S ao n) (hs : Same S w w') : Row w' ao n c vs := by
  refine ⟨h.hlen, h.hle, h.hcap, h.hmax, h.hnil, fun h0 => ?_⟩
  obtain ⟨b, off, e, hc⟩ := h.hcells h0
  refine ⟨b, off, e, fun i hi' => ?_⟩
  have hl := World.block_lt_of_cell? w _ (hc i hi')
  have hsb := hs b (by simpa using hl) (hi h0 _ e)
  rw [← hc i hi']
  simp [World.cell?, hsb]
theorem Row.mem_lt {w : World} {ao : Option Addr} {n c : Nat} {vs : List Value} (h : Row w ao n c vs) : rowIn (fun b => b < w.heap.size) ao n := fun h0 a ha => by
  obtain ⟨b, off, e, hc⟩ := h.hcells h0
  rw [e] at ha
  cases ha
  have hl : 0 < vs.length := by have := h.hlen; omega
  have := World.block_lt_of_cell? w _ (hc 0 hl)
  simpa using this
theorem rowIn.mono {S S' : Nat → Prop} {w : World} {ao : Option Addr} {n c : Nat} {vs : List Value} (h : rowIn S ao n) (hr : Row w ao n c vs) (hS : ∀ b, b < w.heap.size → S b → S' b) : rowIn S' ao n :=
  fun h0 a ha => hS _ (hr.mem_lt h0 a ha) (h h0 a ha)
theorem rowIn_zero (S : Nat → Prop) (ao : Option Addr) : rowIn S ao 0 := fun h => absurd h (Nat.lt_irrefl 0)
theorem Strs.keep {S : Nat → Prop} {w w' : World} {ao : Option Addr} {n c : Nat} {vs : List ByteArray} (h : Strs w ao n c vs) (hi : rowIn S ao n) (hs : Same S w w') : Strs w' ao n c vs := ⟨h.row.keep hi hs, h.small⟩

/-- a struct in memory -/
structure Kind (α : Type) where
  H : Type
  size : Nat
  cells : H → α → Array Value
  is : (Nat → Prop) → World → H → α → Prop
  hsize : ∀ h x, (cells h x).size = size
  pos : 0 < size
  one : ∀ h x u, u ∈ (cells h x).toList → u.oneCell' = true
  mono : ∀ {S S' : Nat → Prop} {w h x}, is S w h x → (∀ b, b < w.heap.size → S b → S' b) → is S' w h x
  keep : ∀ {S : Nat → Prop} {w w' h x}, is S w h x → Same S w w' → is S w' h x
theorem Kind.on {α : Type} (K : Kind α) {S : Nat → Prop} {w w' : World} {h : K.H} {x : α} (hi : K.is S w h x) (hb : Below w.heap.size w w') : K.is S w' h x := K.keep hi (Same.below hb S)
theorem Kind.step {α : Type} (K : Kind α) {T : List TypeId} {w w' : World} {h : K.H} {x : α} (hi : K.is (tagged T w) w h x) (hs : Same (tagged T w) w w') : K.is (tagged T w') w' h x := by
  have h1 : K.is (fun b => tagged T w b ∧ b < w.heap.size) w h x := K.mono hi (fun b hb ht => ⟨ht, hb⟩)
  have h2 := K.keep h1 (hs.mono (fun b _ ht => ht.1))
  exact K.mono h2 (fun b hb ht => tagged_keep ht.1 (hs b ht.2 ht.1))
/-- a struct's cells at a place -/
def Elem1 {α : Type} (K : Kind α) (S : Nat → Prop) (w : World) (b off : Nat) (x : α) : Prop :=
  ∃ h, (∀ j, j < K.size → w.cell? ⟨b, off + j, none⟩ = (K.cells h x)[j]?) ∧ K.is S w h x
theorem Elem1.lt {α : Type} {K : Kind α} {S : Nat → Prop} {w : World} {b off : Nat} {x : α} (h : Elem1 K S w b off x) : b < w.heap.size := by
  obtain ⟨k, h1, h2⟩ := h
  have h4 := h1 0 K.pos
  have hj' : 0 < (K.cells k x).size := by rw [K.hsize]; exact K.pos
  rw [Array.getElem?_eq_getElem hj'] at h4
  have := World.block_lt_of_cell? w _ h4
  simpa using this
theorem Elem1.keep {α : Type} {K : Kind α} {S : Nat → Prop} {w w' : World} {b off : Nat} {x : α} (h : Elem1 K S w b off x) (hb : S b) (hs : Same S w w') : Elem1 K S w' b off x := by
  have hl := h.lt
  obtain ⟨k, h1, h2⟩ := h
  refine ⟨k, fun j hj => ?_, K.keep h2 hs⟩
  rw [← h1 j hj]
  simp [World.cell?, hs b hl hb]
theorem Elem1.mono {α : Type} {K : Kind α} {S S' : Nat → Prop} {w : World} {b off : Nat} {x : α} (h : Elem1 K S w b off x) (hS : ∀ b, b < w.heap.size → S b → S' b) : Elem1 K S' w b off x := by
  obtain ⟨k, h1, h2⟩ := h
  exact ⟨k, h1, K.mono h2 hS⟩
/-- a slice of structs -/
structure Seq {α : Type} (K : Kind α) (S : Nat → Prop) (w : World) (ao : Option Addr) (n c : Nat) (xs : List α) : Prop where
  hlen : xs.length = n
  hle : n ≤ c
  hmax : c ≤ 9223372036854775807
  hnil : ao = none → c = 0
  hcells : 0 < n → ∃ b off, ao = some ⟨b, off, none⟩ ∧ S b ∧ ∀ i (h : i < xs.length), Elem1 K S w b (off + i * K.size) xs[i]
theorem Seq.keep {α : Type} {K : Kind α} {S : Nat → Prop} {w w' : World} {ao : Option Addr} {n c : Nat} {xs : List α} (h : Seq K S w ao n c xs) (hs : Same S w w') : Seq K S w' ao n c xs :=
  ⟨h.hlen, h.hle, h.hmax, h.hnil, fun h0 => by
    obtain ⟨b, off, e, hb, hc⟩ := h.hcells h0
    exact ⟨b, off, e, hb, fun i hi => (hc i hi).keep hb hs⟩⟩
theorem Seq.on {α : Type} {K : Kind α} {S : Nat → Prop} {w w' : World} {ao : Option Addr} {n c : Nat} {xs : List α} (h : Seq K S w ao n c xs) (hb : Below w.heap.size w w') : Seq K S w' ao n c xs := h.keep (Same.below hb S)
theorem Seq.mono {α : Type} {K : Kind α} {S S' : Nat → Prop} {w : World} {ao : Option Addr} {n c : Nat} {xs : List α} (h : Seq K S w ao n c xs) (hS : ∀ b, b < w.heap.size → S b → S' b) : Seq K S' w ao n c xs :=
  ⟨h.hlen, h.hle, h.hmax, h.hnil, fun h0 => by
    obtain ⟨b, off, e, hb, hc⟩ := h.hcells h0
    have hl : 0 < xs.length := by have := h.hlen; omega
    exact ⟨b, off, e, hS b (hc 0 hl).lt hb, fun i hi => (hc i hi).mono hS⟩⟩
theorem Seq.step {α : Type} {K : Kind α} {T : List TypeId} {w w' : World} {ao : Option Addr} {n c : Nat} {xs : List α} (h : Seq K (tagged T w) w ao n c xs) (hs : Same (tagged T w) w w') : Seq K (tagged T w') w' ao n c xs := by
  have h1 : Seq K (fun b => tagged T w b ∧ b < w.heap.size) w ao n c xs := h.mono (fun b hb ht => ⟨ht, hb⟩)
  have h2 := h1.keep (hs.mono (fun b _ ht => ht.1))
  exact h2.mono (fun b hb ht => tagged_keep ht.1 (hs b ht.2 ht.1))
theorem Seq.nil {α : Type} (K : Kind α) (S : Nat → Prop) {w : World} {ao : Option Addr} {c : Nat} (h : c ≤ 9223372036854775807) (hn : ao = none → c = 0) : Seq K S w ao 0 c [] := ⟨rfl, Nat.zero_le _, h, hn, fun h => absurd h (Nat.lt_irrefl 0)⟩
theorem Seq.addr {α : Type} {K : Kind α} {S : Nat → Prop} {w : World} {ao : Option Addr} {n c : Nat} {xs : List α} (h : Seq K S w ao n c xs) {k : Nat} (hk : k < n) : ∃ b off, ao = some ⟨b, off, none⟩ := by
  obtain ⟨b, off, e, _⟩ := h.hcells (by omega)
  exact ⟨b, off, e⟩
theorem Seq.at {α : Type} {K : Kind α} {S : Nat → Prop} {w : World} {b off : Nat} {n c : Nat} {xs : List α} (h : Seq K S w (some ⟨b, off, none⟩) n c xs) {k : Nat} (hk : k < n) : Elem1 K S w b (off + k * K.size) (xs[k]'(by have := h.hlen; omega)) := by
  obtain ⟨b', off', e, _, hc⟩ := h.hcells (by omega)
  cases e
  exact hc k (by have := h.hlen; omega)
theorem Seq.take {α : Type} {K : Kind α} {S : Nat → Prop} {w : World} {ao : Option Addr} {n c : Nat} {xs : List α} (h : Seq K S w ao n c xs) {k : Nat} (hk : k ≤ n) : Seq K S w ao k c (xs.take k) := by
  have hl := h.hlen
  refine ⟨by simp; omega, by have := h.hle; omega, h.hmax, h.hnil, fun h0 => ?_⟩
  obtain ⟨b, off, e, hb, hc⟩ := h.hcells (by omega)
  refine ⟨b, off, e, hb, fun i hi => ?_⟩
  rw [List.getElem_take]
  exact hc i (by simp at hi; omega)

/-- structs that the call gathers in a row of its own -/
def Gath {α : Type} (K : Kind α) (T : List TypeId) (ty : TypeId) (B : Nat) (w : World) (v : Value) (xs : List α) : Prop :=
  ∃ cs : List Value, w.ownsRow B ty K.size v xs.length cs ∧ ∀ i (h : i < xs.length), ∃ k, (∀ j, j < K.size → cs[i * K.size + j]? = (K.cells k xs[i])[j]?) ∧ K.is (tagged T w) w k xs[i]
theorem Gath.nil {α : Type} (K : Kind α) (T : List TypeId) (ty : TypeId) (B : Nat) (w : World) : Gath K T ty B w (.slice none 0 0) [] := ⟨[], World.ownsRow_nil _ _ _ _, fun i h => absurd h (by simp)⟩
theorem Gath.step {α : Type} {K : Kind α} {T : List TypeId} {ty : TypeId} {B : Nat} {w w' : World} {v : Value} {xs : List α} (h : Gath K T ty B w v xs) (hs : Same (tagged (ty :: T) w) w w') : Gath K T ty B w' v xs := by
  obtain ⟨cs, ⟨hl, ho⟩, h2⟩ := h
  have hsT : Same (tagged T w) w w' := hs.mono (fun b _ ht => tagged_mono ht (fun t ht => List.mem_cons_of_mem _ ht))
  refine ⟨cs, ⟨hl, ?_⟩, fun i hi => ?_⟩
  · rcases ho with h | ⟨g, cap, cur, e, hg, hh, r⟩
    · exact .inl h
    · exact .inr ⟨g, cap, cur, e, hg, by rw [hs g (Array.getElem?_eq_some_iff.1 hh).1 ⟨_, _, hh, List.mem_cons_self⟩]; exact hh, r⟩
  · obtain ⟨k, h3, h4⟩ := h2 i hi
    exact ⟨k, h3, K.step h4 hsT⟩
theorem Gath.on {α : Type} {K : Kind α} {T : List TypeId} {ty : TypeId} {B : Nat} {w w' : World} {v : Value} {xs : List α} (h : Gath K T ty B w v xs) (hb : Below w.heap.size w w') : Gath K T ty B w' v xs := h.step (Same.below hb _)
/-- one struct more, out of a block of one cell row -/
theorem Gath.push {α : Type} {K : Kind α} {T : List TypeId} {ty ts : TypeId} {B : Nat} {w : World} {v : Value} {xs : List α} (h : Gath K T ty B w v xs) (hT : ty ∉ T) (i0 : TypeInfo) (z : Value)
    (hts : Tryz.prog.underlying ts = some (.slice ty)) (hi : Tryz.prog.info? ty = some i0) (hz : i0.zero = some z) (hsz : i0.size = K.size) (hzs : z.cells.size = K.size) (hby : i0.bytes ≤ 1000) (hlen : xs.length ≤ 1000000) (hB : B ≤ w.heap.size)
    (k : K.H) (x : α) (hx : K.is (tagged T w) w k x) (src : Addr) (cap : Nat) (hsrc : ∀ j, j < K.size → w.cell? (src.add j) = (K.cells k x)[j]?) (tx : TypeId) :
    ∃ v' w', (Builtin.append_ #[ts, ts] tx #[v, .slice (some src) 1 cap]).run Tryz.prog w = .ok v' w' ∧ Gath K T ty B w' v' (xs ++ [x]) ∧ w.grownBy w' v.ownBlock ∧ (∀ b, v.ownBlock = some b → ∃ cs, Blk w b cs ty ∧ B ≤ b) ∧ v' ≠ .slice none 0 0 := by
  obtain ⟨cs, h1, h2⟩ := h
  have hmul : (xs.length + 1) * i0.bytes ≤ 1000001 * 1000 := Nat.mul_le_mul (by omega) hby
  have hcl : cs.length = xs.length * K.size := h1.1
  have hks := K.hsize k x
  obtain ⟨v', w', hrun, hown, hg, hnil, _⟩ := run_append_own_at (P := Tryz.prog) w B ts tx ty i0 z K.size i0.bytes hts hi hz hsz rfl hzs K.pos v xs.length cs h1
    src 1 cap (K.cells k x).toList (by simp [hks]) (fun j u hj => by
      have hj' : j < (K.cells k x).toList.length := by
        rcases Nat.lt_or_ge j (K.cells k x).toList.length with h | h
        · exact h
        · rw [List.getElem?_eq_none h] at hj; cases hj
      rw [hsrc j (by rw [← hks]; simpa using hj')]
      simpa using hj) (K.one k x) (by unfold maxLen; omega) (by omega) hB
  have hrow : ∀ b, v.ownBlock = some b → ∃ cs, Blk w b cs ty ∧ B ≤ b := by
    intro b hb
    obtain ⟨_, h3⟩ := h1
    rcases h3 with ⟨rfl, _⟩ | ⟨g, c, cur, rfl, hg, hh, _⟩
    · cases hb
    · cases hb
      exact ⟨_, hh, hg⟩
  have hst : Same (tagged T w) w w' := Same.grown hg (fun b ht e => by
    obtain ⟨cs, hB, _⟩ := hrow b e.symm
    exact tagged_ne hB hT ht rfl)
  refine ⟨v', w', hrun, ⟨_, by simpa using hown, fun i hi' => ?_⟩, hg, hrow, fun e => ?_⟩
  · rw [List.length_append, List.length_singleton] at hi'
    by_cases hlt : i < xs.length
    · obtain ⟨k2, q1, q2⟩ := h2 i hlt
      have hxi : (xs ++ [x])[i] = xs[i] := List.getElem_append_left hlt
      rw [hxi]
      refine ⟨k2, fun j hj => ?_, K.step q2 hst⟩
      have hij : i * K.size + j < xs.length * K.size := by
        have := Nat.mul_le_mul_right K.size (show i + 1 ≤ xs.length from hlt)
        rw [Nat.add_mul] at this
        omega
      rw [List.getElem?_append_left (by omega)]
      exact q1 j hj
    · have hie : i = xs.length := by omega
      subst hie
      have hxi : (xs ++ [x])[xs.length] = x := by simp
      rw [hxi]
      refine ⟨k, fun j hj => ?_, K.step hx hst⟩
      rw [List.getElem?_append_right (by omega), hcl]
      simp
  · have := (hnil.1 e).2
    omega
/-- what was gathered is a slice of structs -/
theorem Gath.seq {α : Type} {K : Kind α} {T : List TypeId} {ty : TypeId} {B : Nat} {w : World} {v : Value} {xs : List α} (h : Gath K T ty B w v xs) : ∃ ao c, v = .slice ao xs.length c ∧ Seq K (tagged (ty :: T) w) w ao xs.length c xs ∧ ∀ a, ao = some a → B ≤ a.block := by
  obtain ⟨cs, ⟨hl, h1⟩, h2⟩ := h
  rcases h1 with ⟨rfl, h0⟩ | ⟨g, cap, cur, rfl, hBg, hb, hn, hc, hs, ht⟩
  · have hx : xs = [] := List.eq_nil_of_length_eq_zero h0
    subst hx
    exact ⟨none, 0, rfl, Seq.nil _ _ (by omega) (fun _ => rfl), fun a ha => by cases ha⟩
  · refine ⟨_, _, rfl, ⟨rfl, hn, ?_, fun e => (by cases e), fun _ => ⟨g, 0, rfl, ⟨_, _, hb, List.mem_cons_self⟩, fun i hi => ?_⟩⟩, fun a ha => by cases ha; exact hBg⟩
    · unfold maxLen at hc; omega
    · obtain ⟨k2, q1, q2⟩ := h2 i hi
      refine ⟨k2, fun j hj => ?_, K.mono q2 (fun b _ ht => tagged_mono ht (fun t h => List.mem_cons_of_mem _ h))⟩
      have hij : i * K.size + j < xs.length * K.size := by
        have := Nat.mul_le_mul_right K.size (show i + 1 ≤ xs.length from hi)
        rw [Nat.add_mul] at this
        omega
      rw [Nat.zero_add, Lib.cell_of_heap hb, ← q1 j hj, ← ht, List.getElem?_take, if_pos hij]
      simp
end Go.Proofs.YtgfibbjifbghdaaGreat

/- Cache.lay where something is too old: the law of what is thrown out. -/
import Derived.Test.YtpemdieejgldiaaGreatClaylaw
namespace Go.Proofs.YtpemdieejgldiaaGreat
open Go.ChangeShapes Go.WideShapes Go.ChangeAt Go.RowKit

/-- what stays of a list of which no more than most may stay -/
def trimL (most : Int) (L : List Slot) : List Slot := if (L.length : Int) ≤ most then L else L.tail
theorem ranges_on {H : Type} {P : Program} {k : TypeId} {R : Value → Option (DataW H × List MemPlace)} {w w' : World} {b r n : Nat} {D : DataW H} {left : Lit → Bool} {cnt : Nat} (h : w.ranges P k R b r n D left cnt) (hb : w'.heap[b]? = w.heap[b]?) (hr : w'.heap[r]? = w.heap[r]?) : w'.ranges P k R b r n D left cnt := by
  obtain ⟨es, clock, since, seen, c0, h1, h2, h3, h4, h5, h6⟩ := h
  exact ⟨es, clock, since, seen, c0, hb.trans h1, h2, h3, h4, hr.trans h5, h6⟩
theorem atL_of_mem {L : List Slot} (hk : L.Pairwise fun a b => keyF a.f ≠ keyF b.f) {s : Slot} (h : s ∈ L) : atL L (keyF s.f) = some s := by
  induction L with
  | nil => cases h
  | cons a L ih =>
    obtain ⟨h1, h2⟩ := List.pairwise_cons.1 hk
    rcases List.mem_cons.1 h with e | h'
    · subst e; simp [atL]
    · have hne := h1 s h'
      have := ih h2 h'
      simp only [atL] at this ⊢
      rw [List.find?_cons_of_neg (by simpa using hne)]
      exact this
theorem key_inj {L : List Slot} (hk : L.Pairwise fun a b => keyF a.f ≠ keyF b.f) {s t : Slot} (hs : s ∈ L) (ht : t ∈ L) (h : keyF s.f = keyF t.f) : s = t := by
  have h1 := atL_of_mem hk hs
  have h2 := atL_of_mem hk ht
  rw [h, h2] at h1
  exact (Option.some.inj h1).symm
/-- what the search for the oldest knows -/
def EvSt (L : List Slot) (left : Lit → Bool) (od : ByteArray) : Prop :=
  (od = ⟨#[]⟩ ∧ ∀ s ∈ L, left (.string (keyF s.f)) = true) ∨ ∃ s ∈ L, od = ⟨(keyF s.f).toArray⟩ ∧ left (.string (keyF s.f)) = false ∧ ∀ x ∈ L, left (.string (keyF x.f)) = false → s.used ≤ x.used
theorem sameKey_str (a b : List UInt8) : (Lit.string a).sameKey (.string b) = decide (a = b) := by
  by_cases h : a = b <;> simp [Lit.sameKey, h]
theorem ev_start {L : List Slot} {D : DataW Unit} (h : ∀ key z, D.atKey (.string key) z = (match atL L key with | some s => .lit (.int .i64 s.b) | none => z)) (hk : L.Pairwise fun a b => keyF a.f ≠ keyF b.f) : EvSt L (Maps.has D) ⟨#[]⟩ := by
  refine .inl ⟨rfl, fun s hs => ?_⟩
  have := h (keyF s.f)
  rw [atL_of_mem hk hs] at this
  exact Maps.has_true_of_atKey this
theorem ev_step {L : List Slot} (hk : L.Pairwise fun a b => keyF a.f ≠ keyF b.f) {left : Lit → Bool} {od : ByteArray} (h : EvSt L left od) {x : ByteArray} {s : Slot} (hs : s ∈ L) (hx : x.data.toList = keyF s.f) {take : Bool}
    (ht : take = true ↔ (od = ⟨#[]⟩ ∨ ∀ t ∈ L, od = ⟨(keyF t.f).toArray⟩ → s.used < t.used)) : EvSt L (fun z => left z && !z.sameKey (.string x.data.toList)) (if take = true then x else od) := by
  have hxs : x = ⟨(keyF s.f).toArray⟩ := by rw [← hx]
  have key : ∀ t ∈ L, (left (.string (keyF t.f)) && !(Lit.string (keyF t.f)).sameKey (.string x.data.toList)) = false → left (.string (keyF t.f)) = false ∨ t = s := by
    intro t ht' h'
    rw [hx, sameKey_str] at h'
    by_cases he : keyF t.f = keyF s.f
    · exact .inr (key_inj hk ht' hs he)
    · simp [he] at h'; exact .inl h'
  have hsx : (left (.string (keyF s.f)) && !(Lit.string (keyF s.f)).sameKey (.string x.data.toList)) = false := by rw [hx, sameKey_str]; simp
  rcases h with ⟨h1, h2⟩ | ⟨o, ho, h1, h2, h3⟩
  · have : take = true := ht.2 (.inl h1)
    rw [if_pos this]
    refine .inr ⟨s, hs, hxs, hsx, fun t ht' h' => ?_⟩
    rcases key t ht' h' with h | h
    · rw [h2 t ht'] at h; cases h
    · subst h; exact Nat.le_refl _
  · cases take with
    | true =>
      have hlt : s.used < o.used := by
        rcases ht.1 rfl with h | h
        · exfalso
          rw [h1] at h
          have h4 := keyP_len o.f.name o.f.typ
          have : (keyF o.f).toArray = #[] := by injection h
          have : (keyF o.f).length = 0 := by rw [← List.size_toArray, this]; rfl
          rw [keyF] at this
          omega
        · exact h o ho h1
      rw [if_pos rfl]
      refine .inr ⟨s, hs, hxs, hsx, fun t ht' h' => ?_⟩
      rcases key t ht' h' with h | h
      · have := h3 t ht' h; omega
      · subst h; exact Nat.le_refl _
    | false =>
      rw [if_neg (by decide)]
      have hle : o.used ≤ s.used := by
        rcases Nat.lt_or_ge s.used o.used with h | h
        · exfalso
          have := ht.2 (.inr fun t ht' e => by
            have : t = o := key_inj hk ht' ho (by
              rw [h1] at e
              have e2 : (keyF o.f).toArray = (keyF t.f).toArray := by injection e
              have := congrArg Array.toList e2
              simpa using this.symm)
            subst this; exact h)
          cases this
        · exact h
      refine .inr ⟨o, ho, h1, by simp [h2], fun t ht' h' => ?_⟩
      rcases key t ht' h' with h | h
      · exact h3 t ht' h
      · subst h; exact hle
/-- at the end the oldest is the head -/
theorem ev_end {L : List Slot} (hk : L.Pairwise fun a b => keyF a.f ≠ keyF b.f) (hu : L.Pairwise fun a b => a.used < b.used) {left : Lit → Bool} {od : ByteArray} (h : EvSt L left od) (hl : ∀ kl, left kl = false) (hne : L ≠ []) :
    ∃ s T, L = s :: T ∧ od = ⟨(keyF s.f).toArray⟩ ∧ offL L (keyF s.f) = T := by
  cases L with
  | nil => exact absurd rfl hne
  | cons a T =>
    obtain ⟨k1, k2⟩ := List.pairwise_cons.1 hk
    obtain ⟨u1, u2⟩ := List.pairwise_cons.1 hu
    rcases h with ⟨_, h2⟩ | ⟨o, ho, h1, _, h3⟩
    · have := h2 a (List.mem_cons_self ..)
      rw [hl] at this; cases this
    · have h4 := h3 a (List.mem_cons_self ..) (hl _)
      have : o = a := by
        rcases List.mem_cons.1 ho with e | ho'
        · exact e
        · have := u1 o ho'; omega
      subst this
      refine ⟨o, T, rfl, h1, ?_⟩
      rw [offL, List.filter_cons_of_neg (by simp)]
      rw [List.filter_eq_self]
      intro t ht
      simpa using fun e => k1 t ht e.symm
/-- 'delete(m, k)' -/
theorem MapL.dropped {w w' : World} {M n : Nat} {L : List Slot} {D : DataW Unit} {key : List UInt8} {s : Slot} (h1 : w.ownsMap Tryz.prog 9 ptrR M n D) (h2 : n ≤ 1000000) (h3 : Maps.size D = L.length) (h4 : ∀ key z, D.atKey (.string key) z = (match atL L key with | some s => .lit (.int .i64 s.b) | none => z))
    (hk : L.Pairwise fun a b => keyF a.f ≠ keyF b.f) (hat : atL L key = some s) (h' : w'.ownsMap Tryz.prog 9 ptrR M n (D.del (.string key))) : MapL w' M (offL L key) := by
  refine ⟨n, _, h', h2, ?_, fun kk z => ?_⟩
  · have hh : Maps.has D (.string key) = true := by
      have := h4 key
      rw [hat] at this
      exact Maps.has_true_of_atKey this
    have := Maps.size_del (k := .string key) (h1.tidy lawK)
    rw [hh, if_pos rfl, h3] at this
    have := off_len hk hat
    omega
  · rw [atL_off]
    by_cases he : kk = key
    · subst he
      rw [if_pos rfl, Maps.atKey_del_same]
    · rw [if_neg he, Maps.atKey_del_other (by intro e; cases e; exact he rfl), h4]
      cases atL L kk <;> rfl
theorem trim_law {B : Nat} {w w' : World} {C k M : Nat} {most stale : Int} {s : Slot} {T : List Slot} (hC : IsCache B w C most stale k (s :: T)) (hCb : Blk w C #[.int .i64 most, .int .i64 stale, .map (some M), .int .i64 k] 52) (hMB : B ≤ M) (hML : MapL w M (s :: T))
    (hM' : MapL w' M T) (hg : w.grownBy w' (some M)) : IsCache B w' C most stale k T ∧ Left B w w' := by
  have hCM := blk_map_ne hCb hML
  have same : Same (tagged gT w) w w' := fun b hb ht => hg.block b hb (fun e => tagged_mapL hML ht (Option.some.inj e))
  refine ⟨⟨⟨M, hCb.but hg hCM, hMB, hM'⟩, hC.base, fun x hx => ?_, (List.pairwise_cons.1 hC.apart).2, (List.pairwise_cons.1 hC.keys).2, fun x hx => hC.used x (List.mem_cons_of_mem _ hx), (List.pairwise_cons.1 hC.order).2⟩, ?_, same⟩
  · obtain ⟨a, b, c, d⟩ := hC.slot x (List.mem_cons_of_mem _ hx)
    exact ⟨a, b.but hg (blk_map_ne b hML), c.step (same.mono (fun _ _ ht => tagged_mono ht fT_gT)), d⟩
  · exact (Below.refl B w).grown hg (by have := hML.lt; omega) (fun j e => by cases e; exact hMB)
end Go.Proofs.YtpemdieejgldiaaGreat

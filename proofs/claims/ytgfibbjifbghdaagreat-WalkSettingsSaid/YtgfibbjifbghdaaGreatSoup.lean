/- A region that draws its order, by one fact on each operation's value: no order is walked by itself. -/
import Derived.Test.YtgfibbjifbghdaaGreatCells
import Derived.Orders
import Derived.RegionTactic
namespace Go.Proofs.YtgfibbjifbghdaaGreat
open Go

/-- where operation j leaves its value -/
def slotV (ops : Array Oper) (a : Act) (j : Nat) : Value := match (ops[j]?).bind (·.dst) with | some d => a.tmps.getD d undef | none => undef
/-- what operation i waits for -/
def depsOf (ops : Array Oper) (i : Nat) : List Nat := match ops[i]? with | some o => (o.after.toList.filter fun e => Region.binds .any e).map (·.on) | none => []
/-- is slot t no operation's? -/
def noDst (ops : Array Oper) (t : Nat) : Bool := (List.range ops.size).all fun j => (ops[j]?).bind (·.dst) != some t
/-- each waits for earlier ones alone; each has a slot of its own -/
def soupOk (ops : Array Oper) (n : Nat) : Bool :=
  (List.range ops.size).all fun i => (depsOf ops i).all (fun j => decide (j < i)) && match (ops[i]?).bind (·.dst) with | none => true | some d => decide (d < n) && (List.range ops.size).all fun j => j == i || (ops[j]?).bind (·.dst) != some d
structure SameBut (ops : Array Oper) (a0 a : Act) : Prop where
  defers : a.defers = a0.defers
  size : a.tmps.size = a0.tmps.size
  keep : ∀ t, noDst ops t = true → a.tmps.getD t undef = a0.tmps.getD t undef

section
variable {P : Program} {ops ks : Array Oper} {Q : Exit → Act → World → Prop} {R : World → World → Prop} {F : Nat → Value → World → Prop} {w0 : World} {a0 : Act}

/-- one operation's step, whatever has come up besides what it waits for -/
def SoupStep (P : Program) (ops ks : Array Oper) (Q : Exit → Act → World → Prop) (R : World → World → Prop) (F : Nat → Value → World → Prop) (w0 : World) (a0 : Act) (i : Nat) : Prop :=
  ∀ o, ops[i]? = some o → ∀ (a : Act) (w : World), R w0 w → SameBut ks a0 a → (∀ j ∈ depsOf ops i, F j (slotV ops a j) w) →
    ∀ K : Act → World → Prop, (∀ v w', R w w' → F i v w' → K (a.put o.dst v) w') → if Region.wanted o (yielded ops a.tmps) = true then Oper.wp P o a w K Q else K (a.put o.dst undef) w

structure SoupAt (ops ks : Array Oper) (R : World → World → Prop) (F : Nat → Value → World → Prop) (w0 : World) (a0 : Act) (listed : Array Bool) (a : Act) (w : World) : Prop where
  size : listed.size = ops.size
  rel : R w0 w
  same : SameBut ks a0 a
  facts : ∀ j, j < ops.size → listed.getD j false = true → F j (slotV ops a j) w

theorem getD_set (l : Array Bool) (i j : Nat) (d : Bool) (hi : i < l.size) : (l.setIfInBounds i true).getD j d = if j = i then true else l.getD j d := by
  simp only [Array.getD_eq_getD_getElem?, Array.getElem?_setIfInBounds]
  by_cases h : i = j
  · subst h; simp [hi]
  · have : ¬ j = i := fun e => h e.symm
    simp [h, this]
theorem getD_put (a : Act) (d t : Nat) (v : Value) (hd : d < a.tmps.size) : (a.tmps.setIfInBounds d v).getD t undef = if t = d then v else a.tmps.getD t undef := by
  simp only [Array.getD_eq_getD_getElem?, Array.getElem?_setIfInBounds]
  by_cases h : d = t
  · subst h; simp [hd]
  · have : ¬ t = d := fun e => h e.symm
    simp [h, this]
def missing (n : Nat) (listed : Array Bool) : Nat := ((List.range n).filter fun i => !listed.getD i true).length
theorem filter_le {α : Type} (p q : α → Bool) (h : ∀ x, p x = true → q x = true) : ∀ l : List α, (l.filter p).length ≤ (l.filter q).length
  | [] => Nat.le_refl _
  | x :: l => by
    have ih := filter_le p q h l
    cases hp : p x
    · cases hq : q x <;> simp [hp, hq] <;> omega
    · simp [hp, h x hp]; omega
theorem filter_lt {α : Type} (p q : α → Bool) (h : ∀ x, p x = true → q x = true) : ∀ (l : List α) (y : α), y ∈ l → p y = false → q y = true → (l.filter p).length < (l.filter q).length
  | x :: l, y, hy, hp, hq => by
    rcases List.mem_cons.1 hy with rfl | hy
    · have := filter_le p q h l
      simp [hp, hq]; omega
    · have ih := filter_lt p q h l y hy hp hq
      cases hpx : p x
      · cases hqx : q x <;> simp [hpx, hqx] <;> omega
      · simp [hpx, h x hpx]; omega
theorem ready_mem {listed : Array Bool} {i : Nat} (h : i ∈ Region.ready .any ops listed) : i < ops.size ∧ listed.getD i true = false ∧ ∀ j ∈ depsOf ops i, listed.getD j false = true := by
  simp only [Region.ready, List.mem_filter, List.mem_range, Bool.and_eq_true, Bool.not_eq_true'] at h
  refine ⟨h.1, h.2.1, fun j hj => ?_⟩
  have h2 := h.2.2
  rw [Array.getElem?_eq_getElem h.1] at h2
  simp only [depsOf, Array.getElem?_eq_getElem h.1, List.mem_map, List.mem_filter] at hj
  obtain ⟨e, ⟨he, hb⟩, rfl⟩ := hj
  simp only [Option.map_some, Option.getD_some, Array.all_eq_true'] at h2
  have := h2 e (by simpa using he)
  simpa [hb] using this
theorem ready_none {listed : Array Bool} {n : Nat} (hs : listed.size = ops.size) (hok : soupOk ops n = true) (h : Region.ready .any ops listed = []) : ∀ j, j < ops.size → listed.getD j false = true := by
  intro j
  induction j using Nat.strongRecOn with
  | ind j ih =>
    intro hj
    cases hl : listed.getD j true with
    | true =>
      rw [Array.getD_eq_getD_getElem?, Array.getElem?_eq_getElem (by omega)] at hl ⊢
      exact hl
    | false =>
      exfalso
      have : j ∈ Region.ready .any ops listed := by
        simp only [Region.ready, List.mem_filter, List.mem_range, Bool.and_eq_true, Bool.not_eq_true']
        refine ⟨hj, hl, ?_⟩
        rw [Array.getElem?_eq_getElem hj]
        simp only [Option.map_some, Option.getD_some, Array.all_eq_true']
        intro e he
        cases hb : Region.binds .any e with
        | false => rfl
        | true =>
          have h1 := List.all_eq_true.1 hok j (List.mem_range.2 hj)
          simp only [Bool.and_eq_true] at h1
          have h2 := List.all_eq_true.1 h1.1 e.on (by
            simp only [depsOf, Array.getElem?_eq_getElem hj, List.mem_map, List.mem_filter]
            exact ⟨e, ⟨by simpa using he, hb⟩, rfl⟩)
          have h3 := ih e.on (of_decide_eq_true h2) (by have := of_decide_eq_true h2; omega)
          simpa using h3
      rw [h] at this
      cases this
theorem put_same {a : Act} {i : Nat} {o : Oper} {v : Value} (ho : ops[i]? = some o) (hk : ks[i]? = some o) (hok : soupOk ops a0.tmps.size = true) (h : SameBut ks a0 a) :
    SameBut ks a0 (a.put o.dst v) ∧ (∀ j, j ≠ i → slotV ops (a.put o.dst v) j = slotV ops a j) ∧ (slotV ops (a.put o.dst v) i = match o.dst with | some _ => v | none => undef) := by
  have hi : i < ops.size := by
    rcases Nat.lt_or_ge i ops.size with h | h
    · exact h
    · rw [Array.getElem?_eq_none h] at ho; cases ho
  have h1 := List.all_eq_true.1 hok i (List.mem_range.2 hi)
  simp only [Bool.and_eq_true, ho, Option.bind_some] at h1
  cases hd : o.dst with
  | none => exact ⟨h, fun _ _ => rfl, by simp [slotV, ho, hd]⟩
  | some d =>
    rw [hd] at h1
    simp only [Bool.and_eq_true, decide_eq_true_eq] at h1
    obtain ⟨_, h2, h3⟩ := h1
    have hsz : d < a.tmps.size := by rw [h.size]; exact h2
    refine ⟨⟨h.defers, by simp [Act.put, h.size], fun t ht => ?_⟩, fun j hj => ?_, ?_⟩
    · have hne : ¬ t = d := by
        rintro rfl
        have hik : i < ks.size := by
          rcases Nat.lt_or_ge i ks.size with h | h
          · exact h
          · rw [Array.getElem?_eq_none h] at hk; cases hk
        have := List.all_eq_true.1 ht i (List.mem_range.2 hik)
        simp [hk, hd] at this
      show (a.tmps.setIfInBounds d v).getD t undef = _
      rw [getD_put a d t v hsz, if_neg hne]
      exact h.keep t ht
    · simp only [slotV]
      cases hj2 : (ops[j]?).bind (·.dst) with
      | none => rfl
      | some d' =>
        have hjl : j < ops.size := by
          rcases Nat.lt_or_ge j ops.size with h | h
          · exact h
          · rw [Array.getElem?_eq_none h] at hj2; cases hj2
        have h4 := List.all_eq_true.1 h3 j (List.mem_range.2 hjl)
        have hne : ¬ d' = d := by
          rintro rfl
          simp [hj, hj2] at h4
        show (a.tmps.setIfInBounds d v).getD d' undef = _
        rw [getD_put a d d' v hsz, if_neg hne]
    · simp only [slotV, ho, Option.bind_some, hd]
      show (a.tmps.setIfInBounds d v).getD d undef = _
      rw [getD_put a d d v hsz, if_pos rfl]

theorem soup_go (hks : ∀ i, i < ops.size → ks[i]? = ops[i]?) (hok : soupOk ops a0.tmps.size = true) (hRt : ∀ x y z, R x y → R y z → R x z) (hF : ∀ i v x y, F i v x → R x y → F i v y) (hF0 : ∀ i o, ops[i]? = some o → o.dst = none → ∀ v x, F i v x → F i undef x)
    (step : ∀ i, i < ops.size → SoupStep P ops ks Q R F w0 a0 i) (done : ∀ a w, R w0 w → SameBut ks a0 a → (∀ j, j < ops.size → F j (slotV ops a j) w) → Q .normal a w) :
    ∀ (fuel : Nat) (listed : Array Bool) (a : Act) (w : World), SoupAt ops ks R F w0 a0 listed a w → missing ops.size listed ≤ fuel → wpAny P .any ops Q fuel listed a w
  | 0, listed, a, w, h, hm => by
    have hr : Region.ready .any ops listed = [] := by
      rw [List.eq_nil_iff_forall_not_mem]
      intro i hi
      obtain ⟨h1, h2, _⟩ := ready_mem hi
      have : i ∈ (List.range ops.size).filter fun i => !listed.getD i true := List.mem_filter.2 ⟨List.mem_range.2 h1, by simp [h2]⟩
      have hnil : ((List.range ops.size).filter fun i => !listed.getD i true) = [] := List.eq_nil_of_length_eq_zero (Nat.le_zero.1 hm)
      rw [hnil] at this
      cases this
    exact ⟨hr, done a w h.rel h.same fun j hj => h.facts j hj (ready_none h.size hok hr j hj)⟩
  | fuel + 1, listed, a, w, h, hm => by
    refine ⟨fun hr => done a w h.rel h.same fun j hj => h.facts j hj (ready_none h.size hok hr j hj), fun i hi => ?_⟩
    obtain ⟨h1, h2, h3⟩ := ready_mem hi
    have ho : ops[i]? = some ops[i] := Array.getElem?_eq_getElem h1
    have hlt : ∀ j ∈ depsOf ops i, j < i := by
      intro j hj
      have h4 := List.all_eq_true.1 hok i (List.mem_range.2 h1)
      simp only [Bool.and_eq_true] at h4
      exact of_decide_eq_true (List.all_eq_true.1 h4.1 j hj)
    refine wpOp_step ho fun K' hK => step i h1 _ ho a w h.rel h.same (fun j hj => h.facts j (by have := hlt j hj; omega) (h3 j hj)) K' fun v w' hR hFi => hK _ _ ?_
    obtain ⟨p1, p2, p3⟩ := put_same (v := v) ho ((hks i h1).trans ho) hok h.same
    refine soup_go hks hok hRt hF hF0 step done fuel _ _ _ ⟨by simp [h.size], hRt _ _ _ h.rel hR, p1, fun j hj hl => ?_⟩ ?_
    · by_cases hji : j = i
      · subst hji
        rw [p3]
        split
        · exact hFi
        · rename_i hd
          exact hF0 j _ ho hd v w' hFi
      · rw [p2 j hji]
        rw [getD_set _ _ _ _ (by rw [h.size]; exact h1), if_neg hji] at hl
        exact hF _ _ _ _ (h.facts j hj hl) hR
    · have : missing ops.size (listed.setIfInBounds i true) < missing ops.size listed := by
        refine filter_lt _ _ (fun x hx => ?_) _ i (List.mem_range.2 h1) ?_ ?_
        · rw [getD_set _ _ _ _ (by rw [h.size]; exact h1)] at hx
          by_cases hxi : x = i
          · simp [hxi] at hx
          · simpa [hxi] using hx
        · rw [getD_set _ _ _ _ (by rw [h.size]; exact h1)]; simp
        · simp [h2]
      omega

/-- THE LAW: each operation leaves a value with its fact, from wherever it comes up; R tells how worlds go on. -/
theorem wp_soup {id m : Nat} (hm : P.follows .mixedOrders = true) (R : World → World → Prop) (F : Nat → Value → World → Prop) (hsz : a0.tmps.size = m) (hok : soupOk ops m = true) (hRt : ∀ x y z, R x y → R y z → R x z) (hRr : R w0.drew w0.drew)
    (hF : ∀ i v x y, F i v x → R x y → F i v y) (hF0 : ∀ i o, ops[i]? = some o → o.dst = none → ∀ v x, F i v x → F i undef x)
    (step : ∀ i, i < ops.size → SoupStep P ops ops Q R F w0.drew a0 i) (done : ∀ a w, R w0.drew w → SameBut ops a0 a → (∀ j, j < ops.size → F j (slotV ops a j) w) → Q .normal a w) :
    (Code.region id ops true).wp P Q a0 w0 := by
  subst hsz
  refine wp_region_any hm ?_
  refine soup_go (ks := ops) (R := R) (F := F) (w0 := w0.drew) (a0 := a0) (fun _ _ => rfl) hok hRt hF hF0 step done _ _ _ _ ⟨by simp, hRr, ⟨rfl, rfl, fun _ _ => rfl⟩, fun j hj hl => ?_⟩ ?_
  · rw [Array.getD_eq_getD_getElem?, Array.getElem?_replicate, if_pos hj] at hl
    cases hl
  · have := List.length_filter_le (fun i => !(Array.replicate ops.size false).getD i true) (List.range ops.size)
    simpa [missing] using this
/-- each but the last is waited for -/
def soupEnds (ops : Array Oper) (n : Nat) : Bool := decide (ops.size = n + 1) && (List.range n).all fun j => (List.range (n + 1)).any fun i => decide (j < i) && (depsOf ops i).contains j
theorem ready_of_all {listed : Array Bool} (h : ∀ j, j < ops.size → listed.getD j false = true) : Region.ready .any ops listed = [] := by
  rw [List.eq_nil_iff_forall_not_mem]
  intro i hi
  obtain ⟨h1, h2, _⟩ := ready_mem hi
  have h3 := h i h1
  rw [Array.getD_eq_getD_getElem?] at h2 h3
  cases h4 : listed[i]? with
  | none => rw [h4] at h3; cases h3
  | some b => rw [h4] at h2 h3; rw [Option.getD_some] at h2 h3; rw [h2] at h3; cases h3
structure SoupLast (ops ks : Array Oper) (n : Nat) (R : World → World → Prop) (F : Nat → Value → World → Prop) (w0 : World) (a0 : Act) (listed : Array Bool) (a : Act) (w : World) : Prop extends SoupAt ops ks R F w0 a0 listed a w where
  closed : ∀ i, i < ops.size → listed.getD i false = true → ∀ j ∈ depsOf ops i, listed.getD j false = true
  left : listed.getD n false = false
theorem soup_go_last {n : Nat} (hks : ∀ i, i < n → ks[i]? = ops[i]?) (hok : soupOk ops a0.tmps.size = true) (he : soupEnds ops n = true) (hRt : ∀ x y z, R x y → R y z → R x z) (hF : ∀ i v x y, F i v x → R x y → F i v y) (hF0 : ∀ i o, ops[i]? = some o → o.dst = none → ∀ v x, F i v x → F i undef x)
    (step : ∀ i, i < n → SoupStep P ops ks Q R F w0 a0 i)
    (last : ∀ o, ops[n]? = some o → ∀ a w, R w0 w → SameBut ks a0 a → (∀ j, j < n → F j (slotV ops a j) w) → ∀ K : Act → World → Prop, (∀ a w, Q .normal a w → K a w) → if Region.wanted o (yielded ops a.tmps) = true then Oper.wp P o a w K Q else K (a.put o.dst undef) w) :
    ∀ (fuel : Nat) (listed : Array Bool) (a : Act) (w : World), SoupLast ops ks n R F w0 a0 listed a w → missing ops.size listed ≤ fuel → wpAny P .any ops Q fuel listed a w
  | fuel, listed, a, w, h, hm => by
    simp only [soupEnds, Bool.and_eq_true, decide_eq_true_eq] at he
    obtain ⟨hsz, hall⟩ := he
    have hnil : Region.ready .any ops listed = [] → False := fun hr => by
      have := ready_none h.size hok hr n (by omega)
      rw [h.left] at this
      cases this
    cases fuel with
    | zero =>
      exfalso
      apply hnil
      rw [List.eq_nil_iff_forall_not_mem]
      intro i hi
      obtain ⟨h1, h2, _⟩ := ready_mem hi
      have : i ∈ (List.range ops.size).filter fun i => !listed.getD i true := List.mem_filter.2 ⟨List.mem_range.2 h1, by simp [h2]⟩
      have hn : ((List.range ops.size).filter fun i => !listed.getD i true) = [] := List.eq_nil_of_length_eq_zero (Nat.le_zero.1 hm)
      rw [hn] at this
      cases this
    | succ fuel =>
      refine ⟨fun hr => (hnil hr).elim, fun i hi => ?_⟩
      obtain ⟨h1, h2, h3⟩ := ready_mem hi
      have ho : ops[i]? = some ops[i] := Array.getElem?_eq_getElem h1
      by_cases hin : i < n
      · have hlt : ∀ j ∈ depsOf ops i, j < i := by
          intro j hj
          have h4 := List.all_eq_true.1 hok i (List.mem_range.2 h1)
          simp only [Bool.and_eq_true] at h4
          exact of_decide_eq_true (List.all_eq_true.1 h4.1 j hj)
        refine wpOp_step ho fun K' hK => step i hin _ ho a w h.rel h.same (fun j hj => h.facts j (by have := hlt j hj; omega) (h3 j hj)) K' fun v w' hR hFi => hK _ _ ?_
        obtain ⟨p1, p2, p3⟩ := put_same (v := v) ho ((hks i hin).trans ho) hok h.same
        have hset : ∀ j, (listed.setIfInBounds i true).getD j false = if j = i then true else listed.getD j false := fun j => getD_set _ _ _ _ (by rw [h.size]; exact h1)
        refine soup_go_last hks hok (by simp only [soupEnds, Bool.and_eq_true, decide_eq_true_eq]; exact ⟨hsz, hall⟩) hRt hF hF0 step last fuel _ _ _ ⟨⟨by simp [h.size], hRt _ _ _ h.rel hR, p1, fun j hj hl => ?_⟩, fun j hj hl d hd => ?_, ?_⟩ ?_
        · by_cases hji : j = i
          · subst hji
            rw [p3]
            split
            · exact hFi
            · rename_i hd
              exact hF0 j _ ho hd v w' hFi
          · rw [p2 j hji]
            rw [hset, if_neg hji] at hl
            exact hF _ _ _ _ (h.facts j hj hl) hR
        · rw [hset]
          by_cases hdi : d = i
          · rw [if_pos hdi]
          · rw [if_neg hdi]
            by_cases hji : j = i
            · subst hji; exact h3 d hd
            · rw [hset, if_neg hji] at hl
              exact h.closed j hj hl d hd
        · rw [hset, if_neg (by omega)]; exact h.left
        · have : missing ops.size (listed.setIfInBounds i true) < missing ops.size listed := by
            refine filter_lt _ _ (fun x hx => ?_) _ i (List.mem_range.2 h1) ?_ ?_
            · rw [getD_set _ _ _ _ (by rw [h.size]; exact h1)] at hx
              by_cases hxi : x = i
              · simp [hxi] at hx
              · simpa [hxi] using hx
            · rw [getD_set _ _ _ _ (by rw [h.size]; exact h1)]; simp
            · simp [h2]
          omega
      · obtain rfl : i = n := by omega
        have hdone : ∀ m j, j < i → i - j ≤ m → listed.getD j false = true := by
          intro m
          induction m with
          | zero => intro j hj h0; omega
          | succ m ih =>
            intro j hj h0
            have h4 := List.all_eq_true.1 hall j (List.mem_range.2 hj)
            obtain ⟨k, hk, h5⟩ := List.any_eq_true.1 h4
            simp only [Bool.and_eq_true, decide_eq_true_eq, List.contains_iff_mem] at h5
            have hk' := List.mem_range.1 hk
            by_cases hki : k = i
            · subst hki; exact h3 j h5.2
            · exact h.closed k (by omega) (ih k (by omega) (by omega)) j h5.2
        refine wpOp_step ho fun K' hK => last _ ho a w h.rel h.same (fun j hj => h.facts j (by omega) (hdone (i - j) j hj (Nat.le_refl _))) K' fun a' w' hQ => hK _ _ ?_
        have hend : Region.ready .any ops (listed.setIfInBounds i true) = [] := ready_of_all fun j hj => by
          rw [getD_set _ _ _ _ (by rw [h.size]; exact h1)]
          by_cases hji : j = i
          · rw [if_pos hji]
          · rw [if_neg hji]; exact hdone (i - j) j (by omega) (Nat.le_refl _)
        cases fuel with
        | zero => exact ⟨hend, hQ⟩
        | succ fuel => exact ⟨fun _ => hQ, fun k hk => by rw [hend] at hk; cases hk⟩
/-- the law for a region whose last operation waits for all others: that one alone may write -/
theorem wp_soup_last {id m : Nat} (n : Nat) (hm : P.follows .mixedOrders = true) (R : World → World → Prop) (F : Nat → Value → World → Prop) (hsz : a0.tmps.size = m) (hok : soupOk ops m = true) (he : soupEnds ops n = true) (hRt : ∀ x y z, R x y → R y z → R x z) (hRr : R w0.drew w0.drew)
    (hF : ∀ i v x y, F i v x → R x y → F i v y) (hF0 : ∀ i o, ops[i]? = some o → o.dst = none → ∀ v x, F i v x → F i undef x)
    (step : ∀ i, i < n → SoupStep P ops ops.pop Q R F w0.drew a0 i)
    (last : ∀ o, ops[n]? = some o → ∀ a w, R w0.drew w → SameBut ops.pop a0 a → (∀ j, j < n → F j (slotV ops a j) w) → ∀ K : Act → World → Prop, (∀ a w, Q .normal a w → K a w) → if Region.wanted o (yielded ops a.tmps) = true then Oper.wp P o a w K Q else K (a.put o.dst undef) w) :
    (Code.region id ops true).wp P Q a0 w0 := by
  subst hsz
  refine wp_region_any hm ?_
  have hnone : ∀ j, (Array.replicate ops.size false).getD j false = false := fun j => by
    rw [Array.getD_eq_getD_getElem?, Array.getElem?_replicate]
    split <;> rfl
  refine soup_go_last (ks := ops.pop) (R := R) (F := F) (w0 := w0.drew) (a0 := a0) (fun i hi => by
    simp only [soupEnds, Bool.and_eq_true, decide_eq_true_eq] at he
    rw [Array.getElem?_pop, if_pos (by omega)]) hok he hRt hF hF0 step last _ _ _ _ ⟨⟨by simp, hRr, ⟨rfl, rfl, fun _ _ => rfl⟩, fun j hj hl => ?_⟩, fun j hj hl => ?_, hnone n⟩ ?_
  · rw [hnone] at hl; cases hl
  · rw [hnone] at hl; cases hl
  · have := List.length_filter_le (fun i => !(Array.replicate ops.size false).getD i true) (List.range ops.size)
    simpa [missing] using this
/-- the steps, one by one -/
theorem soup_steps_nil {i : Nat} : ∀ j, j < i → i ≤ j → SoupStep P ops ks Q R F w0 a0 j := fun _ h1 h2 => absurd h1 (by omega)
theorem soup_cons {n i : Nat} {o : Oper} (ho : ops[i]? = some o) {ds : List Nat} (hd : depsOf ops i = ds)
    (h : ∀ (a : Act) (w : World), R w0 w → SameBut ks a0 a → (∀ j ∈ ds, F j (slotV ops a j) w) →
      ∀ K : Act → World → Prop, (∀ v w', R w w' → F i v w' → K (a.put o.dst v) w') → if Region.wanted o (yielded ops a.tmps) = true then Oper.wp P o a w K Q else K (a.put o.dst undef) w)
    (hs : ∀ j, j < n → i + 1 ≤ j → SoupStep P ops ks Q R F w0 a0 j) : ∀ j, j < n → i ≤ j → SoupStep P ops ks Q R F w0 a0 j := fun j h1 h2 => by
  by_cases hj : j = i
  · subst hj
    intro o' ho'
    obtain rfl : o = o' := Option.some.inj (ho.symm.trans ho')
    intro a w hR hS hdep
    rw [hd] at hdep
    exact h a w hR hS hdep
  · exact hs j h1 (by omega)
theorem wp_soup0 {id m : Nat} (hm : P.follows .mixedOrders = true) (R : World → World → Prop) (F : Nat → Value → World → Prop) (hsz : a0.tmps.size = m) (hok : soupOk ops m = true) (hRt : ∀ x y z, R x y → R y z → R x z) (hRr : R w0.drew w0.drew)
    (hF : ∀ i v x y, F i v x → R x y → F i v y) (hF0 : ∀ i o, ops[i]? = some o → o.dst = none → ∀ v x, F i v x → F i undef x)
    (step : ∀ j, j < ops.size → 0 ≤ j → SoupStep P ops ops Q R F w0.drew a0 j) (done : ∀ a w, R w0.drew w → SameBut ops a0 a → (∀ j, j < ops.size → F j (slotV ops a j) w) → Q .normal a w) :
    (Code.region id ops true).wp P Q a0 w0 := wp_soup hm R F hsz hok hRt hRr hF hF0 (fun i hi => step i hi (Nat.zero_le _)) done
theorem wp_soup0_last {id m : Nat} (n : Nat) (hm : P.follows .mixedOrders = true) (R : World → World → Prop) (F : Nat → Value → World → Prop) (hsz : a0.tmps.size = m) (hok : soupOk ops m = true) (he : soupEnds ops n = true) (hRt : ∀ x y z, R x y → R y z → R x z) (hRr : R w0.drew w0.drew)
    (hF : ∀ i v x y, F i v x → R x y → F i v y) (hF0 : ∀ i o, ops[i]? = some o → o.dst = none → ∀ v x, F i v x → F i undef x)
    (step : ∀ j, j < n → 0 ≤ j → SoupStep P ops ops.pop Q R F w0.drew a0 j)
    (last : ∀ o, ops[n]? = some o → ∀ a w, R w0.drew w → SameBut ops.pop a0 a → (∀ j, j < n → F j (slotV ops a j) w) → ∀ K : Act → World → Prop, (∀ a w, Q .normal a w → K a w) → if Region.wanted o (yielded ops a.tmps) = true then Oper.wp P o a w K Q else K (a.put o.dst undef) w) :
    (Code.region id ops true).wp P Q a0 w0 := wp_soup_last n hm R F hsz hok he hRt hRr hF hF0 (fun i hi => step i hi (Nat.zero_le _)) last
/-- all but n have a slot -/
def dstBut (ops : Array Oper) (n : Nat) : Bool := (List.range ops.size).all fun i => i == n || ((ops[i]?).bind (·.dst)).isSome
theorem dst_but (n : Nat) (h : dstBut ops n = true) (hn : ∀ v x, F n v x → F n undef x) : ∀ i o, ops[i]? = some o → o.dst = none → ∀ v x, F i v x → F i undef x := fun i o ho hd => by
  have hi : i < ops.size := by
    rcases Nat.lt_or_ge i ops.size with h | h
    · exact h
    · rw [Array.getElem?_eq_none h] at ho; cases ho
  have h1 := List.all_eq_true.1 h i (List.mem_range.2 hi)
  rw [ho, Option.bind_some, hd] at h1
  simp at h1
  subst h1
  exact hn
end
end Go.Proofs.YtgfibbjifbghdaaGreat

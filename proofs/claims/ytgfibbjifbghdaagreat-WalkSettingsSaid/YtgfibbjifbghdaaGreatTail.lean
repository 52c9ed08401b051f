/- A region that draws its order, whose last operations come one behind the other, behind all the others: the first ones by one fact each, the rest as a plain list. -/
import Derived.Test.YtgfibbjifbghdaaGreatTmpsSame
namespace Go.Proofs.YtgfibbjifbghdaaGreat
open Go

/-- from n on each waits for the one ahead; n waits, through others, for all -/
def tailOk (ops : Array Oper) (n : Nat) : Bool :=
  decide (n < ops.size) && ((List.range n).all fun j => (List.range (n + 1)).any fun i => decide (j < i) && (depsOf ops i).contains j) && (List.range ops.size).all fun i => decide (i ≤ n) || (depsOf ops i).contains (i - 1)
section
variable {P : Program} {ops ks : Array Oper} {Q : Exit → Act → World → Prop} {R : World → World → Prop} {F : Nat → Value → World → Prop} {w0 : World} {a0 : Act}

theorem tail_parts {n : Nat} (h : tailOk ops n = true) : n < ops.size ∧ (∀ j, j < n → ∃ i, i ≤ n ∧ j < i ∧ j ∈ depsOf ops i) ∧ ∀ i, i < ops.size → n < i → i - 1 ∈ depsOf ops i := by
  simp only [tailOk, Bool.and_eq_true, decide_eq_true_eq] at h
  refine ⟨h.1.1, fun j hj => ?_, fun i hi hn => ?_⟩
  · have h4 := List.all_eq_true.1 h.1.2 j (List.mem_range.2 hj)
    obtain ⟨k, hk, h5⟩ := List.any_eq_true.1 h4
    simp only [Bool.and_eq_true, decide_eq_true_eq, List.contains_iff_mem] at h5
    have := List.mem_range.1 hk
    exact ⟨k, by omega, h5.1, h5.2⟩
  · have h4 := List.all_eq_true.1 h.2 i (List.mem_range.2 hi)
    simp only [Bool.or_eq_true, decide_eq_true_eq, List.contains_iff_mem] at h4
    rcases h4 with h4 | h4
    · omega
    · exact h4
theorem tail_go {n m : Nat} (hok : soupOk ops m = true) (he : tailOk ops n = true) :
    ∀ (fuel k : Nat) (listed : Array Bool) (a : Act) (w : World), listed.size = ops.size → (∀ j, j < ops.size → listed.getD j false = decide (j < k)) → n ≤ k → ops.size - k ≤ fuel → wpList P ops Q (ops.toList.drop k) a w → wpAny P .any ops Q fuel listed a w := by
  obtain ⟨hn, _, hch⟩ := tail_parts he
  intro fuel
  induction fuel with
  | zero =>
    intro k listed a w hs hl hk hf h
    have hend : Region.ready .any ops listed = [] := ready_of_all fun j hj => by rw [hl j hj, decide_eq_true (by omega)]
    rw [List.drop_eq_nil_of_le (by simp; omega)] at h
    exact ⟨hend, h⟩
  | succ fuel ih =>
    intro k listed a w hs hl hk hf h
    by_cases hks : k < ops.size
    · refine ⟨fun hr => ?_, fun i hi => ?_⟩
      · have := ready_none hs hok hr k hks
        rw [hl k hks, decide_eq_false (by omega)] at this
        cases this
      · obtain ⟨h1, h2, h3⟩ := ready_mem hi
        have hik : i = k := by
          have hge : k ≤ i := by
            rcases Nat.lt_or_ge i k with hlt | hge
            · have h5 := hl i h1
              rw [decide_eq_true hlt, Array.getD_eq_getD_getElem?, Array.getElem?_eq_getElem (by omega)] at h5
              rw [Array.getD_eq_getD_getElem?, Array.getElem?_eq_getElem (by omega)] at h2
              rw [Option.getD_some] at h2 h5
              rw [h2] at h5
              cases h5
            · exact hge
          rcases Nat.lt_or_ge k i with hlt | hle
          · have h6 := h3 (i - 1) (hch i h1 (by omega))
            rw [hl (i - 1) (by omega), decide_eq_false (by omega)] at h6
            cases h6
          · omega
        subst hik
        have ho : ops[i]? = some ops[i] := Array.getElem?_eq_getElem h1
        have hd : ops.toList.drop i = ops[i] :: ops.toList.drop (i + 1) := by rw [List.drop_eq_getElem_cons (by simpa using h1)]; simp
        rw [hd] at h
        have hK : ∀ a w, wpList P ops Q (ops.toList.drop (i + 1)) a w → wpAny P .any ops Q fuel (listed.setIfInBounds i true) a w := fun a w h7 =>
          ih (i + 1) _ a w (by simp [hs]) (fun j hj => by
            rw [getD_set _ _ _ _ (by omega)]
            by_cases hji : j = i
            · rw [if_pos hji, decide_eq_true (by omega)]
            · rw [if_neg hji, hl j hj]
              by_cases hlt : j < i
              · rw [decide_eq_true hlt, decide_eq_true (by omega)]
              · rw [decide_eq_false hlt, decide_eq_false (by omega)]) (by omega) (by omega) h7
        unfold wpOp
        rw [ho]
        simp only [wpList] at h
        simp only
        split
        · rename_i hw
          rw [if_pos hw] at h
          rcases h with h | h
          · exact .inl (Oper.wp_mono hK h)
          · exact .inr h
        · rename_i hw
          rw [if_neg hw] at h
          exact hK _ _ h
    · have hend : Region.ready .any ops listed = [] := ready_of_all fun j hj => by rw [hl j hj, decide_eq_true (by omega)]
      rw [List.drop_eq_nil_of_le (by simp; omega)] at h
      exact ⟨fun _ => h, fun i hi => by rw [hend] at hi; cases hi⟩
structure SoupTail (ops ks : Array Oper) (n : Nat) (R : World → World → Prop) (F : Nat → Value → World → Prop) (w0 : World) (a0 : Act) (listed : Array Bool) (a : Act) (w : World) : Prop extends SoupAt ops ks R F w0 a0 listed a w where
  closed : ∀ i, i < ops.size → listed.getD i false = true → ∀ j ∈ depsOf ops i, listed.getD j false = true
  left : ∀ j, n ≤ j → j < ops.size → listed.getD j false = false
theorem soup_go_tail {n : Nat} (hks : ∀ i, i < n → ks[i]? = ops[i]?) (hok : soupOk ops a0.tmps.size = true) (he : tailOk ops n = true) (hRt : ∀ x y z, R x y → R y z → R x z) (hF : ∀ i v x y, F i v x → R x y → F i v y) (hF0 : ∀ i o, i < n → ops[i]? = some o → o.dst = none → ∀ v x, F i v x → F i undef x)
    (step : ∀ i, i < n → SoupStep P ops ks Q R F w0 a0 i)
    (tail : ∀ a w, R w0 w → SameBut ks a0 a → (∀ j, j < n → F j (slotV ops a j) w) → wpList P ops Q (ops.toList.drop n) a w) :
    ∀ (fuel : Nat) (listed : Array Bool) (a : Act) (w : World), SoupTail ops ks n R F w0 a0 listed a w → missing ops.size listed ≤ fuel → wpAny P .any ops Q fuel listed a w
  | fuel, listed, a, w, h, hm => by
    obtain ⟨hsz, hall, hch⟩ := tail_parts he
    have hnil : Region.ready .any ops listed = [] → False := fun hr => by
      have := ready_none h.size hok hr n (by omega)
      rw [h.left n (Nat.le_refl _) hsz] at this
      cases this
    by_cases hd : ∀ j, j < n → listed.getD j false = true
    · refine tail_go (n := n) hok he fuel n listed a w h.size (fun j hj => ?_) (Nat.le_refl _) ?_ (tail a w h.rel h.same fun j hj => h.facts j (by omega) (hd j hj))
      · by_cases hjn : j < n
        · rw [hd j hjn, decide_eq_true hjn]
        · rw [h.left j (by omega) hj, decide_eq_false hjn]
      · have h8 : ((List.range ops.size).filter fun i => !listed.getD i true).length = missing ops.size listed := rfl
        have h9 : ((List.range ops.size).drop n).length ≤ ((List.range ops.size).filter fun i => !listed.getD i true).length := by
          have hs : ((List.range ops.size).drop n).Sublist ((List.range ops.size).filter fun i => !listed.getD i true) := by
            have h10 : (List.range ops.size).drop n = ((List.range ops.size).drop n).filter fun i => !listed.getD i true := by
              symm
              rw [List.filter_eq_self]
              intro x hx
              obtain ⟨i, hi, rfl⟩ := List.getElem_of_mem hx
              simp only [List.length_drop, List.length_range] at hi
              rw [List.getElem_drop, List.getElem_range]
              have h11 := h.left (n + i) (by omega) (by omega)
              have hsz2 := h.size
              rw [Array.getD_eq_getD_getElem?, Array.getElem?_eq_getElem (by omega)] at h11 ⊢
              rw [Option.getD_some] at h11 ⊢
              rw [h11]; rfl
            rw [h10]
            exact (List.drop_sublist _ _).filter _
          exact hs.length_le
        simp only [List.length_drop, List.length_range] at h9
        omega
    cases fuel with
    | zero =>
      exfalso
      apply hnil
      rw [List.eq_nil_iff_forall_not_mem]
      intro i hi
      obtain ⟨h1, h2, _⟩ := ready_mem hi
      have : i ∈ (List.range ops.size).filter fun i => !listed.getD i true := List.mem_filter.2 ⟨List.mem_range.2 h1, by simp [h2]⟩
      have hn : ((List.range ops.size).filter fun i => !listed.getD i true) = [] := List.eq_nil_of_length_eq_zero (Nat.le_zero.1 hm)
      rw [hn] at this
      cases this
    | succ fuel =>
      refine ⟨fun hr => (hnil hr).elim, fun i hi => ?_⟩
      obtain ⟨h1, h2, h3⟩ := ready_mem hi
      have ho : ops[i]? = some ops[i] := Array.getElem?_eq_getElem h1
      have hin : i < n := by
        rcases Nat.lt_or_ge i n with hlt | hge
        · exact hlt
        · exfalso
          have hieq : i = n := by
            rcases Nat.lt_or_ge n i with hlt | hle
            · have h6 := h3 (i - 1) (hch i h1 hlt)
              rw [h.left (i - 1) (by omega) (by omega)] at h6
              cases h6
            · omega
          subst hieq
          apply hd
          have hdone : ∀ m j, j < i → i - j ≤ m → listed.getD j false = true := by
            intro m
            induction m with
            | zero => intro j hj h0; omega
            | succ m ih =>
              intro j hj h0
              obtain ⟨k, hk, hjk, h5⟩ := hall j hj
              by_cases hki : k = i
              · subst hki; exact h3 j h5
              · exact h.closed k (by omega) (ih k (by omega) (by omega)) j h5
          exact fun j hj => hdone (i - j) j hj (Nat.le_refl _)
      have hlt : ∀ j ∈ depsOf ops i, j < i := by
        intro j hj
        have h4 := List.all_eq_true.1 hok i (List.mem_range.2 h1)
        simp only [Bool.and_eq_true] at h4
        exact of_decide_eq_true (List.all_eq_true.1 h4.1 j hj)
      refine wpOp_step ho fun K' hK => step i hin _ ho a w h.rel h.same (fun j hj => h.facts j (by have := hlt j hj; omega) (h3 j hj)) K' fun v w' hR hFi => hK _ _ ?_
      obtain ⟨p1, p2, p3⟩ := put_same (v := v) ho ((hks i hin).trans ho) hok h.same
      have hset : ∀ j, (listed.setIfInBounds i true).getD j false = if j = i then true else listed.getD j false := fun j => getD_set _ _ _ _ (by rw [h.size]; exact h1)
      refine soup_go_tail hks hok he hRt hF hF0 step tail fuel _ _ _ ⟨⟨by simp [h.size], hRt _ _ _ h.rel hR, p1, fun j hj hl => ?_⟩, fun j hj hl d hd => ?_, fun j hj hjs => ?_⟩ ?_
      · by_cases hji : j = i
        · subst hji
          rw [p3]
          split
          · exact hFi
          · rename_i hd
            exact hF0 j _ hin ho hd v w' hFi
        · rw [p2 j hji]
          rw [hset, if_neg hji] at hl
          exact hF _ _ _ _ (h.facts j hj hl) hR
      · rw [hset]
        by_cases hdi : d = i
        · rw [if_pos hdi]
        · rw [if_neg hdi]
          by_cases hji : j = i
          · subst hji; exact h3 d hd
          · rw [hset, if_neg hji] at hl
            exact h.closed j hj hl d hd
      · rw [hset, if_neg (by omega)]; exact h.left j hj hjs
      · have : missing ops.size (listed.setIfInBounds i true) < missing ops.size listed := by
          refine filter_lt _ _ (fun x hx => ?_) _ i (List.mem_range.2 h1) ?_ ?_
          · rw [getD_set _ _ _ _ (by rw [h.size]; exact h1)] at hx
            by_cases hxi : x = i
            · simp [hxi] at hx
            · simpa [hxi] using hx
          · rw [getD_set _ _ _ _ (by rw [h.size]; exact h1)]; simp
          · simp [h2]
        omega
theorem wp_soup_tail {id m : Nat} (n : Nat) (hm : P.follows .mixedOrders = true) (R : World → World → Prop) (F : Nat → Value → World → Prop) (hsz : a0.tmps.size = m) (hok : soupOk ops m = true) (he : tailOk ops n = true) (hRt : ∀ x y z, R x y → R y z → R x z) (hRr : R w0.drew w0.drew)
    (hF : ∀ i v x y, F i v x → R x y → F i v y) (hF0 : ∀ i o, i < n → ops[i]? = some o → o.dst = none → ∀ v x, F i v x → F i undef x)
    (step : ∀ j, j < n → 0 ≤ j → SoupStep P ops (ops.toList.take n).toArray Q R F w0.drew a0 j)
    (tail : ∀ a w, R w0.drew w → SameBut (ops.toList.take n).toArray a0 a → (∀ j, j < n → F j (slotV ops a j) w) → wpList P ops Q (ops.toList.drop n) a w) :
    (Code.region id ops true).wp P Q a0 w0 := by
  subst hsz
  refine wp_region_any hm ?_
  have hnone : ∀ j, (Array.replicate ops.size false).getD j false = false := fun j => by
    rw [Array.getD_eq_getD_getElem?, Array.getElem?_replicate]
    split <;> rfl
  refine soup_go_tail (ks := (ops.toList.take n).toArray) (R := R) (F := F) (w0 := w0.drew) (a0 := a0) (fun i hi => by
    rw [List.getElem?_toArray, List.getElem?_take, if_pos hi, Array.getElem?_toList]) hok he hRt hF hF0 (fun i hi => step i hi (Nat.zero_le _)) tail _ _ _ _ ⟨⟨by simp, hRr, ⟨rfl, rfl, fun _ _ => rfl⟩, fun j hj hl => ?_⟩, fun j hj hl => ?_, fun j _ _ => hnone j⟩ ?_
  · rw [hnone] at hl; cases hl
  · rw [hnone] at hl; cases hl
  · have := List.length_filter_le (fun i => !(Array.replicate ops.size false).getD i true) (List.range ops.size)
    simpa [missing] using this
/-- of the first n operations each has a slot -/
def dstHead (ops : Array Oper) (n : Nat) : Bool := (List.range n).all fun i => ((ops[i]?).bind (·.dst)).isSome
theorem dst_head {n : Nat} (h : dstHead ops n = true) : ∀ i o, i < n → ops[i]? = some o → o.dst = none → ∀ v x, F i v x → F i undef x := fun i o hi ho hd => by
  have h1 := List.all_eq_true.1 h i (List.mem_range.2 hi)
  simp [ho, hd] at h1
end
end Go.Proofs.YtgfibbjifbghdaaGreat

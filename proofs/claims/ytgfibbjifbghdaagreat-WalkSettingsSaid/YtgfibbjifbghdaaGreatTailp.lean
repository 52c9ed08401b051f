/- As XTail, where one of the first operations may still stand when the first of the last ones goes: n and n + 1 are the last two, p waits for nothing of them. -/
import Derived.Test.YtgfibbjifbghdaaGreatTail
namespace Go.Proofs.YtgfibbjifbghdaaGreat
open Go

def forcedB (ops : Array Oper) : Array Bool → List Nat → Bool
  | listed, [] => (Region.ready .any ops listed).isEmpty
  | listed, i :: ord => (Region.ready .any ops listed == [i]) && forcedB ops (listed.setIfInBounds i true) ord
def upTo (s n : Nat) : Array Bool := ((List.range s).map fun j => decide (j < n)).toArray
def upToBut (s n p : Nat) : Array Bool := ((List.range s).map fun j => decide (j < n) && decide (j ≠ p)).toArray
def pendOk (ops : Array Oper) (n p : Nat) : Bool :=
  decide (n + 2 = ops.size) && (decide (p < n) && (forcedB ops (upTo ops.size n) [n, n + 1] && (forcedB ops (upToBut ops.size (n + 1) p) [p, n + 1] && ((depsOf ops (n + 1)).contains n &&
    (List.range n).all fun j => j == p || (List.range (n + 1)).any fun i => decide (j < i) && (i != p && (depsOf ops i).contains j)))))
section
variable {P : Program} {ops ks : Array Oper} {Q : Exit → Act → World → Prop} {R : World → World → Prop} {F : Nat → Value → World → Prop} {w0 : World} {a0 : Act}

theorem list_eq {listed : Array Bool} {f : Nat → Bool} {s : Nat} (hs : listed.size = s) (h : ∀ j, j < s → listed.getD j false = f j) : listed = ((List.range s).map f).toArray := by
  apply Array.ext
  · simp [hs]
  · intro i h1 h2
    have := h i (by omega)
    rw [Array.getD_eq_getD_getElem?, Array.getElem?_eq_getElem h1, Option.getD_some] at this
    simp [this]
theorem forced_go : ∀ (ord : List Nat) (fuel : Nat) (listed : Array Bool) (a : Act) (w : World), forcedB ops listed ord = true → ord.length ≤ fuel → wpList P ops Q (ord.filterMap fun i => ops[i]?) a w → wpAny P .any ops Q fuel listed a w
  | [], fuel, listed, a, w, hf, _, h => by
    have hend : Region.ready .any ops listed = [] := List.isEmpty_iff.1 hf
    cases fuel with
    | zero => exact ⟨hend, h⟩
    | succ fuel => exact ⟨fun _ => h, fun i hi => by rw [hend] at hi; cases hi⟩
  | i :: ord, 0, listed, a, w, _, hl, _ => absurd hl (by simp)
  | i :: ord, fuel + 1, listed, a, w, hf, hl, h => by
    simp only [forcedB, Bool.and_eq_true, beq_iff_eq] at hf
    refine ⟨fun hr => absurd hr (by rw [hf.1]; simp), fun k hk => ?_⟩
    rw [hf.1, List.mem_singleton] at hk
    subst hk
    obtain ⟨h1, _, _⟩ := ready_mem (ops := ops) (listed := listed) (i := k) (by rw [hf.1]; simp)
    have ho : ops[k]? = some ops[k] := Array.getElem?_eq_getElem h1
    have hK : ∀ a w, wpList P ops Q (ord.filterMap fun i => ops[i]?) a w → wpAny P .any ops Q fuel (listed.setIfInBounds k true) a w := fun a w h7 => forced_go ord fuel _ a w hf.2 (by simpa using hl) h7
    rw [List.filterMap_cons, ho] at h
    unfold wpOp
    rw [ho]
    simp only [wpList] at h
    simp only
    split
    · rename_i hw
      rw [if_pos hw] at h
      rcases h with h | h
      · exact .inl (Oper.wp_mono hK h)
      · exact .inr h
    · rename_i hw
      rw [if_neg hw] at h
      exact hK _ _ h
theorem pend_parts {n p : Nat} (h : pendOk ops n p = true) : n + 2 = ops.size ∧ p < n ∧ forcedB ops (upTo ops.size n) [n, n + 1] = true ∧ forcedB ops (upToBut ops.size (n + 1) p) [p, n + 1] = true ∧ n ∈ depsOf ops (n + 1) ∧
    ∀ j, j < n → j ≠ p → ∃ i, i ≤ n ∧ j < i ∧ i ≠ p ∧ j ∈ depsOf ops i := by
  simp only [pendOk, Bool.and_eq_true, decide_eq_true_eq, List.contains_iff_mem] at h
  obtain ⟨h1, h2, h3, h4, h5, h6⟩ := h
  refine ⟨h1, h2, h3, h4, h5, fun j hj hp => ?_⟩
  have h7 := List.all_eq_true.1 h6 j (List.mem_range.2 hj)
  simp only [Bool.or_eq_true, beq_iff_eq, hp, false_or] at h7
  obtain ⟨k, hk, h8⟩ := List.any_eq_true.1 h7
  simp only [Bool.and_eq_true, decide_eq_true_eq, bne_iff_ne, List.contains_iff_mem] at h8
  exact ⟨k, by have := List.mem_range.1 hk; omega, h8.1, h8.2.1, h8.2.2⟩
theorem missing_set {s i : Nat} {listed : Array Bool} (hs : listed.size = s) (hi : i < s) (h2 : listed.getD i true = false) : missing s (listed.setIfInBounds i true) < missing s listed := by
  refine filter_lt _ _ (fun x hx => ?_) _ i (List.mem_range.2 hi) ?_ ?_
  · rw [getD_set _ _ _ _ (by rw [hs]; exact hi)] at hx
    by_cases hxi : x = i
    · simp [hxi] at hx
    · simpa [hxi] using hx
  · rw [getD_set _ _ _ _ (by rw [hs]; exact hi)]; simp
  · simp [h2]
theorem soup_go_pend {n p : Nat} (hks : ∀ i, i < n → ks[i]? = ops[i]?) (hok : soupOk ops a0.tmps.size = true) (he : pendOk ops n p = true) (hRt : ∀ x y z, R x y → R y z → R x z) (hF : ∀ i v x y, F i v x → R x y → F i v y) (hF0 : ∀ i o, i < n → ops[i]? = some o → o.dst = none → ∀ v x, F i v x → F i undef x)
    (step : ∀ i, i < n → SoupStep P ops ks Q R F w0 a0 i)
    (tail : ∀ a w, R w0 w → SameBut ks a0 a → (∀ j, j < n → j ≠ p → F j (slotV ops a j) w) → (F p (slotV ops a p) w → wpList P ops Q ([n, n + 1].filterMap fun i => ops[i]?) a w) ∧ wpList P ops Q ([n, p, n + 1].filterMap fun i => ops[i]?) a w) :
    ∀ (fuel : Nat) (listed : Array Bool) (a : Act) (w : World), SoupTail ops ks n R F w0 a0 listed a w → missing ops.size listed ≤ fuel → wpAny P .any ops Q fuel listed a w
  | fuel, listed, a, w, h, hm => by
    obtain ⟨hsz, hp, hfA, hfB, hdn, hall⟩ := pend_parts he
    have hnil : Region.ready .any ops listed = [] → False := fun hr => by
      have := ready_none h.size hok hr n (by omega)
      rw [h.left n (Nat.le_refl _) (by omega)] at this
      cases this
    have htrue : ∀ j, j < ops.size → listed.getD j false = false → listed.getD j true = false := fun j hj e => by
      rw [Array.getD_eq_getD_getElem?, Array.getElem?_eq_getElem (by rw [h.size]; exact hj)] at e ⊢
      exact e
    have two : 2 ≤ missing ops.size listed := by
      have m1 := missing_set (i := n) h.size (by omega) (htrue n (by omega) (h.left n (Nat.le_refl _) (by omega)))
      have m2 := missing_set (s := ops.size) (listed := listed.setIfInBounds n true) (i := n + 1) (by simp [h.size]) (by omega) (by
        rw [getD_set _ _ _ _ (by rw [h.size]; omega), if_neg (by omega)]
        exact htrue (n + 1) (by omega) (h.left (n + 1) (by omega) (by omega)))
      omega
    by_cases hd : ∀ j, j < n → listed.getD j false = true
    · have hl : listed = upTo ops.size n := list_eq h.size fun j hj => by
        by_cases hjn : j < n
        · rw [hd j hjn, decide_eq_true hjn]
        · rw [h.left j (by omega) hj, decide_eq_false hjn]
      rw [hl]
      exact forced_go _ fuel _ a w hfA (by simp; omega) ((tail a w h.rel h.same fun j hj _ => h.facts j (by omega) (hd j hj)).1 (h.facts p (by omega) (hd p hp)))
    cases fuel with
    | zero => omega
    | succ fuel =>
      refine ⟨fun hr => (hnil hr).elim, fun i hi => ?_⟩
      obtain ⟨h1, h2, h3⟩ := ready_mem hi
      have ho : ops[i]? = some ops[i] := Array.getElem?_eq_getElem h1
      by_cases hin : i < n
      · have hlt : ∀ j ∈ depsOf ops i, j < i := by
          intro j hj
          have h4 := List.all_eq_true.1 hok i (List.mem_range.2 h1)
          simp only [Bool.and_eq_true] at h4
          exact of_decide_eq_true (List.all_eq_true.1 h4.1 j hj)
        refine wpOp_step ho fun K' hK => step i hin _ ho a w h.rel h.same (fun j hj => h.facts j (by have := hlt j hj; omega) (h3 j hj)) K' fun v w' hR hFi => hK _ _ ?_
        obtain ⟨p1, p2, p3⟩ := put_same (v := v) ho ((hks i hin).trans ho) hok h.same
        have hset : ∀ j, (listed.setIfInBounds i true).getD j false = if j = i then true else listed.getD j false := fun j => getD_set _ _ _ _ (by rw [h.size]; exact h1)
        refine soup_go_pend hks hok he hRt hF hF0 step tail fuel _ _ _ ⟨⟨by simp [h.size], hRt _ _ _ h.rel hR, p1, fun j hj hl => ?_⟩, fun j hj hl d hd => ?_, fun j hj hjs => ?_⟩ ?_
        · by_cases hji : j = i
          · subst hji
            rw [p3]
            split
            · exact hFi
            · rename_i hd
              exact hF0 j _ hin ho hd v w' hFi
          · rw [p2 j hji]
            rw [hset, if_neg hji] at hl
            exact hF _ _ _ _ (h.facts j hj hl) hR
        · rw [hset]
          by_cases hdi : d = i
          · rw [if_pos hdi]
          · rw [if_neg hdi]
            by_cases hji : j = i
            · subst hji; exact h3 d hd
            · rw [hset, if_neg hji] at hl
              exact h.closed j hj hl d hd
        · rw [hset, if_neg (by omega)]; exact h.left j hj hjs
        · have := missing_set h.size h1 h2
          omega
      · have hieq : i = n := by
          rcases Nat.lt_or_ge n i with hlt | hle
          · obtain rfl : i = n + 1 := by omega
            have h6 := h3 n hdn
            rw [h.left n (Nat.le_refl _) (by omega)] at h6
            cases h6
          · omega
        subst hieq
        have hdone : ∀ m j, j < i → j ≠ p → i - j ≤ m → listed.getD j false = true := by
          intro m
          induction m with
          | zero => intro j hj _ h0; omega
          | succ m ih =>
            intro j hj hjp h0
            obtain ⟨k, hk, hjk, hkp, h5⟩ := hall j hj hjp
            by_cases hki : k = i
            · subst hki; exact h3 j h5
            · exact h.closed k (by omega) (ih k (by omega) hkp (by omega)) j h5
        have hoth : ∀ j, j < i → j ≠ p → listed.getD j false = true := fun j hj hjp => hdone (i - j) j hj hjp (Nat.le_refl _)
        have hpf : listed.getD p false = false := by
          cases hpl : listed.getD p false with
          | false => rfl
          | true => exact (hd fun j hj => by by_cases hjp : j = p; · rw [hjp]; exact hpl
                                             · exact hoth j hj hjp).elim
        have hset : ∀ j, (listed.setIfInBounds i true).getD j false = if j = i then true else listed.getD j false := fun j => getD_set _ _ _ _ (by rw [h.size]; exact h1)
        have hl : listed.setIfInBounds i true = upToBut ops.size (i + 1) p := list_eq (by simp [h.size]) fun j hj => by
          rw [hset]
          by_cases hji : j = i
          · subst hji
            rw [if_pos rfl, decide_eq_true (by omega), decide_eq_true (by omega)]; rfl
          · rw [if_neg hji]
            by_cases hjp : j = p
            · subst hjp; rw [hpf]; simp
            · by_cases hlt : j < i
              · rw [hoth j hlt hjp, decide_eq_true (by omega), decide_eq_true hjp]; rfl
              · rw [h.left j (by omega) hj, decide_eq_false (by omega)]; rfl
        have hT := (tail a w h.rel h.same fun j hj hjp => h.facts j (by omega) (hoth j hj hjp)).2
        have hK : ∀ a w, wpList P ops Q ([p, i + 1].filterMap fun i => ops[i]?) a w → wpAny P .any ops Q fuel (listed.setIfInBounds i true) a w := fun a w h7 => by
          have m1 := missing_set h.size h1 h2
          have m2 := missing_set (s := ops.size) (listed := listed.setIfInBounds i true) (i := p) (by simp [h.size]) (by omega) (by
            rw [getD_set _ _ _ _ (by rw [h.size]; omega), if_neg (by omega)]
            exact htrue p (by omega) hpf)
          have m3 := missing_set (s := ops.size) (listed := (listed.setIfInBounds i true).setIfInBounds p true) (i := i + 1) (by simp [h.size]) (by omega) (by
            rw [getD_set _ _ _ _ (by simp [h.size]; omega), if_neg (by omega), getD_set _ _ _ _ (by rw [h.size]; omega), if_neg (by omega)]
            exact htrue (i + 1) (by omega) (h.left (i + 1) (by omega) (by omega)))
          rw [hl]
          exact forced_go _ fuel _ a w hfB (by simp; omega) h7
        rw [List.filterMap_cons, ho] at hT
        unfold wpOp
        rw [ho]
        simp only [wpList] at hT
        simp only
        split
        · rename_i hw
          rw [if_pos hw] at hT
          rcases hT with hT | hT
          · exact .inl (Oper.wp_mono hK hT)
          · exact .inr hT
        · rename_i hw
          rw [if_neg hw] at hT
          exact hK _ _ hT
theorem wp_soup_pend {id m : Nat} (n p : Nat) (hm : P.follows .mixedOrders = true) (R : World → World → Prop) (F : Nat → Value → World → Prop) (hsz : a0.tmps.size = m) (hok : soupOk ops m = true) (he : pendOk ops n p = true) (hRt : ∀ x y z, R x y → R y z → R x z) (hRr : R w0.drew w0.drew)
    (hF : ∀ i v x y, F i v x → R x y → F i v y) (hF0 : ∀ i o, i < n → ops[i]? = some o → o.dst = none → ∀ v x, F i v x → F i undef x)
    (step : ∀ j, j < n → 0 ≤ j → SoupStep P ops (ops.toList.take n).toArray Q R F w0.drew a0 j)
    (tail : ∀ a w, R w0.drew w → SameBut (ops.toList.take n).toArray a0 a → (∀ j, j < n → j ≠ p → F j (slotV ops a j) w) → (F p (slotV ops a p) w → wpList P ops Q ([n, n + 1].filterMap fun i => ops[i]?) a w) ∧ wpList P ops Q ([n, p, n + 1].filterMap fun i => ops[i]?) a w) :
    (Code.region id ops true).wp P Q a0 w0 := by
  subst hsz
  refine wp_region_any hm ?_
  have hnone : ∀ j, (Array.replicate ops.size false).getD j false = false := fun j => by
    rw [Array.getD_eq_getD_getElem?, Array.getElem?_replicate]
    split <;> rfl
  refine soup_go_pend (ks := (ops.toList.take n).toArray) (R := R) (F := F) (w0 := w0.drew) (a0 := a0) (fun i hi => by
    rw [List.getElem?_toArray, List.getElem?_take, if_pos hi, Array.getElem?_toList]) hok he hRt hF hF0 (fun i hi => step i hi (Nat.zero_le _)) tail _ _ _ _ ⟨⟨by simp, hRr, ⟨rfl, rfl, fun _ _ => rfl⟩, fun j hj hl => ?_⟩, fun j hj hl => ?_, fun j _ _ => hnone j⟩ ?_
  · rw [hnone] at hl; cases hl
  · rw [hnone] at hl; cases hl
  · have := List.length_filter_le (fun i => !(Array.replicate ops.size false).getD i true) (List.range ops.size)
    simpa [missing] using this
end
end Go.Proofs.YtgfibbjifbghdaaGreat

/- The law behind law14.CacheMost: never more than may be; the newest is there; who is asked for stays. -/
import Derived.Test.YtpemdieejgldiaaCputf
import Derived.Test.YtpemdieejgldiaaCtold
import Derived.Test.YtpemdieejgldiaaAnswers
namespace Go.Proofs.Ytpemdieejgldiaa
open Go.ChangeShapes Go.WideShapes Go.ChangeAt Go.RowKit

def petN : List ByteArray := [⟨#[112, 101, 116]⟩]
def petF : FactP := ⟨petN, 1, 1, 4, 0, 100, [d0], [], noP⟩
def oneF (c : UInt8) : FactP := ⟨[⟨#[c]⟩], 1, 1, 4, 0, 100, [d0], [], noP⟩
theorem petF_ok : factB petF = true := by decide +kernel
theorem oneF_ok : ∀ c : UInt8, factB (oneF c) = true := by
  intro c
  have hd : distinctB 1 [] [d0] = true := by decide +kernel
  have hs : soundB [(⟨#[c]⟩ : ByteArray)] = true := by
    have h1 : (⟨#[c]⟩ : ByteArray).size = 1 := rfl
    simp [soundB, sizeN, h1, badL]
  simp [factB, headB, hasB, oneF, hs, hd, typedB, noneB, noP, timeB]
theorem petF_len : FLen petF := ⟨by decide, by decide, by decide, f0_len.soa, f0_len.all⟩
theorem oneF_len (c : UInt8) : FLen (oneF c) := ⟨by simp [oneF], by simp [oneF], by simp [oneF], f0_len.soa, f0_len.all⟩
theorem one_ne (c : UInt8) : keyF (oneF c) ≠ keyF petF := by
  intro h
  have h1 : (keyF (oneF c)).length = 5 := by simp [keyF, keyP_size, oneF, sizeN]; rfl
  have h2 : (keyF petF).length = 7 := by decide +kernel
  rw [h, h2] at h1
  cases h1
structure MostInv (n : Nat) (L : List Slot) : Prop where
  len : L.length ≤ n
  rank : ∀ s ∈ L, s.f.rank = 4
  pet : 1 < n → ∃ I s, L = I ++ [s] ∧ s.f = petF
theorem trim_len {n : Nat} {L : List Slot} (h : L.length ≤ n + 1) : (trimL n L).length ≤ n := by
  unfold trimL
  split
  · omega
  · rw [List.length_tail]; omega
theorem trim_mem {n : Nat} {L : List Slot} {s : Slot} (h : s ∈ trimL n L) : s ∈ L := by
  unfold trimL at h
  split at h
  · exact h
  · exact List.mem_of_mem_tail h
theorem trim_last {n : Nat} (h1 : 1 ≤ n) (L : List Slot) (s : Slot) : s ∈ trimL n (L ++ [s]) := by
  unfold trimL
  split
  · simp
  · rename_i h
    cases L with
    | nil => simp at h; omega
    | cons a L => simp
theorem trim_last2 {n : Nat} (h1 : 1 < n) (L : List Slot) (p s : Slot) : p ∈ trimL n (L ++ [p] ++ [s]) := by
  unfold trimL
  split
  · simp
  · rename_i h
    cases L with
    | nil => simp at h; omega
    | cons a L => simp
theorem most_put {n : Nat} {L : List Slot} (h : MostInv n L) (c : UInt8) {B C k : Nat} {w : World} (hC : IsCache B w C n 0 k L) : putB L (oneF c) 0 = true := by
  have ht : timeB 0 = true := by decide
  rw [putB, oneF_ok, ht, Bool.true_and, Bool.true_and]
  unfold freeB
  split
  · rename_i s hs
    obtain ⟨h1, h2⟩ := atL_mem hs
    have h3 := h.rank s h1
    have h4 := (hC.slot s h1).2.2.2.1
    have h5 := oneF_ok c
    have h6 : (oneF c).rank = 4 := rfl
    simp [beatsB, h4, h5, ht, h2, h3, h6]
  · rfl
theorem most_next {n : Nat} (h1 : 1 ≤ n) {L : List Slot} (h : MostInv n L) (c : UInt8) {b k : Nat} {kk : FactH} {B C k1 : Nat} {w : World} (hC : IsCache B w C n 0 k1 (trimL n (offL L (keyF (oneF c)) ++ [⟨b, kk, oneF c, k + 1⟩]))) :
    (trimL n (offL L (keyF (oneF c)) ++ [⟨b, kk, oneF c, k + 1⟩])).length ≤ n ∧ (atL (trimL n (offL L (keyF (oneF c)) ++ [⟨b, kk, oneF c, k + 1⟩])) (keyF (oneF c))).isSome = true ∧
      (1 < n → (findL (trimL n (offL L (keyF (oneF c)) ++ [⟨b, kk, oneF c, k + 1⟩])) petN 1 (fitsF 1)).isSome = true) ∧
      MostInv n (usedL (trimL n (offL L (keyF (oneF c)) ++ [⟨b, kk, oneF c, k + 1⟩])) k1 (findL (trimL n (offL L (keyF (oneF c)) ++ [⟨b, kk, oneF c, k + 1⟩])) petN 1 (fitsF 1))) := by
  have hlen : (trimL n (offL L (keyF (oneF c)) ++ [(⟨b, kk, oneF c, k + 1⟩ : Slot)])).length ≤ n := trim_len (by have : (offL L (keyF (oneF c))).length ≤ L.length := List.length_filter_le _ _; have := h.len; simp; omega)
  have hmem : ∀ s ∈ trimL n (offL L (keyF (oneF c)) ++ [(⟨b, kk, oneF c, k + 1⟩ : Slot)]), s ∈ L ∨ s.f = oneF c := fun s hs => by
    rcases List.mem_append.1 (trim_mem hs) with h | h
    · exact .inl (offL_mem h).1
    · rw [List.mem_singleton] at h; subst h; exact .inr rfl
  have hnew := trim_last h1 (offL L (keyF (oneF c))) ⟨b, kk, oneF c, k + 1⟩
  have hpet : 1 < n → ∃ s, atL (trimL n (offL L (keyF (oneF c)) ++ [(⟨b, kk, oneF c, k + 1⟩ : Slot)])) (keyF petF) = some s ∧ s.f = petF := by
    intro hn
    obtain ⟨I, p, rfl, hp⟩ := h.pet hn
    have e : offL (I ++ [p]) (keyF (oneF c)) = offL I (keyF (oneF c)) ++ [p] := by
      have hne : keyF petF ≠ keyF (oneF c) := fun e => one_ne c e.symm
      simp [offL, List.filter_append, hp, hne]
    have hm : p ∈ trimL n (offL (I ++ [p]) (keyF (oneF c)) ++ [(⟨b, kk, oneF c, k + 1⟩ : Slot)]) := by rw [e]; exact trim_last2 hn _ _ _
    have := atL_of_mem hC.keys hm
    rw [hp] at this
    exact ⟨p, this, hp⟩
  generalize hL1 : trimL n (offL L (keyF (oneF c)) ++ [(⟨b, kk, oneF c, k + 1⟩ : Slot)]) = L1 at hC hlen hmem hnew hpet ⊢
  have ht1 : typedB 1 = true := by decide
  have hfind : 1 < n → ∃ s, findL L1 petN 1 (fitsF 1) = some s ∧ s.f = petF := by
    intro hn
    obtain ⟨s, hs, hf⟩ := hpet hn
    have hfit : fitsF 1 s = true := by rw [fitsF, hf]; decide +kernel
    exact ⟨s, by rw [findL, if_pos ht1, show keyP petN 1 = keyF petF from rfl, hs]; simp [fitO, hfit], hf⟩
  refine ⟨hlen, by rw [atL_of_mem hC.keys hnew]; rfl, fun hn => by obtain ⟨s, h, _⟩ := hfind hn; rw [h]; rfl, ?_⟩
  cases ho : findL L1 petN 1 (fitsF 1) with
  | none =>
    refine ⟨hlen, fun s hs => ?_, fun hn => by obtain ⟨s, h, _⟩ := hfind hn; rw [ho] at h; cases h⟩
    rcases hmem s hs with h' | h'
    · exact h.rank s h'
    · rw [h']; rfl
  | some s =>
    have hat := find_at ho
    have hof := off_len hC.keys hat
    refine ⟨by simp only [usedL, List.length_append, List.length_singleton]; omega, fun x hx => ?_, fun hn => ⟨_, _, rfl, ?_⟩⟩
    · have hrank : ∀ y ∈ L1, y.f.rank = 4 := fun y hy => by
        rcases hmem y hy with h' | h'
        · exact h.rank y h'
        · rw [h']; rfl
      rcases List.mem_append.1 hx with h' | h'
      · exact hrank x (offL_mem h').1
      · rw [List.mem_singleton] at h'; subst h'
        exact hrank s (atL_mem hat).1
    · obtain ⟨s', h', hf⟩ := hfind hn
      rw [ho] at h'; cases h'
      exact hf
theorem most_start {n b : Nat} {kk : FactH} (h1 : 1 ≤ n) : MostInv n (trimL n (offL [] (keyF petF) ++ [⟨b, kk, petF, 1⟩])) := by
  have e : trimL n (offL [] (keyF petF) ++ [(⟨b, kk, petF, 1⟩ : Slot)]) = [⟨b, kk, petF, 1⟩] := by
    rw [trimL, if_pos (by simp [offL]; omega)]; rfl
  rw [e]
  exact ⟨by simpa using h1, fun s hs => by rw [List.mem_singleton] at hs; subst hs; rfl, fun _ => ⟨[], _, rfl, rfl⟩⟩
theorem pet_put : putB [] petF 0 = true := by decide +kernel
end Go.Proofs.Ytpemdieejgldiaa

/- Plain facts: an act that is read from a line is no larger than the line. No program is walked here. -/
import Derived.Test.YtipbakdodbmfjaaGreatDoorLineLen
namespace Go.Proofs.YtipbakdodbmfjaaGreatDoor

theorem labT_ge : ∀ l : List UInt8, l.length ≤ (labT l).length
  | [] => by simp
  | c :: l => by
    have ih := labT_ge l
    have e : labT (c :: l) = escL c ++ labT l := by simp [labT]
    have h : 1 ≤ (escL c).length := by
      unfold escL
      split
      · simp
      · split <;> simp
    rw [e]
    simp only [List.length_append, List.length_cons]
    omega
theorem bodyT_ge : ∀ ss : List ByteArray, sizeN ss ≤ (bodyT ss).length
  | [] => by simp [sizeN]
  | s :: ss => by
    have ih := bodyT_ge ss
    have h := labT_ge s.data.toList
    have e : bodyT (s :: ss) = labT s.data.toList ++ [46] ++ bodyT ss := by simp [bodyT]
    have hs : s.data.toList.length = s.size := by simp
    rw [e]
    simp only [List.length_append, List.length_singleton, sizeN]
    omega
theorem textT_ge (ss : List ByteArray) : sizeN ss ≤ (textT ss).length := by
  have := bodyT_ge ss
  unfold textT
  split
  · rename_i h
    have : ss = [] := List.eq_nil_of_length_eq_zero h
    subst this
    simp [sizeN]
  · exact this
theorem word_le (d : UInt8) : ∀ (ws : List (List UInt8)) (w : List UInt8), w ∈ ws → w.length ≤ (joinP d ws).length
  | [], w, h => by cases h
  | [v], w, h => by simp at h; subst h; simp [joinP]
  | v :: u :: ws, w, h => by
    simp only [joinP, List.length_append, List.length_cons]
    rcases List.mem_cons.1 h with rfl | h
    · omega
    · have := word_le d (u :: ws) w h
      omega
theorem put_name (g : Nat) (hg : g ≠ 3) (y z : ActP) : (putP g y z).name = z.name := by
  unfold putP
  split
  · rfl
  · split
    · rfl
    · split
      · rfl
      · split
        · rfl
        · split <;> rfl
theorem put_data (g : Nat) (h6 : g ≤ 6) (hg : g ≠ 6) (y z : ActP) : (putP g y z).data = z.data := by
  unfold putP
  split
  · rfl
  · split
    · rfl
    · split
      · rfl
      · split
        · rfl
        · split
          · rfl
          · rw [if_pos (by omega)]
theorem fold_name (y : ActP) : ∀ (fs : List Nat) (z : ActP), 3 ∉ fs → (fs.foldl (fun z g => putP g y z) z).name = z.name
  | [], _, _ => rfl
  | f :: fs, z, h => by
    rw [List.foldl_cons, fold_name y fs _ (fun hm => h (by simp [hm])), put_name f (fun e => h (by simp [e]))]
theorem fold_data (y : ActP) : ∀ (fs : List Nat) (z : ActP), (∀ g ∈ fs, g ≤ 6) → 6 ∉ fs → (fs.foldl (fun z g => putP g y z) z).data = z.data
  | [], _, _, _ => rfl
  | f :: fs, z, h6, h => by
    rw [List.foldl_cons, fold_data y fs _ (fun g hg => h6 g (by simp [hg])) (fun hm => h (by simp [hm])), put_data f (h6 f (by simp)) (fun e => h (by simp [e]))]
theorem act_small {s : List UInt8} {x : ActP} (h : lineL x = some s) : sizeN x.name ≤ s.length ∧ x.data.length ≤ s.length := by
  unfold lineL at h
  split at h
  · cases h
  · rename_i f hf
    obtain ⟨hm, _⟩ := formOf_mem hf
    split at h
    · rename_i hc
      simp only [Bool.and_eq_true] at hc
      have he := (sameP_eq _ _).1 hc.2
      injection h with h
      constructor
      · by_cases h3 : 3 ∈ f.2.2
        · have hw : writeP 3 x ∈ wordsOf f x := List.mem_cons_of_mem _ (List.mem_map_of_mem (f := fun g => writeP g x) h3)
          have h1 := word_le 32 _ _ hw
          have h2 := textT_ge x.name
          have e : writeP 3 x = textT x.name := rfl
          rw [e] at h1
          rw [← h]
          exact Nat.le_trans h2 h1
        · have : x.name = [] := by rw [he, onlyP, fold_name _ _ _ h3]; rfl
          rw [this]; simp [sizeN]
      · by_cases h6 : 6 ∈ f.2.2
        · have hw : writeP 6 x ∈ wordsOf f x := List.mem_cons_of_mem _ (List.mem_map_of_mem (f := fun g => writeP g x) h6)
          have h1 := word_le 32 _ _ hw
          have e : writeP 6 x = hexP x.data := rfl
          rw [e, hexP, List.length_cons, hexB_len] at h1
          rw [← h]
          unfold textOf
          omega
        · have : x.data = [] := by rw [he, onlyP, fold_data _ _ _ (forms_le f hm) h6]; rfl
          rw [this]; simp
    · cases h
end Go.Proofs.YtipbakdodbmfjaaGreatDoor

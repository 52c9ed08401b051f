/- Plain facts: what strings.Split and strings.Join do at one sign is splitP and joinP. No program is walked here. -/
import Derived.Test.YtipbakdodbmfjaaGreatDoorScriptLaw
import Derived.Lib.SplitLaws
import Derived.Lib.Split
import Derived.Lib.IndexBytes
import Derived.Lib.Join
namespace Go.Proofs.YtipbakdodbmfjaaGreatDoor

theorem indexByte_cases : ∀ (l : List UInt8) (c : UInt8), (Lib.indexByte l c = -1 ∧ ∀ x ∈ l, x ≠ c) ∨ ∃ a b, Lib.indexByte l c = (a.length : Int) ∧ l = a ++ c :: b ∧ ∀ x ∈ a, x ≠ c
  | [], c => Or.inl ⟨rfl, fun x h => by cases h⟩
  | x :: l, c => by
    by_cases h : x = c
    · subst h
      exact Or.inr ⟨[], l, by simp [Lib.indexByte], rfl, fun x h => by cases h⟩
    · have hb : (x == c) = false := by simpa using h
      rcases indexByte_cases l c with ⟨h1, h2⟩ | ⟨a, b, h1, h2, h3⟩
      · refine Or.inl ⟨by simp [Lib.indexByte, hb, h1], ?_⟩
        intro y hy
        rcases List.mem_cons.1 hy with rfl | hy
        · exact h
        · exact h2 y hy
      · refine Or.inr ⟨x :: a, b, ?_, by rw [h2]; rfl, ?_⟩
        · have : ¬ ((a.length : Int) = -1) := by omega
          simp [Lib.indexByte, hb, h1, this]
        · intro y hy
          rcases List.mem_cons.1 hy with rfl | hy
          · exact h
          · exact h3 y hy
theorem splitK_one (c : UInt8) : ∀ (n : Nat) (l : List UInt8), l.length ≤ n → Lib.splitK [c] 0 (Lib.count l [c]) l = splitP c l
  | n, l, hn => by
    rcases indexByte_cases l c with ⟨h1, h2⟩ | ⟨a, b, h1, h2, h3⟩
    · have hi : Lib.index l [c] = -1 := by rw [Lib.index_one]; exact h1
      rw [Lib.count_miss hi, split_word c l h2]
      rfl
    · have hi : Lib.index l [c] = (a.length : Int) := by rw [Lib.index_one]; exact h1
      rw [Lib.count_hit (by simp) hi, Nat.add_comm 1]
      have hd : l.drop (a.length + [c].length) = b := by
        rw [h2]
        simp [List.drop_append]
      have ht : l.take (a.length + 0) = a := by rw [h2]; simp
      match n, hn with
      | 0, hn => rw [h2] at hn; simp at hn
      | n + 1, hn =>
        have ih := splitK_one c n b (by rw [h2] at hn; simp at hn; omega)
        have hne : ((a.length : Int) == -1) = false := by rw [beq_eq_false_iff_ne]; omega
        rw [hd]
        unfold Lib.splitK
        rw [hi, hne]
        simp only [Int.toNat_natCast]
        rw [ht, hd, ih, h2, split_word_cons c b a h3]
        rfl
theorem splitB_one (s : ByteArray) (c : UInt8) : (Lib.splitB ⟨#[c]⟩ 0 (Lib.countB s ⟨#[c]⟩) s).map (fun x => x.data.toList) = splitP c s.data.toList := by
  have h1 : (⟨#[c]⟩ : ByteArray).data.toList = [c] := rfl
  rw [Lib.splitB_data, h1]
  exact splitK_one c _ _ (Nat.le_refl _)
theorem join_one (c : UInt8) : ∀ ws : List (List UInt8), Lib.join ws [c] = joinP c ws
  | [] => rfl
  | [w] => by simp [Lib.join, joinP]
  | w :: v :: ws => by
    have ih := join_one c (v :: ws)
    have e : Lib.join (w :: v :: ws) [c] = w ++ [c] ++ Lib.join (v :: ws) [c] := by
      unfold Lib.join
      simp [List.intercalate, List.intersperse]
    rw [e, ih]
    simp [joinP]
end Go.Proofs.YtipbakdodbmfjaaGreatDoor

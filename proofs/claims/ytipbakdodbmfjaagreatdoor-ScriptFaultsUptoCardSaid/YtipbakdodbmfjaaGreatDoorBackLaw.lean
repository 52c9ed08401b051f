/- Plain facts: a list of acts and its text. -/
import Derived.Test.YtipbakdodbmfjaaGreatDoorGet
import Derived.Test.YtipbakdodbmfjaaGreatDoorAns23
namespace Go.Proofs.YtipbakdodbmfjaaGreatDoor
open Go.ChangeShapes Go.WideShapes Go.ChangeAt Go.RowKit

def wantP (xs : List ActP) : List UInt8 := xs.flatMap fun x => (lineL x).getD [] ++ [10]
def fineP (xs : List ActP) : Bool := xs.all fun x => (lineL x).isSome
theorem wantP_snoc (xs : List ActP) (k : Nat) (h : k < xs.length) : wantP (xs.take (k + 1)) = wantP (xs.take k) ++ ((lineL xs[k]).getD [] ++ [10]) := by
  rw [List.take_succ_eq_append_getElem h, wantP, List.flatMap_append]
  simp only [wantP, List.flatMap_cons, List.flatMap_nil, List.append_nil]
theorem fineP_snoc (xs : List ActP) (k : Nat) (h : k < xs.length) : fineP (xs.take (k + 1)) = (fineP (xs.take k) && (lineL xs[k]).isSome) := by
  rw [List.take_succ_eq_append_getElem h, fineP, List.all_append]
  simp only [fineP, List.all_cons, List.all_nil, Bool.and_true]
theorem light_snoc {xs : List ActP} {k : Nat} (h : k < xs.length) (h1 : ∀ x ∈ xs.take k, lightA x = true) (h2 : lightA xs[k] = true) : ∀ x ∈ xs.take (k + 1), lightA x = true := by
  rw [List.take_succ_eq_append_getElem h]
  intro x hx
  rcases List.mem_append.1 hx with hx | hx
  · exact h1 x hx
  · simp at hx; rw [hx]; exact h2
theorem fine_lines : ∀ {xs : List ActP}, fineP xs = true → ∃ ts : List (List UInt8), xs.map lineL = ts.map some ∧ wantP xs = scriptT ts
  | [], _ => ⟨[], rfl, rfl⟩
  | x :: xs, h => by
    simp only [fineP, List.all_cons, Bool.and_eq_true] at h
    obtain ⟨ts, h1, h2⟩ := fine_lines (xs := xs) h.2
    obtain ⟨t, ht⟩ := Option.isSome_iff_exists.1 h.1
    refine ⟨t :: ts, by simp [ht, h1], ?_⟩
    have e : wantP (x :: xs) = ((lineL x).getD [] ++ [10]) ++ wantP xs := by simp [wantP]
    rw [e, h2, ht, scriptT_cons]
    simp
theorem fine_none {xs : List ActP} (h : fineP xs = false) : ∃ x ∈ xs, lineL x = none := by
  simp only [fineP, List.all_eq_false] at h
  obtain ⟨x, hx, h⟩ := h
  refine ⟨x, hx, ?_⟩
  cases hl : lineL x with
  | none => rfl
  | some t => simp [hl] at h
theorem lines_same {xs : List ActP} (hf : ∀ x ∈ xs, x.fits) : xs.map lineS = xs.map lineL := List.map_congr_left fun x hx => line_same x (hf x hx)
theorem put_bad {w : World} {xs : List ActP} {e : Ending} {w' : World} (h : PutRes w xs e w') (hf : ∀ x ∈ xs, x.fits) (hb : fineP xs = false) : Below w.heap.size w w' ∧ e = .returned (.tuple #[.string ⟨#[]⟩, .int .i64 1]) := by
  obtain ⟨h1, h⟩ := h
  refine ⟨h1, ?_⟩
  rcases h with ⟨_, h⟩ | ⟨ts, hts, _⟩
  · exact h
  · obtain ⟨x, hx, hn⟩ := fine_none hb
    rw [lines_same hf] at hts
    have : lineL x ∈ xs.map lineL := List.mem_map_of_mem hx
    rw [hts, hn] at this
    simp at this
theorem put_good {w : World} {xs : List ActP} {e : Ending} {w' : World} (h : PutRes w xs e w') (hf : ∀ x ∈ xs, x.fits) (hb : fineP xs = true) :
    Below w.heap.size w w' ∧ e = .returned (if 262144 < (wantP xs).length then .tuple #[.string ⟨#[]⟩, .int .i64 4] else .tuple #[.string ⟨(wantP xs).toArray⟩, .int .i64 0]) := by
  obtain ⟨h1, h⟩ := h
  refine ⟨h1, ?_⟩
  rcases h with ⟨⟨x, hx, hn⟩, _⟩ | ⟨ts, hts, he⟩
  · rw [line_same x (hf x hx)] at hn
    simp only [fineP, List.all_eq_true] at hb
    have := hb x hx
    rw [hn] at this
    simp at this
  · obtain ⟨us, h2, h3⟩ := fine_lines hb
    rw [lines_same hf, h2] at hts
    have : us = ts := (List.map_inj_right (fun _ _ h => Option.some.inj h)).1 hts
    subst this
    rw [h3]
    exact he
theorem get_good {xs : List ActP} (hf : ∀ x ∈ xs, x.fits) (hb : fineP xs = true) (F : Nat) (hF : xs.length ≤ F) : getP F (wantP xs) 1 = .ok xs := by
  obtain ⟨ts, h1, h2⟩ := fine_lines hb
  have := getP_lines xs ts [] F 1 hF hf h1
  rw [h2, ← List.append_nil (scriptT ts), this, getP_nil]
  simp
end Go.Proofs.YtipbakdodbmfjaaGreatDoor

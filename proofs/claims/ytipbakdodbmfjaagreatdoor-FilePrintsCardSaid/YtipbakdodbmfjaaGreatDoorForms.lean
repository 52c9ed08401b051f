/- The contract of script.forms: the kinds of lines, in memory. -/
import Derived.Test.YtipbakdodbmfjaaGreatDoorEnv
import Derived.Test.YtipbakdodbmfjaaGreatDoorScriptLine
namespace Go.Proofs.YtipbakdodbmfjaaGreatDoor
open Go.ChangeShapes Go.WideShapes Go.ChangeAt Go.RowKit

theorem row_cells (w : World) (vs : List Value) (e : TypeId) (h : vs.length ≤ 1000) : Row (w.alloc (.cells vs.toArray e)) (some ⟨w.heap.size, 0, none⟩) vs.length vs.length vs := by
  refine ⟨rfl, Nat.le_refl _, by omega, by omega, fun e => (by cases e), fun h0 => ⟨w.heap.size, 0, rfl, fun i hi => ?_⟩⟩
  have := World.cell?_alloc_new w vs.toArray e i
  rw [Nat.zero_add, this, List.getElem?_toArray, List.getElem?_eq_getElem hi]
def fieldV (f : Nat) : Value := .int .i64 (f : Int)
/-- block g of w holds form f at place i -/
def FormAt (w : World) (g i : Nat) (f : Form) : Prop :=
  ∃ fo, w.cell? ⟨g, i * 3, none⟩ = some (.string ⟨f.1.toArray⟩) ∧ w.cell? ⟨g, i * 3 + 1, none⟩ = some (.int .i64 f.2.1) ∧ w.cell? ⟨g, i * 3 + 2, none⟩ = some (.slice fo f.2.2.length f.2.2.length) ∧
    Row w fo f.2.2.length f.2.2.length (f.2.2.map fieldV)
def FormsAt (w : World) (g : Nat) : Prop := ∀ i (h : i < formsP.length), FormAt w g i formsP[i]
theorem FormAt.on {w w' : World} {g i : Nat} {f : Form} (h : FormAt w g i f) (hb : Below w.heap.size w w') : FormAt w' g i f := by
  obtain ⟨fo, h1, h2, h3, h4⟩ := h
  exact ⟨fo, cell_keep hb h1, cell_keep hb h2, cell_keep hb h3, h4.below hb (Nat.le_refl _)⟩
theorem FormsAt.on {w w' : World} {g : Nat} (h : FormsAt w g) (hb : Below w.heap.size w w') : FormsAt w' g := fun i hi => (h i hi).on hb
def formsCells (w : World) : Array Value := #[.string ⟨#[99, 108, 105, 101, 110, 116]⟩, .int .i64 1, .slice (some ⟨w.heap.size, 0, none⟩) 3 3, .string ⟨#[115, 101, 114, 118, 101, 114]⟩, .int .i64 2, .slice (some ⟨w.heap.size + 1, 0, none⟩) 1 1, .string ⟨#[100, 114, 111, 112]⟩, .int .i64 3, .slice (some ⟨w.heap.size + 1 + 1, 0, none⟩) 1 1, .string ⟨#[116, 119, 105, 110]⟩, .int .i64 4, .slice (some ⟨w.heap.size + 1 + 1 + 1, 0, none⟩) 1 1, .string ⟨#[102, 111, 114, 103, 101]⟩, .int .i64 5, .slice (some ⟨w.heap.size + 1 + 1 + 1 + 1, 0, none⟩) 2 2, .string ⟨#[116, 105, 99, 107]⟩, .int .i64 6, .slice (some ⟨w.heap.size + 1 + 1 + 1 + 1 + 1, 0, none⟩) 1 1, .string ⟨#[102, 108, 117, 115, 104]⟩, .int .i64 7, .slice (some ⟨w.heap.size + 1 + 1 + 1 + 1 + 1 + 1, 0, none⟩) 1 1, .string ⟨#[99, 114, 97, 115, 104]⟩, .int .i64 8, .slice (some ⟨w.heap.size + 1 + 1 + 1 + 1 + 1 + 1 + 1, 0, none⟩) 3 3, .string ⟨#[99, 111, 109, 112, 97, 99, 116]⟩, .int .i64 9, .slice none 0 0, .string ⟨#[100, 101, 97, 100]⟩, .int .i64 10, .slice (some ⟨w.heap.size + 1 + 1 + 1 + 1 + 1 + 1 + 1 + 1, 0, none⟩) 2 2]
def formsWorld (w : World) : World := (((((((((w.alloc (.cells #[.int .i64 0, .int .i64 1, .int .i64 6] 107)).alloc (.cells #[.int .i64 0] 107)).alloc (.cells #[.int .i64 0] 107)).alloc (.cells #[.int .i64 0] 107)).alloc (.cells #[.int .i64 0, .int .i64 6] 107)).alloc (.cells #[.int .i64 2] 107)).alloc (.cells #[.int .i64 3] 107)).alloc (.cells #[.int .i64 2, .int .i64 4, .int .i64 5] 107)).alloc (.cells #[.int .i64 0, .int .i64 1] 107)).alloc (.cells (formsCells w) 106)
theorem forms_facts (w : World) : Below w.heap.size w (formsWorld w) ∧ FormsAt (formsWorld w) (w.heap.size + 1 + 1 + 1 + 1 + 1 + 1 + 1 + 1 + 1) := by
  have b0 : Below w.heap.size w w := Below.refl _ _
  have z0 : w.heap.size = w.heap.size := rfl
  have r1 := row_cells w [Value.int .i64 0, Value.int .i64 1, Value.int .i64 6] 107 (by simp)
  have s1 : Below w.heap.size w (w.alloc (.cells [Value.int .i64 0, Value.int .i64 1, Value.int .i64 6].toArray 107)) := (Below.refl _ _).alloc (Nat.le_refl _) _
  have z1 : (w.alloc (.cells [Value.int .i64 0, Value.int .i64 1, Value.int .i64 6].toArray 107)).heap.size = w.heap.size + 1 := by rw [World.size_alloc, z0]
  have b1 := s1
  obtain ⟨w1, e1⟩ : ∃ x, x = w.alloc (.cells [Value.int .i64 0, Value.int .i64 1, Value.int .i64 6].toArray 107) := ⟨_, rfl⟩
  rw [← e1] at s1 z1 b1 r1
  have r2 := row_cells w1 [Value.int .i64 0] 107 (by simp)
  have s2 : Below w1.heap.size w1 (w1.alloc (.cells [Value.int .i64 0].toArray 107)) := (Below.refl _ _).alloc (Nat.le_refl _) _
  have z2 : (w1.alloc (.cells [Value.int .i64 0].toArray 107)).heap.size = w.heap.size + 1 + 1 := by rw [World.size_alloc, z1]
  have b2 := below_on b1 s2 (Nat.le_refl _)
  replace r1 := r1.below s2 (Nat.le_refl _)
  obtain ⟨w2, e2⟩ : ∃ x, x = w1.alloc (.cells [Value.int .i64 0].toArray 107) := ⟨_, rfl⟩
  rw [← e2] at s2 z2 b2 r1 r2
  have r3 := row_cells w2 [Value.int .i64 0] 107 (by simp)
  have s3 : Below w2.heap.size w2 (w2.alloc (.cells [Value.int .i64 0].toArray 107)) := (Below.refl _ _).alloc (Nat.le_refl _) _
  have z3 : (w2.alloc (.cells [Value.int .i64 0].toArray 107)).heap.size = w.heap.size + 1 + 1 + 1 := by rw [World.size_alloc, z2]
  have b3 := below_on b2 s3 (Nat.le_refl _)
  replace r1 := r1.below s3 (Nat.le_refl _)
  replace r2 := r2.below s3 (Nat.le_refl _)
  obtain ⟨w3, e3⟩ : ∃ x, x = w2.alloc (.cells [Value.int .i64 0].toArray 107) := ⟨_, rfl⟩
  rw [← e3] at s3 z3 b3 r1 r2 r3
  have r4 := row_cells w3 [Value.int .i64 0] 107 (by simp)
  have s4 : Below w3.heap.size w3 (w3.alloc (.cells [Value.int .i64 0].toArray 107)) := (Below.refl _ _).alloc (Nat.le_refl _) _
  have z4 : (w3.alloc (.cells [Value.int .i64 0].toArray 107)).heap.size = w.heap.size + 1 + 1 + 1 + 1 := by rw [World.size_alloc, z3]
  have b4 := below_on b3 s4 (Nat.le_refl _)
  replace r1 := r1.below s4 (Nat.le_refl _)
  replace r2 := r2.below s4 (Nat.le_refl _)
  replace r3 := r3.below s4 (Nat.le_refl _)
  obtain ⟨w4, e4⟩ : ∃ x, x = w3.alloc (.cells [Value.int .i64 0].toArray 107) := ⟨_, rfl⟩
  rw [← e4] at s4 z4 b4 r1 r2 r3 r4
  have r5 := row_cells w4 [Value.int .i64 0, Value.int .i64 6] 107 (by simp)
  have s5 : Below w4.heap.size w4 (w4.alloc (.cells [Value.int .i64 0, Value.int .i64 6].toArray 107)) := (Below.refl _ _).alloc (Nat.le_refl _) _
  have z5 : (w4.alloc (.cells [Value.int .i64 0, Value.int .i64 6].toArray 107)).heap.size = w.heap.size + 1 + 1 + 1 + 1 + 1 := by rw [World.size_alloc, z4]
  have b5 := below_on b4 s5 (Nat.le_refl _)
  replace r1 := r1.below s5 (Nat.le_refl _)
  replace r2 := r2.below s5 (Nat.le_refl _)
  replace r3 := r3.below s5 (Nat.le_refl _)
  replace r4 := r4.below s5 (Nat.le_refl _)
  obtain ⟨w5, e5⟩ : ∃ x, x = w4.alloc (.cells [Value.int .i64 0, Value.int .i64 6].toArray 107) := ⟨_, rfl⟩
  rw [← e5] at s5 z5 b5 r1 r2 r3 r4 r5
  have r6 := row_cells w5 [Value.int .i64 2] 107 (by simp)
  have s6 : Below w5.heap.size w5 (w5.alloc (.cells [Value.int .i64 2].toArray 107)) := (Below.refl _ _).alloc (Nat.le_refl _) _
  have z6 : (w5.alloc (.cells [Value.int .i64 2].toArray 107)).heap.size = w.heap.size + 1 + 1 + 1 + 1 + 1 + 1 := by rw [World.size_alloc, z5]
  have b6 := below_on b5 s6 (Nat.le_refl _)
  replace r1 := r1.below s6 (Nat.le_refl _)
  replace r2 := r2.below s6 (Nat.le_refl _)
  replace r3 := r3.below s6 (Nat.le_refl _)
  replace r4 := r4.below s6 (Nat.le_refl _)
  replace r5 := r5.below s6 (Nat.le_refl _)
  obtain ⟨w6, e6⟩ : ∃ x, x = w5.alloc (.cells [Value.int .i64 2].toArray 107) := ⟨_, rfl⟩
  rw [← e6] at s6 z6 b6 r1 r2 r3 r4 r5 r6
  have r7 := row_cells w6 [Value.int .i64 3] 107 (by simp)
  have s7 : Below w6.heap.size w6 (w6.alloc (.cells [Value.int .i64 3].toArray 107)) := (Below.refl _ _).alloc (Nat.le_refl _) _
  have z7 : (w6.alloc (.cells [Value.int .i64 3].toArray 107)).heap.size = w.heap.size + 1 + 1 + 1 + 1 + 1 + 1 + 1 := by rw [World.size_alloc, z6]
  have b7 := below_on b6 s7 (Nat.le_refl _)
  replace r1 := r1.below s7 (Nat.le_refl _)
  replace r2 := r2.below s7 (Nat.le_refl _)
  replace r3 := r3.below s7 (Nat.le_refl _)
  replace r4 := r4.below s7 (Nat.le_refl _)
  replace r5 := r5.below s7 (Nat.le_refl _)
  replace r6 := r6.below s7 (Nat.le_refl _)
  obtain ⟨w7, e7⟩ : ∃ x, x = w6.alloc (.cells [Value.int .i64 3].toArray 107) := ⟨_, rfl⟩
  rw [← e7] at s7 z7 b7 r1 r2 r3 r4 r5 r6 r7
  have r8 := row_cells w7 [Value.int .i64 2, Value.int .i64 4, Value.int .i64 5] 107 (by simp)
  have s8 : Below w7.heap.size w7 (w7.alloc (.cells [Value.int .i64 2, Value.int .i64 4, Value.int .i64 5].toArray 107)) := (Below.refl _ _).alloc (Nat.le_refl _) _
  have z8 : (w7.alloc (.cells [Value.int .i64 2, Value.int .i64 4, Value.int .i64 5].toArray 107)).heap.size = w.heap.size + 1 + 1 + 1 + 1 + 1 + 1 + 1 + 1 := by rw [World.size_alloc, z7]
  have b8 := below_on b7 s8 (Nat.le_refl _)
  replace r1 := r1.below s8 (Nat.le_refl _)
  replace r2 := r2.below s8 (Nat.le_refl _)
  replace r3 := r3.below s8 (Nat.le_refl _)
  replace r4 := r4.below s8 (Nat.le_refl _)
  replace r5 := r5.below s8 (Nat.le_refl _)
  replace r6 := r6.below s8 (Nat.le_refl _)
  replace r7 := r7.below s8 (Nat.le_refl _)
  obtain ⟨w8, e8⟩ : ∃ x, x = w7.alloc (.cells [Value.int .i64 2, Value.int .i64 4, Value.int .i64 5].toArray 107) := ⟨_, rfl⟩
  rw [← e8] at s8 z8 b8 r1 r2 r3 r4 r5 r6 r7 r8
  have r9 := row_cells w8 [Value.int .i64 0, Value.int .i64 1] 107 (by simp)
  have s9 : Below w8.heap.size w8 (w8.alloc (.cells [Value.int .i64 0, Value.int .i64 1].toArray 107)) := (Below.refl _ _).alloc (Nat.le_refl _) _
  have z9 : (w8.alloc (.cells [Value.int .i64 0, Value.int .i64 1].toArray 107)).heap.size = w.heap.size + 1 + 1 + 1 + 1 + 1 + 1 + 1 + 1 + 1 := by rw [World.size_alloc, z8]
  have b9 := below_on b8 s9 (Nat.le_refl _)
  replace r1 := r1.below s9 (Nat.le_refl _)
  replace r2 := r2.below s9 (Nat.le_refl _)
  replace r3 := r3.below s9 (Nat.le_refl _)
  replace r4 := r4.below s9 (Nat.le_refl _)
  replace r5 := r5.below s9 (Nat.le_refl _)
  replace r6 := r6.below s9 (Nat.le_refl _)
  replace r7 := r7.below s9 (Nat.le_refl _)
  replace r8 := r8.below s9 (Nat.le_refl _)
  obtain ⟨w9, e9⟩ : ∃ x, x = w8.alloc (.cells [Value.int .i64 0, Value.int .i64 1].toArray 107) := ⟨_, rfl⟩
  rw [← e9] at s9 z9 b9 r1 r2 r3 r4 r5 r6 r7 r8 r9
  have sF : Below w9.heap.size w9 (w9.alloc (.cells (formsCells w) 106)) := (Below.refl _ _).alloc (Nat.le_refl _) _
  replace r1 := r1.below sF (Nat.le_refl _)
  replace r2 := r2.below sF (Nat.le_refl _)
  replace r3 := r3.below sF (Nat.le_refl _)
  replace r4 := r4.below sF (Nat.le_refl _)
  replace r5 := r5.below sF (Nat.le_refl _)
  replace r6 := r6.below sF (Nat.le_refl _)
  replace r7 := r7.below sF (Nat.le_refl _)
  replace r8 := r8.below sF (Nat.le_refl _)
  replace r9 := r9.below sF (Nat.le_refl _)
  have bF := below_on b9 sF (Nat.le_refl _)
  have hc : ∀ j, (w9.alloc (.cells (formsCells w) 106)).cell? ⟨w.heap.size + 1 + 1 + 1 + 1 + 1 + 1 + 1 + 1 + 1, j, none⟩ = (formsCells w)[j]? := by
    intro j
    have := World.cell?_alloc_new w9 (formsCells w) 106 j
    rw [z9] at this
    exact this
  have key : formsWorld w = w9.alloc (.cells (formsCells w) 106) := by
    subst_vars
    rfl
  have goal : Below w.heap.size w (w9.alloc (.cells (formsCells w) 106)) ∧ FormsAt (w9.alloc (.cells (formsCells w) 106)) (w.heap.size + 1 + 1 + 1 + 1 + 1 + 1 + 1 + 1 + 1) := by
    skip
    rw [z1] at r2
    rw [z2] at r3
    rw [z3] at r4
    rw [z4] at r5
    rw [z5] at r6
    rw [z6] at r7
    rw [z7] at r8
    rw [z8] at r9
    refine ⟨bF, fun i hi => ?_⟩
    have h10 : i < 10 := hi
    have : i = 0 ∨ i = 1 ∨ i = 2 ∨ i = 3 ∨ i = 4 ∨ i = 5 ∨ i = 6 ∨ i = 7 ∨ i = 8 ∨ i = 9 := by omega
    rcases this with rfl | rfl | rfl | rfl | rfl | rfl | rfl | rfl | rfl | rfl
    · exact ⟨_, hc _, hc _, hc _, r1⟩
    · exact ⟨_, hc _, hc _, hc _, r2⟩
    · exact ⟨_, hc _, hc _, hc _, r3⟩
    · exact ⟨_, hc _, hc _, hc _, r4⟩
    · exact ⟨_, hc _, hc _, hc _, r5⟩
    · exact ⟨_, hc _, hc _, hc _, r6⟩
    · exact ⟨_, hc _, hc _, hc _, r7⟩
    · exact ⟨_, hc _, hc _, hc _, r8⟩
    · exact ⟨none, hc _, hc _, hc _, (Row.empty (cap := 0) (by omega) (fun _ => rfl) : Row _ none 0 0 [])⟩
    · exact ⟨_, hc _, hc _, hc _, r9⟩
  rw [key]
  exact goal

set_option maxHeartbeats 1000000 in
set_option maxRecDepth 100000 in
theorem forms_any (w : World) :
    Calls Tryz.prog 70 #[] w fun e w' => e = .returned (.slice (some ⟨w.heap.size + 1 + 1 + 1 + 1 + 1 + 1 + 1 + 1 + 1, 0, none⟩) 10 10) ∧ Below w.heap.size w w' ∧ FormsAt w' (w.heap.size + 1 + 1 + 1 + 1 + 1 + 1 + 1 + 1 + 1) := by
  have H := Lib.hid (forms_facts w)
  go_enter Tryz.func70, Tryz.ntmps70
  go_wp2
  go_ret
  exact ⟨rfl, H.out.1, H.out.2⟩
/-- what forms hands back -/
def FormsRes (w : World) (e : Ending) (w' : World) : Prop := ∃ G, e = .returned (.slice (some ⟨G, 0, none⟩) 10 10) ∧ Below w.heap.size w w' ∧ FormsAt w' G
theorem forms_res (w : World) : Calls Tryz.prog 70 #[] w (FormsRes w) := (forms_any w).mono fun _ _ ⟨h1, h2, h3⟩ => ⟨_, h1, h2, h3⟩
end Go.Proofs.YtipbakdodbmfjaaGreatDoor

/- The plain law of a script's lines, third part: an act's line is read as it; what is read is its line. No program is walked here. -/
import Derived.Test.YtipbakdodbmfjaaGreatDoorScriptAct
namespace Go.Proofs.YtipbakdodbmfjaaGreatDoor

abbrev Form := List UInt8 × Int × List Nat
def formsP : List Form :=
  [([99, 108, 105, 101, 110, 116], 1, [0, 1, 6]), ([115, 101, 114, 118, 101, 114], 2, [0]), ([100, 114, 111, 112], 3, [0]), ([116, 119, 105, 110], 4, [0]), ([102, 111, 114, 103, 101], 5, [0, 6]),
   ([116, 105, 99, 107], 6, [2]), ([102, 108, 117, 115, 104], 7, [3]), ([99, 114, 97, 115, 104], 8, [2, 4, 5]), ([99, 111, 109, 112, 97, 99, 116], 9, []), ([100, 101, 97, 100], 10, [0, 1])]
def readAll : List Nat → List (List UInt8) → ActP → Option ActP
  | [], [], x => some x
  | f :: fs, w :: ws, x => match readP f w x with | some y => readAll fs ws y | none => none
  | _, _, _ => none
def fitsForm (ws : List (List UInt8)) (f : Form) : Bool := decide (f.1 = ws.headD [] ∧ f.2.2.length = ws.length - 1)
def actW (ws : List (List UInt8)) : Option ActP := match formsP.find? (fitsForm ws) with | none => none | some f => readAll f.2.2 ws.tail (ActP.zero f.2.1)
/-- which act a line is -/
def actP (s : List UInt8) : Option ActP := actW (splitP 32 s)
def sameP (x y : ActP) : Bool := decide (x.kind = y.kind) && decide (x.a = y.a) && decide (x.b = y.b) && decide (x.n = y.n) && decide (x.name = y.name) && decide (x.mask = y.mask) && decide (x.torn = y.torn) && decide (x.data = y.data)
theorem sameP_eq (x y : ActP) : sameP x y = true ↔ x = y := by
  cases x; cases y
  simp only [sameP, Bool.and_eq_true, decide_eq_true_eq, ActP.mk.injEq, and_assoc]
def wordsOf (f : Form) (x : ActP) : List (List UInt8) := f.1 :: f.2.2.map fun g => writeP g x
def textOf (f : Form) (x : ActP) : List UInt8 := joinP 32 (wordsOf f x)
def formOf (x : ActP) : Option Form := formsP.find? fun f => decide (f.2.1 = x.kind)
/-- the line that the program gives an act -/
def lineS (x : ActP) : Option (List UInt8) := match formOf x with | none => none | some f => match actP (textOf f x) with | some y => if sameP x y then some (textOf f x) else none | none => none
/-- an act that has but a form's fields -/
def onlyP (f : Form) (x : ActP) : ActP := f.2.2.foldl (fun z g => putP g x z) (ActP.zero f.2.1)
/-- the line that the document gives an act -/
def lineL (x : ActP) : Option (List UInt8) := match formOf x with | none => none | some f => if f.2.2.all (fun g => okP g x) && sameP x (onlyP f x) then some (textOf f x) else none

theorem dec_no32 (u : Nat) : ∀ c ∈ Lib.decDigits u, c ≠ 32 := by
  intro c hc e
  have := dec_digit u c hc
  rw [e] at this
  exact absurd this.1 (by decide)
theorem itoa_no32 (v : Int) : ∀ c ∈ Lib.itoa v, c ≠ 32 := by
  intro c hc
  unfold Lib.itoa at hc
  split at hc
  · rcases List.mem_cons.1 hc with rfl | hc
    · decide
    · exact dec_no32 _ c hc
  · exact dec_no32 _ c hc
theorem esc_no32 (x : UInt8) : ∀ c ∈ escL x, c ≠ 32 := by
  intro c hc e
  subst e
  have hx := x.toNat_lt
  unfold escL at hc
  have hd : ∀ n, n < 10 → (32 : UInt8) ≠ dig n := by
    intro n hn e
    have := congrArg UInt8.toNat e
    rw [dig_toNat n hn] at this
    have h32 : (32 : UInt8).toNat = 32 := rfl
    omega
  split at hc
  · rename_i h
    simp at hc
    subst hc
    rcases h with h | h <;> exact absurd h (by decide)
  · split at hc
    · simp only [List.mem_cons, List.not_mem_nil, or_false] at hc
      rcases hc with h | h | h | h
      · exact absurd h (by decide)
      · exact hd _ (by omega) h
      · exact hd _ (by omega) h
      · exact hd _ (by omega) h
    · rename_i h1 h2
      simp at hc
      subst hc
      exact h2 (Or.inl (by decide))
theorem text_no32 (ss : List ByteArray) : ∀ c ∈ textT ss, c ≠ 32 := by
  intro c hc
  unfold textT at hc
  split at hc
  · simp at hc; subst hc; decide
  · unfold bodyT at hc
    rw [List.mem_flatMap] at hc
    obtain ⟨s, _, hc⟩ := hc
    rcases List.mem_append.1 hc with hc | hc
    · unfold labT at hc
      rw [List.mem_flatMap] at hc
      obtain ⟨x, _, hc⟩ := hc
      exact esc_no32 x c hc
    · simp at hc; subst hc; decide
theorem hex_no32 (b : List UInt8) : ∀ c ∈ hexP b, c ≠ 32 := by
  intro c hc
  rcases List.mem_cons.1 hc with rfl | hc
  · decide
  · have := (hexB_all b).1
    rw [List.all_eq_true] at this
    have h := this c hc
    intro e
    subst e
    exact absurd h (by decide)
theorem write_no32 (f : Nat) (x : ActP) : ∀ c ∈ writeP f x, c ≠ 32 := by
  unfold writeP
  split
  · exact itoa_no32 _
  · split
    · exact itoa_no32 _
    · split
      · exact itoa_no32 _
      · split
        · exact text_no32 _
        · split
          · exact dec_no32 _
          · split
            · exact dec_no32 _
            · exact hex_no32 _
theorem words_no32 (f : Form) (hf : f ∈ formsP) (x : ActP) : ∀ w ∈ wordsOf f x, ∀ c ∈ w, c ≠ 32 := by
  intro w hw
  rcases List.mem_cons.1 hw with rfl | hw
  · have : formsP.all (fun f => f.1.all fun c => decide (c ≠ 32)) = true := by decide
    rw [List.all_eq_true] at this
    have h := this f hf
    rw [List.all_eq_true] at h
    intro c hc
    simpa using h c hc
  · obtain ⟨g, _, rfl⟩ := List.mem_map.1 hw
    exact write_no32 g x
theorem split_text (f : Form) (hf : f ∈ formsP) (x : ActP) : splitP 32 (textOf f x) = wordsOf f x :=
  split_join 32 _ (by simp [wordsOf]) (words_no32 f hf x)
theorem form_find (f : Form) (hf : f ∈ formsP) (ws : List (List UInt8)) (h1 : ws.headD [] = f.1) (h2 : ws.length - 1 = f.2.2.length) : formsP.find? (fitsForm ws) = some f := by
  have e : fitsForm ws = fun g => decide (g.1 = f.1 ∧ g.2.2.length = f.2.2.length) := by
    funext g; simp only [fitsForm, h1, h2]
  rw [e]
  have : formsP.all (fun f => decide (formsP.find? (fun g => decide (g.1 = f.1 ∧ g.2.2.length = f.2.2.length)) = some f)) = true := by decide
  rw [List.all_eq_true] at this
  simpa using this f hf
theorem act_words (f : Form) (hf : f ∈ formsP) (x : ActP) : actP (textOf f x) = readAll f.2.2 (f.2.2.map fun g => writeP g x) (ActP.zero f.2.1) := by
  unfold actP actW
  rw [split_text f hf x, form_find f hf _ rfl (by simp [wordsOf])]
  rfl
theorem readAll_write (x : ActP) (hx : x.fits) : ∀ (fs : List Nat) (z : ActP), (∀ g ∈ fs, g ≤ 6) → fs.all (fun g => okP g x) = true → readAll fs (fs.map fun g => writeP g x) z = some (fs.foldl (fun z g => putP g x z) z)
  | [], z, _, _ => rfl
  | f :: fs, z, h6, ho => by
    simp only [List.all_cons, Bool.and_eq_true] at ho
    simp only [List.map_cons, readAll, List.foldl_cons, read_write f (h6 f (by simp)) x z hx ho.1]
    exact readAll_write x hx fs _ (fun g hg => h6 g (by simp [hg])) ho.2
theorem forms_le (f : Form) (hf : f ∈ formsP) : ∀ g ∈ f.2.2, g ≤ 6 := by
  have : formsP.all (fun f => f.2.2.all fun g => decide (g ≤ 6)) = true := by decide
  rw [List.all_eq_true] at this
  have h := this f hf
  rw [List.all_eq_true] at h
  intro g hg
  simpa using h g hg
theorem forms_three (f : Form) (hf : f ∈ formsP) (h : 3 ∈ f.2.2) : f.2.2 = [3] := by
  have : formsP.all (fun f => !(f.2.2.contains 3) || decide (f.2.2 = [3])) = true := by decide
  rw [List.all_eq_true] at this
  have h1 := this f hf
  have h2 : f.2.2.contains 3 = true := List.contains_iff_mem.2 h
  rw [h2] at h1
  simpa using h1
theorem formOf_mem {x : ActP} {f : Form} (h : formOf x = some f) : f ∈ formsP ∧ f.2.1 = x.kind := by
  unfold formOf at h
  exact ⟨List.mem_of_find?_eq_some h, by simpa using List.find?_some h⟩
/-- the program's line is the document's -/
theorem line_same (x : ActP) (hx : x.fits) : lineS x = lineL x := by
  unfold lineS lineL
  cases hf : formOf x with
  | none => rfl
  | some f =>
    obtain ⟨hm, hk⟩ := formOf_mem hf
    simp only
    rw [act_words f hm x]
    cases ho : f.2.2.all (fun g => okP g x) with
    | true =>
      rw [readAll_write x hx _ _ (forms_le f hm) ho]
      simp only [Bool.true_and]
      rfl
    | false =>
      simp only [Bool.false_and]
      have h3 : 3 ∈ f.2.2 ∧ soundB x.name = false := by
        have : ∃ g ∈ f.2.2, okP g x = false := by
          simpa [List.all_eq_false] using ho
        obtain ⟨g, hg, hog⟩ := this
        simp only [okP, Bool.or_eq_false_iff, decide_eq_false_iff_not, ne_eq, Classical.not_not] at hog
        exact ⟨hog.1 ▸ hg, hog.2⟩
      rw [forms_three f hm h3.1]
      simp only [List.map_cons, List.map_nil, readAll]
      have hr : ∀ z, readP 3 (writeP 3 x) z = (nameP (textT x.name)).map fun v => { z with name := v } := fun z => by simp [readP, writeP]
      rw [hr]
      rcases nameP_bad x.name h3.2 with h | ⟨h, hl⟩
      · rw [h]; rfl
      · rw [h]
        simp only [Option.map_some]
        have : sameP x { ActP.zero f.2.1 with name := [] } = false := by
          cases hs : sameP x { ActP.zero f.2.1 with name := [] } with
          | false => rfl
          | true =>
            rw [sameP_eq] at hs
            rw [hs] at hl
            simp at hl
        rw [this]
theorem zero_fits (k : Int) : (ActP.zero k).fits := ⟨by simp [ActP.zero], by simp [ActP.zero], by simp [ActP.zero], by simp [ActP.zero], by simp [ActP.zero]⟩
/-- the fields of a form that are read are those of the act -/
theorem readAll_spec : ∀ (fs : List Nat) (ws : List (List UInt8)) (z x : ActP), (∀ g ∈ fs, g ≤ 6) → fs.Nodup → z.fits → readAll fs ws z = some x →
    ws = fs.map (fun g => writeP g x) ∧ x = fs.foldl (fun z g => putP g x z) z ∧ fs.all (fun g => okP g x) = true ∧ x.fits ∧ (∀ g, g ≤ 6 → g ∉ fs → putP g x z = z)
  | [], [], z, x, _, _, hz, h => by
    simp only [readAll] at h
    injection h with h
    subst h
    refine ⟨rfl, rfl, rfl, hz, fun g _ _ => ?_⟩
    unfold putP
    split
    · rfl
    · split
      · rfl
      · split
        · rfl
        · split
          · rfl
          · split
            · rfl
            · split <;> rfl
  | [], _ :: _, _, _, _, _, _, h => by simp [readAll] at h
  | _ :: _, [], _, _, _, _, _, h => by simp [readAll] at h
  | f :: fs, w :: ws, z, x, h6, hn, hz, h => by
    simp only [readAll] at h
    cases hr : readP f w z with
    | none => rw [hr] at h; cases h
    | some y =>
      rw [hr] at h
      simp only at h
      have hf6 := h6 f (by simp)
      obtain ⟨e1, e2, e3, e4⟩ := write_read f hf6 w z y hr hz
      rw [List.nodup_cons] at hn
      obtain ⟨i1, i2, i3, i4, i5⟩ := readAll_spec fs ws y x (fun g hg => h6 g (by simp [hg])) hn.2 e4 h
      -- the field f of x is that of y
      have hfy := i5 f hf6 hn.1
      have key : writeP f x = writeP f y ∧ okP f x = okP f y ∧ putP f x z = y := by
        rw [e2] at hfy ⊢
        have h7 : f = 0 ∨ f = 1 ∨ f = 2 ∨ f = 3 ∨ f = 4 ∨ f = 5 ∨ f = 6 := by omega
        rcases h7 with rfl | rfl | rfl | rfl | rfl | rfl | rfl <;> simp [putP] at hfy <;> simp [writeP, okP, putP, hfy]
      refine ⟨?_, ?_, ?_, i4, ?_⟩
      · rw [List.map_cons, key.1, ← e1, ← i1]
      · rw [List.foldl_cons, key.2.2]; exact i2
      · rw [List.all_cons, key.2.1, e3, i3]; rfl
      · intro g hg hng
        have hng2 : g ∉ fs := fun h => hng (by simp [h])
        have hgf : g ≠ f := fun h => hng (by simp [h])
        have h1 := i5 g hg hng2
        rw [e2] at h1
        have h7 : f = 0 ∨ f = 1 ∨ f = 2 ∨ f = 3 ∨ f = 4 ∨ f = 5 ∨ f = 6 := by omega
        have g7 : g = 0 ∨ g = 1 ∨ g = 2 ∨ g = 3 ∨ g = 4 ∨ g = 5 ∨ g = 6 := by omega
        cases z
        rcases h7 with rfl | rfl | rfl | rfl | rfl | rfl | rfl <;> rcases g7 with rfl | rfl | rfl | rfl | rfl | rfl | rfl <;> first | exact absurd rfl hgf | (simp [putP] at h1 ⊢; exact h1)
theorem forms_kinds (f : Form) (hf : f ∈ formsP) : formsP.find? (fun g => decide (g.2.1 = f.2.1)) = some f ∧ f.2.2.Nodup := by
  have : formsP.all (fun f => decide (formsP.find? (fun g => decide (g.2.1 = f.2.1)) = some f ∧ f.2.2.Nodup)) = true := by decide
  rw [List.all_eq_true] at this
  simpa using this f hf
theorem put_kind (g : Nat) (y x : ActP) : (putP g y x).kind = x.kind := by
  unfold putP
  split
  · rfl
  · split
    · rfl
    · split
      · rfl
      · split
        · rfl
        · split
          · rfl
          · split <;> rfl
theorem fold_kind (y : ActP) : ∀ (fs : List Nat) (z : ActP), (fs.foldl (fun z g => putP g y z) z).kind = z.kind
  | [], _ => rfl
  | f :: fs, z => by rw [List.foldl_cons, fold_kind y fs, put_kind]
/-- a line that is an act's is that act's line -/
theorem act_line (s : List UInt8) (x : ActP) (h : actP s = some x) : lineL x = some s ∧ x.fits := by
  unfold actP actW at h
  cases hf : formsP.find? (fitsForm (splitP 32 s)) with
  | none => rw [hf] at h; cases h
  | some f =>
    rw [hf] at h
    simp only at h
    have hm := List.mem_of_find?_eq_some hf
    have hfit := List.find?_some hf
    simp only [fitsForm, decide_eq_true_eq] at hfit
    obtain ⟨k1, k2⟩ := forms_kinds f hm
    obtain ⟨e1, e2, e3, e4, _⟩ := readAll_spec f.2.2 _ _ x (forms_le f hm) k2 (zero_fits _) h
    have hk : x.kind = f.2.1 := by rw [e2, fold_kind]; rfl
    have hform : formOf x = some f := by unfold formOf; rw [hk]; exact k1
    have hs : textOf f x = s := by
      unfold textOf wordsOf
      rw [← e1, hfit.1]
      have hne := splitP_ne 32 s
      have hj := join_split 32 s
      cases hsp : splitP 32 s with
      | nil => exact absurd hsp hne
      | cons w ws => rw [hsp] at hj; exact hj
    have ho : sameP x (onlyP f x) = true := (sameP_eq _ _).2 e2
    refine ⟨?_, e4⟩
    unfold lineL
    rw [hform]
    simp only [e3, ho, hs, Bool.and_self, if_true]
/-- an act's line is read as it -/
theorem line_act (x : ActP) (hx : x.fits) (s : List UInt8) (h : lineL x = some s) : actP s = some x := by
  rw [← line_same x hx] at h
  unfold lineS at h
  split at h
  · cases h
  · split at h
    · rename_i f _ y hy
      split at h
      · rename_i hs
        injection h with h
        rw [← h, hy, (sameP_eq _ _).1 hs]
      · cases h
    · cases h
end Go.Proofs.YtipbakdodbmfjaaGreatDoor

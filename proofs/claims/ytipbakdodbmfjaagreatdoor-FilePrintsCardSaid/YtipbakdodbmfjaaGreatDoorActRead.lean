/- The contract of a field's reading into an act. -/
import Derived.Test.YtipbakdodbmfjaaGreatDoorActIo
import Derived.Test.YtipbakdodbmfjaaGreatDoorParse
import Derived.Test.YtipbakdodbmfjaaGreatDoorUnhex
namespace Go.Proofs.YtipbakdodbmfjaaGreatDoor
open Go.ChangeShapes Go.WideShapes Go.ChangeAt Go.RowKit

def ActSome (w : World) (g : Nat) (x : ActP) : Prop := ∃ nao nl nc dao dl dc, ActAt w g x nao nl nc dao dl dc
def ReadRes (w : World) (g : Nat) (r : Option ActP) (e : Ending) (w' : World) : Prop :=
  w.grownBy w' (some g) ∧ match r with
  | some y => e = .returned (.bool true) ∧ ActSome w' g y
  | none => e = .returned (.bool false) ∧ ∃ cs, Blk w' g cs 60
theorem ReadRes.yes {w w' : World} {g : Nat} {r : Option ActP} {y : ActP} (hr : r = some y) (hg : w.grownBy w' (some g)) (hy : ActSome w' g y) : ReadRes w g r (.returned (.bool true)) w' := by
  subst hr; exact ⟨hg, rfl, hy⟩
theorem ReadRes.no {w w' : World} {g : Nat} {r : Option ActP} {cs : Array Value} (hr : r = none) (hg : w.grownBy w' (some g)) (hy : Blk w' g cs 60) : ReadRes w g r (.returned (.bool false)) w' := by
  subst hr; exact ⟨hg, rfl, cs, hy⟩
theorem ActAt.but {w w' : World} {g : Nat} {x y : ActP} {nao : Option Addr} {nl nc : Nat} {dao : Option Addr} {dl dc : Nat} (h : ActAt w g x nao nl nc dao dl dc) (hg : w.grownBy w' (some g)) (hB : Blk w' g (actCells y nao nl nc dao dl dc) 60) (h1 : y.name = x.name) (h2 : y.data = x.data) : ActAt w' g y nao nl nc dao dl dc :=
  ⟨hB, by rw [h1]; exact h.name.grown hg (fun a ha => by have := h.nne a ha; simp; omega), by rw [h2]; exact h.data.grown hg (fun a ha => by have := h.dne a ha; simp; omega), h.nne, h.dne⟩
/-- what a number's reading leaves -/
theorem read_num {w w' : World} {g j : Nat} {x : ActP} {nao : Option Addr} {nl nc : Nat} {dao : Option Addr} {dl dc : Nat} (h : ActAt w g x nao nl nc dao dl dc) {k : IntKind} {r : Option Int} {e : Ending} (put : Int → ActP)
    (hn : NumRes w g j (actCells x nao nl nc dao dl dc) 60 k r e w') (hput : ∀ v, r = some v → (actCells x nao nl nc dao dl dc).setIfInBounds j (.int k v) = actCells (put v) nao nl nc dao dl dc ∧ (put v).name = x.name ∧ (put v).data = x.data) : ReadRes w g (r.map put) e w' := by
  obtain ⟨v, he, hg, hB, hv⟩ := hn
  cases r with
  | none => exact ⟨hg, he, _, hB⟩
  | some u =>
    obtain rfl := hv u rfl
    obtain ⟨e1, e2, e3⟩ := hput v rfl
    rw [e1] at hB
    exact ⟨hg, he, _, _, _, _, _, _, h.but hg hB e2 e3⟩

theorem read_bits {w w' : World} {g j : Nat} {x : ActP} {nao : Option Addr} {nl nc : Nat} {dao : Option Addr} {dl dc : Nat} (h : ActAt w g x nao nl nc dao dl dc) {r : Option Nat} {e : Ending} (put : Nat → ActP)
    (hn : NumRes w g j (actCells x nao nl nc dao dl dc) 60 .u64 (Option.map (fun v : Nat => (v : Int)) r) e w') (hput : ∀ v : Nat, (actCells x nao nl nc dao dl dc).setIfInBounds j (.int .u64 (v : Int)) = actCells (put v) nao nl nc dao dl dc ∧ (put v).name = x.name ∧ (put v).data = x.data) : ReadRes w g (r.map put) e w' := by
  obtain ⟨v, he, hg, hB, hv⟩ := hn
  cases r with
  | none => exact ⟨hg, he, _, hB⟩
  | some u =>
    obtain rfl := hv u rfl
    obtain ⟨e1, e2, e3⟩ := hput u
    rw [e1] at hB
    exact ⟨hg, he, _, _, _, _, _, _, h.but hg hB e2 e3⟩
set_option maxHeartbeats 2000000 in
set_option maxRecDepth 100000 in
theorem read_any (w : World) (f g : Nat) (s : ByteArray) (x : ActP) (nao : Option Addr) (nl nc : Nat) (dao : Option Addr) (dl dc : Nat) (hf : f ≤ 6) (hs : s.size ≤ 1099511627776) (hE : Env w) (hg : lowG ≤ g) (hx : ActAt w g x nao nl nc dao dl dc) :
    Calls Tryz.prog 77 #[.int .i64 (f : Int), .string s, .pointer (some ⟨g, 0, none⟩)] w (ReadRes w g (readP f s.data.toList x)) := by
  have h7 : f = 0 ∨ f = 1 ∨ f = 2 ∨ f = 3 ∨ f = 4 ∨ f = 5 ∨ f = 6 := by omega
  rcases h7 with rfl | rfl | rfl | rfl | rfl | rfl | rfl
  · have H := Lib.hid (number_any w s g 1 _ _ x.a hs hE hg hx.blk rfl)
    have HF : Hid (∀ e w', NumRes w g 1 (actCells x nao nl nc dao dl dc) 60 .i64 (numP s.data.toList) e w' → ReadRes w g (readP 0 s.data.toList x) e w') := fun e w' h => read_num hx (fun v => { x with a := v }) h (fun v _ => ⟨rfl, rfl, rfl⟩)
    go_enter Tryz.func77, Tryz.ntmps77
    go_wp2_with fail
    refine H.out.mono ?_
    intro e w1 hn
    obtain ⟨v, rfl, h1, h2, h3⟩ := hn
    have HR := Lib.hid (HF.out _ w1 ⟨v, rfl, h1, h2, h3⟩)
    clear h1 h2 h3 HF
    go_wp2
    go_ret
    exact HR.out
  · have H := Lib.hid (number_any w s g 2 _ _ x.b hs hE hg hx.blk rfl)
    have HF : Hid (∀ e w', NumRes w g 2 (actCells x nao nl nc dao dl dc) 60 .i64 (numP s.data.toList) e w' → ReadRes w g (readP 1 s.data.toList x) e w') := fun e w' h => read_num hx (fun v => { x with b := v }) h (fun v _ => ⟨rfl, rfl, rfl⟩)
    go_enter Tryz.func77, Tryz.ntmps77
    go_wp2_with fail
    refine H.out.mono ?_
    intro e w1 hn
    obtain ⟨v, rfl, h1, h2, h3⟩ := hn
    have HR := Lib.hid (HF.out _ w1 ⟨v, rfl, h1, h2, h3⟩)
    clear h1 h2 h3 HF
    go_wp2
    go_ret
    exact HR.out
  · have H := Lib.hid (number_any w s g 3 _ _ x.n hs hE hg hx.blk rfl)
    have HF : Hid (∀ e w', NumRes w g 3 (actCells x nao nl nc dao dl dc) 60 .i64 (numP s.data.toList) e w' → ReadRes w g (readP 2 s.data.toList x) e w') := fun e w' h => read_num hx (fun v => { x with n := v }) h (fun v _ => ⟨rfl, rfl, rfl⟩)
    go_enter Tryz.func77, Tryz.ntmps77
    go_wp2_with fail
    refine H.out.mono ?_
    intro e w1 hn
    obtain ⟨v, rfl, h1, h2, h3⟩ := hn
    have HR := Lib.hid (HF.out _ w1 ⟨v, rfl, h1, h2, h3⟩)
    clear h1 h2 h3 HF
    go_wp2
    go_ret
    exact HR.out
  · have HP := Lib.hid (parse_any w s hs hE.errs)
    have hlt := hx.blk.lt
    have hrd : readP 3 s.data.toList x = (nameP s.data.toList).map fun v => { x with name := v } := by simp [readP]
    cases hp : parseB s.data.toList with
    | none =>
      rw [hp] at HP
      have HR : Hid (readP 3 s.data.toList x = none) := by show readP 3 _ _ = none; rw [hrd]; simp [nameP, hp]
      have HX := Lib.hid hx; clear hx
      clear hrd hp
      go_enter Tryz.func77, Tryz.ntmps77
      go_wp2_with fail
      refine HP.out.mono ?_
      rintro e w1 ⟨rfl, hb⟩
      have hx1 := (HX.out.on hb).blk
      have c4 := hx1.cell 4
      simp [actCells] at c4
      have f4 := hx1.free 4
      have HB := Lib.hid (hx1.set 4 (.slice none 0 0))
      clear hx1
      go_wp2
      go_ret
      exact ReadRes.no HR.out (but_trans (but_of_below g hb) (but_set w1 g 4 _)) HB.out
    | some ss =>
      rw [hp] at HP
      have hso := parse_sound hp
      obtain ⟨z1, z2⟩ : sizeN ss ≤ 254 ∧ ss.length ≤ 255 := by
        simp only [soundB, Bool.and_eq_true, decide_eq_true_eq] at hso; omega
      have hbe := str_beq (textT ss) s
      obtain ⟨b, hb0⟩ : ∃ b, decide (textT ss = s.data.toList) = b := ⟨_, rfl⟩
      rw [hb0] at hbe
      have HR : Hid (readP 3 s.data.toList x = if b then some { x with name := ss } else none) := by
        show readP 3 _ _ = _
        rw [hrd, ← hb0]
        by_cases h : textT ss = s.data.toList <;> simp [nameP, hp, h]
      obtain ⟨t, ht⟩ : ∃ t : ByteArray, t = ⟨(textT ss).toArray⟩ := ⟨_, rfl⟩
      have HT := Lib.hid (fun (w' : World) (ao : Option Addr) (len cap : Nat) (h : Strs w' ao len cap ss) (hT : Tab w') => text_any w' ao len cap ss h (by omega) hT)
      rw [← ht] at hbe HT
      have HX := Lib.hid hx; clear hx
      clear hrd hp hb0 ht hso z1 z2
      obtain ⟨R, hR⟩ : ∃ R, R = readP 3 s.data.toList x := ⟨_, rfl⟩
      rw [← hR] at HR ⊢
      clear hR
      go_enter Tryz.func77, Tryz.ntmps77
      go_wp2_with fail
      refine HP.out.mono ?_
      rintro e w1 ⟨ao, n, cap, rfl, hst, hb, hfr⟩
      have hx1 := HX.out.on hb
      have hB1 := hx1.blk
      have c4 := hB1.cell 4
      simp [actCells] at c4
      have f4 := hB1.free 4
      have hgb := but_set w1 g 4 (.slice ao n cap)
      have hne : ∀ a, ao = some a → g < a.block := fun a ha => by have := hfr a ha; omega
      have hB2 := hB1.set 4 (.slice ao n cap)
      have hst2 : Strs (w1.setCell ⟨g, 4, none⟩ (.slice ao n cap)) ao n cap ss := hst.grown hgb (fun a ha => by have := hne a ha; simp; omega)
      have hE2 : Env (w1.setCell ⟨g, 4, none⟩ (.slice ao n cap)) := (hE.on hb).but hgb hg
      have hd2 : Byts (w1.setCell ⟨g, 4, none⟩ (.slice ao n cap)) dao dl dc x.data := hx1.data.grown hgb (fun a ha => by have := hx1.dne a ha; simp; omega)
      have HA : Hid (ActAt (w1.setCell ⟨g, 4, none⟩ (.slice ao n cap)) g { x with name := ss } ao n cap dao dl dc) := ⟨hB2, hst2, hd2, hne, hx1.dne⟩
      have HG := Lib.hid (but_trans (but_of_below g hb) hgb)
      have c4' : (w1.setCell ⟨g, 4, none⟩ (.slice ao n cap)).cell? ⟨g, 4, none⟩ = some (.slice ao n cap) := by
        have := hB2.cell 4
        rw [this]; rfl
      have HS2 := Lib.hid hst2
      have HE2 := Lib.hid hE2
      clear hx1 hB1 hgb hB2 hst hd2 hst2 hne hfr hE2
      go_wp2_with fail
      refine (HT.out _ _ _ _ HS2.out HE2.out.tab).mono ?_
      rintro e w3 ⟨rfl, hb3⟩
      have HA3 := Lib.hid (HA.out.on hb3)
      have HG3 := Lib.hid (but_trans HG.out (but_of_below g hb3))
      clear c4 c4' f4
      cases b
      · go_wp2
        go_ret
        exact ReadRes.no HR.out HG3.out HA3.out.blk
      · go_wp2
        go_ret
        exact ReadRes.yes HR.out HG3.out ⟨_, _, _, _, _, _, HA3.out⟩
  · have H := Lib.hid (bits_any w s g 5 _ _ x.mask hs hE hg hx.blk rfl)
    have HF : Hid (∀ e w', NumRes w g 5 (actCells x nao nl nc dao dl dc) 60 .u64 (Option.map (fun v : Nat => (v : Int)) (bitsP s.data.toList)) e w' → ReadRes w g (readP 4 s.data.toList x) e w') := fun e w' h => read_bits hx (r := bitsP s.data.toList) (fun v => { x with mask := v }) h (fun v => ⟨rfl, rfl, rfl⟩)
    go_enter Tryz.func77, Tryz.ntmps77
    go_wp2_with fail
    refine H.out.mono ?_
    intro e w1 hn
    obtain ⟨v, rfl, h1, h2, h3⟩ := hn
    have HR := Lib.hid (HF.out _ w1 ⟨v, rfl, h1, h2, h3⟩)
    clear h1 h2 h3 HF
    go_wp2
    go_ret
    have hfin := HR.out
    rw [Option.isSome_map] at hfin
    exact hfin
  · have H := Lib.hid (bits_any w s g 6 _ _ x.torn hs hE hg hx.blk rfl)
    have HF : Hid (∀ e w', NumRes w g 6 (actCells x nao nl nc dao dl dc) 60 .u64 (Option.map (fun v : Nat => (v : Int)) (bitsP s.data.toList)) e w' → ReadRes w g (readP 5 s.data.toList x) e w') := fun e w' h => read_bits hx (r := bitsP s.data.toList) (fun v => { x with torn := v }) h (fun v => ⟨rfl, rfl, rfl⟩)
    go_enter Tryz.func77, Tryz.ntmps77
    go_wp2_with fail
    refine H.out.mono ?_
    intro e w1 hn
    obtain ⟨v, rfl, h1, h2, h3⟩ := hn
    have HR := Lib.hid (HF.out _ w1 ⟨v, rfl, h1, h2, h3⟩)
    clear h1 h2 h3 HF
    go_wp2
    go_ret
    have hfin := HR.out
    rw [Option.isSome_map] at hfin
    exact hfin
  · have HP := Lib.hid (unhex_any w s hs)
    have hlt := hx.blk.lt
    have hrd : readP 6 s.data.toList x = (unhexP s.data.toList).map fun v => { x with data := v } := by simp [readP]
    cases hp : unhexP s.data.toList with
    | none =>
      rw [hp] at HP
      have HR : Hid (readP 6 s.data.toList x = none) := by show readP 6 _ _ = none; rw [hrd, hp]; rfl
      have HX := Lib.hid hx; clear hx
      clear hrd hp
      go_enter Tryz.func77, Tryz.ntmps77
      go_wp2_with fail
      refine HP.out.mono ?_
      rintro e w1 ⟨rfl, hb⟩
      have hx1 := (HX.out.on hb).blk
      have c7 := hx1.cell 7
      simp [actCells] at c7
      have f7 := hx1.free 7
      have HB := Lib.hid (hx1.set 7 (.slice none 0 0))
      clear hx1
      go_wp2
      go_ret
      exact ReadRes.no HR.out (but_trans (but_of_below g hb) (but_set w1 g 7 _)) HB.out
    | some ss =>
      rw [hp] at HP
      have HR : Hid (readP 6 s.data.toList x = some { x with data := ss }) := by show readP 6 _ _ = _; rw [hrd, hp]; rfl
      have HX := Lib.hid hx; clear hx
      clear hrd hp
      go_enter Tryz.func77, Tryz.ntmps77
      go_wp2_with fail
      refine HP.out.mono ?_
      rintro e w1 ⟨ao, n, cap, rfl, hst, hb, hfr⟩
      have hx1 := HX.out.on hb
      have hB1 := hx1.blk
      have c7 := hB1.cell 7
      simp [actCells] at c7
      have f7 := hB1.free 7
      have hgb := but_set w1 g 7 (.slice ao n cap)
      have hne : ∀ a, ao = some a → g < a.block := fun a ha => by have := hfr a ha; omega
      have hB2 := hB1.set 7 (.slice ao n cap)
      have hst2 : Byts (w1.setCell ⟨g, 7, none⟩ (.slice ao n cap)) ao n cap ss := hst.grown hgb (fun a ha => by have := hne a ha; simp; omega)
      have hd2 : Strs (w1.setCell ⟨g, 7, none⟩ (.slice ao n cap)) nao nl nc x.name := hx1.name.grown hgb (fun a ha => by have := hx1.nne a ha; simp; omega)
      have HA : Hid (ActAt (w1.setCell ⟨g, 7, none⟩ (.slice ao n cap)) g { x with data := ss } nao nl nc ao n cap) := ⟨hB2, hd2, hst2, hx1.nne, hne⟩
      have HG := Lib.hid (but_trans (but_of_below g hb) hgb)
      clear hx1 hB1 hgb hB2 hst hd2 hst2 hne hfr
      go_wp2
      go_ret
      exact ReadRes.yes HR.out HG.out ⟨_, _, _, _, _, _, HA.out⟩
end Go.Proofs.YtipbakdodbmfjaaGreatDoor

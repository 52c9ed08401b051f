/- Cache.at: the item of a name and a type. -/
import Derived.Test.YtgfibbjifbghdaaGreatCuse
import Derived.Test.YtgfibbjifbghdaaGreatFkey
import Derived.Test.YtgfibbjifbghdaaGreatTail
namespace Go.Proofs.YtgfibbjifbghdaaGreat
open Go.ChangeShapes Go.WideShapes Go.ChangeAt Go.RowKit

def noP : DataP := ⟨[], [], [], [], []⟩
def noDH : DataH := ⟨none, 0, 0, none, 0, 0, none, 0, 0, none, 0, 0, none, 0, 0⟩
def itemV (o : Option Slot) : Value := match o with | some s => .pointer (some ⟨s.b, 0, none⟩) | none => .pointer none
theorem keyP_size (n : List ByteArray) (t : Int) : (keyP n t).length = sizeN n + 3 := by simp [keyP, nameK_len]
set_option maxHeartbeats 16000000 in
set_option maxRecDepth 100000 in
theorem at_nil (w : World) (na : Option Addr) (nl nc : Nat) (typ : Int) : Calls Tryz.prog 146 #[.pointer none, .slice na nl nc, .int .i64 typ] w fun e w' => e = .returned (.pointer none) ∧ Below w.heap.size w w' := by
  go_enter Tryz.func146, Tryz.ntmps146
  go_wp2_with fail
  go_ret
  exact ⟨rfl, Below.refl _ _⟩
set_option maxHeartbeats 16000000 in
set_option maxRecDepth 100000 in
theorem at_any (w : World) (B C : Nat) (most stale : Int) (k : Nat) (L : List Slot) (hC : IsCache B w C most stale k L) (na : Option Addr) (nl nc : Nat) (nm : List ByteArray) (typ : Int) (hn : Strs w na nl nc nm) (hz : sizeN nm ≤ 1099511627776) :
    Calls Tryz.prog 146 #[.pointer (some ⟨C, 0, none⟩), .slice na nl nc, .int .i64 typ] w fun e w' => e = .returned (itemV (atL L (keyP nm typ))) ∧ Below w.heap.size w w' := by
  obtain ⟨M, hB, _, hM⟩ := hC.ex
  obtain ⟨KS, hKS⟩ : ∃ q : ByteArray, q = (⟨(keyP nm typ).toArray⟩ : ByteArray) := ⟨_, rfl⟩
  obtain ⟨P, hP⟩ : ∃ q : Value, q = itemV (atL L (keyP nm typ)) := ⟨_, rfl⟩
  have HK := Lib.hid (fun w' (p : Below w.heap.size w w') => fkey_any w' ⟨na, nl, nc, none, 0, 0, none, 0, 0, noDH⟩ ⟨nm, typ, 0, 0, 0, 0, [], [], noP⟩ (hn.below p (Nat.le_refl _)) hz)
  rw [show keyF ⟨nm, typ, 0, 0, 0, 0, [], [], noP⟩ = keyP nm typ from rfl, ← hKS] at HK
  simp only [factC, noDH] at HK
  have HL := Lib.hid (fun w' (p : Below w.heap.size w w') => (hM.on (p.block M hM.lt)).look (key := keyP nm typ) (by rw [keyP_size]; omega))
  rw [← hKS] at HL
  have HL2 := Lib.hid (fun w' (p : Below w.heap.size w w') => show (Instr.lookup 129 (.map (some M)) (.string KS) false).run Tryz.prog w' = .ok P w' by rw [hP]; exact HL.out w' p)
  rw [← hP]
  have HM2 := Lib.hid (show w.drew.cell? ⟨C, 2, none⟩ = some (.map (some M)) from hB.cell 2)
  clear hC hB hM hKS hP HL hn
  go_enter Tryz.func146, Tryz.ntmps146
  go_wp2_with fail
  refine wp_soup0 (m := 18) (by kernel_rfl) (fun x y => Below x.heap.size x y) (fun i v xw => match i with | 0 => v = .pointer (some ⟨C, 0, none⟩) | 1 => v = .pointer (some ⟨C, 0, none⟩) | 2 => v = .pointer (some ⟨C, 2, none⟩) | 3 => v = .map (some M) | 4 => v = .slice na nl nc | 5 => v = .int .i64 typ | 6 => v = .agg #[.slice na nl nc, .int .i64 typ, .int .i64 0, .int .i64 0, .int .i64 0, .int .i64 0, .slice none 0 0, .slice none 0 0, .slice none 0 0, .slice none 0 0, .slice none 0 0, .slice none 0 0, .slice none 0 0] | 7 => v = .string KS | 8 => v = P | 9 => v = P | _ => True) rfl (by kernel_rfl) (fun _ _ _ h1 h2 => below_on h1 h2 (Nat.le_refl _)) (Below.refl _ _) (fun _ _ _ _ h _ => h) (dst_but 10 (by kernel_rfl) (fun _ _ h => h)) ?_ ?_
  rotate_left
  · intro a W hR hS hdep
    have e6 : a.tmps.getD 6 undef = P := hdep 9 (by decide +kernel)
    obtain ⟨T, df⟩ := a
    obtain rfl : df = [] := hS.defers
    have hT : T = #[T.getD 0 undef, T.getD 1 undef, T.getD 2 undef, T.getD 3 undef, T.getD 4 undef, T.getD 5 undef, T.getD 6 undef, T.getD 7 undef, T.getD 8 undef, T.getD 9 undef, T.getD 10 undef, T.getD 11 undef, T.getD 12 undef, T.getD 13 undef, T.getD 14 undef, T.getD 15 undef, T.getD 16 undef, T.getD 17 undef] := arr_eta T 18 hS.size
    have k6 : T.getD 6 undef = P := e6
    clear hS hdep
    rw [hT]
    rw [k6]
    clear k6 e6
    clear hT
    generalize T.getD 0 undef = u0
    generalize T.getD 1 undef = u1
    generalize T.getD 2 undef = u2
    generalize T.getD 3 undef = u3
    generalize T.getD 4 undef = u4
    generalize T.getD 5 undef = u5
    generalize T.getD 7 undef = u7
    generalize T.getD 8 undef = u8
    generalize T.getD 9 undef = u9
    generalize T.getD 10 undef = u10
    generalize T.getD 11 undef = u11
    generalize T.getD 12 undef = u12
    generalize T.getD 13 undef = u13
    generalize T.getD 14 undef = u14
    generalize T.getD 15 undef = u15
    generalize T.getD 16 undef = u16
    generalize T.getD 17 undef = u17
    have HR := Lib.hid (below_on (B := w.heap.size) (Below.drew (Below.refl _ _)) hR (Nat.le_refl _))
    clear hR
    go_wp2_with fail
    go_ret
    exact ⟨rfl, HR.out⟩
  refine soup_cons rfl rfl (fun a W hR hS hdep K hK => ?_) ?_
  · have e0 : a.tmps[0]?.getD undef = .pointer (some ⟨C, 0, none⟩) := slot_of (hS.keep 0 (by kernel_rfl))
    go_simp
    exact hK _ _ (Below.refl _ _) (by first | rfl | simp)
  refine soup_cons rfl rfl (fun a W hR hS hdep K hK => ?_) ?_
  · have e9 : a.tmps[9]?.getD undef = .pointer (some ⟨C, 0, none⟩) := slot_of (hdep 0 (by decide +kernel))
    go_simp
    exact hK _ _ (Below.refl _ _) (by first | rfl | simp)
  refine soup_cons rfl rfl (fun a W hR hS hdep K hK => ?_) ?_
  · have e10 : a.tmps[10]?.getD undef = .pointer (some ⟨C, 0, none⟩) := slot_of (hdep 1 (by decide +kernel))
    go_simp
    exact hK _ _ (Below.refl _ _) (by first | rfl | simp)
  refine soup_cons rfl rfl (fun a W hR hS hdep K hK => ?_) ?_
  · have e11 : a.tmps[11]?.getD undef = .pointer (some ⟨C, 2, none⟩) := slot_of (hdep 2 (by decide +kernel))
    have m0 := cell_keep hR HM2.out
    go_simp
    exact hK _ _ (Below.refl _ _) (by first | rfl | simp)
  refine soup_cons rfl rfl (fun a W hR hS hdep K hK => ?_) ?_
  · have e1 : a.tmps[1]?.getD undef = .slice na nl nc := slot_of (hS.keep 1 (by kernel_rfl))
    go_simp
    exact hK _ _ (Below.refl _ _) (by first | rfl | simp)
  refine soup_cons rfl rfl (fun a W hR hS hdep K hK => ?_) ?_
  · have e2 : a.tmps[2]?.getD undef = .int .i64 typ := slot_of (hS.keep 2 (by kernel_rfl))
    go_simp
    exact hK _ _ (Below.refl _ _) (by first | rfl | simp)
  refine soup_cons rfl rfl (fun a W hR hS hdep K hK => ?_) ?_
  · have e13 : a.tmps[13]?.getD undef = .slice na nl nc := slot_of (hdep 4 (by decide +kernel))
    have e14 : a.tmps[14]?.getD undef = .int .i64 typ := slot_of (hdep 5 (by decide +kernel))
    go_simp
    exact hK _ _ (Below.refl _ _) rfl
  refine soup_cons rfl rfl (fun a W hR hS hdep K hK => ?_) ?_
  · have e15 : a.tmps[15]?.getD undef = .agg #[.slice na nl nc, .int .i64 typ, .int .i64 0, .int .i64 0, .int .i64 0, .int .i64 0, .slice none 0 0, .slice none 0 0, .slice none 0 0, .slice none 0 0, .slice none 0 0, .slice none 0 0, .slice none 0 0] := slot_of (hdep 6 (by decide +kernel))
    go_simp
    have hbx := below_on (B := w.heap.size) (Below.drew (Below.refl _ _)) hR (Nat.le_refl _)
    refine (HK.out _ hbx).mono ?_
    rintro e W' ⟨rfl, hb⟩
    exact hK _ _ hb rfl
  refine soup_cons rfl rfl (fun a W hR hS hdep K hK => ?_) ?_
  · have e12 : a.tmps[12]?.getD undef = .map (some M) := slot_of (hdep 3 (by decide +kernel))
    have e16 : a.tmps[16]?.getD undef = .string KS := slot_of (hdep 7 (by decide +kernel))
    go_simp
    have hbx := below_on (B := w.heap.size) (Below.drew (Below.refl _ _)) hR (Nat.le_refl _)
    have hl := HL2.out _ hbx
    rw [hl]
    exact hK _ _ (Below.refl _ _) rfl
  refine soup_cons rfl rfl (fun a W hR hS hdep K hK => ?_) ?_
  · have e17 : a.tmps[17]?.getD undef = P := slot_of (hdep 8 (by decide +kernel))
    go_simp
    exact hK _ _ (Below.refl _ _) (by first | rfl | simp)
  exact fun j h1 h2 => absurd h1 (by simp only [List.size_toArray, List.length_cons, List.length_nil]; omega)
end Go.Proofs.YtgfibbjifbghdaaGreat

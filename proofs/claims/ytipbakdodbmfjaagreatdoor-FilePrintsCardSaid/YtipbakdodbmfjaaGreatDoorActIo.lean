/- An act in memory; the contract of a field's writing. -/
import Derived.Test.YtipbakdodbmfjaaGreatDoorNumber
import Derived.Test.YtipbakdodbmfjaaGreatDoorHex
import Derived.Test.YtipbakdodbmfjaaGreatDoorScriptAct
namespace Go.Proofs.YtipbakdodbmfjaaGreatDoor
open Go.ChangeShapes Go.WideShapes Go.ChangeAt Go.RowKit

def actCells (x : ActP) (nao : Option Addr) (nl nc : Nat) (dao : Option Addr) (dl dc : Nat) : Array Value :=
  #[.int .i64 x.kind, .int .i64 x.a, .int .i64 x.b, .int .i64 x.n, .slice nao nl nc, .int .u64 (x.mask : Int), .int .u64 (x.torn : Int), .slice dao dl dc]
/-- block g of w is the act x -/
structure ActAt (w : World) (g : Nat) (x : ActP) (nao : Option Addr) (nl nc : Nat) (dao : Option Addr) (dl dc : Nat) : Prop where
  blk : Blk w g (actCells x nao nl nc dao dl dc) 60
  name : Strs w nao nl nc x.name
  data : Byts w dao dl dc x.data
  nne : ∀ a, nao = some a → g < a.block
  dne : ∀ a, dao = some a → g < a.block
theorem ActAt.on {w w' : World} {g : Nat} {x : ActP} {nao : Option Addr} {nl nc : Nat} {dao : Option Addr} {dl dc : Nat} (h : ActAt w g x nao nl nc dao dl dc) (hb : Below w.heap.size w w') : ActAt w' g x nao nl nc dao dl dc :=
  ⟨h.blk.on hb, h.name.below hb (Nat.le_refl _), h.data.below hb (Nat.le_refl _), h.nne, h.dne⟩
/-- an act that is not too large -/
structure ActLight (x : ActP) : Prop where
  fits : x.fits
  name : 4 * sizeN x.name ≤ 1099511627776
  data : x.data.length ≤ 1099511627776

set_option maxHeartbeats 1000000 in
set_option maxRecDepth 100000 in
theorem write_any (w : World) (f g : Nat) (x : ActP) (nao : Option Addr) (nl nc : Nat) (dao : Option Addr) (dl dc : Nat) (hf : f ≤ 6) (hE : Env w) (hxb : Blk w g (actCells x nao nl nc dao dl dc) 60) (hxn : Strs w nao nl nc x.name) (hxd : Byts w dao dl dc x.data) (hl : ActLight x) :
    Calls Tryz.prog 71 #[.int .i64 (f : Int), .pointer (some ⟨g, 0, none⟩)] w fun e w' => e = .returned (.string ⟨(writeP f x).toArray⟩) ∧ Below w.heap.size w w' := by
  obtain ⟨⟨a1, a2⟩, ⟨b1, b2⟩, ⟨n1, n2⟩, hm, ht⟩ := hl.fits
  have c0 := hxb.cell 0
  have c1 := hxb.cell 1
  have c2 := hxb.cell 2
  have c3 := hxb.cell 3
  have c4 := hxb.cell 4
  have c5 := hxb.cell 5
  have c6 := hxb.cell 6
  have c7 := hxb.cell 7
  simp [actCells] at c0 c1 c2 c3 c4 c5 c6 c7
  have HA := Lib.hid (itoa_below (w := w) a1 a2 hE.tab)
  have HB := Lib.hid (itoa_below (w := w) b1 b2 hE.tab)
  have HN := Lib.hid (itoa_below (w := w) n1 n2 hE.tab)
  have HT := Lib.hid (text_any w nao nl nc x.name hxn (by have := hl.name; omega) hE.tab)
  have HM := Lib.hid (fmtU_any w x.mask hm hE.tab)
  have HU := Lib.hid (fmtU_any w x.torn ht hE.tab)
  have HD := Lib.hid (hex_any w dao dl dc x.data hxd (by have h1 := hxd.hlen; have h2 := hl.data; simp at h1; omega))
  clear a1 a2 b1 b2 n1 n2 hm ht
  have h7 : f = 0 ∨ f = 1 ∨ f = 2 ∨ f = 3 ∨ f = 4 ∨ f = 5 ∨ f = 6 := by omega
  rcases h7 with rfl | rfl | rfl | rfl | rfl | rfl | rfl
  · go_enter Tryz.func71, Tryz.ntmps71
    go_wp2_with fail
    refine HA.out.mono ?_
    rintro e w1 ⟨rfl, hb⟩
    go_wp2
    go_ret
    exact ⟨rfl, hb⟩
  · go_enter Tryz.func71, Tryz.ntmps71
    go_wp2_with fail
    refine HB.out.mono ?_
    rintro e w1 ⟨rfl, hb⟩
    go_wp2
    go_ret
    exact ⟨rfl, hb⟩
  · go_enter Tryz.func71, Tryz.ntmps71
    go_wp2_with fail
    refine HN.out.mono ?_
    rintro e w1 ⟨rfl, hb⟩
    go_wp2
    go_ret
    exact ⟨rfl, hb⟩
  · go_enter Tryz.func71, Tryz.ntmps71
    go_wp2_with fail
    refine HT.out.mono ?_
    rintro e w1 ⟨rfl, hb⟩
    go_wp2
    go_ret
    exact ⟨rfl, hb⟩
  · go_enter Tryz.func71, Tryz.ntmps71
    go_wp2_with fail
    refine HM.out.mono ?_
    rintro e w1 ⟨rfl, hb⟩
    go_wp2
    go_ret
    exact ⟨rfl, hb⟩
  · go_enter Tryz.func71, Tryz.ntmps71
    go_wp2_with fail
    refine HU.out.mono ?_
    rintro e w1 ⟨rfl, hb⟩
    go_wp2
    go_ret
    exact ⟨rfl, hb⟩
  · go_enter Tryz.func71, Tryz.ntmps71
    go_wp2_with fail
    refine HD.out.mono ?_
    rintro e w1 ⟨rfl, hb⟩
    go_wp2
    go_ret
    exact ⟨rfl, hb⟩
end Go.Proofs.YtipbakdodbmfjaaGreatDoor

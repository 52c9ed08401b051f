/- Which facts may be, their keys, and when two are the same: plain words. -/
import Derived.Test.YtgfibbjifbghdaaGreatFact
import Derived.Test.YtgfibbjifbghdaaGreatDsame
import Derived.Test.YtgfibbjifbghdaaGreatDsound
import Derived.Test.YtgfibbjifbghdaaGreatTtl
namespace Go.Proofs.YtgfibbjifbghdaaGreat
open Go.RowKit

def typedB (k : Int) : Bool := decide (1 ≤ k) && (decide (k ≤ 65534) && (decide (k ≠ 41) && decide (k ≠ 255)))
theorem typedB_iff {k : Int} : typedB k = true ↔ (1 ≤ k ∧ k ≤ 65534 ∧ k ≠ 41 ∧ k ≠ 255) := by simp [typedB]
def noneB (d : DataP) : Bool := decide (d.bytes.length + d.host.length + d.mail.length + d.nums.length + d.texts.length = 0)
def sameAny (l : List DataP) (d : DataP) : Bool := l.any fun x => sameD x d
/-- all sound, no two the same -/
def distinctB (k : Int) : List DataP → List DataP → Bool
  | _, [] => true
  | seen, d :: r => dataB k d && (!sameAny seen d && distinctB k (seen ++ [d]) r)
theorem distinct_at {k : Int} {ds : List DataP} {i : Nat} (h : i < ds.length) :
    distinctB k (ds.take i) (ds.drop i) = (dataB k ds[i] && (!sameAny (ds.take i) ds[i] && distinctB k (ds.take (i + 1)) (ds.drop (i + 1)))) := by
  rw [List.drop_eq_getElem_cons h, distinctB, List.take_succ_eq_append_getElem h]
theorem distinct_end {k : Int} {ds : List DataP} : distinctB k (ds.take ds.length) (ds.drop ds.length) = true := by
  rw [List.drop_length]; rfl
/-- a fact's name, rank and times -/
def headB (f : FactP) : Bool := soundB f.name && (decide (1 ≤ f.rank) && (decide (f.rank ≤ 4) && (timeB f.got && (decide (0 ≤ f.ttl) && decide (f.ttl ≤ 604800)))))
/-- .. where there are records -/
def hasB (f : FactP) : Bool := typedB f.typ && (decide (1 ≤ f.set.length) && (decide (f.set.length ≤ 64) && (distinctB f.typ [] f.set && (decide (f.zone.length = 0) && noneB f.soa))))
/-- .. where there are none -/
def negB (f : FactP) : Bool := decide (f.ttl ≤ 10800) && (decide (f.set.length = 0) && (soundB f.zone && (underB f.name f.zone && dataB 6 f.soa)))
def factB (f : FactP) : Bool := headB f && (if f.kind = 1 then hasB f else negB f && ((decide (f.kind = 2) && typedB f.typ) || (decide (f.kind = 3) && decide (f.typ = 0))))
/-- is each of one among the others? -/
def withinB (a b : List DataP) : Bool := a.all fun x => sameAny b x
def setB (a b : List DataP) : Bool := withinB a b && withinB b a
def sameF (a b : FactP) : Bool :=
  factB a && (factB b && (decide (a.typ = b.typ) && (eqB a.name b.name && (decide (a.kind = b.kind) && (decide (a.rank = b.rank) && (decide (a.got = b.got) && (decide (a.ttl = b.ttl) && (setB a.set b.set && (eqB a.zone b.zone && sameD a.soa b.soa)))))))))
theorem eqB_refl (a : List ByteArray) : eqB a a = true := by simp [eqB]
theorem sameD_refl (d : DataP) : sameD d d = true := by simp [sameD, eqB_refl]
theorem sameAny_mem {l : List DataP} {d : DataP} (h : d ∈ l) : sameAny l d = true := List.any_eq_true.2 ⟨d, h, sameD_refl d⟩
theorem withinB_refl (a : List DataP) : withinB a a = true := List.all_eq_true.2 fun _ h => sameAny_mem h
theorem sameF_refl {f : FactP} (h : factB f = true) : sameF f f = true := by simp [sameF, h, eqB_refl, sameD_refl, setB, withinB_refl]
/-- a byte of a number -/
def byteZ (n : Int) : UInt8 := UInt8.ofNat (n % 256).toNat
/-- the key of a name and a type -/
def labelK (s : ByteArray) : List UInt8 := UInt8.ofNat (s.size % 256) :: (small s).data.toList
def nameK (n : List ByteArray) : List UInt8 := n.flatMap labelK
def keyP (n : List ByteArray) (t : Int) : List UInt8 := nameK n ++ [0, byteZ (t / 256), byteZ t]
def keyF (f : FactP) : List UInt8 := keyP f.name f.typ
theorem keyP_len (n : List ByteArray) (t : Int) : 3 ≤ (keyP n t).length := by simp [keyP]
theorem keyP_typ {n : List ByteArray} {s t : Int} (h : keyP n s = keyP n t) : byteZ s = byteZ t := by
  simp [keyP] at h
  exact h.2
end Go.Proofs.YtgfibbjifbghdaaGreat

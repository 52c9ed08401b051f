/- The contract of fact.Beats. -/
import Derived.Test.YtpemdieejgldiaaGreatRfsame
import Derived.Test.YtpemdieejgldiaaGreatFkey
import Derived.Test.YtpemdieejgldiaaGreatTail
namespace Go.Proofs.YtpemdieejgldiaaGreat
open Go.ChangeShapes Go.WideShapes Go.ChangeAt Go.RowKit

def beatsB (f g : FactP) (now : Int) : Bool := factB f && (factB g && (timeB now && (decide (keyF f = keyF g) && (decide (f.rank ≤ g.rank) || !decide (0 < leftZ f.got f.ttl now)))))
theorem sound_small {n : List ByteArray} (h : soundB n = true) : sizeN n ≤ 254 := by
  simp only [soundB, Bool.and_eq_true, decide_eq_true_eq] at h
  omega
theorem fact_small {f : FactP} (h : factB f = true) : sizeN f.name ≤ 254 := by
  simp only [factB, headB, Bool.and_eq_true] at h
  exact sound_small h.1.1
theorem str_beq (a b : List UInt8) : ((⟨a.toArray⟩ : ByteArray).toList == (⟨b.toArray⟩ : ByteArray).toList) = decide (a = b) := by
  rw [toList_beq]
  rw [Bool.eq_iff_iff, decide_eq_true_eq, decide_eq_true_eq]
  constructor
  · intro h
    have := congrArg (fun x : ByteArray => x.data.toList) h
    simpa using this
  · intro h; rw [h]
set_option maxHeartbeats 16000000 in
set_option maxRecDepth 100000 in
theorem beats_any (w : World) (S R : Nat → Prop) (h k : FactH) (f g : FactP) (now : Int) (hf : IsFact S w h f) (hg : IsFact R w k g) :
    Calls Tryz.prog 45 #[.agg (factC h f), .agg (factC k g), .int .i64 now] w fun e w' => e = .returned (.bool (beatsB f g now)) ∧ Below w.heap.size w w' := by
  have hb1 : Below w.heap.size w (w.alloc (.cells (factC h f) 36)) := (Below.refl _ _).alloc (Nat.le_refl _) _
  have hs1 : (w.alloc (.cells (factC h f) 36)).heap.size = w.heap.size + 1 := by simp
  have hb2 : Below w.heap.size w ((w.alloc (.cells (factC h f) 36)).alloc (.cells (factC k g) 36)) := hb1.alloc (by omega) _
  have hA0 : Blk (w.alloc (.cells (factC h f) 36)) w.heap.size (factC h f) 36 := heap_alloc_new w _
  have HA0 := Lib.hid (hA0.on ((Below.refl _ _).alloc (Nat.le_refl _) (.cells (factC k g) 36)))
  have HD0 := Lib.hid (show Blk ((w.alloc (.cells (factC h f) 36)).alloc (.cells (factC k g) 36)) (w.heap.size + 1) (factC k g) 36 by rw [← hs1]; exact heap_alloc_new _ _)
  have HB0 := Lib.hid hb2
  have HY0 := Lib.hid (Below.refl ((w.alloc (.cells (factC h f) 36)).alloc (.cells (factC k g) 36)).heap.size ((w.alloc (.cells (factC h f) 36)).alloc (.cells (factC k g) 36)))
  have HF0 := Lib.hid (hf.on hb2)
  have HG0 := Lib.hid (hg.on hb2)
  obtain ⟨FB, hFB⟩ : ∃ q : Bool, q = factB f := ⟨_, rfl⟩
  obtain ⟨GB, hGB⟩ : ∃ q : Bool, q = factB g := ⟨_, rfl⟩
  obtain ⟨TB, hTB⟩ : ∃ q : Bool, q = timeB now := ⟨_, rfl⟩
  obtain ⟨RB, hRB⟩ : ∃ q : Bool, q = decide (0 < leftZ f.got f.ttl now) := ⟨_, rfl⟩
  obtain ⟨K1, hK1⟩ : ∃ q : ByteArray, q = (⟨(keyF f).toArray⟩ : ByteArray) := ⟨_, rfl⟩
  obtain ⟨K2, hK2⟩ : ∃ q : ByteArray, q = (⟨(keyF g).toArray⟩ : ByteArray) := ⟨_, rfl⟩
  obtain ⟨B, hB⟩ : ∃ q, q = beatsB f g now := ⟨_, rfl⟩
  have HFB := Lib.hid (fun w' (p : IsFact S w' h f) => fsound_any w' S _ _ p)
  rw [← hFB] at HFB
  have HGB := Lib.hid (fun w' (p : IsFact R w' k g) => fsound_any w' R _ _ p)
  rw [← hGB] at HGB
  have HTB := Lib.hid (fun w' => time_any now w')
  rw [← hTB] at HTB
  have HRB := Lib.hid (fun w' => fresh_any f.got f.ttl now w')
  rw [← hRB] at HRB
  have HK1 := Lib.hid (fun w' (p : IsFact S w' h f) (q : sizeN f.name ≤ 1099511627776) => fkey_any w' h f p.name q)
  rw [← hK1] at HK1
  have HK2 := Lib.hid (fun w' (p : IsFact R w' k g) (q : sizeN g.name ≤ 1099511627776) => fkey_any w' k g p.name q)
  rw [← hK2] at HK2
  have HBE := Lib.hid (show B = (FB && (GB && (TB && ((K1.toList == K2.toList) && (decide (f.rank ≤ g.rank) || !RB))))) by
    rw [hB, beatsB, hFB, hGB, hTB, hRB, hK1, hK2, str_beq])
  have HSF := Lib.hid (fun (e : FB = true) => show sizeN f.name ≤ 1099511627776 from Nat.le_trans (fact_small (hFB.symm.trans e)) (by decide))
  have HSG := Lib.hid (fun (e : GB = true) => show sizeN g.name ≤ 1099511627776 from Nat.le_trans (fact_small (hGB.symm.trans e)) (by decide))
  rw [← hB]
  clear hb1 hs1 hb2 hA0 hf hg hB hFB hGB hTB hRB hK1 hK2
  obtain ⟨na, nl, nc, sa, sl, sc, za, zl, zc, ⟨ba, bl, bc, ha, hl, hc, ma, ml, mc, xa, xl, xc, ta, tl, tc⟩⟩ := h
  obtain ⟨na', nl', nc', sa', sl', sc', za', zl', zc', ⟨ba', bl', bc', ha', hl', hc', ma', ml', mc', xa', xl', xc', ta', tl', tc'⟩⟩ := k
  simp only [factC] at HA0 HD0 HB0 HY0 HF0 HG0 HFB HGB HK1 HK2
  have HM0 := Lib.hid (show ((w.alloc (.cells #[.slice na nl nc, .int .i64 f.typ, .int .i64 f.kind, .int .i64 f.rank, .int .i64 f.got, .int .i64 f.ttl, .slice sa sl sc, .slice za zl zc, .slice ba bl bc, .slice ha hl hc, .slice ma ml mc, .slice xa xl xc, .slice ta tl tc] 36)).alloc (.cells #[.slice na' nl' nc', .int .i64 g.typ, .int .i64 g.kind, .int .i64 g.rank, .int .i64 g.got, .int .i64 g.ttl, .slice sa' sl' sc', .slice za' zl' zc', .slice ba' bl' bc', .slice ha' hl' hc', .slice ma' ml' mc', .slice xa' xl' xc', .slice ta' tl' tc'] 36)).drew.cell? ⟨w.heap.size, 0, none⟩ = some (.slice na nl nc) from HA0.out.cell 0)
  have HM1 := Lib.hid (show ((w.alloc (.cells #[.slice na nl nc, .int .i64 f.typ, .int .i64 f.kind, .int .i64 f.rank, .int .i64 f.got, .int .i64 f.ttl, .slice sa sl sc, .slice za zl zc, .slice ba bl bc, .slice ha hl hc, .slice ma ml mc, .slice xa xl xc, .slice ta tl tc] 36)).alloc (.cells #[.slice na' nl' nc', .int .i64 g.typ, .int .i64 g.kind, .int .i64 g.rank, .int .i64 g.got, .int .i64 g.ttl, .slice sa' sl' sc', .slice za' zl' zc', .slice ba' bl' bc', .slice ha' hl' hc', .slice ma' ml' mc', .slice xa' xl' xc', .slice ta' tl' tc'] 36)).drew.cell? ⟨w.heap.size, 1, none⟩ = some (.int .i64 f.typ) from HA0.out.cell 1)
  have HM2 := Lib.hid (show ((w.alloc (.cells #[.slice na nl nc, .int .i64 f.typ, .int .i64 f.kind, .int .i64 f.rank, .int .i64 f.got, .int .i64 f.ttl, .slice sa sl sc, .slice za zl zc, .slice ba bl bc, .slice ha hl hc, .slice ma ml mc, .slice xa xl xc, .slice ta tl tc] 36)).alloc (.cells #[.slice na' nl' nc', .int .i64 g.typ, .int .i64 g.kind, .int .i64 g.rank, .int .i64 g.got, .int .i64 g.ttl, .slice sa' sl' sc', .slice za' zl' zc', .slice ba' bl' bc', .slice ha' hl' hc', .slice ma' ml' mc', .slice xa' xl' xc', .slice ta' tl' tc'] 36)).drew.cell? ⟨w.heap.size, 2, none⟩ = some (.int .i64 f.kind) from HA0.out.cell 2)
  have HM3 := Lib.hid (show ((w.alloc (.cells #[.slice na nl nc, .int .i64 f.typ, .int .i64 f.kind, .int .i64 f.rank, .int .i64 f.got, .int .i64 f.ttl, .slice sa sl sc, .slice za zl zc, .slice ba bl bc, .slice ha hl hc, .slice ma ml mc, .slice xa xl xc, .slice ta tl tc] 36)).alloc (.cells #[.slice na' nl' nc', .int .i64 g.typ, .int .i64 g.kind, .int .i64 g.rank, .int .i64 g.got, .int .i64 g.ttl, .slice sa' sl' sc', .slice za' zl' zc', .slice ba' bl' bc', .slice ha' hl' hc', .slice ma' ml' mc', .slice xa' xl' xc', .slice ta' tl' tc'] 36)).drew.cell? ⟨w.heap.size, 3, none⟩ = some (.int .i64 f.rank) from HA0.out.cell 3)
  have HM4 := Lib.hid (show ((w.alloc (.cells #[.slice na nl nc, .int .i64 f.typ, .int .i64 f.kind, .int .i64 f.rank, .int .i64 f.got, .int .i64 f.ttl, .slice sa sl sc, .slice za zl zc, .slice ba bl bc, .slice ha hl hc, .slice ma ml mc, .slice xa xl xc, .slice ta tl tc] 36)).alloc (.cells #[.slice na' nl' nc', .int .i64 g.typ, .int .i64 g.kind, .int .i64 g.rank, .int .i64 g.got, .int .i64 g.ttl, .slice sa' sl' sc', .slice za' zl' zc', .slice ba' bl' bc', .slice ha' hl' hc', .slice ma' ml' mc', .slice xa' xl' xc', .slice ta' tl' tc'] 36)).drew.cell? ⟨w.heap.size, 4, none⟩ = some (.int .i64 f.got) from HA0.out.cell 4)
  have HM5 := Lib.hid (show ((w.alloc (.cells #[.slice na nl nc, .int .i64 f.typ, .int .i64 f.kind, .int .i64 f.rank, .int .i64 f.got, .int .i64 f.ttl, .slice sa sl sc, .slice za zl zc, .slice ba bl bc, .slice ha hl hc, .slice ma ml mc, .slice xa xl xc, .slice ta tl tc] 36)).alloc (.cells #[.slice na' nl' nc', .int .i64 g.typ, .int .i64 g.kind, .int .i64 g.rank, .int .i64 g.got, .int .i64 g.ttl, .slice sa' sl' sc', .slice za' zl' zc', .slice ba' bl' bc', .slice ha' hl' hc', .slice ma' ml' mc', .slice xa' xl' xc', .slice ta' tl' tc'] 36)).drew.cell? ⟨w.heap.size, 5, none⟩ = some (.int .i64 f.ttl) from HA0.out.cell 5)
  have HM6 := Lib.hid (show ((w.alloc (.cells #[.slice na nl nc, .int .i64 f.typ, .int .i64 f.kind, .int .i64 f.rank, .int .i64 f.got, .int .i64 f.ttl, .slice sa sl sc, .slice za zl zc, .slice ba bl bc, .slice ha hl hc, .slice ma ml mc, .slice xa xl xc, .slice ta tl tc] 36)).alloc (.cells #[.slice na' nl' nc', .int .i64 g.typ, .int .i64 g.kind, .int .i64 g.rank, .int .i64 g.got, .int .i64 g.ttl, .slice sa' sl' sc', .slice za' zl' zc', .slice ba' bl' bc', .slice ha' hl' hc', .slice ma' ml' mc', .slice xa' xl' xc', .slice ta' tl' tc'] 36)).drew.cell? ⟨w.heap.size, 6, none⟩ = some (.slice sa sl sc) from HA0.out.cell 6)
  have HM7 := Lib.hid (show ((w.alloc (.cells #[.slice na nl nc, .int .i64 f.typ, .int .i64 f.kind, .int .i64 f.rank, .int .i64 f.got, .int .i64 f.ttl, .slice sa sl sc, .slice za zl zc, .slice ba bl bc, .slice ha hl hc, .slice ma ml mc, .slice xa xl xc, .slice ta tl tc] 36)).alloc (.cells #[.slice na' nl' nc', .int .i64 g.typ, .int .i64 g.kind, .int .i64 g.rank, .int .i64 g.got, .int .i64 g.ttl, .slice sa' sl' sc', .slice za' zl' zc', .slice ba' bl' bc', .slice ha' hl' hc', .slice ma' ml' mc', .slice xa' xl' xc', .slice ta' tl' tc'] 36)).drew.cell? ⟨w.heap.size, 7, none⟩ = some (.slice za zl zc) from HA0.out.cell 7)
  have HM8 := Lib.hid (show ((w.alloc (.cells #[.slice na nl nc, .int .i64 f.typ, .int .i64 f.kind, .int .i64 f.rank, .int .i64 f.got, .int .i64 f.ttl, .slice sa sl sc, .slice za zl zc, .slice ba bl bc, .slice ha hl hc, .slice ma ml mc, .slice xa xl xc, .slice ta tl tc] 36)).alloc (.cells #[.slice na' nl' nc', .int .i64 g.typ, .int .i64 g.kind, .int .i64 g.rank, .int .i64 g.got, .int .i64 g.ttl, .slice sa' sl' sc', .slice za' zl' zc', .slice ba' bl' bc', .slice ha' hl' hc', .slice ma' ml' mc', .slice xa' xl' xc', .slice ta' tl' tc'] 36)).drew.cell? ⟨w.heap.size, 8, none⟩ = some (.slice ba bl bc) from HA0.out.cell 8)
  have HM9 := Lib.hid (show ((w.alloc (.cells #[.slice na nl nc, .int .i64 f.typ, .int .i64 f.kind, .int .i64 f.rank, .int .i64 f.got, .int .i64 f.ttl, .slice sa sl sc, .slice za zl zc, .slice ba bl bc, .slice ha hl hc, .slice ma ml mc, .slice xa xl xc, .slice ta tl tc] 36)).alloc (.cells #[.slice na' nl' nc', .int .i64 g.typ, .int .i64 g.kind, .int .i64 g.rank, .int .i64 g.got, .int .i64 g.ttl, .slice sa' sl' sc', .slice za' zl' zc', .slice ba' bl' bc', .slice ha' hl' hc', .slice ma' ml' mc', .slice xa' xl' xc', .slice ta' tl' tc'] 36)).drew.cell? ⟨w.heap.size, 9, none⟩ = some (.slice ha hl hc) from HA0.out.cell 9)
  have HM10 := Lib.hid (show ((w.alloc (.cells #[.slice na nl nc, .int .i64 f.typ, .int .i64 f.kind, .int .i64 f.rank, .int .i64 f.got, .int .i64 f.ttl, .slice sa sl sc, .slice za zl zc, .slice ba bl bc, .slice ha hl hc, .slice ma ml mc, .slice xa xl xc, .slice ta tl tc] 36)).alloc (.cells #[.slice na' nl' nc', .int .i64 g.typ, .int .i64 g.kind, .int .i64 g.rank, .int .i64 g.got, .int .i64 g.ttl, .slice sa' sl' sc', .slice za' zl' zc', .slice ba' bl' bc', .slice ha' hl' hc', .slice ma' ml' mc', .slice xa' xl' xc', .slice ta' tl' tc'] 36)).drew.cell? ⟨w.heap.size, 10, none⟩ = some (.slice ma ml mc) from HA0.out.cell 10)
  have HM11 := Lib.hid (show ((w.alloc (.cells #[.slice na nl nc, .int .i64 f.typ, .int .i64 f.kind, .int .i64 f.rank, .int .i64 f.got, .int .i64 f.ttl, .slice sa sl sc, .slice za zl zc, .slice ba bl bc, .slice ha hl hc, .slice ma ml mc, .slice xa xl xc, .slice ta tl tc] 36)).alloc (.cells #[.slice na' nl' nc', .int .i64 g.typ, .int .i64 g.kind, .int .i64 g.rank, .int .i64 g.got, .int .i64 g.ttl, .slice sa' sl' sc', .slice za' zl' zc', .slice ba' bl' bc', .slice ha' hl' hc', .slice ma' ml' mc', .slice xa' xl' xc', .slice ta' tl' tc'] 36)).drew.cell? ⟨w.heap.size, 11, none⟩ = some (.slice xa xl xc) from HA0.out.cell 11)
  have HM12 := Lib.hid (show ((w.alloc (.cells #[.slice na nl nc, .int .i64 f.typ, .int .i64 f.kind, .int .i64 f.rank, .int .i64 f.got, .int .i64 f.ttl, .slice sa sl sc, .slice za zl zc, .slice ba bl bc, .slice ha hl hc, .slice ma ml mc, .slice xa xl xc, .slice ta tl tc] 36)).alloc (.cells #[.slice na' nl' nc', .int .i64 g.typ, .int .i64 g.kind, .int .i64 g.rank, .int .i64 g.got, .int .i64 g.ttl, .slice sa' sl' sc', .slice za' zl' zc', .slice ba' bl' bc', .slice ha' hl' hc', .slice ma' ml' mc', .slice xa' xl' xc', .slice ta' tl' tc'] 36)).drew.cell? ⟨w.heap.size, 12, none⟩ = some (.slice ta tl tc) from HA0.out.cell 12)
  have HN0 := Lib.hid (show ((w.alloc (.cells #[.slice na nl nc, .int .i64 f.typ, .int .i64 f.kind, .int .i64 f.rank, .int .i64 f.got, .int .i64 f.ttl, .slice sa sl sc, .slice za zl zc, .slice ba bl bc, .slice ha hl hc, .slice ma ml mc, .slice xa xl xc, .slice ta tl tc] 36)).alloc (.cells #[.slice na' nl' nc', .int .i64 g.typ, .int .i64 g.kind, .int .i64 g.rank, .int .i64 g.got, .int .i64 g.ttl, .slice sa' sl' sc', .slice za' zl' zc', .slice ba' bl' bc', .slice ha' hl' hc', .slice ma' ml' mc', .slice xa' xl' xc', .slice ta' tl' tc'] 36)).drew.cell? ⟨(w.heap.size + 1), 0, none⟩ = some (.slice na' nl' nc') from HD0.out.cell 0)
  have HN1 := Lib.hid (show ((w.alloc (.cells #[.slice na nl nc, .int .i64 f.typ, .int .i64 f.kind, .int .i64 f.rank, .int .i64 f.got, .int .i64 f.ttl, .slice sa sl sc, .slice za zl zc, .slice ba bl bc, .slice ha hl hc, .slice ma ml mc, .slice xa xl xc, .slice ta tl tc] 36)).alloc (.cells #[.slice na' nl' nc', .int .i64 g.typ, .int .i64 g.kind, .int .i64 g.rank, .int .i64 g.got, .int .i64 g.ttl, .slice sa' sl' sc', .slice za' zl' zc', .slice ba' bl' bc', .slice ha' hl' hc', .slice ma' ml' mc', .slice xa' xl' xc', .slice ta' tl' tc'] 36)).drew.cell? ⟨(w.heap.size + 1), 1, none⟩ = some (.int .i64 g.typ) from HD0.out.cell 1)
  have HN2 := Lib.hid (show ((w.alloc (.cells #[.slice na nl nc, .int .i64 f.typ, .int .i64 f.kind, .int .i64 f.rank, .int .i64 f.got, .int .i64 f.ttl, .slice sa sl sc, .slice za zl zc, .slice ba bl bc, .slice ha hl hc, .slice ma ml mc, .slice xa xl xc, .slice ta tl tc] 36)).alloc (.cells #[.slice na' nl' nc', .int .i64 g.typ, .int .i64 g.kind, .int .i64 g.rank, .int .i64 g.got, .int .i64 g.ttl, .slice sa' sl' sc', .slice za' zl' zc', .slice ba' bl' bc', .slice ha' hl' hc', .slice ma' ml' mc', .slice xa' xl' xc', .slice ta' tl' tc'] 36)).drew.cell? ⟨(w.heap.size + 1), 2, none⟩ = some (.int .i64 g.kind) from HD0.out.cell 2)
  have HN3 := Lib.hid (show ((w.alloc (.cells #[.slice na nl nc, .int .i64 f.typ, .int .i64 f.kind, .int .i64 f.rank, .int .i64 f.got, .int .i64 f.ttl, .slice sa sl sc, .slice za zl zc, .slice ba bl bc, .slice ha hl hc, .slice ma ml mc, .slice xa xl xc, .slice ta tl tc] 36)).alloc (.cells #[.slice na' nl' nc', .int .i64 g.typ, .int .i64 g.kind, .int .i64 g.rank, .int .i64 g.got, .int .i64 g.ttl, .slice sa' sl' sc', .slice za' zl' zc', .slice ba' bl' bc', .slice ha' hl' hc', .slice ma' ml' mc', .slice xa' xl' xc', .slice ta' tl' tc'] 36)).drew.cell? ⟨(w.heap.size + 1), 3, none⟩ = some (.int .i64 g.rank) from HD0.out.cell 3)
  have HN4 := Lib.hid (show ((w.alloc (.cells #[.slice na nl nc, .int .i64 f.typ, .int .i64 f.kind, .int .i64 f.rank, .int .i64 f.got, .int .i64 f.ttl, .slice sa sl sc, .slice za zl zc, .slice ba bl bc, .slice ha hl hc, .slice ma ml mc, .slice xa xl xc, .slice ta tl tc] 36)).alloc (.cells #[.slice na' nl' nc', .int .i64 g.typ, .int .i64 g.kind, .int .i64 g.rank, .int .i64 g.got, .int .i64 g.ttl, .slice sa' sl' sc', .slice za' zl' zc', .slice ba' bl' bc', .slice ha' hl' hc', .slice ma' ml' mc', .slice xa' xl' xc', .slice ta' tl' tc'] 36)).drew.cell? ⟨(w.heap.size + 1), 4, none⟩ = some (.int .i64 g.got) from HD0.out.cell 4)
  have HN5 := Lib.hid (show ((w.alloc (.cells #[.slice na nl nc, .int .i64 f.typ, .int .i64 f.kind, .int .i64 f.rank, .int .i64 f.got, .int .i64 f.ttl, .slice sa sl sc, .slice za zl zc, .slice ba bl bc, .slice ha hl hc, .slice ma ml mc, .slice xa xl xc, .slice ta tl tc] 36)).alloc (.cells #[.slice na' nl' nc', .int .i64 g.typ, .int .i64 g.kind, .int .i64 g.rank, .int .i64 g.got, .int .i64 g.ttl, .slice sa' sl' sc', .slice za' zl' zc', .slice ba' bl' bc', .slice ha' hl' hc', .slice ma' ml' mc', .slice xa' xl' xc', .slice ta' tl' tc'] 36)).drew.cell? ⟨(w.heap.size + 1), 5, none⟩ = some (.int .i64 g.ttl) from HD0.out.cell 5)
  have HN6 := Lib.hid (show ((w.alloc (.cells #[.slice na nl nc, .int .i64 f.typ, .int .i64 f.kind, .int .i64 f.rank, .int .i64 f.got, .int .i64 f.ttl, .slice sa sl sc, .slice za zl zc, .slice ba bl bc, .slice ha hl hc, .slice ma ml mc, .slice xa xl xc, .slice ta tl tc] 36)).alloc (.cells #[.slice na' nl' nc', .int .i64 g.typ, .int .i64 g.kind, .int .i64 g.rank, .int .i64 g.got, .int .i64 g.ttl, .slice sa' sl' sc', .slice za' zl' zc', .slice ba' bl' bc', .slice ha' hl' hc', .slice ma' ml' mc', .slice xa' xl' xc', .slice ta' tl' tc'] 36)).drew.cell? ⟨(w.heap.size + 1), 6, none⟩ = some (.slice sa' sl' sc') from HD0.out.cell 6)
  have HN7 := Lib.hid (show ((w.alloc (.cells #[.slice na nl nc, .int .i64 f.typ, .int .i64 f.kind, .int .i64 f.rank, .int .i64 f.got, .int .i64 f.ttl, .slice sa sl sc, .slice za zl zc, .slice ba bl bc, .slice ha hl hc, .slice ma ml mc, .slice xa xl xc, .slice ta tl tc] 36)).alloc (.cells #[.slice na' nl' nc', .int .i64 g.typ, .int .i64 g.kind, .int .i64 g.rank, .int .i64 g.got, .int .i64 g.ttl, .slice sa' sl' sc', .slice za' zl' zc', .slice ba' bl' bc', .slice ha' hl' hc', .slice ma' ml' mc', .slice xa' xl' xc', .slice ta' tl' tc'] 36)).drew.cell? ⟨(w.heap.size + 1), 7, none⟩ = some (.slice za' zl' zc') from HD0.out.cell 7)
  have HN8 := Lib.hid (show ((w.alloc (.cells #[.slice na nl nc, .int .i64 f.typ, .int .i64 f.kind, .int .i64 f.rank, .int .i64 f.got, .int .i64 f.ttl, .slice sa sl sc, .slice za zl zc, .slice ba bl bc, .slice ha hl hc, .slice ma ml mc, .slice xa xl xc, .slice ta tl tc] 36)).alloc (.cells #[.slice na' nl' nc', .int .i64 g.typ, .int .i64 g.kind, .int .i64 g.rank, .int .i64 g.got, .int .i64 g.ttl, .slice sa' sl' sc', .slice za' zl' zc', .slice ba' bl' bc', .slice ha' hl' hc', .slice ma' ml' mc', .slice xa' xl' xc', .slice ta' tl' tc'] 36)).drew.cell? ⟨(w.heap.size + 1), 8, none⟩ = some (.slice ba' bl' bc') from HD0.out.cell 8)
  have HN9 := Lib.hid (show ((w.alloc (.cells #[.slice na nl nc, .int .i64 f.typ, .int .i64 f.kind, .int .i64 f.rank, .int .i64 f.got, .int .i64 f.ttl, .slice sa sl sc, .slice za zl zc, .slice ba bl bc, .slice ha hl hc, .slice ma ml mc, .slice xa xl xc, .slice ta tl tc] 36)).alloc (.cells #[.slice na' nl' nc', .int .i64 g.typ, .int .i64 g.kind, .int .i64 g.rank, .int .i64 g.got, .int .i64 g.ttl, .slice sa' sl' sc', .slice za' zl' zc', .slice ba' bl' bc', .slice ha' hl' hc', .slice ma' ml' mc', .slice xa' xl' xc', .slice ta' tl' tc'] 36)).drew.cell? ⟨(w.heap.size + 1), 9, none⟩ = some (.slice ha' hl' hc') from HD0.out.cell 9)
  have HN10 := Lib.hid (show ((w.alloc (.cells #[.slice na nl nc, .int .i64 f.typ, .int .i64 f.kind, .int .i64 f.rank, .int .i64 f.got, .int .i64 f.ttl, .slice sa sl sc, .slice za zl zc, .slice ba bl bc, .slice ha hl hc, .slice ma ml mc, .slice xa xl xc, .slice ta tl tc] 36)).alloc (.cells #[.slice na' nl' nc', .int .i64 g.typ, .int .i64 g.kind, .int .i64 g.rank, .int .i64 g.got, .int .i64 g.ttl, .slice sa' sl' sc', .slice za' zl' zc', .slice ba' bl' bc', .slice ha' hl' hc', .slice ma' ml' mc', .slice xa' xl' xc', .slice ta' tl' tc'] 36)).drew.cell? ⟨(w.heap.size + 1), 10, none⟩ = some (.slice ma' ml' mc') from HD0.out.cell 10)
  have HN11 := Lib.hid (show ((w.alloc (.cells #[.slice na nl nc, .int .i64 f.typ, .int .i64 f.kind, .int .i64 f.rank, .int .i64 f.got, .int .i64 f.ttl, .slice sa sl sc, .slice za zl zc, .slice ba bl bc, .slice ha hl hc, .slice ma ml mc, .slice xa xl xc, .slice ta tl tc] 36)).alloc (.cells #[.slice na' nl' nc', .int .i64 g.typ, .int .i64 g.kind, .int .i64 g.rank, .int .i64 g.got, .int .i64 g.ttl, .slice sa' sl' sc', .slice za' zl' zc', .slice ba' bl' bc', .slice ha' hl' hc', .slice ma' ml' mc', .slice xa' xl' xc', .slice ta' tl' tc'] 36)).drew.cell? ⟨(w.heap.size + 1), 11, none⟩ = some (.slice xa' xl' xc') from HD0.out.cell 11)
  have HN12 := Lib.hid (show ((w.alloc (.cells #[.slice na nl nc, .int .i64 f.typ, .int .i64 f.kind, .int .i64 f.rank, .int .i64 f.got, .int .i64 f.ttl, .slice sa sl sc, .slice za zl zc, .slice ba bl bc, .slice ha hl hc, .slice ma ml mc, .slice xa xl xc, .slice ta tl tc] 36)).alloc (.cells #[.slice na' nl' nc', .int .i64 g.typ, .int .i64 g.kind, .int .i64 g.rank, .int .i64 g.got, .int .i64 g.ttl, .slice sa' sl' sc', .slice za' zl' zc', .slice ba' bl' bc', .slice ha' hl' hc', .slice ma' ml' mc', .slice xa' xl' xc', .slice ta' tl' tc'] 36)).drew.cell? ⟨(w.heap.size + 1), 12, none⟩ = some (.slice ta' tl' tc') from HD0.out.cell 12)
  go_enter Tryz.func45, Tryz.ntmps45
  simp only [factC]
  go_wp2_with fail
  obtain ⟨X2, hX2⟩ : ∃ q : Bool, q = FB := ⟨_, rfl⟩
  have HX2 := Lib.hid hX2
  clear hX2
  obtain ⟨X5, hX5⟩ : ∃ q : Bool, q = (X2 && GB) := ⟨_, rfl⟩
  have HX5 := Lib.hid hX5
  clear hX5
  obtain ⟨X6, hX6⟩ : ∃ q : Bool, q = X5 := ⟨_, rfl⟩
  have HX6 := Lib.hid hX6
  clear hX6
  obtain ⟨X9, hX9⟩ : ∃ q : Bool, q = (X6 && TB) := ⟨_, rfl⟩
  have HX9 := Lib.hid hX9
  clear hX9
  obtain ⟨X10, hX10⟩ : ∃ q : Bool, q = X9 := ⟨_, rfl⟩
  have HX10 := Lib.hid hX10
  clear hX10
  obtain ⟨X16, hX16⟩ : ∃ q : Bool, q = (X10 && (K1.toList == K2.toList)) := ⟨_, rfl⟩
  have HX16 := Lib.hid hX16
  clear hX16
  obtain ⟨X17, hX17⟩ : ∃ q : Bool, q = X16 := ⟨_, rfl⟩
  have HX17 := Lib.hid hX17
  clear hX17
  obtain ⟨X23, hX23⟩ : ∃ q : Bool, q = (decide (f.rank ≤ g.rank)) := ⟨_, rfl⟩
  have HX23 := Lib.hid hX23
  clear hX23
  obtain ⟨X31, hX31⟩ : ∃ q : Bool, q = (X23 || (!RB)) := ⟨_, rfl⟩
  have HX31 := Lib.hid hX31
  clear hX31
  obtain ⟨X32, hX32⟩ : ∃ q : Bool, q = (X17 && X31) := ⟨_, rfl⟩
  have HX32 := Lib.hid hX32
  clear hX32
  have HSX := Lib.hid (fun (e : X10 = true) => show FB = true ∧ GB = true by
    simp only [HX10.out, HX9.out, HX6.out, HX5.out, HX2.out, Bool.and_eq_true] at e
    exact ⟨e.1.1, e.1.2⟩)
  refine wp_soup0 (m := 40) (by kernel_rfl) (fun x y => Below x.heap.size x y) (fun i v xw => match i with | 0 => v = .agg #[.slice na nl nc, .int .i64 f.typ, .int .i64 f.kind, .int .i64 f.rank, .int .i64 f.got, .int .i64 f.ttl, .slice sa sl sc, .slice za zl zc, .slice ba bl bc, .slice ha hl hc, .slice ma ml mc, .slice xa xl xc, .slice ta tl tc] | 1 => v = .bool FB | 2 => v = .bool X2 | 3 => v = (bif X2 then (.agg #[.slice na' nl' nc', .int .i64 g.typ, .int .i64 g.kind, .int .i64 g.rank, .int .i64 g.got, .int .i64 g.ttl, .slice sa' sl' sc', .slice za' zl' zc', .slice ba' bl' bc', .slice ha' hl' hc', .slice ma' ml' mc', .slice xa' xl' xc', .slice ta' tl' tc']) else undef) | 4 => v = (bif X2 then (.bool GB) else undef) | 5 => v = .bool X5 | 6 => v = .bool X6 | 7 => v = (bif X6 then (.int .i64 now) else undef) | 8 => v = (bif X6 then (.bool TB) else undef) | 9 => v = .bool X9 | 10 => v = .bool X10 | 11 => v = (bif X10 then (.agg #[.slice na nl nc, .int .i64 f.typ, .int .i64 f.kind, .int .i64 f.rank, .int .i64 f.got, .int .i64 f.ttl, .slice sa sl sc, .slice za zl zc, .slice ba bl bc, .slice ha hl hc, .slice ma ml mc, .slice xa xl xc, .slice ta tl tc]) else undef) | 12 => v = (bif X10 then (.string K1) else undef) | 13 => v = (bif X10 then (.agg #[.slice na' nl' nc', .int .i64 g.typ, .int .i64 g.kind, .int .i64 g.rank, .int .i64 g.got, .int .i64 g.ttl, .slice sa' sl' sc', .slice za' zl' zc', .slice ba' bl' bc', .slice ha' hl' hc', .slice ma' ml' mc', .slice xa' xl' xc', .slice ta' tl' tc']) else undef) | 14 => v = (bif X10 then (.string K2) else undef) | 15 => v = (bif X10 then (.bool (K1.toList == K2.toList)) else undef) | 16 => v = .bool X16 | 17 => v = .bool X17 | 18 => v = (bif X17 then (.pointer (some ⟨(w.heap.size + 1), 3, none⟩)) else undef) | 19 => v = (bif X17 then (.int .i64 g.rank) else undef) | 20 => v = (bif X17 then (.pointer (some ⟨w.heap.size, 3, none⟩)) else undef) | 21 => v = (bif X17 then (.int .i64 f.rank) else undef) | 22 => v = (bif X17 then (.bool (decide (f.rank ≤ g.rank))) else undef) | 23 => v = (bif X17 then (.bool X23) else undef) | 24 => v = (bif X17 then ((bif X23 then undef else (.pointer (some ⟨w.heap.size, 4, none⟩)))) else undef) | 25 => v = (bif X17 then ((bif X23 then undef else (.int .i64 f.got))) else undef) | 26 => v = (bif X17 then ((bif X23 then undef else (.pointer (some ⟨w.heap.size, 5, none⟩)))) else undef) | 27 => v = (bif X17 then ((bif X23 then undef else (.int .i64 f.ttl))) else undef) | 28 => v = (bif X17 then ((bif X23 then undef else (.int .i64 now))) else undef) | 29 => v = (bif X17 then ((bif X23 then undef else (.bool RB))) else undef) | 30 => v = (bif X17 then ((bif X23 then undef else (.bool (!RB)))) else undef) | 31 => v = (bif X17 then (.bool X31) else undef) | 32 => v = .bool X32 | 33 => v = .bool X32 | _ => True) rfl (by kernel_rfl) (fun _ _ _ h1 h2 => below_on h1 h2 (Nat.le_refl _)) (Below.refl _ _) (fun _ _ _ _ h _ => h) (dst_but 34 (by kernel_rfl) (fun _ _ h => h)) ?_ ?_
  rotate_left
  · intro a W hR hS hdep
    have e6 : a.tmps.getD 6 undef = .bool X32 := hdep 33 (by decide +kernel)
    obtain ⟨T, df⟩ := a
    obtain rfl : df = [] := hS.defers
    have hT : T = #[T.getD 0 undef, T.getD 1 undef, T.getD 2 undef, T.getD 3 undef, T.getD 4 undef, T.getD 5 undef, T.getD 6 undef, T.getD 7 undef, T.getD 8 undef, T.getD 9 undef, T.getD 10 undef, T.getD 11 undef, T.getD 12 undef, T.getD 13 undef, T.getD 14 undef, T.getD 15 undef, T.getD 16 undef, T.getD 17 undef, T.getD 18 undef, T.getD 19 undef, T.getD 20 undef, T.getD 21 undef, T.getD 22 undef, T.getD 23 undef, T.getD 24 undef, T.getD 25 undef, T.getD 26 undef, T.getD 27 undef, T.getD 28 undef, T.getD 29 undef, T.getD 30 undef, T.getD 31 undef, T.getD 32 undef, T.getD 33 undef, T.getD 34 undef, T.getD 35 undef, T.getD 36 undef, T.getD 37 undef, T.getD 38 undef, T.getD 39 undef] := arr_eta T 40 hS.size
    have k6 : T.getD 6 undef = .bool X32 := e6
    clear hS hdep
    rw [hT]
    rw [k6]
    clear k6 e6
    clear hT
    generalize T.getD 0 undef = u0
    generalize T.getD 1 undef = u1
    generalize T.getD 2 undef = u2
    generalize T.getD 3 undef = u3
    generalize T.getD 4 undef = u4
    generalize T.getD 5 undef = u5
    generalize T.getD 7 undef = u7
    generalize T.getD 8 undef = u8
    generalize T.getD 9 undef = u9
    generalize T.getD 10 undef = u10
    generalize T.getD 11 undef = u11
    generalize T.getD 12 undef = u12
    generalize T.getD 13 undef = u13
    generalize T.getD 14 undef = u14
    generalize T.getD 15 undef = u15
    generalize T.getD 16 undef = u16
    generalize T.getD 17 undef = u17
    generalize T.getD 18 undef = u18
    generalize T.getD 19 undef = u19
    generalize T.getD 20 undef = u20
    generalize T.getD 21 undef = u21
    generalize T.getD 22 undef = u22
    generalize T.getD 23 undef = u23
    generalize T.getD 24 undef = u24
    generalize T.getD 25 undef = u25
    generalize T.getD 26 undef = u26
    generalize T.getD 27 undef = u27
    generalize T.getD 28 undef = u28
    generalize T.getD 29 undef = u29
    generalize T.getD 30 undef = u30
    generalize T.getD 31 undef = u31
    generalize T.getD 32 undef = u32
    generalize T.getD 33 undef = u33
    generalize T.getD 34 undef = u34
    generalize T.getD 35 undef = u35
    generalize T.getD 36 undef = u36
    generalize T.getD 37 undef = u37
    generalize T.getD 38 undef = u38
    generalize T.getD 39 undef = u39
    have HR := Lib.hid (below_on HB0.out (below_on (Below.drew (Below.refl _ _)) hR (Nat.le_refl _)) (Nat.le_refl _))
    have HVB := Lib.hid (show X32 = B by
      rw [HBE.out]
      simp only [HX32.out, HX17.out, HX31.out, HX16.out, HX23.out, HX10.out, HX9.out, HX6.out, HX5.out, HX2.out]
      generalize (K1.toList == K2.toList) = y1
      generalize decide (f.rank ≤ g.rank) = y2
      cases FB <;> cases GB <;> cases TB <;> cases y1 <;> cases y2 <;> cases RB <;> rfl)
    clear hR
    go_wp2_with fail
    go_ret
    exact ⟨ret_bool HVB.out, HR.out⟩
  refine soup_cons rfl rfl (fun a W hR hS hdep K hK => ?_) ?_
  · have e3 : a.tmps[3]?.getD undef = .pointer (some ⟨w.heap.size, 0, none⟩) := slot_of (hS.keep 3 (by kernel_rfl))
    have m0 := cell_keep hR HM0.out
    have m1 := cell_keep hR HM1.out
    have m2 := cell_keep hR HM2.out
    have m3 := cell_keep hR HM3.out
    have m4 := cell_keep hR HM4.out
    have m5 := cell_keep hR HM5.out
    have m6 := cell_keep hR HM6.out
    have m7 := cell_keep hR HM7.out
    have m8 := cell_keep hR HM8.out
    have m9 := cell_keep hR HM9.out
    have m10 := cell_keep hR HM10.out
    have m11 := cell_keep hR HM11.out
    have m12 := cell_keep hR HM12.out
    go_simp
    exact hK _ _ (Below.refl _ _) (by first | rfl | simp)
  refine soup_cons rfl rfl (fun a W hR hS hdep K hK => ?_) ?_
  · have e7 : a.tmps[7]?.getD undef = .agg #[.slice na nl nc, .int .i64 f.typ, .int .i64 f.kind, .int .i64 f.rank, .int .i64 f.got, .int .i64 f.ttl, .slice sa sl sc, .slice za zl zc, .slice ba bl bc, .slice ha hl hc, .slice ma ml mc, .slice xa xl xc, .slice ta tl tc] := slot_of (hdep 0 (by decide +kernel))
    go_simp
    have hbx := below_on (B := ((w.alloc (.cells #[.slice na nl nc, .int .i64 f.typ, .int .i64 f.kind, .int .i64 f.rank, .int .i64 f.got, .int .i64 f.ttl, .slice sa sl sc, .slice za zl zc, .slice ba bl bc, .slice ha hl hc, .slice ma ml mc, .slice xa xl xc, .slice ta tl tc] 36)).alloc (.cells #[.slice na' nl' nc', .int .i64 g.typ, .int .i64 g.kind, .int .i64 g.rank, .int .i64 g.got, .int .i64 g.ttl, .slice sa' sl' sc', .slice za' zl' zc', .slice ba' bl' bc', .slice ha' hl' hc', .slice ma' ml' mc', .slice xa' xl' xc', .slice ta' tl' tc'] 36)).heap.size) (Below.drew (Below.refl _ _)) hR (Nat.le_refl _)
    refine (HFB.out _ (HF0.out.on hbx)).mono ?_
    rintro e W' ⟨rfl, hb⟩
    exact hK _ _ hb rfl
  refine soup_cons rfl rfl (fun a W hR hS hdep K hK => ?_) ?_
  · have e8 : a.tmps[8]?.getD undef = .bool FB := slot_of (hdep 1 (by decide +kernel))
    go_simp
    exact hK _ _ (Below.refl _ _) (by first | rfl | (rw [HX2.out]; rfl) | (rw [HX2.out]; simp) | simp [HX2.out])
  refine soup_cons rfl rfl (fun a W hR hS hdep K hK => ?_) ?_
  · have e4 : a.tmps[4]?.getD undef = .pointer (some ⟨(w.heap.size + 1), 0, none⟩) := slot_of (hS.keep 4 (by kernel_rfl))
    have e9 : a.tmps[9]?.getD undef = .bool X2 := slot_of (hdep 2 (by decide +kernel))
    have g9 : a.tmps[9]? = some (.bool X2) := slot_at (show _ = 40 from hS.size) (by decide) (hdep 2 (by decide +kernel))
    have m0 := cell_keep hR HN0.out
    have m1 := cell_keep hR HN1.out
    have m2 := cell_keep hR HN2.out
    have m3 := cell_keep hR HN3.out
    have m4 := cell_keep hR HN4.out
    have m5 := cell_keep hR HN5.out
    have m6 := cell_keep hR HN6.out
    have m7 := cell_keep hR HN7.out
    have m8 := cell_keep hR HN8.out
    have m9 := cell_keep hR HN9.out
    have m10 := cell_keep hR HN10.out
    have m11 := cell_keep hR HN11.out
    have m12 := cell_keep hR HN12.out
    try clear hS
    all_goals (cases X2)
    all_goals
      try dsimp only [cond] at *
      go_simp
      exact hK _ _ (Below.refl _ _) (by first | rfl | simp)
  refine soup_cons rfl rfl (fun a W hR hS hdep K hK => ?_) ?_
  · have e10 : a.tmps[10]?.getD undef = (bif X2 then (.agg #[.slice na' nl' nc', .int .i64 g.typ, .int .i64 g.kind, .int .i64 g.rank, .int .i64 g.got, .int .i64 g.ttl, .slice sa' sl' sc', .slice za' zl' zc', .slice ba' bl' bc', .slice ha' hl' hc', .slice ma' ml' mc', .slice xa' xl' xc', .slice ta' tl' tc']) else undef) := slot_of (hdep 3 (by decide +kernel))
    have e9 : a.tmps[9]?.getD undef = .bool X2 := slot_of (hdep 2 (by decide +kernel))
    have g9 : a.tmps[9]? = some (.bool X2) := slot_at (show _ = 40 from hS.size) (by decide) (hdep 2 (by decide +kernel))
    try clear hS
    all_goals (cases X2)
    all_goals
      try dsimp only [cond] at *
      first
      | (go_simp
         exact hK _ _ (Below.refl _ _) rfl)
      | (go_simp
         have hbx := below_on (B := ((w.alloc (.cells #[.slice na nl nc, .int .i64 f.typ, .int .i64 f.kind, .int .i64 f.rank, .int .i64 f.got, .int .i64 f.ttl, .slice sa sl sc, .slice za zl zc, .slice ba bl bc, .slice ha hl hc, .slice ma ml mc, .slice xa xl xc, .slice ta tl tc] 36)).alloc (.cells #[.slice na' nl' nc', .int .i64 g.typ, .int .i64 g.kind, .int .i64 g.rank, .int .i64 g.got, .int .i64 g.ttl, .slice sa' sl' sc', .slice za' zl' zc', .slice ba' bl' bc', .slice ha' hl' hc', .slice ma' ml' mc', .slice xa' xl' xc', .slice ta' tl' tc'] 36)).heap.size) (Below.drew (Below.refl _ _)) hR (Nat.le_refl _)
         refine (HGB.out _ (HG0.out.on hbx)).mono ?_
         rintro e W' ⟨rfl, hb⟩
         exact hK _ _ hb rfl)
  refine soup_cons rfl rfl (fun a W hR hS hdep K hK => ?_) ?_
  · have e9 : a.tmps[9]?.getD undef = .bool X2 := slot_of (hdep 2 (by decide +kernel))
    have e11 : a.tmps[11]?.getD undef = (bif X2 then (.bool GB) else undef) := slot_of (hdep 4 (by decide +kernel))
    try clear hS
    all_goals (cases X2)
    all_goals
      try dsimp only [cond] at *
      go_simp
      exact hK _ _ (Below.refl _ _) (by first | rfl | (rw [HX5.out]; rfl) | (rw [HX5.out]; simp) | simp [HX5.out])
  refine soup_cons rfl rfl (fun a W hR hS hdep K hK => ?_) ?_
  · have e12 : a.tmps[12]?.getD undef = .bool X5 := slot_of (hdep 5 (by decide +kernel))
    go_simp
    exact hK _ _ (Below.refl _ _) (by first | rfl | (rw [HX6.out]; rfl) | (rw [HX6.out]; simp) | simp [HX6.out])
  refine soup_cons rfl rfl (fun a W hR hS hdep K hK => ?_) ?_
  · have e2 : a.tmps[2]?.getD undef = .int .i64 now := slot_of (hS.keep 2 (by kernel_rfl))
    have e13 : a.tmps[13]?.getD undef = .bool X6 := slot_of (hdep 6 (by decide +kernel))
    have g13 : a.tmps[13]? = some (.bool X6) := slot_at (show _ = 40 from hS.size) (by decide) (hdep 6 (by decide +kernel))
    try clear hS
    all_goals (cases X6)
    all_goals
      try dsimp only [cond] at *
      go_simp
      exact hK _ _ (Below.refl _ _) (by first | rfl | simp)
  refine soup_cons rfl rfl (fun a W hR hS hdep K hK => ?_) ?_
  · have e14 : a.tmps[14]?.getD undef = (bif X6 then (.int .i64 now) else undef) := slot_of (hdep 7 (by decide +kernel))
    have e13 : a.tmps[13]?.getD undef = .bool X6 := slot_of (hdep 6 (by decide +kernel))
    have g13 : a.tmps[13]? = some (.bool X6) := slot_at (show _ = 40 from hS.size) (by decide) (hdep 6 (by decide +kernel))
    try clear hS
    all_goals (cases X6)
    all_goals
      try dsimp only [cond] at *
      first
      | (go_simp
         exact hK _ _ (Below.refl _ _) rfl)
      | (go_simp
         have hbx := below_on (B := ((w.alloc (.cells #[.slice na nl nc, .int .i64 f.typ, .int .i64 f.kind, .int .i64 f.rank, .int .i64 f.got, .int .i64 f.ttl, .slice sa sl sc, .slice za zl zc, .slice ba bl bc, .slice ha hl hc, .slice ma ml mc, .slice xa xl xc, .slice ta tl tc] 36)).alloc (.cells #[.slice na' nl' nc', .int .i64 g.typ, .int .i64 g.kind, .int .i64 g.rank, .int .i64 g.got, .int .i64 g.ttl, .slice sa' sl' sc', .slice za' zl' zc', .slice ba' bl' bc', .slice ha' hl' hc', .slice ma' ml' mc', .slice xa' xl' xc', .slice ta' tl' tc'] 36)).heap.size) (Below.drew (Below.refl _ _)) hR (Nat.le_refl _)
         refine (HTB.out _).mono ?_
         rintro e W' ⟨rfl, rfl⟩
         exact hK _ _ (Below.refl _ _) rfl)
  refine soup_cons rfl rfl (fun a W hR hS hdep K hK => ?_) ?_
  · have e13 : a.tmps[13]?.getD undef = .bool X6 := slot_of (hdep 6 (by decide +kernel))
    have e15 : a.tmps[15]?.getD undef = (bif X6 then (.bool TB) else undef) := slot_of (hdep 8 (by decide +kernel))
    try clear hS
    all_goals (cases X6)
    all_goals
      try dsimp only [cond] at *
      go_simp
      exact hK _ _ (Below.refl _ _) (by first | rfl | (rw [HX9.out]; rfl) | (rw [HX9.out]; simp) | simp [HX9.out])
  refine soup_cons rfl rfl (fun a W hR hS hdep K hK => ?_) ?_
  · have e16 : a.tmps[16]?.getD undef = .bool X9 := slot_of (hdep 9 (by decide +kernel))
    go_simp
    exact hK _ _ (Below.refl _ _) (by first | rfl | (rw [HX10.out]; rfl) | (rw [HX10.out]; simp) | simp [HX10.out])
  refine soup_cons rfl rfl (fun a W hR hS hdep K hK => ?_) ?_
  · have e3 : a.tmps[3]?.getD undef = .pointer (some ⟨w.heap.size, 0, none⟩) := slot_of (hS.keep 3 (by kernel_rfl))
    have e17 : a.tmps[17]?.getD undef = .bool X10 := slot_of (hdep 10 (by decide +kernel))
    have g17 : a.tmps[17]? = some (.bool X10) := slot_at (show _ = 40 from hS.size) (by decide) (hdep 10 (by decide +kernel))
    have m0 := cell_keep hR HM0.out
    have m1 := cell_keep hR HM1.out
    have m2 := cell_keep hR HM2.out
    have m3 := cell_keep hR HM3.out
    have m4 := cell_keep hR HM4.out
    have m5 := cell_keep hR HM5.out
    have m6 := cell_keep hR HM6.out
    have m7 := cell_keep hR HM7.out
    have m8 := cell_keep hR HM8.out
    have m9 := cell_keep hR HM9.out
    have m10 := cell_keep hR HM10.out
    have m11 := cell_keep hR HM11.out
    have m12 := cell_keep hR HM12.out
    try clear hS
    all_goals (cases X10)
    all_goals
      try dsimp only [cond] at *
      go_simp
      exact hK _ _ (Below.refl _ _) (by first | rfl | simp)
  refine soup_cons rfl rfl (fun a W hR hS hdep K hK => ?_) ?_
  · have e18 : a.tmps[18]?.getD undef = (bif X10 then (.agg #[.slice na nl nc, .int .i64 f.typ, .int .i64 f.kind, .int .i64 f.rank, .int .i64 f.got, .int .i64 f.ttl, .slice sa sl sc, .slice za zl zc, .slice ba bl bc, .slice ha hl hc, .slice ma ml mc, .slice xa xl xc, .slice ta tl tc]) else undef) := slot_of (hdep 11 (by decide +kernel))
    have e17 : a.tmps[17]?.getD undef = .bool X10 := slot_of (hdep 10 (by decide +kernel))
    have g17 : a.tmps[17]? = some (.bool X10) := slot_at (show _ = 40 from hS.size) (by decide) (hdep 10 (by decide +kernel))
    try clear hS
    all_goals (cases X10)
    all_goals
      try dsimp only [cond] at *
      first
      | (go_simp
         exact hK _ _ (Below.refl _ _) rfl)
      | (go_simp
         have hbx := below_on (B := ((w.alloc (.cells #[.slice na nl nc, .int .i64 f.typ, .int .i64 f.kind, .int .i64 f.rank, .int .i64 f.got, .int .i64 f.ttl, .slice sa sl sc, .slice za zl zc, .slice ba bl bc, .slice ha hl hc, .slice ma ml mc, .slice xa xl xc, .slice ta tl tc] 36)).alloc (.cells #[.slice na' nl' nc', .int .i64 g.typ, .int .i64 g.kind, .int .i64 g.rank, .int .i64 g.got, .int .i64 g.ttl, .slice sa' sl' sc', .slice za' zl' zc', .slice ba' bl' bc', .slice ha' hl' hc', .slice ma' ml' mc', .slice xa' xl' xc', .slice ta' tl' tc'] 36)).heap.size) (Below.drew (Below.refl _ _)) hR (Nat.le_refl _)
         refine (HK1.out _ (HF0.out.on hbx) (HSF.out (HSX.out rfl).1)).mono ?_
         rintro e W' ⟨rfl, hb⟩
         exact hK _ _ hb rfl)
  refine soup_cons rfl rfl (fun a W hR hS hdep K hK => ?_) ?_
  · have e4 : a.tmps[4]?.getD undef = .pointer (some ⟨(w.heap.size + 1), 0, none⟩) := slot_of (hS.keep 4 (by kernel_rfl))
    have e17 : a.tmps[17]?.getD undef = .bool X10 := slot_of (hdep 10 (by decide +kernel))
    have g17 : a.tmps[17]? = some (.bool X10) := slot_at (show _ = 40 from hS.size) (by decide) (hdep 10 (by decide +kernel))
    have m0 := cell_keep hR HN0.out
    have m1 := cell_keep hR HN1.out
    have m2 := cell_keep hR HN2.out
    have m3 := cell_keep hR HN3.out
    have m4 := cell_keep hR HN4.out
    have m5 := cell_keep hR HN5.out
    have m6 := cell_keep hR HN6.out
    have m7 := cell_keep hR HN7.out
    have m8 := cell_keep hR HN8.out
    have m9 := cell_keep hR HN9.out
    have m10 := cell_keep hR HN10.out
    have m11 := cell_keep hR HN11.out
    have m12 := cell_keep hR HN12.out
    try clear hS
    all_goals (cases X10)
    all_goals
      try dsimp only [cond] at *
      go_simp
      exact hK _ _ (Below.refl _ _) (by first | rfl | simp)
  refine soup_cons rfl rfl (fun a W hR hS hdep K hK => ?_) ?_
  · have e20 : a.tmps[20]?.getD undef = (bif X10 then (.agg #[.slice na' nl' nc', .int .i64 g.typ, .int .i64 g.kind, .int .i64 g.rank, .int .i64 g.got, .int .i64 g.ttl, .slice sa' sl' sc', .slice za' zl' zc', .slice ba' bl' bc', .slice ha' hl' hc', .slice ma' ml' mc', .slice xa' xl' xc', .slice ta' tl' tc']) else undef) := slot_of (hdep 13 (by decide +kernel))
    have e17 : a.tmps[17]?.getD undef = .bool X10 := slot_of (hdep 10 (by decide +kernel))
    have g17 : a.tmps[17]? = some (.bool X10) := slot_at (show _ = 40 from hS.size) (by decide) (hdep 10 (by decide +kernel))
    try clear hS
    all_goals (cases X10)
    all_goals
      try dsimp only [cond] at *
      first
      | (go_simp
         exact hK _ _ (Below.refl _ _) rfl)
      | (go_simp
         have hbx := below_on (B := ((w.alloc (.cells #[.slice na nl nc, .int .i64 f.typ, .int .i64 f.kind, .int .i64 f.rank, .int .i64 f.got, .int .i64 f.ttl, .slice sa sl sc, .slice za zl zc, .slice ba bl bc, .slice ha hl hc, .slice ma ml mc, .slice xa xl xc, .slice ta tl tc] 36)).alloc (.cells #[.slice na' nl' nc', .int .i64 g.typ, .int .i64 g.kind, .int .i64 g.rank, .int .i64 g.got, .int .i64 g.ttl, .slice sa' sl' sc', .slice za' zl' zc', .slice ba' bl' bc', .slice ha' hl' hc', .slice ma' ml' mc', .slice xa' xl' xc', .slice ta' tl' tc'] 36)).heap.size) (Below.drew (Below.refl _ _)) hR (Nat.le_refl _)
         refine (HK2.out _ (HG0.out.on hbx) (HSG.out (HSX.out rfl).2)).mono ?_
         rintro e W' ⟨rfl, hb⟩
         exact hK _ _ hb rfl)
  refine soup_cons rfl rfl (fun a W hR hS hdep K hK => ?_) ?_
  · have e19 : a.tmps[19]?.getD undef = (bif X10 then (.string K1) else undef) := slot_of (hdep 12 (by decide +kernel))
    have e21 : a.tmps[21]?.getD undef = (bif X10 then (.string K2) else undef) := slot_of (hdep 14 (by decide +kernel))
    have e17 : a.tmps[17]?.getD undef = .bool X10 := slot_of (hdep 10 (by decide +kernel))
    have g17 : a.tmps[17]? = some (.bool X10) := slot_at (show _ = 40 from hS.size) (by decide) (hdep 10 (by decide +kernel))
    try clear hS
    all_goals (cases X10)
    all_goals
      try dsimp only [cond] at *
      go_simp
      exact hK _ _ (Below.refl _ _) (by first | rfl | simp)
  refine soup_cons rfl rfl (fun a W hR hS hdep K hK => ?_) ?_
  · have e17 : a.tmps[17]?.getD undef = .bool X10 := slot_of (hdep 10 (by decide +kernel))
    have e22 : a.tmps[22]?.getD undef = (bif X10 then (.bool (K1.toList == K2.toList)) else undef) := slot_of (hdep 15 (by decide +kernel))
    try clear hS
    all_goals (cases X10)
    all_goals
      try dsimp only [cond] at *
      go_simp
      exact hK _ _ (Below.refl _ _) (by first | rfl | (rw [HX16.out]; rfl) | (rw [HX16.out]; simp) | simp [HX16.out])
  refine soup_cons rfl rfl (fun a W hR hS hdep K hK => ?_) ?_
  · have e23 : a.tmps[23]?.getD undef = .bool X16 := slot_of (hdep 16 (by decide +kernel))
    go_simp
    exact hK _ _ (Below.refl _ _) (by first | rfl | (rw [HX17.out]; rfl) | (rw [HX17.out]; simp) | simp [HX17.out])
  refine soup_cons rfl rfl (fun a W hR hS hdep K hK => ?_) ?_
  · have e4 : a.tmps[4]?.getD undef = .pointer (some ⟨(w.heap.size + 1), 0, none⟩) := slot_of (hS.keep 4 (by kernel_rfl))
    have e24 : a.tmps[24]?.getD undef = .bool X17 := slot_of (hdep 17 (by decide +kernel))
    have g24 : a.tmps[24]? = some (.bool X17) := slot_at (show _ = 40 from hS.size) (by decide) (hdep 17 (by decide +kernel))
    try clear hS
    all_goals (cases X17)
    all_goals
      try dsimp only [cond] at *
      go_simp
      exact hK _ _ (Below.refl _ _) (by first | rfl | simp)
  refine soup_cons rfl rfl (fun a W hR hS hdep K hK => ?_) ?_
  · have e25 : a.tmps[25]?.getD undef = (bif X17 then (.pointer (some ⟨(w.heap.size + 1), 3, none⟩)) else undef) := slot_of (hdep 18 (by decide +kernel))
    have e24 : a.tmps[24]?.getD undef = .bool X17 := slot_of (hdep 17 (by decide +kernel))
    have g24 : a.tmps[24]? = some (.bool X17) := slot_at (show _ = 40 from hS.size) (by decide) (hdep 17 (by decide +kernel))
    have m0 := cell_keep hR HN3.out
    try clear hS
    all_goals (cases X17)
    all_goals
      try dsimp only [cond] at *
      go_simp
      exact hK _ _ (Below.refl _ _) (by first | rfl | simp)
  refine soup_cons rfl rfl (fun a W hR hS hdep K hK => ?_) ?_
  · have e3 : a.tmps[3]?.getD undef = .pointer (some ⟨w.heap.size, 0, none⟩) := slot_of (hS.keep 3 (by kernel_rfl))
    have e24 : a.tmps[24]?.getD undef = .bool X17 := slot_of (hdep 17 (by decide +kernel))
    have g24 : a.tmps[24]? = some (.bool X17) := slot_at (show _ = 40 from hS.size) (by decide) (hdep 17 (by decide +kernel))
    try clear hS
    all_goals (cases X17)
    all_goals
      try dsimp only [cond] at *
      go_simp
      exact hK _ _ (Below.refl _ _) (by first | rfl | simp)
  refine soup_cons rfl rfl (fun a W hR hS hdep K hK => ?_) ?_
  · have e27 : a.tmps[27]?.getD undef = (bif X17 then (.pointer (some ⟨w.heap.size, 3, none⟩)) else undef) := slot_of (hdep 20 (by decide +kernel))
    have e24 : a.tmps[24]?.getD undef = .bool X17 := slot_of (hdep 17 (by decide +kernel))
    have g24 : a.tmps[24]? = some (.bool X17) := slot_at (show _ = 40 from hS.size) (by decide) (hdep 17 (by decide +kernel))
    have m0 := cell_keep hR HM3.out
    try clear hS
    all_goals (cases X17)
    all_goals
      try dsimp only [cond] at *
      go_simp
      exact hK _ _ (Below.refl _ _) (by first | rfl | simp)
  refine soup_cons rfl rfl (fun a W hR hS hdep K hK => ?_) ?_
  · have e26 : a.tmps[26]?.getD undef = (bif X17 then (.int .i64 g.rank) else undef) := slot_of (hdep 19 (by decide +kernel))
    have e28 : a.tmps[28]?.getD undef = (bif X17 then (.int .i64 f.rank) else undef) := slot_of (hdep 21 (by decide +kernel))
    have e24 : a.tmps[24]?.getD undef = .bool X17 := slot_of (hdep 17 (by decide +kernel))
    have g24 : a.tmps[24]? = some (.bool X17) := slot_at (show _ = 40 from hS.size) (by decide) (hdep 17 (by decide +kernel))
    try clear hS
    all_goals (cases X17)
    all_goals
      try dsimp only [cond] at *
      go_simp
      exact hK _ _ (Below.refl _ _) (by first | rfl | simp)
  refine soup_cons rfl rfl (fun a W hR hS hdep K hK => ?_) ?_
  · have e29 : a.tmps[29]?.getD undef = (bif X17 then (.bool (decide (f.rank ≤ g.rank))) else undef) := slot_of (hdep 22 (by decide +kernel))
    have e24 : a.tmps[24]?.getD undef = .bool X17 := slot_of (hdep 17 (by decide +kernel))
    have g24 : a.tmps[24]? = some (.bool X17) := slot_at (show _ = 40 from hS.size) (by decide) (hdep 17 (by decide +kernel))
    try clear hS
    all_goals (cases X17)
    all_goals
      try dsimp only [cond] at *
      go_simp
      exact hK _ _ (Below.refl _ _) (by first | rfl | (rw [HX23.out]; rfl) | (rw [HX23.out]; simp) | simp [HX23.out])
  refine soup_cons rfl rfl (fun a W hR hS hdep K hK => ?_) ?_
  · have e3 : a.tmps[3]?.getD undef = .pointer (some ⟨w.heap.size, 0, none⟩) := slot_of (hS.keep 3 (by kernel_rfl))
    have e30 : a.tmps[30]?.getD undef = (bif X17 then (.bool X23) else undef) := slot_of (hdep 23 (by decide +kernel))
    have g30 : a.tmps[30]? = some ((bif X17 then (.bool X23) else undef)) := slot_at (show _ = 40 from hS.size) (by decide) (hdep 23 (by decide +kernel))
    try clear hS
    all_goals (cases X17)
    all_goals (cases X23)
    all_goals
      try dsimp only [cond] at *
      go_simp
      exact hK _ _ (Below.refl _ _) (by first | rfl | simp)
  refine soup_cons rfl rfl (fun a W hR hS hdep K hK => ?_) ?_
  · have e31 : a.tmps[31]?.getD undef = (bif X17 then ((bif X23 then undef else (.pointer (some ⟨w.heap.size, 4, none⟩)))) else undef) := slot_of (hdep 24 (by decide +kernel))
    have e30 : a.tmps[30]?.getD undef = (bif X17 then (.bool X23) else undef) := slot_of (hdep 23 (by decide +kernel))
    have g30 : a.tmps[30]? = some ((bif X17 then (.bool X23) else undef)) := slot_at (show _ = 40 from hS.size) (by decide) (hdep 23 (by decide +kernel))
    have m0 := cell_keep hR HM4.out
    try clear hS
    all_goals (cases X17)
    all_goals (cases X23)
    all_goals
      try dsimp only [cond] at *
      go_simp
      exact hK _ _ (Below.refl _ _) (by first | rfl | simp)
  refine soup_cons rfl rfl (fun a W hR hS hdep K hK => ?_) ?_
  · have e3 : a.tmps[3]?.getD undef = .pointer (some ⟨w.heap.size, 0, none⟩) := slot_of (hS.keep 3 (by kernel_rfl))
    have e30 : a.tmps[30]?.getD undef = (bif X17 then (.bool X23) else undef) := slot_of (hdep 23 (by decide +kernel))
    have g30 : a.tmps[30]? = some ((bif X17 then (.bool X23) else undef)) := slot_at (show _ = 40 from hS.size) (by decide) (hdep 23 (by decide +kernel))
    try clear hS
    all_goals (cases X17)
    all_goals (cases X23)
    all_goals
      try dsimp only [cond] at *
      go_simp
      exact hK _ _ (Below.refl _ _) (by first | rfl | simp)
  refine soup_cons rfl rfl (fun a W hR hS hdep K hK => ?_) ?_
  · have e33 : a.tmps[33]?.getD undef = (bif X17 then ((bif X23 then undef else (.pointer (some ⟨w.heap.size, 5, none⟩)))) else undef) := slot_of (hdep 26 (by decide +kernel))
    have e30 : a.tmps[30]?.getD undef = (bif X17 then (.bool X23) else undef) := slot_of (hdep 23 (by decide +kernel))
    have g30 : a.tmps[30]? = some ((bif X17 then (.bool X23) else undef)) := slot_at (show _ = 40 from hS.size) (by decide) (hdep 23 (by decide +kernel))
    have m0 := cell_keep hR HM5.out
    try clear hS
    all_goals (cases X17)
    all_goals (cases X23)
    all_goals
      try dsimp only [cond] at *
      go_simp
      exact hK _ _ (Below.refl _ _) (by first | rfl | simp)
  refine soup_cons rfl rfl (fun a W hR hS hdep K hK => ?_) ?_
  · have e2 : a.tmps[2]?.getD undef = .int .i64 now := slot_of (hS.keep 2 (by kernel_rfl))
    have e30 : a.tmps[30]?.getD undef = (bif X17 then (.bool X23) else undef) := slot_of (hdep 23 (by decide +kernel))
    have g30 : a.tmps[30]? = some ((bif X17 then (.bool X23) else undef)) := slot_at (show _ = 40 from hS.size) (by decide) (hdep 23 (by decide +kernel))
    try clear hS
    all_goals (cases X17)
    all_goals (cases X23)
    all_goals
      try dsimp only [cond] at *
      go_simp
      exact hK _ _ (Below.refl _ _) (by first | rfl | simp)
  refine soup_cons rfl rfl (fun a W hR hS hdep K hK => ?_) ?_
  · have e32 : a.tmps[32]?.getD undef = (bif X17 then ((bif X23 then undef else (.int .i64 f.got))) else undef) := slot_of (hdep 25 (by decide +kernel))
    have e34 : a.tmps[34]?.getD undef = (bif X17 then ((bif X23 then undef else (.int .i64 f.ttl))) else undef) := slot_of (hdep 27 (by decide +kernel))
    have e35 : a.tmps[35]?.getD undef = (bif X17 then ((bif X23 then undef else (.int .i64 now))) else undef) := slot_of (hdep 28 (by decide +kernel))
    have e30 : a.tmps[30]?.getD undef = (bif X17 then (.bool X23) else undef) := slot_of (hdep 23 (by decide +kernel))
    have g30 : a.tmps[30]? = some ((bif X17 then (.bool X23) else undef)) := slot_at (show _ = 40 from hS.size) (by decide) (hdep 23 (by decide +kernel))
    try clear hS
    all_goals (cases X17)
    all_goals (cases X23)
    all_goals
      try dsimp only [cond] at *
      first
      | (go_simp
         exact hK _ _ (Below.refl _ _) rfl)
      | (go_simp
         have hbx := below_on (B := ((w.alloc (.cells #[.slice na nl nc, .int .i64 f.typ, .int .i64 f.kind, .int .i64 f.rank, .int .i64 f.got, .int .i64 f.ttl, .slice sa sl sc, .slice za zl zc, .slice ba bl bc, .slice ha hl hc, .slice ma ml mc, .slice xa xl xc, .slice ta tl tc] 36)).alloc (.cells #[.slice na' nl' nc', .int .i64 g.typ, .int .i64 g.kind, .int .i64 g.rank, .int .i64 g.got, .int .i64 g.ttl, .slice sa' sl' sc', .slice za' zl' zc', .slice ba' bl' bc', .slice ha' hl' hc', .slice ma' ml' mc', .slice xa' xl' xc', .slice ta' tl' tc'] 36)).heap.size) (Below.drew (Below.refl _ _)) hR (Nat.le_refl _)
         refine (HRB.out _).mono ?_
         rintro e W' ⟨rfl, rfl⟩
         exact hK _ _ (Below.refl _ _) rfl)
  refine soup_cons rfl rfl (fun a W hR hS hdep K hK => ?_) ?_
  · have e36 : a.tmps[36]?.getD undef = (bif X17 then ((bif X23 then undef else (.bool RB))) else undef) := slot_of (hdep 29 (by decide +kernel))
    have e30 : a.tmps[30]?.getD undef = (bif X17 then (.bool X23) else undef) := slot_of (hdep 23 (by decide +kernel))
    have g30 : a.tmps[30]? = some ((bif X17 then (.bool X23) else undef)) := slot_at (show _ = 40 from hS.size) (by decide) (hdep 23 (by decide +kernel))
    try clear hS
    all_goals (cases X17)
    all_goals (cases X23)
    all_goals
      try dsimp only [cond] at *
      go_simp
      exact hK _ _ (Below.refl _ _) (by first | rfl | simp)
  refine soup_cons rfl rfl (fun a W hR hS hdep K hK => ?_) ?_
  · have e30 : a.tmps[30]?.getD undef = (bif X17 then (.bool X23) else undef) := slot_of (hdep 23 (by decide +kernel))
    have e37 : a.tmps[37]?.getD undef = (bif X17 then ((bif X23 then undef else (.bool (!RB)))) else undef) := slot_of (hdep 30 (by decide +kernel))
    have e24 : a.tmps[24]?.getD undef = .bool X17 := slot_of (hdep 17 (by decide +kernel))
    have g24 : a.tmps[24]? = some (.bool X17) := slot_at (show _ = 40 from hS.size) (by decide) (hdep 17 (by decide +kernel))
    try clear hS
    all_goals (cases X23)
    all_goals (cases X17)
    all_goals
      try dsimp only [cond] at *
      go_simp
      exact hK _ _ (Below.refl _ _) (by first | rfl | (rw [HX31.out]; rfl) | (rw [HX31.out]; simp) | simp [HX31.out])
  refine soup_cons rfl rfl (fun a W hR hS hdep K hK => ?_) ?_
  · have e24 : a.tmps[24]?.getD undef = .bool X17 := slot_of (hdep 17 (by decide +kernel))
    have e38 : a.tmps[38]?.getD undef = (bif X17 then (.bool X31) else undef) := slot_of (hdep 31 (by decide +kernel))
    try clear hS
    all_goals (cases X17)
    all_goals
      try dsimp only [cond] at *
      go_simp
      exact hK _ _ (Below.refl _ _) (by first | rfl | (rw [HX32.out]; rfl) | (rw [HX32.out]; simp) | simp [HX32.out])
  refine soup_cons rfl rfl (fun a W hR hS hdep K hK => ?_) ?_
  · have e39 : a.tmps[39]?.getD undef = .bool X32 := slot_of (hdep 32 (by decide +kernel))
    go_simp
    exact hK _ _ (Below.refl _ _) (by first | rfl | simp)
  exact fun j h1 h2 => absurd h1 (by simp only [List.size_toArray, List.length_cons, List.length_nil]; omega)
end Go.Proofs.YtpemdieejgldiaaGreat

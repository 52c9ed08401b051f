/- Contracts of the given program's functions, in the order in which they are proved. -/
import Derived.Laws.Rows
import Derived.Test.YtjpefpclmndgeaaGreatPl4
namespace Go.Proofs.YtjpefpclmndgeaaGreat
set_option maxHeartbeats 64000000
set_option maxRecDepth 100000
open Go.ChangeShapes Go.WideShapes Go.ChangeAt Go.RowKit
def Zfa (f g:Zas) (now:Int):Bool:=Zbl f&&(Zbl g&&(Za6 now&&(decide (Zax f=Zax g)&&(decide (f.rank≤g.rank)|| !decide (0<Zik f.got f.ttl now)))))
theorem ZjL {n:List ByteArray} (h:ZaG n=true):Za0 n≤254:=by
 simp only[ZaG,Zae2,Zde] at h
 omega
theorem Zcz {f:Zas} (h:Zbl f=true):Za0 f.name≤254:=by
 simp only[Zbl,Zie,Zae2] at h
 exact ZjL h.1.1
theorem Zop (a b:List UInt8):((⟨a.toArray⟩:ByteArray).toList==(⟨b.toArray⟩:ByteArray).toList)=decide (a=b):=by
 rw[Zc3]
 rw[Bool.eq_iff_iff,Zde,Zde]
 constructor
 ·intro h
  have:=congrArg (fun x:ByteArray=>x.data.toList) h
  simpa using this
 ·intro h;rw[h]
theorem ZmQ (w:World) (S R:Nat→Prop) (h k:ZaU) (f g:Zas) (now:Int) (hf:IsFact S w h f) (hg:IsFact R w k g):
  Calls Tryz.prog 60 #[.agg (Zaj h f),.agg (Zaj k g),.int .i64 now] w fun e w'=>e= .returned (.bool (Zfa f g now))∧Below w.heap.size w w':=by
 have hb1:Below w.heap.size w (w.alloc (.cells (Zaj h f) 37)):=Zbr.alloc Zlr _
 have hs1:(w.alloc (.cells (Zaj h f) 37)).heap.size=w.heap.size+1:=by simp
 have hb2:Below w.heap.size w ((w.alloc (.cells (Zaj h f) 37)).alloc (.cells (Zaj k g) 37)):=hb1.alloc (by omega) _
 have hA0:Blk (w.alloc (.cells (Zaj h f) 37)) w.heap.size (Zaj h f) 37:=Zha w _
 have HA0:=Zhd (hA0.on (Zbr.alloc Zlr (.cells (Zaj k g) 37)))
 have HD0:=Zhd (show Blk ((w.alloc (.cells (Zaj h f) 37)).alloc (.cells (Zaj k g) 37)) (w.heap.size+1) (Zaj k g) 37 by rw[←hs1];exact Zha _ _)
 have HB0:=Zhd hb2
 have HY0:=Zhd (Below.refl ((w.alloc (.cells (Zaj h f) 37)).alloc (.cells (Zaj k g) 37)).heap.size ((w.alloc (.cells (Zaj h f) 37)).alloc (.cells (Zaj k g) 37)))
 have HF0:=Zhd (hf.on hb2)
 have HG0:=Zhd (hg.on hb2)
 obtain⟨FB,hFB⟩:∃ q:Bool,q=Zbl f:=⟨_,rfl⟩
 obtain⟨GB,hGB⟩:∃ q:Bool,q=Zbl g:=⟨_,rfl⟩
 obtain⟨TB,hTB⟩:∃ q:Bool,q=Za6 now:=⟨_,rfl⟩
 obtain⟨RB,hRB⟩:∃ q:Bool,q=decide (0<Zik f.got f.ttl now):=⟨_,rfl⟩
 obtain⟨K1,hK1⟩:∃ q:ByteArray,q=(⟨(Zax f).toArray⟩:ByteArray):=⟨_,rfl⟩
 obtain⟨K2,hK2⟩:∃ q:ByteArray,q=(⟨(Zax g).toArray⟩:ByteArray):=⟨_,rfl⟩
 obtain⟨B,hB⟩:∃ q,q=Zfa f g now:=⟨_,rfl⟩
 have HFB:=Zhd (fun w' (p:IsFact S w' h f)=>ZdE w' S _ _ p)
 rw[←hFB] at HFB
 have HGB:=Zhd (fun w' (p:IsFact R w' k g)=>ZdE w' R _ _ p)
 rw[←hGB] at HGB
 have HTB:=Zhd (fun w'=>ZcI now w')
 rw[←hTB] at HTB
 have HRB:=Zhd (fun w'=>Znp f.got f.ttl now w')
 rw[←hRB] at HRB
 have HK1:=Zhd (fun w' (p:IsFact S w' h f) (q:Za0 f.name≤1099511627776)=>ZeB w' h f p.name q)
 rw[←hK1] at HK1
 have HK2:=Zhd (fun w' (p:IsFact R w' k g) (q:Za0 g.name≤1099511627776)=>ZeB w' k g p.name q)
 rw[←hK2] at HK2
 have HBE:=Zhd (show B=(FB&&(GB&&(TB&&((K1.toList==K2.toList)&&(decide (f.rank≤g.rank)|| !RB))))) by
  rw[hB,Zfa,hFB,hGB,hTB,hRB,hK1,hK2,Zop])
 have HSF:=Zhd (fun (e:FB=true)=>show Za0 f.name≤1099511627776 from Nat.le_trans (Zcz (hFB.symm.trans e)) (by decide))
 have HSG:=Zhd (fun (e:GB=true)=>show Za0 g.name≤1099511627776 from Nat.le_trans (Zcz (hGB.symm.trans e)) (by decide))
 rw[←hB]
 clear hb1 hs1 hb2 hA0 hf hg hB hFB hGB hTB hRB hK1 hK2
 obtain⟨na,nl,nc,sa,sl,sc,za,zl,zc,⟨ba,bl,bc,ha,hl,hc,ma,ml,mc,xa,xl,xc,ta,tl,tc⟩⟩:=h
 obtain⟨na',nl',nc',sa',sl',sc',za',zl',zc',⟨ba',bl',bc',ha',hl',hc',ma',ml',mc',xa',xl',xc',ta',tl',tc'⟩⟩:=k
 simp only[Zaj] at HA0 HD0 HB0 HY0 HF0 HG0 HFB HGB HK1 HK2
 have HM0:=Zhd (show((w.alloc (.cells #[.slice na nl nc,.int .i64 f.typ,.int .i64 f.kind,.int .i64 f.rank,.int .i64 f.got,.int .i64 f.ttl,.slice sa sl sc,.slice za zl zc,.slice ba bl bc,.slice ha hl hc,.slice ma ml mc,.slice xa xl xc,.slice ta tl tc] 37)).alloc (.cells #[.slice na' nl' nc',.int .i64 g.typ,.int .i64 g.kind,.int .i64 g.rank,.int .i64 g.got,.int .i64 g.ttl,.slice sa' sl' sc',.slice za' zl' zc',.slice ba' bl' bc',.slice ha' hl' hc',.slice ma' ml' mc',.slice xa' xl' xc',.slice ta' tl' tc'] 37)).drew.cell? ⟨w.heap.size,0,none⟩=some (.slice na nl nc) from HA0.out.cell 0)
 have HM1:=Zhd (show((w.alloc (.cells #[.slice na nl nc,.int .i64 f.typ,.int .i64 f.kind,.int .i64 f.rank,.int .i64 f.got,.int .i64 f.ttl,.slice sa sl sc,.slice za zl zc,.slice ba bl bc,.slice ha hl hc,.slice ma ml mc,.slice xa xl xc,.slice ta tl tc] 37)).alloc (.cells #[.slice na' nl' nc',.int .i64 g.typ,.int .i64 g.kind,.int .i64 g.rank,.int .i64 g.got,.int .i64 g.ttl,.slice sa' sl' sc',.slice za' zl' zc',.slice ba' bl' bc',.slice ha' hl' hc',.slice ma' ml' mc',.slice xa' xl' xc',.slice ta' tl' tc'] 37)).drew.cell? ⟨w.heap.size,1,none⟩=some (.int .i64 f.typ) from HA0.out.cell 1)
 have HM2:=Zhd (show((w.alloc (.cells #[.slice na nl nc,.int .i64 f.typ,.int .i64 f.kind,.int .i64 f.rank,.int .i64 f.got,.int .i64 f.ttl,.slice sa sl sc,.slice za zl zc,.slice ba bl bc,.slice ha hl hc,.slice ma ml mc,.slice xa xl xc,.slice ta tl tc] 37)).alloc (.cells #[.slice na' nl' nc',.int .i64 g.typ,.int .i64 g.kind,.int .i64 g.rank,.int .i64 g.got,.int .i64 g.ttl,.slice sa' sl' sc',.slice za' zl' zc',.slice ba' bl' bc',.slice ha' hl' hc',.slice ma' ml' mc',.slice xa' xl' xc',.slice ta' tl' tc'] 37)).drew.cell? ⟨w.heap.size,2,none⟩=some (.int .i64 f.kind) from HA0.out.cell 2)
 have HM3:=Zhd (show((w.alloc (.cells #[.slice na nl nc,.int .i64 f.typ,.int .i64 f.kind,.int .i64 f.rank,.int .i64 f.got,.int .i64 f.ttl,.slice sa sl sc,.slice za zl zc,.slice ba bl bc,.slice ha hl hc,.slice ma ml mc,.slice xa xl xc,.slice ta tl tc] 37)).alloc (.cells #[.slice na' nl' nc',.int .i64 g.typ,.int .i64 g.kind,.int .i64 g.rank,.int .i64 g.got,.int .i64 g.ttl,.slice sa' sl' sc',.slice za' zl' zc',.slice ba' bl' bc',.slice ha' hl' hc',.slice ma' ml' mc',.slice xa' xl' xc',.slice ta' tl' tc'] 37)).drew.cell? ⟨w.heap.size,3,none⟩=some (.int .i64 f.rank) from HA0.out.cell 3)
 have HM4:=Zhd (show((w.alloc (.cells #[.slice na nl nc,.int .i64 f.typ,.int .i64 f.kind,.int .i64 f.rank,.int .i64 f.got,.int .i64 f.ttl,.slice sa sl sc,.slice za zl zc,.slice ba bl bc,.slice ha hl hc,.slice ma ml mc,.slice xa xl xc,.slice ta tl tc] 37)).alloc (.cells #[.slice na' nl' nc',.int .i64 g.typ,.int .i64 g.kind,.int .i64 g.rank,.int .i64 g.got,.int .i64 g.ttl,.slice sa' sl' sc',.slice za' zl' zc',.slice ba' bl' bc',.slice ha' hl' hc',.slice ma' ml' mc',.slice xa' xl' xc',.slice ta' tl' tc'] 37)).drew.cell? ⟨w.heap.size,4,none⟩=some (.int .i64 f.got) from HA0.out.cell 4)
 have HM5:=Zhd (show((w.alloc (.cells #[.slice na nl nc,.int .i64 f.typ,.int .i64 f.kind,.int .i64 f.rank,.int .i64 f.got,.int .i64 f.ttl,.slice sa sl sc,.slice za zl zc,.slice ba bl bc,.slice ha hl hc,.slice ma ml mc,.slice xa xl xc,.slice ta tl tc] 37)).alloc (.cells #[.slice na' nl' nc',.int .i64 g.typ,.int .i64 g.kind,.int .i64 g.rank,.int .i64 g.got,.int .i64 g.ttl,.slice sa' sl' sc',.slice za' zl' zc',.slice ba' bl' bc',.slice ha' hl' hc',.slice ma' ml' mc',.slice xa' xl' xc',.slice ta' tl' tc'] 37)).drew.cell? ⟨w.heap.size,5,none⟩=some (.int .i64 f.ttl) from HA0.out.cell 5)
 have HM6:=Zhd (show((w.alloc (.cells #[.slice na nl nc,.int .i64 f.typ,.int .i64 f.kind,.int .i64 f.rank,.int .i64 f.got,.int .i64 f.ttl,.slice sa sl sc,.slice za zl zc,.slice ba bl bc,.slice ha hl hc,.slice ma ml mc,.slice xa xl xc,.slice ta tl tc] 37)).alloc (.cells #[.slice na' nl' nc',.int .i64 g.typ,.int .i64 g.kind,.int .i64 g.rank,.int .i64 g.got,.int .i64 g.ttl,.slice sa' sl' sc',.slice za' zl' zc',.slice ba' bl' bc',.slice ha' hl' hc',.slice ma' ml' mc',.slice xa' xl' xc',.slice ta' tl' tc'] 37)).drew.cell? ⟨w.heap.size,6,none⟩=some (.slice sa sl sc) from HA0.out.cell 6)
 have HM7:=Zhd (show((w.alloc (.cells #[.slice na nl nc,.int .i64 f.typ,.int .i64 f.kind,.int .i64 f.rank,.int .i64 f.got,.int .i64 f.ttl,.slice sa sl sc,.slice za zl zc,.slice ba bl bc,.slice ha hl hc,.slice ma ml mc,.slice xa xl xc,.slice ta tl tc] 37)).alloc (.cells #[.slice na' nl' nc',.int .i64 g.typ,.int .i64 g.kind,.int .i64 g.rank,.int .i64 g.got,.int .i64 g.ttl,.slice sa' sl' sc',.slice za' zl' zc',.slice ba' bl' bc',.slice ha' hl' hc',.slice ma' ml' mc',.slice xa' xl' xc',.slice ta' tl' tc'] 37)).drew.cell? ⟨w.heap.size,7,none⟩=some (.slice za zl zc) from HA0.out.cell 7)
 have HM8:=Zhd (show((w.alloc (.cells #[.slice na nl nc,.int .i64 f.typ,.int .i64 f.kind,.int .i64 f.rank,.int .i64 f.got,.int .i64 f.ttl,.slice sa sl sc,.slice za zl zc,.slice ba bl bc,.slice ha hl hc,.slice ma ml mc,.slice xa xl xc,.slice ta tl tc] 37)).alloc (.cells #[.slice na' nl' nc',.int .i64 g.typ,.int .i64 g.kind,.int .i64 g.rank,.int .i64 g.got,.int .i64 g.ttl,.slice sa' sl' sc',.slice za' zl' zc',.slice ba' bl' bc',.slice ha' hl' hc',.slice ma' ml' mc',.slice xa' xl' xc',.slice ta' tl' tc'] 37)).drew.cell? ⟨w.heap.size,8,none⟩=some (.slice ba bl bc) from HA0.out.cell 8)
 have HM9:=Zhd (show((w.alloc (.cells #[.slice na nl nc,.int .i64 f.typ,.int .i64 f.kind,.int .i64 f.rank,.int .i64 f.got,.int .i64 f.ttl,.slice sa sl sc,.slice za zl zc,.slice ba bl bc,.slice ha hl hc,.slice ma ml mc,.slice xa xl xc,.slice ta tl tc] 37)).alloc (.cells #[.slice na' nl' nc',.int .i64 g.typ,.int .i64 g.kind,.int .i64 g.rank,.int .i64 g.got,.int .i64 g.ttl,.slice sa' sl' sc',.slice za' zl' zc',.slice ba' bl' bc',.slice ha' hl' hc',.slice ma' ml' mc',.slice xa' xl' xc',.slice ta' tl' tc'] 37)).drew.cell? ⟨w.heap.size,9,none⟩=some (.slice ha hl hc) from HA0.out.cell 9)
 have HM10:=Zhd (show((w.alloc (.cells #[.slice na nl nc,.int .i64 f.typ,.int .i64 f.kind,.int .i64 f.rank,.int .i64 f.got,.int .i64 f.ttl,.slice sa sl sc,.slice za zl zc,.slice ba bl bc,.slice ha hl hc,.slice ma ml mc,.slice xa xl xc,.slice ta tl tc] 37)).alloc (.cells #[.slice na' nl' nc',.int .i64 g.typ,.int .i64 g.kind,.int .i64 g.rank,.int .i64 g.got,.int .i64 g.ttl,.slice sa' sl' sc',.slice za' zl' zc',.slice ba' bl' bc',.slice ha' hl' hc',.slice ma' ml' mc',.slice xa' xl' xc',.slice ta' tl' tc'] 37)).drew.cell? ⟨w.heap.size,10,none⟩=some (.slice ma ml mc) from HA0.out.cell 10)
 have HM11:=Zhd (show((w.alloc (.cells #[.slice na nl nc,.int .i64 f.typ,.int .i64 f.kind,.int .i64 f.rank,.int .i64 f.got,.int .i64 f.ttl,.slice sa sl sc,.slice za zl zc,.slice ba bl bc,.slice ha hl hc,.slice ma ml mc,.slice xa xl xc,.slice ta tl tc] 37)).alloc (.cells #[.slice na' nl' nc',.int .i64 g.typ,.int .i64 g.kind,.int .i64 g.rank,.int .i64 g.got,.int .i64 g.ttl,.slice sa' sl' sc',.slice za' zl' zc',.slice ba' bl' bc',.slice ha' hl' hc',.slice ma' ml' mc',.slice xa' xl' xc',.slice ta' tl' tc'] 37)).drew.cell? ⟨w.heap.size,11,none⟩=some (.slice xa xl xc) from HA0.out.cell 11)
 have HM12:=Zhd (show((w.alloc (.cells #[.slice na nl nc,.int .i64 f.typ,.int .i64 f.kind,.int .i64 f.rank,.int .i64 f.got,.int .i64 f.ttl,.slice sa sl sc,.slice za zl zc,.slice ba bl bc,.slice ha hl hc,.slice ma ml mc,.slice xa xl xc,.slice ta tl tc] 37)).alloc (.cells #[.slice na' nl' nc',.int .i64 g.typ,.int .i64 g.kind,.int .i64 g.rank,.int .i64 g.got,.int .i64 g.ttl,.slice sa' sl' sc',.slice za' zl' zc',.slice ba' bl' bc',.slice ha' hl' hc',.slice ma' ml' mc',.slice xa' xl' xc',.slice ta' tl' tc'] 37)).drew.cell? ⟨w.heap.size,12,none⟩=some (.slice ta tl tc) from HA0.out.cell 12)
 have HN0:=Zhd (show((w.alloc (.cells #[.slice na nl nc,.int .i64 f.typ,.int .i64 f.kind,.int .i64 f.rank,.int .i64 f.got,.int .i64 f.ttl,.slice sa sl sc,.slice za zl zc,.slice ba bl bc,.slice ha hl hc,.slice ma ml mc,.slice xa xl xc,.slice ta tl tc] 37)).alloc (.cells #[.slice na' nl' nc',.int .i64 g.typ,.int .i64 g.kind,.int .i64 g.rank,.int .i64 g.got,.int .i64 g.ttl,.slice sa' sl' sc',.slice za' zl' zc',.slice ba' bl' bc',.slice ha' hl' hc',.slice ma' ml' mc',.slice xa' xl' xc',.slice ta' tl' tc'] 37)).drew.cell? ⟨(w.heap.size+1),0,none⟩=some (.slice na' nl' nc') from HD0.out.cell 0)
 have HN1:=Zhd (show((w.alloc (.cells #[.slice na nl nc,.int .i64 f.typ,.int .i64 f.kind,.int .i64 f.rank,.int .i64 f.got,.int .i64 f.ttl,.slice sa sl sc,.slice za zl zc,.slice ba bl bc,.slice ha hl hc,.slice ma ml mc,.slice xa xl xc,.slice ta tl tc] 37)).alloc (.cells #[.slice na' nl' nc',.int .i64 g.typ,.int .i64 g.kind,.int .i64 g.rank,.int .i64 g.got,.int .i64 g.ttl,.slice sa' sl' sc',.slice za' zl' zc',.slice ba' bl' bc',.slice ha' hl' hc',.slice ma' ml' mc',.slice xa' xl' xc',.slice ta' tl' tc'] 37)).drew.cell? ⟨(w.heap.size+1),1,none⟩=some (.int .i64 g.typ) from HD0.out.cell 1)
 have HN2:=Zhd (show((w.alloc (.cells #[.slice na nl nc,.int .i64 f.typ,.int .i64 f.kind,.int .i64 f.rank,.int .i64 f.got,.int .i64 f.ttl,.slice sa sl sc,.slice za zl zc,.slice ba bl bc,.slice ha hl hc,.slice ma ml mc,.slice xa xl xc,.slice ta tl tc] 37)).alloc (.cells #[.slice na' nl' nc',.int .i64 g.typ,.int .i64 g.kind,.int .i64 g.rank,.int .i64 g.got,.int .i64 g.ttl,.slice sa' sl' sc',.slice za' zl' zc',.slice ba' bl' bc',.slice ha' hl' hc',.slice ma' ml' mc',.slice xa' xl' xc',.slice ta' tl' tc'] 37)).drew.cell? ⟨(w.heap.size+1),2,none⟩=some (.int .i64 g.kind) from HD0.out.cell 2)
 have HN3:=Zhd (show((w.alloc (.cells #[.slice na nl nc,.int .i64 f.typ,.int .i64 f.kind,.int .i64 f.rank,.int .i64 f.got,.int .i64 f.ttl,.slice sa sl sc,.slice za zl zc,.slice ba bl bc,.slice ha hl hc,.slice ma ml mc,.slice xa xl xc,.slice ta tl tc] 37)).alloc (.cells #[.slice na' nl' nc',.int .i64 g.typ,.int .i64 g.kind,.int .i64 g.rank,.int .i64 g.got,.int .i64 g.ttl,.slice sa' sl' sc',.slice za' zl' zc',.slice ba' bl' bc',.slice ha' hl' hc',.slice ma' ml' mc',.slice xa' xl' xc',.slice ta' tl' tc'] 37)).drew.cell? ⟨(w.heap.size+1),3,none⟩=some (.int .i64 g.rank) from HD0.out.cell 3)
 have HN4:=Zhd (show((w.alloc (.cells #[.slice na nl nc,.int .i64 f.typ,.int .i64 f.kind,.int .i64 f.rank,.int .i64 f.got,.int .i64 f.ttl,.slice sa sl sc,.slice za zl zc,.slice ba bl bc,.slice ha hl hc,.slice ma ml mc,.slice xa xl xc,.slice ta tl tc] 37)).alloc (.cells #[.slice na' nl' nc',.int .i64 g.typ,.int .i64 g.kind,.int .i64 g.rank,.int .i64 g.got,.int .i64 g.ttl,.slice sa' sl' sc',.slice za' zl' zc',.slice ba' bl' bc',.slice ha' hl' hc',.slice ma' ml' mc',.slice xa' xl' xc',.slice ta' tl' tc'] 37)).drew.cell? ⟨(w.heap.size+1),4,none⟩=some (.int .i64 g.got) from HD0.out.cell 4)
 have HN5:=Zhd (show((w.alloc (.cells #[.slice na nl nc,.int .i64 f.typ,.int .i64 f.kind,.int .i64 f.rank,.int .i64 f.got,.int .i64 f.ttl,.slice sa sl sc,.slice za zl zc,.slice ba bl bc,.slice ha hl hc,.slice ma ml mc,.slice xa xl xc,.slice ta tl tc] 37)).alloc (.cells #[.slice na' nl' nc',.int .i64 g.typ,.int .i64 g.kind,.int .i64 g.rank,.int .i64 g.got,.int .i64 g.ttl,.slice sa' sl' sc',.slice za' zl' zc',.slice ba' bl' bc',.slice ha' hl' hc',.slice ma' ml' mc',.slice xa' xl' xc',.slice ta' tl' tc'] 37)).drew.cell? ⟨(w.heap.size+1),5,none⟩=some (.int .i64 g.ttl) from HD0.out.cell 5)
 have HN6:=Zhd (show((w.alloc (.cells #[.slice na nl nc,.int .i64 f.typ,.int .i64 f.kind,.int .i64 f.rank,.int .i64 f.got,.int .i64 f.ttl,.slice sa sl sc,.slice za zl zc,.slice ba bl bc,.slice ha hl hc,.slice ma ml mc,.slice xa xl xc,.slice ta tl tc] 37)).alloc (.cells #[.slice na' nl' nc',.int .i64 g.typ,.int .i64 g.kind,.int .i64 g.rank,.int .i64 g.got,.int .i64 g.ttl,.slice sa' sl' sc',.slice za' zl' zc',.slice ba' bl' bc',.slice ha' hl' hc',.slice ma' ml' mc',.slice xa' xl' xc',.slice ta' tl' tc'] 37)).drew.cell? ⟨(w.heap.size+1),6,none⟩=some (.slice sa' sl' sc') from HD0.out.cell 6)
 have HN7:=Zhd (show((w.alloc (.cells #[.slice na nl nc,.int .i64 f.typ,.int .i64 f.kind,.int .i64 f.rank,.int .i64 f.got,.int .i64 f.ttl,.slice sa sl sc,.slice za zl zc,.slice ba bl bc,.slice ha hl hc,.slice ma ml mc,.slice xa xl xc,.slice ta tl tc] 37)).alloc (.cells #[.slice na' nl' nc',.int .i64 g.typ,.int .i64 g.kind,.int .i64 g.rank,.int .i64 g.got,.int .i64 g.ttl,.slice sa' sl' sc',.slice za' zl' zc',.slice ba' bl' bc',.slice ha' hl' hc',.slice ma' ml' mc',.slice xa' xl' xc',.slice ta' tl' tc'] 37)).drew.cell? ⟨(w.heap.size+1),7,none⟩=some (.slice za' zl' zc') from HD0.out.cell 7)
 have HN8:=Zhd (show((w.alloc (.cells #[.slice na nl nc,.int .i64 f.typ,.int .i64 f.kind,.int .i64 f.rank,.int .i64 f.got,.int .i64 f.ttl,.slice sa sl sc,.slice za zl zc,.slice ba bl bc,.slice ha hl hc,.slice ma ml mc,.slice xa xl xc,.slice ta tl tc] 37)).alloc (.cells #[.slice na' nl' nc',.int .i64 g.typ,.int .i64 g.kind,.int .i64 g.rank,.int .i64 g.got,.int .i64 g.ttl,.slice sa' sl' sc',.slice za' zl' zc',.slice ba' bl' bc',.slice ha' hl' hc',.slice ma' ml' mc',.slice xa' xl' xc',.slice ta' tl' tc'] 37)).drew.cell? ⟨(w.heap.size+1),8,none⟩=some (.slice ba' bl' bc') from HD0.out.cell 8)
 have HN9:=Zhd (show((w.alloc (.cells #[.slice na nl nc,.int .i64 f.typ,.int .i64 f.kind,.int .i64 f.rank,.int .i64 f.got,.int .i64 f.ttl,.slice sa sl sc,.slice za zl zc,.slice ba bl bc,.slice ha hl hc,.slice ma ml mc,.slice xa xl xc,.slice ta tl tc] 37)).alloc (.cells #[.slice na' nl' nc',.int .i64 g.typ,.int .i64 g.kind,.int .i64 g.rank,.int .i64 g.got,.int .i64 g.ttl,.slice sa' sl' sc',.slice za' zl' zc',.slice ba' bl' bc',.slice ha' hl' hc',.slice ma' ml' mc',.slice xa' xl' xc',.slice ta' tl' tc'] 37)).drew.cell? ⟨(w.heap.size+1),9,none⟩=some (.slice ha' hl' hc') from HD0.out.cell 9)
 have HN10:=Zhd (show((w.alloc (.cells #[.slice na nl nc,.int .i64 f.typ,.int .i64 f.kind,.int .i64 f.rank,.int .i64 f.got,.int .i64 f.ttl,.slice sa sl sc,.slice za zl zc,.slice ba bl bc,.slice ha hl hc,.slice ma ml mc,.slice xa xl xc,.slice ta tl tc] 37)).alloc (.cells #[.slice na' nl' nc',.int .i64 g.typ,.int .i64 g.kind,.int .i64 g.rank,.int .i64 g.got,.int .i64 g.ttl,.slice sa' sl' sc',.slice za' zl' zc',.slice ba' bl' bc',.slice ha' hl' hc',.slice ma' ml' mc',.slice xa' xl' xc',.slice ta' tl' tc'] 37)).drew.cell? ⟨(w.heap.size+1),10,none⟩=some (.slice ma' ml' mc') from HD0.out.cell 10)
 have HN11:=Zhd (show((w.alloc (.cells #[.slice na nl nc,.int .i64 f.typ,.int .i64 f.kind,.int .i64 f.rank,.int .i64 f.got,.int .i64 f.ttl,.slice sa sl sc,.slice za zl zc,.slice ba bl bc,.slice ha hl hc,.slice ma ml mc,.slice xa xl xc,.slice ta tl tc] 37)).alloc (.cells #[.slice na' nl' nc',.int .i64 g.typ,.int .i64 g.kind,.int .i64 g.rank,.int .i64 g.got,.int .i64 g.ttl,.slice sa' sl' sc',.slice za' zl' zc',.slice ba' bl' bc',.slice ha' hl' hc',.slice ma' ml' mc',.slice xa' xl' xc',.slice ta' tl' tc'] 37)).drew.cell? ⟨(w.heap.size+1),11,none⟩=some (.slice xa' xl' xc') from HD0.out.cell 11)
 have HN12:=Zhd (show((w.alloc (.cells #[.slice na nl nc,.int .i64 f.typ,.int .i64 f.kind,.int .i64 f.rank,.int .i64 f.got,.int .i64 f.ttl,.slice sa sl sc,.slice za zl zc,.slice ba bl bc,.slice ha hl hc,.slice ma ml mc,.slice xa xl xc,.slice ta tl tc] 37)).alloc (.cells #[.slice na' nl' nc',.int .i64 g.typ,.int .i64 g.kind,.int .i64 g.rank,.int .i64 g.got,.int .i64 g.ttl,.slice sa' sl' sc',.slice za' zl' zc',.slice ba' bl' bc',.slice ha' hl' hc',.slice ma' ml' mc',.slice xa' xl' xc',.slice ta' tl' tc'] 37)).drew.cell? ⟨(w.heap.size+1),12,none⟩=some (.slice ta' tl' tc') from HD0.out.cell 12)
 go_enter Tryz.func60,Tryz.ntmps60
 simp only[Zaj]
 go_wp2_with fail
 obtain⟨X2,hX2⟩:∃ q:Bool,q=FB:=⟨_,rfl⟩
 have HX2:=Zhd hX2
 clear hX2
 obtain⟨X5,hX5⟩:∃ q:Bool,q=(X2&&GB):=⟨_,rfl⟩
 have HX5:=Zhd hX5
 clear hX5
 obtain⟨X6,hX6⟩:∃ q:Bool,q=X5:=⟨_,rfl⟩
 have HX6:=Zhd hX6
 clear hX6
 obtain⟨X9,hX9⟩:∃ q:Bool,q=(X6&&TB):=⟨_,rfl⟩
 have HX9:=Zhd hX9
 clear hX9
 obtain⟨X10,hX10⟩:∃ q:Bool,q=X9:=⟨_,rfl⟩
 have HX10:=Zhd hX10
 clear hX10
 obtain⟨X16,hX16⟩:∃ q:Bool,q=(X10&&(K1.toList==K2.toList)):=⟨_,rfl⟩
 have HX16:=Zhd hX16
 clear hX16
 obtain⟨X17,hX17⟩:∃ q:Bool,q=X16:=⟨_,rfl⟩
 have HX17:=Zhd hX17
 clear hX17
 obtain⟨X23,hX23⟩:∃ q:Bool,q=(decide (f.rank≤g.rank)):=⟨_,rfl⟩
 have HX23:=Zhd hX23
 clear hX23
 obtain⟨X31,hX31⟩:∃ q:Bool,q=(X23||(!RB)):=⟨_,rfl⟩
 have HX31:=Zhd hX31
 clear hX31
 obtain⟨X32,hX32⟩:∃ q:Bool,q=(X17&&X31):=⟨_,rfl⟩
 have HX32:=Zhd hX32
 clear hX32
 have HSX:=Zhd (fun (e:X10=true)=>show FB=true∧GB=true by
  simp only[HX10.out,HX9.out,HX6.out,HX5.out,HX2.out,Zae2] at e
  exact⟨e.1.1,e.1.2⟩)
 refine Zcs (m:=40) (by kernel_rfl) (fun x y=>Below x.heap.size x y) (fun i v xw=>match i with|0=>v= .agg #[.slice na nl nc,.int .i64 f.typ,.int .i64 f.kind,.int .i64 f.rank,.int .i64 f.got,.int .i64 f.ttl,.slice sa sl sc,.slice za zl zc,.slice ba bl bc,.slice ha hl hc,.slice ma ml mc,.slice xa xl xc,.slice ta tl tc]|1=>v= .bool FB|2=>v= .bool X2|3=>v=(bif X2 then(.agg #[.slice na' nl' nc',.int .i64 g.typ,.int .i64 g.kind,.int .i64 g.rank,.int .i64 g.got,.int .i64 g.ttl,.slice sa' sl' sc',.slice za' zl' zc',.slice ba' bl' bc',.slice ha' hl' hc',.slice ma' ml' mc',.slice xa' xl' xc',.slice ta' tl' tc']) else undef)|4=>v=(bif X2 then(.bool GB) else undef)|5=>v= .bool X5|6=>v= .bool X6|7=>v=(bif X6 then(.int .i64 now) else undef)|8=>v=(bif X6 then(.bool TB) else undef)|9=>v= .bool X9|10=>v= .bool X10|11=>v=(bif X10 then(.agg #[.slice na nl nc,.int .i64 f.typ,.int .i64 f.kind,.int .i64 f.rank,.int .i64 f.got,.int .i64 f.ttl,.slice sa sl sc,.slice za zl zc,.slice ba bl bc,.slice ha hl hc,.slice ma ml mc,.slice xa xl xc,.slice ta tl tc]) else undef)|12=>v=(bif X10 then(.string K1) else undef)|13=>v=(bif X10 then(.agg #[.slice na' nl' nc',.int .i64 g.typ,.int .i64 g.kind,.int .i64 g.rank,.int .i64 g.got,.int .i64 g.ttl,.slice sa' sl' sc',.slice za' zl' zc',.slice ba' bl' bc',.slice ha' hl' hc',.slice ma' ml' mc',.slice xa' xl' xc',.slice ta' tl' tc']) else undef)|14=>v=(bif X10 then(.string K2) else undef)|15=>v=(bif X10 then(.bool (K1.toList==K2.toList)) else undef)|16=>v= .bool X16|17=>v= .bool X17|18=>v=(bif X17 then(.pointer (some ⟨(w.heap.size+1),3,none⟩)) else undef)|19=>v=(bif X17 then(.int .i64 g.rank) else undef)|20=>v=(bif X17 then(.pointer (some ⟨w.heap.size,3,none⟩)) else undef)|21=>v=(bif X17 then(.int .i64 f.rank) else undef)|22=>v=(bif X17 then(.bool (decide (f.rank≤g.rank))) else undef)|23=>v=(bif X17 then(.bool X23) else undef)|24=>v=(bif X17 then((bif X23 then undef else(.pointer (some ⟨w.heap.size,4,none⟩)))) else undef)|25=>v=(bif X17 then((bif X23 then undef else(.int .i64 f.got))) else undef)|26=>v=(bif X17 then((bif X23 then undef else(.pointer (some ⟨w.heap.size,5,none⟩)))) else undef)|27=>v=(bif X17 then((bif X23 then undef else(.int .i64 f.ttl))) else undef)|28=>v=(bif X17 then((bif X23 then undef else(.int .i64 now))) else undef)|29=>v=(bif X17 then((bif X23 then undef else(.bool RB))) else undef)|30=>v=(bif X17 then((bif X23 then undef else(.bool (!RB)))) else undef)|31=>v=(bif X17 then(.bool X31) else undef)|32=>v= .bool X32|33=>v= .bool X32|_=>True) rfl (by kernel_rfl) (fun _ _ _ h1 h2=>Zaa h1 h2 Zlr) Zbr (fun _ _ _ _ h _=>h) (Zc8 34 (by kernel_rfl) (fun _ _ h=>h)) ?_ ?_
 rotate_left
 ·intro a W hR hS hdep
  have e6:a.tmps.getD 6 undef= .bool X32:=hdep 33 (by decide+kernel)
  obtain⟨T,df⟩:=a
  obtain rfl:df=[]:=hS.defers
  have hT:=Zcy T 40 hS.size;simp only[List.range,List.range.loop,List.map_cons,List.map_nil] at hT
  have k6:T.getD 6 undef= .bool X32:=e6
  clear hS hdep
  rw[hT]
  rw[k6]
  clear k6 e6
  clear hT
  generalize T.getD 0 undef=u0
  generalize T.getD 1 undef=u1
  generalize T.getD 2 undef=u2
  generalize T.getD 3 undef=u3
  generalize T.getD 4 undef=u4
  generalize T.getD 5 undef=u5
  generalize T.getD 7 undef=u7
  generalize T.getD 8 undef=u8
  generalize T.getD 9 undef=u9
  generalize T.getD 10 undef=u10
  generalize T.getD 11 undef=u11
  generalize T.getD 12 undef=u12
  generalize T.getD 13 undef=u13
  generalize T.getD 14 undef=u14
  generalize T.getD 15 undef=u15
  generalize T.getD 16 undef=u16
  generalize T.getD 17 undef=u17
  generalize T.getD 18 undef=u18
  generalize T.getD 19 undef=u19
  generalize T.getD 20 undef=u20
  generalize T.getD 21 undef=u21
  generalize T.getD 22 undef=u22
  generalize T.getD 23 undef=u23
  generalize T.getD 24 undef=u24
  generalize T.getD 25 undef=u25
  generalize T.getD 26 undef=u26
  generalize T.getD 27 undef=u27
  generalize T.getD 28 undef=u28
  generalize T.getD 29 undef=u29
  generalize T.getD 30 undef=u30
  generalize T.getD 31 undef=u31
  generalize T.getD 32 undef=u32
  generalize T.getD 33 undef=u33
  generalize T.getD 34 undef=u34
  generalize T.getD 35 undef=u35
  generalize T.getD 36 undef=u36
  generalize T.getD 37 undef=u37
  generalize T.getD 38 undef=u38
  generalize T.getD 39 undef=u39
  have HR:=Zhd (Zaa HB0.out (Zaa (Below.drew Zbr) hR Zlr) Zlr)
  have HVB:=Zhd (show X32=B by
   rw[HBE.out]
   simp only[HX32.out,HX17.out,HX31.out,HX16.out,HX23.out,HX10.out,HX9.out,HX6.out,HX5.out,HX2.out]
   generalize (K1.toList==K2.toList)=y1
   generalize decide (f.rank≤g.rank)=y2
   cases FB<;>cases GB<;>cases TB<;>cases y1<;>cases y2<;>cases RB<;>rfl)
  clear hR
  go_wp2_with fail
  go_ret
  exact⟨Zaf HVB.out,HR.out⟩
 refine Zac rfl rfl (fun a W hR hS hdep K hK=>?_) ?_
 ·have e3:a.tmps[3]?.getD undef= .pointer (some ⟨w.heap.size,0,none⟩):=Zad (hS.keep 3 (by kernel_rfl))
  have m0:=Zab hR HM0.out
  have m1:=Zab hR HM1.out
  have m2:=Zab hR HM2.out
  have m3:=Zab hR HM3.out
  have m4:=Zab hR HM4.out
  have m5:=Zab hR HM5.out
  have m6:=Zab hR HM6.out
  have m7:=Zab hR HM7.out
  have m8:=Zab hR HM8.out
  have m9:=Zab hR HM9.out
  have m10:=Zab hR HM10.out
  have m11:=Zab hR HM11.out
  have m12:=Zab hR HM12.out
  go_simp
  exact hK _ _ Zbr (by first|rfl|simp)
 refine Zac rfl rfl (fun a W hR hS hdep K hK=>?_) ?_
 ·have e7:a.tmps[7]?.getD undef= .agg #[.slice na nl nc,.int .i64 f.typ,.int .i64 f.kind,.int .i64 f.rank,.int .i64 f.got,.int .i64 f.ttl,.slice sa sl sc,.slice za zl zc,.slice ba bl bc,.slice ha hl hc,.slice ma ml mc,.slice xa xl xc,.slice ta tl tc]:=Zad (hdep 0 (by decide+kernel))
  go_simp
  have hbx:=Zaa (B:=((w.alloc (.cells #[.slice na nl nc,.int .i64 f.typ,.int .i64 f.kind,.int .i64 f.rank,.int .i64 f.got,.int .i64 f.ttl,.slice sa sl sc,.slice za zl zc,.slice ba bl bc,.slice ha hl hc,.slice ma ml mc,.slice xa xl xc,.slice ta tl tc] 37)).alloc (.cells #[.slice na' nl' nc',.int .i64 g.typ,.int .i64 g.kind,.int .i64 g.rank,.int .i64 g.got,.int .i64 g.ttl,.slice sa' sl' sc',.slice za' zl' zc',.slice ba' bl' bc',.slice ha' hl' hc',.slice ma' ml' mc',.slice xa' xl' xc',.slice ta' tl' tc'] 37)).heap.size) (Below.drew Zbr) hR Zlr
  refine(HFB.out _ (HF0.out.on hbx)).mono ?_
  rintro e W' ⟨rfl,hb⟩
  exact hK _ _ hb rfl
 refine Zac rfl rfl (fun a W hR hS hdep K hK=>?_) ?_
 ·have e8:a.tmps[8]?.getD undef= .bool FB:=Zad (hdep 1 (by decide+kernel))
  go_simp
  exact hK _ _ Zbr (by first|rfl|(rw[HX2.out];rfl)|(rw[HX2.out];simp)|simp[HX2.out])
 refine Zac rfl rfl (fun a W hR hS hdep K hK=>?_) ?_
 ·have e4:a.tmps[4]?.getD undef= .pointer (some ⟨(w.heap.size+1),0,none⟩):=Zad (hS.keep 4 (by kernel_rfl))
  have e9:a.tmps[9]?.getD undef= .bool X2:=Zad (hdep 2 (by decide+kernel))
  have g9:a.tmps[9]?=some (.bool X2):=Zau (show _=40 from hS.size) (by decide) (hdep 2 (by decide+kernel))
  have m0:=Zab hR HN0.out
  have m1:=Zab hR HN1.out
  have m2:=Zab hR HN2.out
  have m3:=Zab hR HN3.out
  have m4:=Zab hR HN4.out
  have m5:=Zab hR HN5.out
  have m6:=Zab hR HN6.out
  have m7:=Zab hR HN7.out
  have m8:=Zab hR HN8.out
  have m9:=Zab hR HN9.out
  have m10:=Zab hR HN10.out
  have m11:=Zab hR HN11.out
  have m12:=Zab hR HN12.out
  try clear hS
  all_goals (cases X2)
  all_goals
   try dsimp only[cond] at*
   go_simp
   exact hK _ _ Zbr (by first|rfl|simp)
 refine Zac rfl rfl (fun a W hR hS hdep K hK=>?_) ?_
 ·have e10:a.tmps[10]?.getD undef=(bif X2 then(.agg #[.slice na' nl' nc',.int .i64 g.typ,.int .i64 g.kind,.int .i64 g.rank,.int .i64 g.got,.int .i64 g.ttl,.slice sa' sl' sc',.slice za' zl' zc',.slice ba' bl' bc',.slice ha' hl' hc',.slice ma' ml' mc',.slice xa' xl' xc',.slice ta' tl' tc']) else undef):=Zad (hdep 3 (by decide+kernel))
  have e9:a.tmps[9]?.getD undef= .bool X2:=Zad (hdep 2 (by decide+kernel))
  have g9:a.tmps[9]?=some (.bool X2):=Zau (show _=40 from hS.size) (by decide) (hdep 2 (by decide+kernel))
  try clear hS
  all_goals (cases X2)
  all_goals
   try dsimp only[cond] at*
   first
   |(go_simp
     exact hK _ _ Zbr rfl)
   |(go_simp
     have hbx:=Zaa (B:=((w.alloc (.cells #[.slice na nl nc,.int .i64 f.typ,.int .i64 f.kind,.int .i64 f.rank,.int .i64 f.got,.int .i64 f.ttl,.slice sa sl sc,.slice za zl zc,.slice ba bl bc,.slice ha hl hc,.slice ma ml mc,.slice xa xl xc,.slice ta tl tc] 37)).alloc (.cells #[.slice na' nl' nc',.int .i64 g.typ,.int .i64 g.kind,.int .i64 g.rank,.int .i64 g.got,.int .i64 g.ttl,.slice sa' sl' sc',.slice za' zl' zc',.slice ba' bl' bc',.slice ha' hl' hc',.slice ma' ml' mc',.slice xa' xl' xc',.slice ta' tl' tc'] 37)).heap.size) (Below.drew Zbr) hR Zlr
     refine(HGB.out _ (HG0.out.on hbx)).mono ?_
     rintro e W' ⟨rfl,hb⟩
     exact hK _ _ hb rfl)
 refine Zac rfl rfl (fun a W hR hS hdep K hK=>?_) ?_
 ·have e9:a.tmps[9]?.getD undef= .bool X2:=Zad (hdep 2 (by decide+kernel))
  have e11:a.tmps[11]?.getD undef=(bif X2 then(.bool GB) else undef):=Zad (hdep 4 (by decide+kernel))
  try clear hS
  all_goals (cases X2)
  all_goals
   try dsimp only[cond] at*
   go_simp
   exact hK _ _ Zbr (by first|rfl|(rw[HX5.out];rfl)|(rw[HX5.out];simp)|simp[HX5.out])
 refine Zac rfl rfl (fun a W hR hS hdep K hK=>?_) ?_
 ·have e12:a.tmps[12]?.getD undef= .bool X5:=Zad (hdep 5 (by decide+kernel))
  go_simp
  exact hK _ _ Zbr (by first|rfl|(rw[HX6.out];rfl)|(rw[HX6.out];simp)|simp[HX6.out])
 refine Zac rfl rfl (fun a W hR hS hdep K hK=>?_) ?_
 ·have e2:a.tmps[2]?.getD undef= .int .i64 now:=Zad (hS.keep 2 (by kernel_rfl))
  have e13:a.tmps[13]?.getD undef= .bool X6:=Zad (hdep 6 (by decide+kernel))
  have g13:a.tmps[13]?=some (.bool X6):=Zau (show _=40 from hS.size) (by decide) (hdep 6 (by decide+kernel))
  try clear hS
  all_goals (cases X6)
  all_goals
   try dsimp only[cond] at*
   go_simp
   exact hK _ _ Zbr (by first|rfl|simp)
 refine Zac rfl rfl (fun a W hR hS hdep K hK=>?_) ?_
 ·have e14:a.tmps[14]?.getD undef=(bif X6 then(.int .i64 now) else undef):=Zad (hdep 7 (by decide+kernel))
  have e13:a.tmps[13]?.getD undef= .bool X6:=Zad (hdep 6 (by decide+kernel))
  have g13:a.tmps[13]?=some (.bool X6):=Zau (show _=40 from hS.size) (by decide) (hdep 6 (by decide+kernel))
  try clear hS
  all_goals (cases X6)
  all_goals
   try dsimp only[cond] at*
   first
   |(go_simp
     exact hK _ _ Zbr rfl)
   |(go_simp
     have hbx:=Zaa (B:=((w.alloc (.cells #[.slice na nl nc,.int .i64 f.typ,.int .i64 f.kind,.int .i64 f.rank,.int .i64 f.got,.int .i64 f.ttl,.slice sa sl sc,.slice za zl zc,.slice ba bl bc,.slice ha hl hc,.slice ma ml mc,.slice xa xl xc,.slice ta tl tc] 37)).alloc (.cells #[.slice na' nl' nc',.int .i64 g.typ,.int .i64 g.kind,.int .i64 g.rank,.int .i64 g.got,.int .i64 g.ttl,.slice sa' sl' sc',.slice za' zl' zc',.slice ba' bl' bc',.slice ha' hl' hc',.slice ma' ml' mc',.slice xa' xl' xc',.slice ta' tl' tc'] 37)).heap.size) (Below.drew Zbr) hR Zlr
     refine(HTB.out _).mono ?_
     rintro e W' ⟨rfl,rfl⟩
     exact hK _ _ Zbr rfl)
 refine Zac rfl rfl (fun a W hR hS hdep K hK=>?_) ?_
 ·have e13:a.tmps[13]?.getD undef= .bool X6:=Zad (hdep 6 (by decide+kernel))
  have e15:a.tmps[15]?.getD undef=(bif X6 then(.bool TB) else undef):=Zad (hdep 8 (by decide+kernel))
  try clear hS
  all_goals (cases X6)
  all_goals
   try dsimp only[cond] at*
   go_simp
   exact hK _ _ Zbr (by first|rfl|(rw[HX9.out];rfl)|(rw[HX9.out];simp)|simp[HX9.out])
 refine Zac rfl rfl (fun a W hR hS hdep K hK=>?_) ?_
 ·have e16:a.tmps[16]?.getD undef= .bool X9:=Zad (hdep 9 (by decide+kernel))
  go_simp
  exact hK _ _ Zbr (by first|rfl|(rw[HX10.out];rfl)|(rw[HX10.out];simp)|simp[HX10.out])
 refine Zac rfl rfl (fun a W hR hS hdep K hK=>?_) ?_
 ·have e3:a.tmps[3]?.getD undef= .pointer (some ⟨w.heap.size,0,none⟩):=Zad (hS.keep 3 (by kernel_rfl))
  have e17:a.tmps[17]?.getD undef= .bool X10:=Zad (hdep 10 (by decide+kernel))
  have g17:a.tmps[17]?=some (.bool X10):=Zau (show _=40 from hS.size) (by decide) (hdep 10 (by decide+kernel))
  have m0:=Zab hR HM0.out
  have m1:=Zab hR HM1.out
  have m2:=Zab hR HM2.out
  have m3:=Zab hR HM3.out
  have m4:=Zab hR HM4.out
  have m5:=Zab hR HM5.out
  have m6:=Zab hR HM6.out
  have m7:=Zab hR HM7.out
  have m8:=Zab hR HM8.out
  have m9:=Zab hR HM9.out
  have m10:=Zab hR HM10.out
  have m11:=Zab hR HM11.out
  have m12:=Zab hR HM12.out
  try clear hS
  all_goals (cases X10)
  all_goals
   try dsimp only[cond] at*
   go_simp
   exact hK _ _ Zbr (by first|rfl|simp)
 refine Zac rfl rfl (fun a W hR hS hdep K hK=>?_) ?_
 ·have e18:a.tmps[18]?.getD undef=(bif X10 then(.agg #[.slice na nl nc,.int .i64 f.typ,.int .i64 f.kind,.int .i64 f.rank,.int .i64 f.got,.int .i64 f.ttl,.slice sa sl sc,.slice za zl zc,.slice ba bl bc,.slice ha hl hc,.slice ma ml mc,.slice xa xl xc,.slice ta tl tc]) else undef):=Zad (hdep 11 (by decide+kernel))
  have e17:a.tmps[17]?.getD undef= .bool X10:=Zad (hdep 10 (by decide+kernel))
  have g17:a.tmps[17]?=some (.bool X10):=Zau (show _=40 from hS.size) (by decide) (hdep 10 (by decide+kernel))
  try clear hS
  all_goals (cases X10)
  all_goals
   try dsimp only[cond] at*
   first
   |(go_simp
     exact hK _ _ Zbr rfl)
   |(go_simp
     have hbx:=Zaa (B:=((w.alloc (.cells #[.slice na nl nc,.int .i64 f.typ,.int .i64 f.kind,.int .i64 f.rank,.int .i64 f.got,.int .i64 f.ttl,.slice sa sl sc,.slice za zl zc,.slice ba bl bc,.slice ha hl hc,.slice ma ml mc,.slice xa xl xc,.slice ta tl tc] 37)).alloc (.cells #[.slice na' nl' nc',.int .i64 g.typ,.int .i64 g.kind,.int .i64 g.rank,.int .i64 g.got,.int .i64 g.ttl,.slice sa' sl' sc',.slice za' zl' zc',.slice ba' bl' bc',.slice ha' hl' hc',.slice ma' ml' mc',.slice xa' xl' xc',.slice ta' tl' tc'] 37)).heap.size) (Below.drew Zbr) hR Zlr
     refine(HK1.out _ (HF0.out.on hbx) (HSF.out (HSX.out rfl).1)).mono ?_
     rintro e W' ⟨rfl,hb⟩
     exact hK _ _ hb rfl)
 refine Zac rfl rfl (fun a W hR hS hdep K hK=>?_) ?_
 ·have e4:a.tmps[4]?.getD undef= .pointer (some ⟨(w.heap.size+1),0,none⟩):=Zad (hS.keep 4 (by kernel_rfl))
  have e17:a.tmps[17]?.getD undef= .bool X10:=Zad (hdep 10 (by decide+kernel))
  have g17:a.tmps[17]?=some (.bool X10):=Zau (show _=40 from hS.size) (by decide) (hdep 10 (by decide+kernel))
  have m0:=Zab hR HN0.out
  have m1:=Zab hR HN1.out
  have m2:=Zab hR HN2.out
  have m3:=Zab hR HN3.out
  have m4:=Zab hR HN4.out
  have m5:=Zab hR HN5.out
  have m6:=Zab hR HN6.out
  have m7:=Zab hR HN7.out
  have m8:=Zab hR HN8.out
  have m9:=Zab hR HN9.out
  have m10:=Zab hR HN10.out
  have m11:=Zab hR HN11.out
  have m12:=Zab hR HN12.out
  try clear hS
  all_goals (cases X10)
  all_goals
   try dsimp only[cond] at*
   go_simp
   exact hK _ _ Zbr (by first|rfl|simp)
 refine Zac rfl rfl (fun a W hR hS hdep K hK=>?_) ?_
 ·have e20:a.tmps[20]?.getD undef=(bif X10 then(.agg #[.slice na' nl' nc',.int .i64 g.typ,.int .i64 g.kind,.int .i64 g.rank,.int .i64 g.got,.int .i64 g.ttl,.slice sa' sl' sc',.slice za' zl' zc',.slice ba' bl' bc',.slice ha' hl' hc',.slice ma' ml' mc',.slice xa' xl' xc',.slice ta' tl' tc']) else undef):=Zad (hdep 13 (by decide+kernel))
  have e17:a.tmps[17]?.getD undef= .bool X10:=Zad (hdep 10 (by decide+kernel))
  have g17:a.tmps[17]?=some (.bool X10):=Zau (show _=40 from hS.size) (by decide) (hdep 10 (by decide+kernel))
  try clear hS
  all_goals (cases X10)
  all_goals
   try dsimp only[cond] at*
   first
   |(go_simp
     exact hK _ _ Zbr rfl)
   |(go_simp
     have hbx:=Zaa (B:=((w.alloc (.cells #[.slice na nl nc,.int .i64 f.typ,.int .i64 f.kind,.int .i64 f.rank,.int .i64 f.got,.int .i64 f.ttl,.slice sa sl sc,.slice za zl zc,.slice ba bl bc,.slice ha hl hc,.slice ma ml mc,.slice xa xl xc,.slice ta tl tc] 37)).alloc (.cells #[.slice na' nl' nc',.int .i64 g.typ,.int .i64 g.kind,.int .i64 g.rank,.int .i64 g.got,.int .i64 g.ttl,.slice sa' sl' sc',.slice za' zl' zc',.slice ba' bl' bc',.slice ha' hl' hc',.slice ma' ml' mc',.slice xa' xl' xc',.slice ta' tl' tc'] 37)).heap.size) (Below.drew Zbr) hR Zlr
     refine(HK2.out _ (HG0.out.on hbx) (HSG.out (HSX.out rfl).2)).mono ?_
     rintro e W' ⟨rfl,hb⟩
     exact hK _ _ hb rfl)
 refine Zac rfl rfl (fun a W hR hS hdep K hK=>?_) ?_
 ·have e19:a.tmps[19]?.getD undef=(bif X10 then(.string K1) else undef):=Zad (hdep 12 (by decide+kernel))
  have e21:a.tmps[21]?.getD undef=(bif X10 then(.string K2) else undef):=Zad (hdep 14 (by decide+kernel))
  have e17:a.tmps[17]?.getD undef= .bool X10:=Zad (hdep 10 (by decide+kernel))
  have g17:a.tmps[17]?=some (.bool X10):=Zau (show _=40 from hS.size) (by decide) (hdep 10 (by decide+kernel))
  try clear hS
  all_goals (cases X10)
  all_goals
   try dsimp only[cond] at*
   go_simp
   exact hK _ _ Zbr (by first|rfl|simp)
 refine Zac rfl rfl (fun a W hR hS hdep K hK=>?_) ?_
 ·have e17:a.tmps[17]?.getD undef= .bool X10:=Zad (hdep 10 (by decide+kernel))
  have e22:a.tmps[22]?.getD undef=(bif X10 then(.bool (K1.toList==K2.toList)) else undef):=Zad (hdep 15 (by decide+kernel))
  try clear hS
  all_goals (cases X10)
  all_goals
   try dsimp only[cond] at*
   go_simp
   exact hK _ _ Zbr (by first|rfl|(rw[HX16.out];rfl)|(rw[HX16.out];simp)|simp[HX16.out])
 refine Zac rfl rfl (fun a W hR hS hdep K hK=>?_) ?_
 ·have e23:a.tmps[23]?.getD undef= .bool X16:=Zad (hdep 16 (by decide+kernel))
  go_simp
  exact hK _ _ Zbr (by first|rfl|(rw[HX17.out];rfl)|(rw[HX17.out];simp)|simp[HX17.out])
 refine Zac rfl rfl (fun a W hR hS hdep K hK=>?_) ?_
 ·have e4:a.tmps[4]?.getD undef= .pointer (some ⟨(w.heap.size+1),0,none⟩):=Zad (hS.keep 4 (by kernel_rfl))
  have e24:a.tmps[24]?.getD undef= .bool X17:=Zad (hdep 17 (by decide+kernel))
  have g24:a.tmps[24]?=some (.bool X17):=Zau (show _=40 from hS.size) (by decide) (hdep 17 (by decide+kernel))
  try clear hS
  all_goals (cases X17)
  all_goals
   try dsimp only[cond] at*
   go_simp
   exact hK _ _ Zbr (by first|rfl|simp)
 refine Zac rfl rfl (fun a W hR hS hdep K hK=>?_) ?_
 ·have e25:a.tmps[25]?.getD undef=(bif X17 then(.pointer (some ⟨(w.heap.size+1),3,none⟩)) else undef):=Zad (hdep 18 (by decide+kernel))
  have e24:a.tmps[24]?.getD undef= .bool X17:=Zad (hdep 17 (by decide+kernel))
  have g24:a.tmps[24]?=some (.bool X17):=Zau (show _=40 from hS.size) (by decide) (hdep 17 (by decide+kernel))
  have m0:=Zab hR HN3.out
  try clear hS
  all_goals (cases X17)
  all_goals
   try dsimp only[cond] at*
   go_simp
   exact hK _ _ Zbr (by first|rfl|simp)
 refine Zac rfl rfl (fun a W hR hS hdep K hK=>?_) ?_
 ·have e3:a.tmps[3]?.getD undef= .pointer (some ⟨w.heap.size,0,none⟩):=Zad (hS.keep 3 (by kernel_rfl))
  have e24:a.tmps[24]?.getD undef= .bool X17:=Zad (hdep 17 (by decide+kernel))
  have g24:a.tmps[24]?=some (.bool X17):=Zau (show _=40 from hS.size) (by decide) (hdep 17 (by decide+kernel))
  try clear hS
  all_goals (cases X17)
  all_goals
   try dsimp only[cond] at*
   go_simp
   exact hK _ _ Zbr (by first|rfl|simp)
 refine Zac rfl rfl (fun a W hR hS hdep K hK=>?_) ?_
 ·have e27:a.tmps[27]?.getD undef=(bif X17 then(.pointer (some ⟨w.heap.size,3,none⟩)) else undef):=Zad (hdep 20 (by decide+kernel))
  have e24:a.tmps[24]?.getD undef= .bool X17:=Zad (hdep 17 (by decide+kernel))
  have g24:a.tmps[24]?=some (.bool X17):=Zau (show _=40 from hS.size) (by decide) (hdep 17 (by decide+kernel))
  have m0:=Zab hR HM3.out
  try clear hS
  all_goals (cases X17)
  all_goals
   try dsimp only[cond] at*
   go_simp
   exact hK _ _ Zbr (by first|rfl|simp)
 refine Zac rfl rfl (fun a W hR hS hdep K hK=>?_) ?_
 ·have e26:a.tmps[26]?.getD undef=(bif X17 then(.int .i64 g.rank) else undef):=Zad (hdep 19 (by decide+kernel))
  have e28:a.tmps[28]?.getD undef=(bif X17 then(.int .i64 f.rank) else undef):=Zad (hdep 21 (by decide+kernel))
  have e24:a.tmps[24]?.getD undef= .bool X17:=Zad (hdep 17 (by decide+kernel))
  have g24:a.tmps[24]?=some (.bool X17):=Zau (show _=40 from hS.size) (by decide) (hdep 17 (by decide+kernel))
  try clear hS
  all_goals (cases X17)
  all_goals
   try dsimp only[cond] at*
   go_simp
   exact hK _ _ Zbr (by first|rfl|simp)
 refine Zac rfl rfl (fun a W hR hS hdep K hK=>?_) ?_
 ·have e29:a.tmps[29]?.getD undef=(bif X17 then(.bool (decide (f.rank≤g.rank))) else undef):=Zad (hdep 22 (by decide+kernel))
  have e24:a.tmps[24]?.getD undef= .bool X17:=Zad (hdep 17 (by decide+kernel))
  have g24:a.tmps[24]?=some (.bool X17):=Zau (show _=40 from hS.size) (by decide) (hdep 17 (by decide+kernel))
  try clear hS
  all_goals (cases X17)
  all_goals
   try dsimp only[cond] at*
   go_simp
   exact hK _ _ Zbr (by first|rfl|(rw[HX23.out];rfl)|(rw[HX23.out];simp)|simp[HX23.out])
 refine Zac rfl rfl (fun a W hR hS hdep K hK=>?_) ?_
 ·have e3:a.tmps[3]?.getD undef= .pointer (some ⟨w.heap.size,0,none⟩):=Zad (hS.keep 3 (by kernel_rfl))
  have e30:a.tmps[30]?.getD undef=(bif X17 then(.bool X23) else undef):=Zad (hdep 23 (by decide+kernel))
  have g30:a.tmps[30]?=some ((bif X17 then(.bool X23) else undef)):=Zau (show _=40 from hS.size) (by decide) (hdep 23 (by decide+kernel))
  try clear hS
  all_goals (cases X17)
  all_goals (cases X23)
  all_goals
   try dsimp only[cond] at*
   go_simp
   exact hK _ _ Zbr (by first|rfl|simp)
 refine Zac rfl rfl (fun a W hR hS hdep K hK=>?_) ?_
 ·have e31:a.tmps[31]?.getD undef=(bif X17 then((bif X23 then undef else(.pointer (some ⟨w.heap.size,4,none⟩)))) else undef):=Zad (hdep 24 (by decide+kernel))
  have e30:a.tmps[30]?.getD undef=(bif X17 then(.bool X23) else undef):=Zad (hdep 23 (by decide+kernel))
  have g30:a.tmps[30]?=some ((bif X17 then(.bool X23) else undef)):=Zau (show _=40 from hS.size) (by decide) (hdep 23 (by decide+kernel))
  have m0:=Zab hR HM4.out
  try clear hS
  all_goals (cases X17)
  all_goals (cases X23)
  all_goals
   try dsimp only[cond] at*
   go_simp
   exact hK _ _ Zbr (by first|rfl|simp)
 refine Zac rfl rfl (fun a W hR hS hdep K hK=>?_) ?_
 ·have e3:a.tmps[3]?.getD undef= .pointer (some ⟨w.heap.size,0,none⟩):=Zad (hS.keep 3 (by kernel_rfl))
  have e30:a.tmps[30]?.getD undef=(bif X17 then(.bool X23) else undef):=Zad (hdep 23 (by decide+kernel))
  have g30:a.tmps[30]?=some ((bif X17 then(.bool X23) else undef)):=Zau (show _=40 from hS.size) (by decide) (hdep 23 (by decide+kernel))
  try clear hS
  all_goals (cases X17)
  all_goals (cases X23)
  all_goals
   try dsimp only[cond] at*
   go_simp
   exact hK _ _ Zbr (by first|rfl|simp)
 refine Zac rfl rfl (fun a W hR hS hdep K hK=>?_) ?_
 ·have e33:a.tmps[33]?.getD undef=(bif X17 then((bif X23 then undef else(.pointer (some ⟨w.heap.size,5,none⟩)))) else undef):=Zad (hdep 26 (by decide+kernel))
  have e30:a.tmps[30]?.getD undef=(bif X17 then(.bool X23) else undef):=Zad (hdep 23 (by decide+kernel))
  have g30:a.tmps[30]?=some ((bif X17 then(.bool X23) else undef)):=Zau (show _=40 from hS.size) (by decide) (hdep 23 (by decide+kernel))
  have m0:=Zab hR HM5.out
  try clear hS
  all_goals (cases X17)
  all_goals (cases X23)
  all_goals
   try dsimp only[cond] at*
   go_simp
   exact hK _ _ Zbr (by first|rfl|simp)
 refine Zac rfl rfl (fun a W hR hS hdep K hK=>?_) ?_
 ·have e2:a.tmps[2]?.getD undef= .int .i64 now:=Zad (hS.keep 2 (by kernel_rfl))
  have e30:a.tmps[30]?.getD undef=(bif X17 then(.bool X23) else undef):=Zad (hdep 23 (by decide+kernel))
  have g30:a.tmps[30]?=some ((bif X17 then(.bool X23) else undef)):=Zau (show _=40 from hS.size) (by decide) (hdep 23 (by decide+kernel))
  try clear hS
  all_goals (cases X17)
  all_goals (cases X23)
  all_goals
   try dsimp only[cond] at*
   go_simp
   exact hK _ _ Zbr (by first|rfl|simp)
 refine Zac rfl rfl (fun a W hR hS hdep K hK=>?_) ?_
 ·have e32:a.tmps[32]?.getD undef=(bif X17 then((bif X23 then undef else(.int .i64 f.got))) else undef):=Zad (hdep 25 (by decide+kernel))
  have e34:a.tmps[34]?.getD undef=(bif X17 then((bif X23 then undef else(.int .i64 f.ttl))) else undef):=Zad (hdep 27 (by decide+kernel))
  have e35:a.tmps[35]?.getD undef=(bif X17 then((bif X23 then undef else(.int .i64 now))) else undef):=Zad (hdep 28 (by decide+kernel))
  have e30:a.tmps[30]?.getD undef=(bif X17 then(.bool X23) else undef):=Zad (hdep 23 (by decide+kernel))
  have g30:a.tmps[30]?=some ((bif X17 then(.bool X23) else undef)):=Zau (show _=40 from hS.size) (by decide) (hdep 23 (by decide+kernel))
  try clear hS
  all_goals (cases X17)
  all_goals (cases X23)
  all_goals
   try dsimp only[cond] at*
   first
   |(go_simp
     exact hK _ _ Zbr rfl)
   |(go_simp
     have hbx:=Zaa (B:=((w.alloc (.cells #[.slice na nl nc,.int .i64 f.typ,.int .i64 f.kind,.int .i64 f.rank,.int .i64 f.got,.int .i64 f.ttl,.slice sa sl sc,.slice za zl zc,.slice ba bl bc,.slice ha hl hc,.slice ma ml mc,.slice xa xl xc,.slice ta tl tc] 37)).alloc (.cells #[.slice na' nl' nc',.int .i64 g.typ,.int .i64 g.kind,.int .i64 g.rank,.int .i64 g.got,.int .i64 g.ttl,.slice sa' sl' sc',.slice za' zl' zc',.slice ba' bl' bc',.slice ha' hl' hc',.slice ma' ml' mc',.slice xa' xl' xc',.slice ta' tl' tc'] 37)).heap.size) (Below.drew Zbr) hR Zlr
     refine(HRB.out _).mono ?_
     rintro e W' ⟨rfl,rfl⟩
     exact hK _ _ Zbr rfl)
 refine Zac rfl rfl (fun a W hR hS hdep K hK=>?_) ?_
 ·have e36:a.tmps[36]?.getD undef=(bif X17 then((bif X23 then undef else(.bool RB))) else undef):=Zad (hdep 29 (by decide+kernel))
  have e30:a.tmps[30]?.getD undef=(bif X17 then(.bool X23) else undef):=Zad (hdep 23 (by decide+kernel))
  have g30:a.tmps[30]?=some ((bif X17 then(.bool X23) else undef)):=Zau (show _=40 from hS.size) (by decide) (hdep 23 (by decide+kernel))
  try clear hS
  all_goals (cases X17)
  all_goals (cases X23)
  all_goals
   try dsimp only[cond] at*
   go_simp
   exact hK _ _ Zbr (by first|rfl|simp)
 refine Zac rfl rfl (fun a W hR hS hdep K hK=>?_) ?_
 ·have e30:a.tmps[30]?.getD undef=(bif X17 then(.bool X23) else undef):=Zad (hdep 23 (by decide+kernel))
  have e37:a.tmps[37]?.getD undef=(bif X17 then((bif X23 then undef else(.bool (!RB)))) else undef):=Zad (hdep 30 (by decide+kernel))
  have e24:a.tmps[24]?.getD undef= .bool X17:=Zad (hdep 17 (by decide+kernel))
  have g24:a.tmps[24]?=some (.bool X17):=Zau (show _=40 from hS.size) (by decide) (hdep 17 (by decide+kernel))
  try clear hS
  all_goals (cases X23)
  all_goals (cases X17)
  all_goals
   try dsimp only[cond] at*
   go_simp
   exact hK _ _ Zbr (by first|rfl|(rw[HX31.out];rfl)|(rw[HX31.out];simp)|simp[HX31.out])
 refine Zac rfl rfl (fun a W hR hS hdep K hK=>?_) ?_
 ·have e24:a.tmps[24]?.getD undef= .bool X17:=Zad (hdep 17 (by decide+kernel))
  have e38:a.tmps[38]?.getD undef=(bif X17 then(.bool X31) else undef):=Zad (hdep 31 (by decide+kernel))
  try clear hS
  all_goals (cases X17)
  all_goals
   try dsimp only[cond] at*
   go_simp
   exact hK _ _ Zbr (by first|rfl|(rw[HX32.out];rfl)|(rw[HX32.out];simp)|simp[HX32.out])
 refine Zac rfl rfl (fun a W hR hS hdep K hK=>?_) ?_
 ·have e39:a.tmps[39]?.getD undef= .bool X32:=Zad (hdep 32 (by decide+kernel))
  go_simp
  exact hK _ _ Zbr (by first|rfl|simp)
 exact fun j h1 h2=>absurd h1 (by simp only[List.size_toArray,List.length_cons,List.length_nil];omega)
def ZoK (o:Option Nat):Value:=match o with|some b=> .pointer (some ⟨b,0,none⟩)|none=> .pointer none
theorem ZfR (v:Value) (y:DataW Unit×List MemPlace) (h:Zgj v=some y):∃ o,v=ZoK o:=by
 unfold Zgj at h
 split at h
 ·exact⟨some _,rfl⟩
 ·exact⟨none,rfl⟩
 ·cases h
theorem ZkD (key:Value) (kl:Lit) (h:keyOf Tryz.prog 9 key=some kl):∃ x:ByteArray,key= .string x:=by
 rw[keyOf_string Tryz.underlying9] at h
 cases key<;>simp[mapKey,Tryz.underlying9] at h
 exact⟨_,rfl⟩
theorem Ze8 {x:ByteArray} {kl:Lit} (h:keyOf Tryz.prog 9 (.string x)=some kl):kl= .string x.data.toList:=by
 rw[keyOf_string Tryz.underlying9] at h
 simp[mapKey,Tryz.underlying9] at h
 exact h.2.symm
theorem Zku {D:DataW Unit} {L:List ZaP} (h4:∀ key z,D.atKey (.string key) z=(match atL L key with|some s=> .lit (.int .i64 s.b)|none=>z)) {x:ByteArray} {o:Option Nat} {y:DataW Unit×List MemPlace} (hR:Zgj (ZoK o)=some y) (hat:∀ zd,D.atKey (.string x.data.toList) zd=y.1):
  ∃ s∈L,o=some s.b∧x.data.toList=Zax s.f:=by
 have h5:=hat .nil
 have h6:=hat (.lit (.bool true))
 rw[h4] at h5 h6
 cases ha:atL L x.data.toList with
 |none=>rw[ha] at h5 h6;rw[←h5] at h6;cases h6
 |some s=>
  rw[ha] at h5
  obtain⟨hs,hk⟩:=ZfG ha
  refine⟨s,hs,?_,hk.symm⟩
  cases o with
  |none=>simp[ZoK,Zgj] at hR;rw[←hR] at h5;cases h5
  |some b=>
   simp[ZoK,Zgj] at hR
   rw[←hR] at h5
   injection h5 with e
   injection e with _ e
   have:s.b=b:=by omega
   rw[this]
theorem IsCache.iter {B:Nat} {w w':World} {C k r:Nat} {most stale:Int} {L:List ZaP} (h:IsCache B w C most stale k L) (hg:w.grownBy w' (some r)) (hr:∀ cs t q,w.heap[r]?≠some (.cells cs t q)) (hr2:∀ es c,w.heap[r]?≠some (.map es c)) (hB:B≤r) (hrl:r<w.heap.size):IsCache B w' C most stale k L∧Left B w w':=by
 obtain⟨M,a,b,c⟩:=h.ex
 have hMr:M≠r:=by
  rintro rfl
  obtain⟨_,_,⟨es,clock,h1,_⟩,_⟩:=c
  exact hr2 _ _ h1
 have hbl:∀ {g:Nat} {cs:Array Value} {T:TypeId},Blk w g cs T→g≠r:=by
  intro g cs T hx e
  subst e
  exact hr _ _ _ hx
 have same:Same (Zak gT w) w w':=fun b hb ht=>hg.block b hb (fun e=>by
  obtain⟨cs,t,h1,_⟩:=ht
  exact hr _ _ _ (Zsi e▸h1))
 refine⟨⟨⟨M,a.but hg (hbl a),b,c.on (hg.block M c.lt (fun e=>hMr (Zsi e)))⟩,h.base,fun s hs=>?_,h.apart,h.keys,h.used,h.order⟩,(Below.refl B w).grown hg (by omega) (fun j e=>by cases e;exact hB),same⟩
 obtain⟨p,q,i,d⟩:=h.slot s hs
 exact⟨p,q.but hg (hbl q),i.step (same.mono (fun _ _ ht=>Za4 ht ZqB)),d⟩
theorem ZeE {w:World} {M r n cnt:Nat} {D:DataW Unit} {left:Lit→Bool} (h:w.ranges Tryz.prog 9 Zgj M r n D left cnt):(∀ cs t q,w.heap[r]?≠some (.cells cs t q))∧(∀ es c,w.heap[r]?≠some (.map es c)):=by
 obtain⟨es,clock,since,seen,c0,h1,h2,h3,h4,h5,h6⟩:=h
 exact⟨fun _ _ _ e=>(by rw[h5] at e;cases e),fun _ _ e=>(by rw[h5] at e;cases e)⟩
theorem Zc13 {w:World} {X:Nat} {v0 v1 v2 v3 v4 v5 v6 v7 v8 v9 v10 v11 v12:Value} {T:TypeId} (h:Blk w X #[v0,v1,v2,v3,v4,v5,v6,v7,v8,v9,v10,v11,v12] T):w.cell? ⟨X,0,none⟩=some v0∧w.cell? ⟨X,1,none⟩=some v1∧w.cell? ⟨X,2,none⟩=some v2∧w.cell? ⟨X,3,none⟩=some v3∧w.cell? ⟨X,4,none⟩=some v4∧w.cell? ⟨X,5,none⟩=some v5∧w.cell? ⟨X,6,none⟩=some v6∧w.cell? ⟨X,7,none⟩=some v7∧w.cell? ⟨X,8,none⟩=some v8∧w.cell? ⟨X,9,none⟩=some v9∧w.cell? ⟨X,10,none⟩=some v10∧w.cell? ⟨X,11,none⟩=some v11∧w.cell? ⟨X,12,none⟩=some v12:=⟨h.cell 0,h.cell 1,h.cell 2,h.cell 3,h.cell 4,h.cell 5,h.cell 6,h.cell 7,h.cell 8,h.cell 9,h.cell 10,h.cell 11,h.cell 12⟩
theorem Zij (w:World) (S:Nat→Prop) (B C:Nat) (most stale:Int) (k:Nat) (L:List ZaP) (hC:IsCache B w C most stale k L) (hk:k<4000000000000000000) (hL:L.length<100000) (h:ZaU) (f:Zas) (hf:IsFact S w h f) (hB:Zbl f=true) (hl:Zmy f):
  Calls Tryz.prog 61 #[.pointer (some ⟨C,0,none⟩),.agg (Zaj h f)] w fun e w'=>e= .returned (.tuple #[])∧∃ b kk,IsCache B w' C most stale (k+1) (ZfB most (ZdH L (Zax f)++[⟨b,kk,f,k+1⟩]))∧Left B w w':=by
 obtain⟨M,hCb,hMB,hML⟩:=hC.ex
 have hb1:Below w.heap.size w (w.alloc (.cells (Zaj h f) 37)):=Zbr.alloc Zlr _
 have hA:Blk (w.alloc (.cells (Zaj h f) 37)) w.heap.size (Zaj h f) 37:=Zha w _
 have HA:=Zhd hA
 have HB:=Zhd hb1
 have HCC:=Zhd hC
 have HMM:=Zhd (Zan hCb (Zan hMB hML))
 have HF1:=Zhd (hf.on hb1)
 have HFW:=Zhd hf
 have HV:=Zhd (Zan hB (Zan hl (Zan hk hL)))
 have hz:=Zcz hB
 clear hC hCb hMB hML hf hB hl hb1 hk hL
 obtain⟨m0,m1,m2,m3,m4,m5,m6,m7,m8,m9,m10,m11,m12⟩:=Zc13 (show Blk ((w.alloc (.cells (Zaj h f) 37))) w.heap.size _ _ from hA)
 clear hA
 go_enter Tryz.func61,Tryz.ntmps61
 simp only[Zaj]
 go_wp2_with (go_at_call 34;refine(Zgp _ S h f HF1.out HV.out.2.1).mono ?_;rintro e W2 ⟨⟨kk,rfl,hown⟩,hb2⟩;simp only[Zaj])
 clear m0 m1 m2 m3 m4 m5 m6 m7 m8 m9 m10 m11 m12
 (try change Code.wp _ (Code.region _ _ _) _ _ (W2.alloc (.cells (Zdb ⟨W2.heap.size,kk,f,0⟩) 82)))
 have hb3:Below w.heap.size w (W2.alloc (.cells (Zdb ⟨W2.heap.size,kk,f,0⟩) 82)):=(Zaa HB.out hb2 Zlr).alloc ((Zaa HB.out hb2 Zlr).size) _
 have hb4:Below W2.heap.size W2 (W2.alloc (.cells (Zdb ⟨W2.heap.size,kk,f,0⟩) 82)):=Zbr.alloc Zlr _
 have hA:=(HA.out.on hb2).on hb4
 have hX:Blk (W2.alloc (.cells (Zdb ⟨W2.heap.size,kk,f,0⟩) 82)) W2.heap.size (Zdb ⟨W2.heap.size,kk,f,0⟩) 82:=Zha _ _
 have hF:IsFact (Zak fT (W2.alloc (.cells (Zdb ⟨W2.heap.size,kk,f,0⟩) 82))) (W2.alloc (.cells (Zdb ⟨W2.heap.size,kk,f,0⟩) 82)) kk f:=(hown.mono (fun b _ ht=>ht.1)).step (Same.below hb4 _)
 have hC3:=HMM.out.1.on hb3
 have hXw:w.heap.size≤W2.heap.size:=(Zaa HB.out hb2 Zlr).size
 have hAX:=HA.out.lt
 have hAX2:w.heap.size<W2.heap.size:=Nat.lt_of_lt_of_le hAX hb2.size
 rename_i K0 hK0
 have HK0:=Zhd hK0
 clear hK0 hb2 hb4 hown hAX
 generalize W2.alloc (.cells (Zdb ⟨W2.heap.size,kk,f,0⟩) 82)=Y at hb3 hA hX hF hC3⊢
 generalize W2.heap.size=X at hX hXw hAX2 hF hb3 hA hC3⊢
 have HM0:=Zhd (show Y.drew.cell? ⟨w.heap.size,0,none⟩=some (.slice h.na h.nl h.nc) from hA.cell 0)
 have HM1:=Zhd (show Y.drew.cell? ⟨w.heap.size,1,none⟩=some (.int .i64 f.typ) from hA.cell 1)
 have HM2:=Zhd (show Y.drew.cell? ⟨w.heap.size,2,none⟩=some (.int .i64 f.kind) from hA.cell 2)
 have HM3:=Zhd (show Y.drew.cell? ⟨w.heap.size,3,none⟩=some (.int .i64 f.rank) from hA.cell 3)
 have HM4:=Zhd (show Y.drew.cell? ⟨w.heap.size,4,none⟩=some (.int .i64 f.got) from hA.cell 4)
 have HM5:=Zhd (show Y.drew.cell? ⟨w.heap.size,5,none⟩=some (.int .i64 f.ttl) from hA.cell 5)
 have HM6:=Zhd (show Y.drew.cell? ⟨w.heap.size,6,none⟩=some (.slice h.sa h.sl h.sc) from hA.cell 6)
 have HM7:=Zhd (show Y.drew.cell? ⟨w.heap.size,7,none⟩=some (.slice h.za h.zl h.zc) from hA.cell 7)
 have HM8:=Zhd (show Y.drew.cell? ⟨w.heap.size,8,none⟩=some (.slice h.d.ba h.d.bl h.d.bc) from hA.cell 8)
 have HM9:=Zhd (show Y.drew.cell? ⟨w.heap.size,9,none⟩=some (.slice h.d.ha h.d.hl h.d.hc) from hA.cell 9)
 have HM10:=Zhd (show Y.drew.cell? ⟨w.heap.size,10,none⟩=some (.slice h.d.ma h.d.ml h.d.mc) from hA.cell 10)
 have HM11:=Zhd (show Y.drew.cell? ⟨w.heap.size,11,none⟩=some (.slice h.d.na h.d.nl h.d.nc) from hA.cell 11)
 have HM12:=Zhd (show Y.drew.cell? ⟨w.heap.size,12,none⟩=some (.slice h.d.ta h.d.tl h.d.tc) from hA.cell 12)
 have HMC:=Zhd (show Y.drew.cell? ⟨C,2,none⟩=some (.map (some M)) from hC3.cell 2)
 have HKY:=Zhd (fun w' (p:Below Y.heap.size Y w')=>ZeB w' h f ((HFW.out.on hb3).on p).name (Nat.le_trans hz (by decide)))
 have HY:=Zhd (Zan hb3 (Zan hX (Zan hF (Zan hXw hAX2))))
 have HML:=Zhd (HMM.out.2.2.on (hb3.block M HMM.out.2.2.lt))
 simp only[Zaj] at HKY
 clear hb3 hA hX hF hC3 hXw hAX2
 refine Zcg (m:=66) 7 (by kernel_rfl) (fun x y=>Below x.heap.size x y) (fun i v xw=>match i with|0=>v= .pointer (some ⟨C,0,none⟩)|1=>v= .pointer (some ⟨C,0,none⟩)|2=>v= .pointer (some ⟨C,2,none⟩)|3=>v= .map (some M)|4=>v= .agg #[.slice h.na h.nl h.nc,.int .i64 f.typ,.int .i64 f.kind,.int .i64 f.rank,.int .i64 f.got,.int .i64 f.ttl,.slice h.sa h.sl h.sc,.slice h.za h.zl h.zc,.slice h.d.ba h.d.bl h.d.bc,.slice h.d.ha h.d.hl h.d.hc,.slice h.d.ma h.d.ml h.d.mc,.slice h.d.na h.d.nl h.d.nc,.slice h.d.ta h.d.tl h.d.tc]|5=>v= .string (⟨(Zax f).toArray⟩)|6=>v= .pointer (some ⟨X,0,none⟩)|_=>True) rfl (by kernel_rfl) (by kernel_rfl) (fun _ _ _ h1 h2=>Zaa h1 h2 Zlr) Zbr (fun _ _ _ _ h _=>h) (ZdS (by kernel_rfl)) ?_ ?_
 rotate_left
 ·intro a W hR hS hdep
  have e0:a.tmps.getD 0 undef= .pointer (some ⟨C,0,none⟩):=hS.keep 0 (by kernel_rfl)
  have e4:a.tmps.getD 4 undef= .pointer (some ⟨X,0,none⟩):=hS.keep 4 (by kernel_rfl)
  have e15:a.tmps.getD 15 undef= .map (some M):=hdep 3 (by decide+kernel)
  have e17:a.tmps.getD 17 undef= .string (⟨(Zax f).toArray⟩):=hdep 5 (by decide+kernel)
  have e18:a.tmps.getD 18 undef= .pointer (some ⟨X,0,none⟩):=hdep 6 (by decide+kernel)
  obtain⟨T,df⟩:=a
  obtain rfl:df=[]:=hS.defers
  have hT:=Zcy T 66 hS.size;simp only[List.range,List.range.loop,List.map_cons,List.map_nil] at hT
  have k0:T.getD 0 undef= .pointer (some ⟨C,0,none⟩):=e0
  have k4:T.getD 4 undef= .pointer (some ⟨X,0,none⟩):=e4
  have k15:T.getD 15 undef= .map (some M):=e15
  have k17:T.getD 17 undef= .string (⟨(Zax f).toArray⟩):=e17
  have k18:T.getD 18 undef= .pointer (some ⟨X,0,none⟩):=e18
  clear hS hdep
  rw[hT]
  rw[k0]
  clear k0 e0
  rw[k4]
  clear k4 e4
  rw[k15]
  clear k15 e15
  rw[k17]
  clear k17 e17
  rw[k18]
  clear k18 e18
  clear hT
  generalize T.getD 1 undef=u1
  generalize T.getD 2 undef=u2
  generalize T.getD 3 undef=u3
  generalize T.getD 5 undef=u5
  generalize T.getD 6 undef=u6
  generalize T.getD 7 undef=u7
  generalize T.getD 8 undef=u8
  generalize T.getD 9 undef=u9
  generalize T.getD 10 undef=u10
  generalize T.getD 11 undef=u11
  generalize T.getD 12 undef=u12
  generalize T.getD 13 undef=u13
  generalize T.getD 14 undef=u14
  generalize T.getD 16 undef=u16
  generalize T.getD 19 undef=u19
  generalize T.getD 20 undef=u20
  generalize T.getD 21 undef=u21
  generalize T.getD 22 undef=u22
  generalize T.getD 23 undef=u23
  generalize T.getD 24 undef=u24
  generalize T.getD 25 undef=u25
  generalize T.getD 26 undef=u26
  generalize T.getD 27 undef=u27
  generalize T.getD 28 undef=u28
  generalize T.getD 29 undef=u29
  generalize T.getD 30 undef=u30
  generalize T.getD 31 undef=u31
  generalize T.getD 32 undef=u32
  generalize T.getD 33 undef=u33
  generalize T.getD 34 undef=u34
  generalize T.getD 35 undef=u35
  generalize T.getD 36 undef=u36
  generalize T.getD 37 undef=u37
  generalize T.getD 38 undef=u38
  generalize T.getD 39 undef=u39
  generalize T.getD 40 undef=u40
  generalize T.getD 41 undef=u41
  generalize T.getD 42 undef=u42
  generalize T.getD 43 undef=u43
  generalize T.getD 44 undef=u44
  generalize T.getD 45 undef=u45
  generalize T.getD 46 undef=u46
  generalize T.getD 47 undef=u47
  generalize T.getD 48 undef=u48
  generalize T.getD 49 undef=u49
  generalize T.getD 50 undef=u50
  generalize T.getD 51 undef=u51
  generalize T.getD 52 undef=u52
  generalize T.getD 53 undef=u53
  generalize T.getD 54 undef=u54
  generalize T.getD 55 undef=u55
  generalize T.getD 56 undef=u56
  generalize T.getD 57 undef=u57
  generalize T.getD 58 undef=u58
  generalize T.getD 59 undef=u59
  generalize T.getD 60 undef=u60
  generalize T.getD 61 undef=u61
  generalize T.getD 62 undef=u62
  generalize T.getD 63 undef=u63
  generalize T.getD 64 undef=u64
  generalize T.getD 65 undef=u65
  have hbx:=Zaa (B:=Y.heap.size) (Below.drew Zbr) hR Zlr
  have hMW:=HML.out.on (hbx.block M HML.out.lt)
  obtain⟨W4,hrun,hM4,hg4,hs4⟩:=hMW.store HCC.out.keys HV.out.2.2.2 ⟨X,kk,f,k+1⟩ (by show(Zax f).length≤_;rw[Zax,Zdc];omega)
  clear hR
  go_wp2_with fail
  have hlen:(ZdH L (Zax f)).length+1=(ZdH L (Zax f)++[(⟨X,kk,f,k+1⟩:ZaP)]).length:=by simp
  have hC4:=(HMM.out.1.on (HY.out.1.trans (hbx.mono HY.out.1.size))).but hg4 (Zbo HMM.out.1 HMM.out.2.2)
  have hXW:=HY.out.2.1.on hbx
  have hX4:=hXW.but hg4 (Zbo hXW hMW)
  have hCX:C≠X:=Zea hC4 hX4 (by decide)
  have h0W:Below w.heap.size w W:=Zaa HY.out.1 hbx Zlr
  have HC4:=Zhd hC4
  have HX4:=Zhd hX4
  have HG4:=Zhd (Zan hg4 (Zan hs4 hM4))
  have HXW:=Zhd (Zan hXW h0W)
  have HFW2:=Zhd (HY.out.2.2.1.step (Same.below hbx _))
  have HLEN:=Zhd hlen
  clear hC4 hX4 hg4 hs4 hM4 hXW h0W hrun hMW hbx hlen
  refine HK0.out _ _ ?_
  clear HK0
  go_wp2_with (go_at_call 113;refine(Zq1 W4 C X M k most stale _ HC4.out HX4.out rfl hCX HV.out.2.2.1).mono ?_;rintro e W5 ⟨rfl,hC5,hX5,hs5,ho5,hb5⟩;have HFIN:=Zhd (ZqN HCC.out HMM.out.1 HMM.out.2.1 HMM.out.2.2 HXW.out.2 HY.out.2.2.2.1 HXW.out.1 HFW2.out HV.out.1 HV.out.2.1 HG4.out.2.2 HG4.out.1 HG4.out.2.1 hC5 hX5 hs5 ho5 hb5);have HMW5:=Zhd (show MapL W5 M _ from HG4.out.2.2.on (ho5 M (fun e=>Zbo HC4.out HG4.out.2.2 e.symm) (fun e=>Zbo HX4.out HG4.out.2.2 e.symm)));have HC5A:=Zhd hC5;have HQ2:=Zhd (show W5.drew.cell? ⟨C,2,none⟩=some (.map (some M)) from hC5.cell 2);have HQ0:=Zhd (show W5.drew.cell? ⟨C,0,none⟩=some (.int .i64 most) from hC5.cell 0);clear hC5 hX5 hs5 ho5 hb5)
  obtain⟨N,hN⟩:∃ q:Int,q=((ZdH L (Zax f)++[(⟨X,kk,f,k+1⟩:ZaP)]).length:Int):=⟨_,rfl⟩
  have HLN:=Zhd (fun w' (p:Below W5.heap.size W5 w') ty=>(HMW5.out.on (p.block M HMW5.out.lt)).len ty)
  rw[←hN] at HLN
  have HLN0:=Zhd hN
  have HC5B:=Zhd (show Blk W5 C #[.int .i64 most,.int .i64 stale,.map (some M),.int .i64 ((k+1:Nat):Int)] 78 from HC5A.out)
  clear HLEN hN
  by_cases hnm:N≤most
  ·have HNM:=Zhd hnm
   have HTRIM:=Zhd (show ZfB most (ZdH L (Zax f)++[(⟨X,kk,f,k+1⟩:ZaP)])=(ZdH L (Zax f)++[(⟨X,kk,f,k+1⟩:ZaP)]) by rw[ZfB,if_pos (by rw[←HLN0.out];exact hnm)])
   clear hnm
   refine Zcs (m:=66) (by kernel_rfl) (fun x y=>Below x.heap.size x y) (fun i v xw=>match i with|0=>v= .pointer (some ⟨C,0,none⟩)|1=>v= .pointer (some ⟨C,0,none⟩)|2=>v= .pointer (some ⟨C,2,none⟩)|3=>v= .map (some M)|4=>v= .int .i64 N|5=>v= .pointer (some ⟨C,0,none⟩)|6=>v= .pointer (some ⟨C,0,none⟩)|7=>v= .pointer (some ⟨C,0,none⟩)|8=>v= .int .i64 most|9=>v= .bool (decide (N≤most))|_=>True) rfl (by kernel_rfl) (fun _ _ _ h1 h2=>Zaa h1 h2 Zlr) Zbr (fun _ _ _ _ h _=>h) (Zc8 10 (by kernel_rfl) (fun _ _ h=>h)) ?_ ?_
   rotate_left
   ·intro a W hR hS hdep
    have e31:a.tmps.getD 31 undef= .bool (decide (N≤most)):=hdep 9 (by decide+kernel)
    obtain⟨T,df⟩:=a
    obtain rfl:df=[]:=hS.defers
    have hT:=Zcy T 66 hS.size;simp only[List.range,List.range.loop,List.map_cons,List.map_nil] at hT
    have k31:T.getD 31 undef= .bool (decide (N≤most)):=e31
    clear hS hdep
    rw[hT]
    rw[k31]
    clear k31 e31
    clear hT
    generalize T.getD 0 undef=u0
    generalize T.getD 1 undef=u1
    generalize T.getD 2 undef=u2
    generalize T.getD 3 undef=u3
    generalize T.getD 4 undef=u4
    generalize T.getD 5 undef=u5
    generalize T.getD 6 undef=u6
    generalize T.getD 7 undef=u7
    generalize T.getD 8 undef=u8
    generalize T.getD 9 undef=u9
    generalize T.getD 10 undef=u10
    generalize T.getD 11 undef=u11
    generalize T.getD 12 undef=u12
    generalize T.getD 13 undef=u13
    generalize T.getD 14 undef=u14
    generalize T.getD 15 undef=u15
    generalize T.getD 16 undef=u16
    generalize T.getD 17 undef=u17
    generalize T.getD 18 undef=u18
    generalize T.getD 19 undef=u19
    generalize T.getD 20 undef=u20
    generalize T.getD 21 undef=u21
    generalize T.getD 22 undef=u22
    generalize T.getD 23 undef=u23
    generalize T.getD 24 undef=u24
    generalize T.getD 25 undef=u25
    generalize T.getD 26 undef=u26
    generalize T.getD 27 undef=u27
    generalize T.getD 28 undef=u28
    generalize T.getD 29 undef=u29
    generalize T.getD 30 undef=u30
    generalize T.getD 32 undef=u32
    generalize T.getD 33 undef=u33
    generalize T.getD 34 undef=u34
    generalize T.getD 35 undef=u35
    generalize T.getD 36 undef=u36
    generalize T.getD 37 undef=u37
    generalize T.getD 38 undef=u38
    generalize T.getD 39 undef=u39
    generalize T.getD 40 undef=u40
    generalize T.getD 41 undef=u41
    generalize T.getD 42 undef=u42
    generalize T.getD 43 undef=u43
    generalize T.getD 44 undef=u44
    generalize T.getD 45 undef=u45
    generalize T.getD 46 undef=u46
    generalize T.getD 47 undef=u47
    generalize T.getD 48 undef=u48
    generalize T.getD 49 undef=u49
    generalize T.getD 50 undef=u50
    generalize T.getD 51 undef=u51
    generalize T.getD 52 undef=u52
    generalize T.getD 53 undef=u53
    generalize T.getD 54 undef=u54
    generalize T.getD 55 undef=u55
    generalize T.getD 56 undef=u56
    generalize T.getD 57 undef=u57
    generalize T.getD 58 undef=u58
    generalize T.getD 59 undef=u59
    generalize T.getD 60 undef=u60
    generalize T.getD 61 undef=u61
    generalize T.getD 62 undef=u62
    generalize T.getD 63 undef=u63
    generalize T.getD 64 undef=u64
    generalize T.getD 65 undef=u65
    have hbx:=Zaa (B:=W5.heap.size) (Below.drew Zbr) hR Zlr
    have HT:=Zhd (show decide (N≤most)=true from Zdt HNM.out)
    clear hR
    rw[HT.out]
    have HFW5:=Zhd hbx
    clear hbx
    go_wp2_with fail
    refine bodyPost_ret (results_none rfl _ _ _) rfl ?_
    exact⟨rfl,X,kk,(by rw[HTRIM.out];exact HFIN.out.1.on HFW5.out),HFIN.out.2.trans (Left.below HFW5.out (by have:=HFIN.out.1.base;have:=HQ2.out;have:=HCC.out.base;have:=HFIN.out.2.bel.size;have:=HMM.out.1.lt;omega))⟩
   refine Zac rfl rfl (fun a W hR hS hdep K hK=>?_) ?_
   ·have e0:a.tmps[0]?.getD undef= .pointer (some ⟨C,0,none⟩):=Zad (hS.keep 0 (by kernel_rfl))
    go_simp
    exact hK _ _ Zbr (by first|rfl|simp)
   refine Zac rfl rfl (fun a W hR hS hdep K hK=>?_) ?_
   ·have e22:a.tmps[22]?.getD undef= .pointer (some ⟨C,0,none⟩):=Zad (hdep 0 (by decide+kernel))
    go_simp
    exact hK _ _ Zbr (by first|rfl|simp)
   refine Zac rfl rfl (fun a W hR hS hdep K hK=>?_) ?_
   ·have e23:a.tmps[23]?.getD undef= .pointer (some ⟨C,0,none⟩):=Zad (hdep 1 (by decide+kernel))
    go_simp
    exact hK _ _ Zbr (by first|rfl|simp)
   refine Zac rfl rfl (fun a W hR hS hdep K hK=>?_) ?_
   ·have e24:a.tmps[24]?.getD undef= .pointer (some ⟨C,2,none⟩):=Zad (hdep 2 (by decide+kernel))
    have m0:=Zab hR HQ2.out
    go_simp
    exact hK _ _ Zbr (by first|rfl|simp)
   refine Zac rfl rfl (fun a W hR hS hdep K hK=>?_) ?_
   ·have e25:a.tmps[25]?.getD undef= .map (some M):=Zad (hdep 3 (by decide+kernel))
    go_simp
    have hbx:=Zaa (B:=W5.heap.size) (Below.drew Zbr) hR Zlr
    rw[HLN.out _ hbx]
    exact hK _ _ Zbr rfl
   refine Zac rfl rfl (fun a W hR hS hdep K hK=>?_) ?_
   ·have e0:a.tmps[0]?.getD undef= .pointer (some ⟨C,0,none⟩):=Zad (hS.keep 0 (by kernel_rfl))
    go_simp
    exact hK _ _ Zbr (by first|rfl|simp)
   refine Zac rfl rfl (fun a W hR hS hdep K hK=>?_) ?_
   ·have e27:a.tmps[27]?.getD undef= .pointer (some ⟨C,0,none⟩):=Zad (hdep 5 (by decide+kernel))
    go_simp
    exact hK _ _ Zbr (by first|rfl|simp)
   refine Zac rfl rfl (fun a W hR hS hdep K hK=>?_) ?_
   ·have e28:a.tmps[28]?.getD undef= .pointer (some ⟨C,0,none⟩):=Zad (hdep 6 (by decide+kernel))
    go_simp
    exact hK _ _ Zbr (by first|rfl|simp)
   refine Zac rfl rfl (fun a W hR hS hdep K hK=>?_) ?_
   ·have e29:a.tmps[29]?.getD undef= .pointer (some ⟨C,0,none⟩):=Zad (hdep 7 (by decide+kernel))
    have m0:=Zab hR HQ0.out
    go_simp
    exact hK _ _ Zbr (by first|rfl|simp)
   refine Zac rfl rfl (fun a W hR hS hdep K hK=>?_) ?_
   ·have e26:a.tmps[26]?.getD undef= .int .i64 N:=Zad (hdep 4 (by decide+kernel))
    have e30:a.tmps[30]?.getD undef= .int .i64 most:=Zad (hdep 8 (by decide+kernel))
    go_simp
    exact hK _ _ Zbr (by first|rfl|simp)
   exact fun j h1 h2=>absurd h1 (by simp only[List.size_toArray,List.length_cons,List.length_nil];omega)
  ·have HNM:=Zhd hnm
   have HTRIM:=Zhd (show ZfB most (ZdH L (Zax f)++[(⟨X,kk,f,k+1⟩:ZaP)])=((ZdH L (Zax f)++[(⟨X,kk,f,k+1⟩:ZaP)])).tail by rw[ZfB,if_neg (by rw[←HLN0.out];exact hnm)])
   clear hnm
   refine Zcs (m:=66) (by kernel_rfl) (fun x y=>Below x.heap.size x y) (fun i v xw=>match i with|0=>v= .pointer (some ⟨C,0,none⟩)|1=>v= .pointer (some ⟨C,0,none⟩)|2=>v= .pointer (some ⟨C,2,none⟩)|3=>v= .map (some M)|4=>v= .int .i64 N|5=>v= .pointer (some ⟨C,0,none⟩)|6=>v= .pointer (some ⟨C,0,none⟩)|7=>v= .pointer (some ⟨C,0,none⟩)|8=>v= .int .i64 most|9=>v= .bool (decide (N≤most))|_=>True) rfl (by kernel_rfl) (fun _ _ _ h1 h2=>Zaa h1 h2 Zlr) Zbr (fun _ _ _ _ h _=>h) (Zc8 10 (by kernel_rfl) (fun _ _ h=>h)) ?_ ?_
   rotate_left
   ·intro a W hR hS hdep
    have e0:a.tmps.getD 0 undef= .pointer (some ⟨C,0,none⟩):=hS.keep 0 (by kernel_rfl)
    have e31:a.tmps.getD 31 undef= .bool (decide (N≤most)):=hdep 9 (by decide+kernel)
    obtain⟨T,df⟩:=a
    obtain rfl:df=[]:=hS.defers
    have hT:=Zcy T 66 hS.size;simp only[List.range,List.range.loop,List.map_cons,List.map_nil] at hT
    have k0:T.getD 0 undef= .pointer (some ⟨C,0,none⟩):=e0
    have k31:T.getD 31 undef= .bool (decide (N≤most)):=e31
    clear hS hdep
    rw[hT]
    rw[k0]
    clear k0 e0
    rw[k31]
    clear k31 e31
    clear hT
    generalize T.getD 1 undef=u1
    generalize T.getD 2 undef=u2
    generalize T.getD 3 undef=u3
    generalize T.getD 4 undef=u4
    generalize T.getD 5 undef=u5
    generalize T.getD 6 undef=u6
    generalize T.getD 7 undef=u7
    generalize T.getD 8 undef=u8
    generalize T.getD 9 undef=u9
    generalize T.getD 10 undef=u10
    generalize T.getD 11 undef=u11
    generalize T.getD 12 undef=u12
    generalize T.getD 13 undef=u13
    generalize T.getD 14 undef=u14
    generalize T.getD 15 undef=u15
    generalize T.getD 16 undef=u16
    generalize T.getD 17 undef=u17
    generalize T.getD 18 undef=u18
    generalize T.getD 19 undef=u19
    generalize T.getD 20 undef=u20
    generalize T.getD 21 undef=u21
    generalize T.getD 22 undef=u22
    generalize T.getD 23 undef=u23
    generalize T.getD 24 undef=u24
    generalize T.getD 25 undef=u25
    generalize T.getD 26 undef=u26
    generalize T.getD 27 undef=u27
    generalize T.getD 28 undef=u28
    generalize T.getD 29 undef=u29
    generalize T.getD 30 undef=u30
    generalize T.getD 32 undef=u32
    generalize T.getD 33 undef=u33
    generalize T.getD 34 undef=u34
    generalize T.getD 35 undef=u35
    generalize T.getD 36 undef=u36
    generalize T.getD 37 undef=u37
    generalize T.getD 38 undef=u38
    generalize T.getD 39 undef=u39
    generalize T.getD 40 undef=u40
    generalize T.getD 41 undef=u41
    generalize T.getD 42 undef=u42
    generalize T.getD 43 undef=u43
    generalize T.getD 44 undef=u44
    generalize T.getD 45 undef=u45
    generalize T.getD 46 undef=u46
    generalize T.getD 47 undef=u47
    generalize T.getD 48 undef=u48
    generalize T.getD 49 undef=u49
    generalize T.getD 50 undef=u50
    generalize T.getD 51 undef=u51
    generalize T.getD 52 undef=u52
    generalize T.getD 53 undef=u53
    generalize T.getD 54 undef=u54
    generalize T.getD 55 undef=u55
    generalize T.getD 56 undef=u56
    generalize T.getD 57 undef=u57
    generalize T.getD 58 undef=u58
    generalize T.getD 59 undef=u59
    generalize T.getD 60 undef=u60
    generalize T.getD 61 undef=u61
    generalize T.getD 62 undef=u62
    generalize T.getD 63 undef=u63
    generalize T.getD 64 undef=u64
    generalize T.getD 65 undef=u65
    have hbx:=Zaa (B:=W5.heap.size) (Below.drew Zbr) hR Zlr
    have HT:=Zhd (show decide (N≤most)=false from Zdf HNM.out)
    clear hR
    rw[HT.out]
    have HFW5:=Zhd hbx
    obtain⟨n,D,h1,h2,h3,h4⟩:=HMW5.out.on (hbx.block M HMW5.out.lt)
    have HOWN:=Zhd (Zan h1 (Zan h2 (Zan h3 h4)))
    have HC5:=Zhd (HFIN.out.1.on hbx)
    have hq2:W.cell? ⟨C,2,none⟩=some (.map (some M)):=(Zab hbx HQ2.out)
    clear hbx h1 h2 h3 h4
    go_wp2_with (at_range;go_loud (refine wpList_range_own _ rfl _ 76 rfl 9 79 Zj2 Tryz.underlying76 Zgj M n D rfl HOWN.out.1 ?_;intro W6 hrg0 hg0 hs0))
    clear hq2
    have HS6:=Zhd (Zan hrg0 (Zan hg0 hs0))
    clear hrg0 hg0 hs0
    go_loopw [5] (fun o wr=>∃ od:ByteArray,o= .string od∧Hid (∃ left cnt,wr.ranges Tryz.prog 9 Zgj M W.heap.size n D left cnt∧Below W.heap.size W wr∧Zq6 (ZdH L (Zax f)++[(⟨X,kk,f,k+1⟩:ZaP)]) left od)) (fun _ wr=>wr.rangeLeft M W.heap.size)
    case atStart=>exact⟨_,rfl,Zhd ⟨_,_,HS6.out.1,Zbr.grown HS6.out.2.1 Zlr (fun k e=>by cases e),Zo2 HOWN.out.2.2.2 HFIN.out.1.keys⟩⟩
    case round=>
     obtain⟨od,rfl,hinv⟩:=hrel
     obtain⟨left,cnt,hrg,hbw,hev⟩:=hinv.out
     have HRG:=Zhd (Zan hrg (Zan hbw hev))
     have HCR:=Zhd (HC5.out.on hbw)
     clear hinv hrg hbw hev
     go_wp2_with (at_next;refine wpList_next_ranges _ rfl _ rfl 9 Zj2 Zgj Value.string ZoK ZkD ZfR M W.heap.size n D left cnt rfl HRG.out.1 ?_ ?_)
     ·intro hc0 hl0
      obtain⟨s0,T0,hLT,hod,hoff⟩:=Zrn HFIN.out.1.keys HFIN.out.1.order HRG.out.2.2 hl0 (by simp)
      have hq2:wr.cell? ⟨C,2,none⟩=some (.map (some M)):=Zab HRG.out.2.1 (Zab HFW5.out HQ2.out)
      have hkey:keyOf Tryz.prog 9 (.string od)=some (.string (Zax s0.f)):=by rw[hod];exact Zga (by have:=Zcz (HFIN.out.1.slot s0 (by rw[hLT];exact List.mem_cons_self ..)).2.2.2.1;rw[Zax,Zdc];omega)
      have HE:=Zhd (Zan hLT hoff)
      have HKEY:=Zhd hkey
      clear hl0 hLT hod hoff hkey
      go_wp2_with (at_delete;go_loud (refine wpList_delete_own _ rfl _ _ 76 9 rfl 79 Zj2 Tryz.underlying76 Zgj M n D rfl HRG.out.1.owns _ _ rfl HKEY.out ?_;intro w9 hown9 hturn9;have HD9:=Zhd (Zan hown9 hturn9);clear hown9 hturn9))
      refine bodyPost_end (results_none rfl _ _ _) rfl ?_
      have hML:=MapL.dropped HRG.out.1.owns HOWN.out.2.1 HOWN.out.2.2.1 HOWN.out.2.2.2 HFIN.out.1.keys (ZbX HFIN.out.1.keys (show s0∈_ by rw[HE.out.1];exact List.mem_cons_self ..)) HD9.out.1
      have hML0:MapL wr M (ZdH L (Zax f)++[(⟨X,kk,f,k+1⟩:ZaP)]):=⟨n,D,HRG.out.1.owns,HOWN.out.2⟩
      have hCw:Blk wr C #[.int .i64 most,.int .i64 stale,.map (some M),.int .i64 ((k+1:Nat):Int)] 78:=HC5B.out.on (Zaa HFW5.out HRG.out.2.1 Zlr)
      have hcr:=HCR.out
      have hoff:=HE.out.2
      rw[hoff] at hML
      rw[HE.out.1] at hcr hML0
      obtain⟨t1,t2⟩:=ZpQ hcr hCw HMM.out.2.1 hML0 hML HD9.out.2.grown
      refine⟨rfl,⟨X,kk,by rw[HTRIM.out,HE.out.1];exact t1⟩,?_⟩
      have hB5:B≤W5.heap.size:=by have:=HFIN.out.1.base;have:=HC5B.out.lt;omega
      exact(HFIN.out.2.trans (Left.below (Zaa HFW5.out HRG.out.2.1 Zlr) hB5)).trans t2
     ·intro x o kl y1 y2 w1 cnt1 hxk hlk hRy hat hrg1 hlt hg1 hs1 hen
      obtain rfl:=Ze8 hxk
      obtain⟨s,hsL,rfl,hxs⟩:=Zku (y:=(y1,y2)) HOWN.out.2.2.2 hRy hat
      simp only[ZoK] at hen⊢
      have hbw1:Below W.heap.size W w1:=HRG.out.2.1.grown hg1 HRG.out.2.1.size (fun k e=>by cases e;exact Nat.le_refl _)
      have HR1:=Zhd (Zan hrg1 (Zan hlt hbw1))
      have HC1:=Zhd (HC5.out.on hbw1)
      have HSL:=Zhd (Zan hsL hxs)
      have hq13:w1.drew.cell? ⟨s.b,13,none⟩=some (.int .i64 s.used):=(HC1.out.slot s hsL).2.1.cell 13
      have HQ13:=Zhd hq13
      have HQC:=Zhd (show w1.drew.cell? ⟨C,2,none⟩=some (.map (some M)) from Zab (Below.drew (Zaa HFW5.out hbw1 Zlr)) HQ2.out)
      clear hxk hlk hRy hat hrg1 hlt hg1 hs1 hbw1 hsL hxs hq13
      go_wp2_with fail
      clear hen
      by_cases hod:od=⟨#[]⟩
      ·subst hod
       refine Zcs (m:=66) (by kernel_rfl) (fun x y=>Below x.heap.size x y) (fun i v xw=>match i with|0=>v= .string (⟨#[]⟩)|1=>v= .bool true|2=>v= .bool true|3=>v=undef|4=>v=undef|5=>v=undef|6=>v=undef|7=>v=undef|8=>v=undef|9=>v=undef|10=>v=undef|11=>v=undef|12=>v=undef|13=>v=undef|14=>v=undef|15=>v=undef|16=>v=undef|17=>v= .bool true|_=>True) rfl (by kernel_rfl) (fun _ _ _ h1 h2=>Zaa h1 h2 Zlr) Zbr (fun _ _ _ _ h _=>h) (Zc8 18 (by kernel_rfl) (fun _ _ h=>h)) ?_ ?_
       rotate_left
       ·intro a W hR hS hdep
        have e59:a.tmps.getD 59 undef= .bool true:=hdep 17 (by decide+kernel)
        obtain⟨T,df⟩:=a
        obtain rfl:df=[]:=hS.defers
        have hT:=ZdJ hS 66 rfl [42,43,44,45,46,47,48,49,50,51,52,53,54,55,56,57,58,59] (by kernel_rfl)
        simp only[List.foldl_cons,List.foldl_nil,List.setIfInBounds_toArray,List.set_cons_succ,List.set_cons_zero] at hT
        have k59:T.getD 59 undef= .bool true:=e59
        clear hS hdep
        rw[hT]
        rw[k59]
        clear k59 e59
        clear hT
        generalize T.getD 42 undef=u42
        generalize T.getD 43 undef=u43
        generalize T.getD 44 undef=u44
        generalize T.getD 45 undef=u45
        generalize T.getD 46 undef=u46
        generalize T.getD 47 undef=u47
        generalize T.getD 48 undef=u48
        generalize T.getD 49 undef=u49
        generalize T.getD 50 undef=u50
        generalize T.getD 51 undef=u51
        generalize T.getD 52 undef=u52
        generalize T.getD 53 undef=u53
        generalize T.getD 54 undef=u54
        generalize T.getD 55 undef=u55
        generalize T.getD 56 undef=u56
        generalize T.getD 57 undef=u57
        generalize T.getD 58 undef=u58
        have hbx:=Zaa (B:=w1.heap.size) (Below.drew Zbr) hR Zlr
        have HX9:=Zhd hbx
        clear hR hbx
        go_wp2_with fail
        go_roundw
        case rel=>
         have hrgW:=ZcO HR1.out.1 (HX9.out.block M HR1.out.1.owns.lt) (HX9.out.block _ HR1.out.1.lt)
         exact⟨x,rfl,Zhd ⟨_,_,hrgW,Zaa HR1.out.2.2 HX9.out Zlr,by have:=Zkg HFIN.out.1.keys HRG.out.2.2 HSL.out.1 HSL.out.2 (take:=true) ⟨fun _=> .inl rfl,fun _=>rfl⟩;rwa [if_pos rfl] at this⟩⟩
        case measure=>
         have hrgW:=ZcO HR1.out.1 (HX9.out.block M HR1.out.1.owns.lt) (HX9.out.block _ HR1.out.1.lt)
         rw[hrgW.left_eq,HRG.out.1.left_eq];exact HR1.out.2.1
       refine Zac rfl rfl (fun a W hR hS hdep K hK=>?_) ?_
       ·have e5:a.tmps[5]?.getD undef= .string (⟨#[]⟩):=Zad (hS.keep 5 (by kernel_rfl))
        go_simp
        exact hK _ _ Zbr (by first|rfl|simp)
       refine Zac rfl rfl (fun a W hR hS hdep K hK=>?_) ?_
       ·have e42:a.tmps[42]?.getD undef= .string (⟨#[]⟩):=Zad (hdep 0 (by decide+kernel))
        go_simp
        exact hK _ _ Zbr rfl
       refine Zac rfl rfl (fun a W hR hS hdep K hK=>?_) ?_
       ·have e43:a.tmps[43]?.getD undef= .bool true:=Zad (hdep 1 (by decide+kernel))
        go_simp
        exact hK _ _ Zbr rfl
       refine Zac rfl rfl (fun a W hR hS hdep K hK=>?_) ?_
       ·have e44:a.tmps[44]?.getD undef= .bool true:=Zad (hdep 2 (by decide+kernel))
        have g44:a.tmps[44]?=some (.bool true):=Zau (show _=66 from hS.size) (by decide) (hdep 2 (by decide+kernel))
        go_simp
        exact hK _ _ Zbr (by first|rfl|simp)
       refine Zac rfl rfl (fun a W hR hS hdep K hK=>?_) ?_
       ·have e44:a.tmps[44]?.getD undef= .bool true:=Zad (hdep 2 (by decide+kernel))
        have g44:a.tmps[44]?=some (.bool true):=Zau (show _=66 from hS.size) (by decide) (hdep 2 (by decide+kernel))
        go_simp
        exact hK _ _ Zbr (by first|rfl|simp)
       refine Zac rfl rfl (fun a W hR hS hdep K hK=>?_) ?_
       ·have e44:a.tmps[44]?.getD undef= .bool true:=Zad (hdep 2 (by decide+kernel))
        have g44:a.tmps[44]?=some (.bool true):=Zau (show _=66 from hS.size) (by decide) (hdep 2 (by decide+kernel))
        go_simp
        exact hK _ _ Zbr (by first|rfl|simp)
       refine Zac rfl rfl (fun a W hR hS hdep K hK=>?_) ?_
       ·have e44:a.tmps[44]?.getD undef= .bool true:=Zad (hdep 2 (by decide+kernel))
        have g44:a.tmps[44]?=some (.bool true):=Zau (show _=66 from hS.size) (by decide) (hdep 2 (by decide+kernel))
        go_simp
        exact hK _ _ Zbr (by first|rfl|simp)
       refine Zac rfl rfl (fun a W hR hS hdep K hK=>?_) ?_
       ·have e44:a.tmps[44]?.getD undef= .bool true:=Zad (hdep 2 (by decide+kernel))
        have g44:a.tmps[44]?=some (.bool true):=Zau (show _=66 from hS.size) (by decide) (hdep 2 (by decide+kernel))
        go_simp
        exact hK _ _ Zbr (by first|rfl|simp)
       refine Zac rfl rfl (fun a W hR hS hdep K hK=>?_) ?_
       ·have e44:a.tmps[44]?.getD undef= .bool true:=Zad (hdep 2 (by decide+kernel))
        have g44:a.tmps[44]?=some (.bool true):=Zau (show _=66 from hS.size) (by decide) (hdep 2 (by decide+kernel))
        go_simp
        exact hK _ _ Zbr (by first|rfl|simp)
       refine Zac rfl rfl (fun a W hR hS hdep K hK=>?_) ?_
       ·have e44:a.tmps[44]?.getD undef= .bool true:=Zad (hdep 2 (by decide+kernel))
        have g44:a.tmps[44]?=some (.bool true):=Zau (show _=66 from hS.size) (by decide) (hdep 2 (by decide+kernel))
        go_simp
        exact hK _ _ Zbr (by first|rfl|simp)
       refine Zac rfl rfl (fun a W hR hS hdep K hK=>?_) ?_
       ·have e44:a.tmps[44]?.getD undef= .bool true:=Zad (hdep 2 (by decide+kernel))
        have g44:a.tmps[44]?=some (.bool true):=Zau (show _=66 from hS.size) (by decide) (hdep 2 (by decide+kernel))
        go_simp
        exact hK _ _ Zbr (by first|rfl|simp)
       refine Zac rfl rfl (fun a W hR hS hdep K hK=>?_) ?_
       ·have e44:a.tmps[44]?.getD undef= .bool true:=Zad (hdep 2 (by decide+kernel))
        have g44:a.tmps[44]?=some (.bool true):=Zau (show _=66 from hS.size) (by decide) (hdep 2 (by decide+kernel))
        go_simp
        exact hK _ _ Zbr (by first|rfl|simp)
       refine Zac rfl rfl (fun a W hR hS hdep K hK=>?_) ?_
       ·have e44:a.tmps[44]?.getD undef= .bool true:=Zad (hdep 2 (by decide+kernel))
        have g44:a.tmps[44]?=some (.bool true):=Zau (show _=66 from hS.size) (by decide) (hdep 2 (by decide+kernel))
        go_simp
        exact hK _ _ Zbr (by first|rfl|simp)
       refine Zac rfl rfl (fun a W hR hS hdep K hK=>?_) ?_
       ·have e44:a.tmps[44]?.getD undef= .bool true:=Zad (hdep 2 (by decide+kernel))
        have g44:a.tmps[44]?=some (.bool true):=Zau (show _=66 from hS.size) (by decide) (hdep 2 (by decide+kernel))
        go_simp
        exact hK _ _ Zbr (by first|rfl|simp)
       refine Zac rfl rfl (fun a W hR hS hdep K hK=>?_) ?_
       ·have e44:a.tmps[44]?.getD undef= .bool true:=Zad (hdep 2 (by decide+kernel))
        have g44:a.tmps[44]?=some (.bool true):=Zau (show _=66 from hS.size) (by decide) (hdep 2 (by decide+kernel))
        go_simp
        exact hK _ _ Zbr (by first|rfl|simp)
       refine Zac rfl rfl (fun a W hR hS hdep K hK=>?_) ?_
       ·have e44:a.tmps[44]?.getD undef= .bool true:=Zad (hdep 2 (by decide+kernel))
        have g44:a.tmps[44]?=some (.bool true):=Zau (show _=66 from hS.size) (by decide) (hdep 2 (by decide+kernel))
        go_simp
        exact hK _ _ Zbr (by first|rfl|simp)
       refine Zac rfl rfl (fun a W hR hS hdep K hK=>?_) ?_
       ·have e44:a.tmps[44]?.getD undef= .bool true:=Zad (hdep 2 (by decide+kernel))
        have g44:a.tmps[44]?=some (.bool true):=Zau (show _=66 from hS.size) (by decide) (hdep 2 (by decide+kernel))
        go_simp
        exact hK _ _ Zbr (by first|rfl|simp)
       refine Zac rfl rfl (fun a W hR hS hdep K hK=>?_) ?_
       ·have e44:a.tmps[44]?.getD undef= .bool true:=Zad (hdep 2 (by decide+kernel))
        have e58:a.tmps[58]?.getD undef=undef:=Zad (hdep 16 (by decide+kernel))
        go_simp
        exact hK _ _ Zbr rfl
       exact fun j h1 h2=>absurd h1 (by simp only[List.size_toArray,List.length_cons,List.length_nil];omega)
      ·obtain⟨s2,hs2,hod2,hl2⟩:∃ s2∈(ZdH L (Zax f)++[(⟨X,kk,f,k+1⟩:ZaP)]),od=⟨(Zax s2.f).toArray⟩∧True:=by
        rcases HRG.out.2.2 with⟨h,_⟩|⟨o,h1,h2,_⟩
        ·exact absurd h hod
        ·exact⟨o,h1,h2,trivial⟩
       have hq14:w1.drew.cell? ⟨s2.b,13,none⟩=some (.int .i64 s2.used):=(HC1.out.slot s2 hs2).2.1.cell 13
       have HQ14:=Zhd hq14
       have HS2:=Zhd (Zan hs2 (Zan hod2 hod))
       have HNE:=Zhd (show od.toList.isEmpty=false by
        have h5:=Zop (Zax s2.f) []
        have h6:=ZkY s2.f.name s2.f.typ
        rw[hod2]
        have h7:decide (Zax s2.f=[])=false:=Zdf (fun e=>by rw[Zax] at e;rw[e] at h6;simp at h6)
        rw[h7] at h5
        have h8:(⟨([]:List UInt8).toArray⟩:ByteArray).toList=[]:=by first|rfl|simp
        rw[h8] at h5
        cases hx:(⟨(Zax s2.f).toArray⟩:ByteArray).toList with
        |nil=>rw[hx] at h5;simp at h5
        |cons a l=>rfl)
       have HLK2:=Zhd (fun w' (p:Below w1.heap.size w1 w')=>show(Instr.lookup 76 (.map (some M)) (.string od) false).run Tryz.prog w'= .ok (.pointer (some ⟨s2.b,0,none⟩)) w' by
        have hML0:MapL w1 M (ZdH L (Zax f)++[(⟨X,kk,f,k+1⟩:ZaP)]):=⟨n,D,HR1.out.1.owns,HOWN.out.2⟩
        have:=(hML0.on (p.block M hML0.lt)).look (key:=Zax s2.f) (by have:=Zcz (HFIN.out.1.slot s2 hs2).2.2.2.1;rw[Zax,Zdc];omega)
        rw[ZbX HFIN.out.1.keys hs2] at this
        rw[hod2];exact this)
       clear hs2 hod2 hq14 hod hl2
       obtain⟨Y17,hY17⟩:∃ q:Bool,q=(false||(decide (((s.used:Int))<((s2.used:Int))))):=⟨_,rfl⟩
       have HY17:=Zhd hY17
       clear hY17
       refine Zcs (m:=66) (by kernel_rfl) (fun x y=>Below x.heap.size x y) (fun i v xw=>match i with|0=>v= .string od|1=>v= .bool false|2=>v= .bool false|3=>v= .pointer (some ⟨s.b,0,none⟩)|4=>v= .pointer (some ⟨s.b,0,none⟩)|5=>v= .pointer (some ⟨s.b,13,none⟩)|6=>v= .int .i64 ((s.used:Int))|7=>v= .pointer (some ⟨C,0,none⟩)|8=>v= .pointer (some ⟨C,0,none⟩)|9=>v= .pointer (some ⟨C,2,none⟩)|10=>v= .map (some M)|11=>v= .string od|12=>v= .pointer (some ⟨s2.b,0,none⟩)|13=>v= .pointer (some ⟨s2.b,0,none⟩)|14=>v= .pointer (some ⟨s2.b,13,none⟩)|15=>v= .int .i64 ((s2.used:Int))|16=>v= .bool (decide (((s.used:Int))<((s2.used:Int))))|17=>v= .bool Y17|_=>True) rfl (by kernel_rfl) (fun _ _ _ h1 h2=>Zaa h1 h2 Zlr) Zbr (fun _ _ _ _ h _=>h) (Zc8 18 (by kernel_rfl) (fun _ _ h=>h)) ?_ ?_
       rotate_left
       ·intro a W hR hS hdep
        have e59:a.tmps.getD 59 undef= .bool Y17:=hdep 17 (by decide+kernel)
        obtain⟨T,df⟩:=a
        obtain rfl:df=[]:=hS.defers
        have hT:=ZdJ hS 66 rfl [42,43,44,45,46,47,48,49,50,51,52,53,54,55,56,57,58,59] (by kernel_rfl)
        simp only[List.foldl_cons,List.foldl_nil,List.setIfInBounds_toArray,List.set_cons_succ,List.set_cons_zero] at hT
        have k59:T.getD 59 undef= .bool Y17:=e59
        clear hS hdep
        rw[hT]
        rw[k59]
        clear k59 e59
        clear hT
        generalize T.getD 42 undef=u42
        generalize T.getD 43 undef=u43
        generalize T.getD 44 undef=u44
        generalize T.getD 45 undef=u45
        generalize T.getD 46 undef=u46
        generalize T.getD 47 undef=u47
        generalize T.getD 48 undef=u48
        generalize T.getD 49 undef=u49
        generalize T.getD 50 undef=u50
        generalize T.getD 51 undef=u51
        generalize T.getD 52 undef=u52
        generalize T.getD 53 undef=u53
        generalize T.getD 54 undef=u54
        generalize T.getD 55 undef=u55
        generalize T.getD 56 undef=u56
        generalize T.getD 57 undef=u57
        generalize T.getD 58 undef=u58
        have hbx:=Zaa (B:=w1.heap.size) (Below.drew Zbr) hR Zlr
        have HX9:=Zhd hbx
        clear hR hbx
        have HTK:=Zhd (show(Y17=true↔(od=⟨#[]⟩∨∀ t∈(ZdH L (Zax f)++[(⟨X,kk,f,k+1⟩:ZaP)]),od=⟨(Zax t.f).toArray⟩→s.used<t.used)) by
         rw[HY17.out,Bool.false_or,Zde]
         constructor
         ·intro h
          refine .inr fun t ht e=>?_
          have:t=s2:=Zih HFIN.out.1.keys ht HS2.out.1 (by
           rw[HS2.out.2.1] at e
           have e2:(Zax s2.f).toArray=(Zax t.f).toArray:=by injection e
           have:=congrArg Array.toList e2
           simpa using this.symm)
          subst this;omega
         ·rintro(h|h)
          ·exact absurd h HS2.out.2.2
          ·have:=h s2 HS2.out.1 HS2.out.2.1
           omega)
        cases Y17 with
        |false=>
         go_wp2_with fail
         go_roundw
         case rel=>
          have hrgW:=ZcO HR1.out.1 (HX9.out.block M HR1.out.1.owns.lt) (HX9.out.block _ HR1.out.1.lt)
          exact⟨od,rfl,Zhd ⟨_,_,hrgW,Zaa HR1.out.2.2 HX9.out Zlr,by have:=Zkg HFIN.out.1.keys HRG.out.2.2 HSL.out.1 HSL.out.2 HTK.out;rwa [if_neg (by decide)] at this⟩⟩
         case measure=>
          have hrgW:=ZcO HR1.out.1 (HX9.out.block M HR1.out.1.owns.lt) (HX9.out.block _ HR1.out.1.lt)
          rw[hrgW.left_eq,HRG.out.1.left_eq];exact HR1.out.2.1
        |true=>
         go_wp2_with fail
         go_roundw
         case rel=>
          have hrgW:=ZcO HR1.out.1 (HX9.out.block M HR1.out.1.owns.lt) (HX9.out.block _ HR1.out.1.lt)
          exact⟨x,rfl,Zhd ⟨_,_,hrgW,Zaa HR1.out.2.2 HX9.out Zlr,by have:=Zkg HFIN.out.1.keys HRG.out.2.2 HSL.out.1 HSL.out.2 HTK.out;rwa [if_pos rfl] at this⟩⟩
         case measure=>
          have hrgW:=ZcO HR1.out.1 (HX9.out.block M HR1.out.1.owns.lt) (HX9.out.block _ HR1.out.1.lt)
          rw[hrgW.left_eq,HRG.out.1.left_eq];exact HR1.out.2.1
       refine Zac rfl rfl (fun a W hR hS hdep K hK=>?_) ?_
       ·have e5:a.tmps[5]?.getD undef= .string od:=Zad (hS.keep 5 (by kernel_rfl))
        go_simp
        exact hK _ _ Zbr (by first|rfl|simp)
       refine Zac rfl rfl (fun a W hR hS hdep K hK=>?_) ?_
       ·have e42:a.tmps[42]?.getD undef= .string od:=Zad (hdep 0 (by decide+kernel))
        go_simp
        exact hK _ _ Zbr (by show Value.bool od.toList.isEmpty=_;rw[HNE.out])
       refine Zac rfl rfl (fun a W hR hS hdep K hK=>?_) ?_
       ·have e43:a.tmps[43]?.getD undef= .bool false:=Zad (hdep 1 (by decide+kernel))
        go_simp
        exact hK _ _ Zbr rfl
       refine Zac rfl rfl (fun a W hR hS hdep K hK=>?_) ?_
       ·have e7:a.tmps[7]?.getD undef= .pointer (some ⟨s.b,0,none⟩):=Zad (hS.keep 7 (by kernel_rfl))
        have e44:a.tmps[44]?.getD undef= .bool false:=Zad (hdep 2 (by decide+kernel))
        have g44:a.tmps[44]?=some (.bool false):=Zau (show _=66 from hS.size) (by decide) (hdep 2 (by decide+kernel))
        go_simp
        exact hK _ _ Zbr (by first|rfl|simp)
       refine Zac rfl rfl (fun a W hR hS hdep K hK=>?_) ?_
       ·have e45:a.tmps[45]?.getD undef= .pointer (some ⟨s.b,0,none⟩):=Zad (hdep 3 (by decide+kernel))
        have e44:a.tmps[44]?.getD undef= .bool false:=Zad (hdep 2 (by decide+kernel))
        have g44:a.tmps[44]?=some (.bool false):=Zau (show _=66 from hS.size) (by decide) (hdep 2 (by decide+kernel))
        go_simp
        exact hK _ _ Zbr (by first|rfl|simp)
       refine Zac rfl rfl (fun a W hR hS hdep K hK=>?_) ?_
       ·have e46:a.tmps[46]?.getD undef= .pointer (some ⟨s.b,0,none⟩):=Zad (hdep 4 (by decide+kernel))
        have e44:a.tmps[44]?.getD undef= .bool false:=Zad (hdep 2 (by decide+kernel))
        have g44:a.tmps[44]?=some (.bool false):=Zau (show _=66 from hS.size) (by decide) (hdep 2 (by decide+kernel))
        go_simp
        exact hK _ _ Zbr (by first|rfl|simp)
       refine Zac rfl rfl (fun a W hR hS hdep K hK=>?_) ?_
       ·have e47:a.tmps[47]?.getD undef= .pointer (some ⟨s.b,13,none⟩):=Zad (hdep 5 (by decide+kernel))
        have e44:a.tmps[44]?.getD undef= .bool false:=Zad (hdep 2 (by decide+kernel))
        have g44:a.tmps[44]?=some (.bool false):=Zau (show _=66 from hS.size) (by decide) (hdep 2 (by decide+kernel))
        have m0:=Zab hR HQ13.out
        go_simp
        exact hK _ _ Zbr (by first|rfl|simp)
       refine Zac rfl rfl (fun a W hR hS hdep K hK=>?_) ?_
       ·have e0:a.tmps[0]?.getD undef= .pointer (some ⟨C,0,none⟩):=Zad (hS.keep 0 (by kernel_rfl))
        have e44:a.tmps[44]?.getD undef= .bool false:=Zad (hdep 2 (by decide+kernel))
        have g44:a.tmps[44]?=some (.bool false):=Zau (show _=66 from hS.size) (by decide) (hdep 2 (by decide+kernel))
        go_simp
        exact hK _ _ Zbr (by first|rfl|simp)
       refine Zac rfl rfl (fun a W hR hS hdep K hK=>?_) ?_
       ·have e49:a.tmps[49]?.getD undef= .pointer (some ⟨C,0,none⟩):=Zad (hdep 7 (by decide+kernel))
        have e44:a.tmps[44]?.getD undef= .bool false:=Zad (hdep 2 (by decide+kernel))
        have g44:a.tmps[44]?=some (.bool false):=Zau (show _=66 from hS.size) (by decide) (hdep 2 (by decide+kernel))
        go_simp
        exact hK _ _ Zbr (by first|rfl|simp)
       refine Zac rfl rfl (fun a W hR hS hdep K hK=>?_) ?_
       ·have e50:a.tmps[50]?.getD undef= .pointer (some ⟨C,0,none⟩):=Zad (hdep 8 (by decide+kernel))
        have e44:a.tmps[44]?.getD undef= .bool false:=Zad (hdep 2 (by decide+kernel))
        have g44:a.tmps[44]?=some (.bool false):=Zau (show _=66 from hS.size) (by decide) (hdep 2 (by decide+kernel))
        go_simp
        exact hK _ _ Zbr (by first|rfl|simp)
       refine Zac rfl rfl (fun a W hR hS hdep K hK=>?_) ?_
       ·have e51:a.tmps[51]?.getD undef= .pointer (some ⟨C,2,none⟩):=Zad (hdep 9 (by decide+kernel))
        have e44:a.tmps[44]?.getD undef= .bool false:=Zad (hdep 2 (by decide+kernel))
        have g44:a.tmps[44]?=some (.bool false):=Zau (show _=66 from hS.size) (by decide) (hdep 2 (by decide+kernel))
        have m0:=Zab hR HQC.out
        go_simp
        exact hK _ _ Zbr (by first|rfl|simp)
       refine Zac rfl rfl (fun a W hR hS hdep K hK=>?_) ?_
       ·have e5:a.tmps[5]?.getD undef= .string od:=Zad (hS.keep 5 (by kernel_rfl))
        have e44:a.tmps[44]?.getD undef= .bool false:=Zad (hdep 2 (by decide+kernel))
        have g44:a.tmps[44]?=some (.bool false):=Zau (show _=66 from hS.size) (by decide) (hdep 2 (by decide+kernel))
        go_simp
        exact hK _ _ Zbr (by first|rfl|simp)
       refine Zac rfl rfl (fun a W hR hS hdep K hK=>?_) ?_
       ·have e52:a.tmps[52]?.getD undef= .map (some M):=Zad (hdep 10 (by decide+kernel))
        have e53:a.tmps[53]?.getD undef= .string od:=Zad (hdep 11 (by decide+kernel))
        have e44:a.tmps[44]?.getD undef= .bool false:=Zad (hdep 2 (by decide+kernel))
        have g44:a.tmps[44]?=some (.bool false):=Zau (show _=66 from hS.size) (by decide) (hdep 2 (by decide+kernel))
        go_simp
        have hbx:=Zaa (B:=w1.heap.size) (Below.drew Zbr) hR Zlr
        rw[HLK2.out _ hbx]
        exact hK _ _ Zbr rfl
       refine Zac rfl rfl (fun a W hR hS hdep K hK=>?_) ?_
       ·have e54:a.tmps[54]?.getD undef= .pointer (some ⟨s2.b,0,none⟩):=Zad (hdep 12 (by decide+kernel))
        have e44:a.tmps[44]?.getD undef= .bool false:=Zad (hdep 2 (by decide+kernel))
        have g44:a.tmps[44]?=some (.bool false):=Zau (show _=66 from hS.size) (by decide) (hdep 2 (by decide+kernel))
        go_simp
        exact hK _ _ Zbr (by first|rfl|simp)
       refine Zac rfl rfl (fun a W hR hS hdep K hK=>?_) ?_
       ·have e55:a.tmps[55]?.getD undef= .pointer (some ⟨s2.b,0,none⟩):=Zad (hdep 13 (by decide+kernel))
        have e44:a.tmps[44]?.getD undef= .bool false:=Zad (hdep 2 (by decide+kernel))
        have g44:a.tmps[44]?=some (.bool false):=Zau (show _=66 from hS.size) (by decide) (hdep 2 (by decide+kernel))
        go_simp
        exact hK _ _ Zbr (by first|rfl|simp)
       refine Zac rfl rfl (fun a W hR hS hdep K hK=>?_) ?_
       ·have e56:a.tmps[56]?.getD undef= .pointer (some ⟨s2.b,13,none⟩):=Zad (hdep 14 (by decide+kernel))
        have e44:a.tmps[44]?.getD undef= .bool false:=Zad (hdep 2 (by decide+kernel))
        have g44:a.tmps[44]?=some (.bool false):=Zau (show _=66 from hS.size) (by decide) (hdep 2 (by decide+kernel))
        have m0:=Zab hR HQ14.out
        go_simp
        exact hK _ _ Zbr (by first|rfl|simp)
       refine Zac rfl rfl (fun a W hR hS hdep K hK=>?_) ?_
       ·have e48:a.tmps[48]?.getD undef= .int .i64 ((s.used:Int)):=Zad (hdep 6 (by decide+kernel))
        have e57:a.tmps[57]?.getD undef= .int .i64 ((s2.used:Int)):=Zad (hdep 15 (by decide+kernel))
        have e44:a.tmps[44]?.getD undef= .bool false:=Zad (hdep 2 (by decide+kernel))
        have g44:a.tmps[44]?=some (.bool false):=Zau (show _=66 from hS.size) (by decide) (hdep 2 (by decide+kernel))
        go_simp
        exact hK _ _ Zbr (by first|rfl|simp)
       refine Zac rfl rfl (fun a W hR hS hdep K hK=>?_) ?_
       ·have e44:a.tmps[44]?.getD undef= .bool false:=Zad (hdep 2 (by decide+kernel))
        have e58:a.tmps[58]?.getD undef= .bool (decide (((s.used:Int))<((s2.used:Int)))):=Zad (hdep 16 (by decide+kernel))
        go_simp
        exact hK _ _ Zbr (by first|rfl|(rw[HY17.out];rfl)|(rw[HY17.out];simp)|simp[HY17.out])
       exact fun j h1 h2=>absurd h1 (by simp only[List.size_toArray,List.length_cons,List.length_nil];omega)
   refine Zac rfl rfl (fun a W hR hS hdep K hK=>?_) ?_
   ·have e0:a.tmps[0]?.getD undef= .pointer (some ⟨C,0,none⟩):=Zad (hS.keep 0 (by kernel_rfl))
    go_simp
    exact hK _ _ Zbr (by first|rfl|simp)
   refine Zac rfl rfl (fun a W hR hS hdep K hK=>?_) ?_
   ·have e22:a.tmps[22]?.getD undef= .pointer (some ⟨C,0,none⟩):=Zad (hdep 0 (by decide+kernel))
    go_simp
    exact hK _ _ Zbr (by first|rfl|simp)
   refine Zac rfl rfl (fun a W hR hS hdep K hK=>?_) ?_
   ·have e23:a.tmps[23]?.getD undef= .pointer (some ⟨C,0,none⟩):=Zad (hdep 1 (by decide+kernel))
    go_simp
    exact hK _ _ Zbr (by first|rfl|simp)
   refine Zac rfl rfl (fun a W hR hS hdep K hK=>?_) ?_
   ·have e24:a.tmps[24]?.getD undef= .pointer (some ⟨C,2,none⟩):=Zad (hdep 2 (by decide+kernel))
    have m0:=Zab hR HQ2.out
    go_simp
    exact hK _ _ Zbr (by first|rfl|simp)
   refine Zac rfl rfl (fun a W hR hS hdep K hK=>?_) ?_
   ·have e25:a.tmps[25]?.getD undef= .map (some M):=Zad (hdep 3 (by decide+kernel))
    go_simp
    have hbx:=Zaa (B:=W5.heap.size) (Below.drew Zbr) hR Zlr
    rw[HLN.out _ hbx]
    exact hK _ _ Zbr rfl
   refine Zac rfl rfl (fun a W hR hS hdep K hK=>?_) ?_
   ·have e0:a.tmps[0]?.getD undef= .pointer (some ⟨C,0,none⟩):=Zad (hS.keep 0 (by kernel_rfl))
    go_simp
    exact hK _ _ Zbr (by first|rfl|simp)
   refine Zac rfl rfl (fun a W hR hS hdep K hK=>?_) ?_
   ·have e27:a.tmps[27]?.getD undef= .pointer (some ⟨C,0,none⟩):=Zad (hdep 5 (by decide+kernel))
    go_simp
    exact hK _ _ Zbr (by first|rfl|simp)
   refine Zac rfl rfl (fun a W hR hS hdep K hK=>?_) ?_
   ·have e28:a.tmps[28]?.getD undef= .pointer (some ⟨C,0,none⟩):=Zad (hdep 6 (by decide+kernel))
    go_simp
    exact hK _ _ Zbr (by first|rfl|simp)
   refine Zac rfl rfl (fun a W hR hS hdep K hK=>?_) ?_
   ·have e29:a.tmps[29]?.getD undef= .pointer (some ⟨C,0,none⟩):=Zad (hdep 7 (by decide+kernel))
    have m0:=Zab hR HQ0.out
    go_simp
    exact hK _ _ Zbr (by first|rfl|simp)
   refine Zac rfl rfl (fun a W hR hS hdep K hK=>?_) ?_
   ·have e26:a.tmps[26]?.getD undef= .int .i64 N:=Zad (hdep 4 (by decide+kernel))
    have e30:a.tmps[30]?.getD undef= .int .i64 most:=Zad (hdep 8 (by decide+kernel))
    go_simp
    exact hK _ _ Zbr (by first|rfl|simp)
   exact fun j h1 h2=>absurd h1 (by simp only[List.size_toArray,List.length_cons,List.length_nil];omega)
 refine Zac rfl rfl (fun a W hR hS hdep K hK=>?_) ?_
 ·have e0:a.tmps[0]?.getD undef= .pointer (some ⟨C,0,none⟩):=Zad (hS.keep 0 (by kernel_rfl))
  go_simp
  exact hK _ _ Zbr (by first|rfl|simp)
 refine Zac rfl rfl (fun a W hR hS hdep K hK=>?_) ?_
 ·have e12:a.tmps[12]?.getD undef= .pointer (some ⟨C,0,none⟩):=Zad (hdep 0 (by decide+kernel))
  go_simp
  exact hK _ _ Zbr (by first|rfl|simp)
 refine Zac rfl rfl (fun a W hR hS hdep K hK=>?_) ?_
 ·have e13:a.tmps[13]?.getD undef= .pointer (some ⟨C,0,none⟩):=Zad (hdep 1 (by decide+kernel))
  go_simp
  exact hK _ _ Zbr (by first|rfl|simp)
 refine Zac rfl rfl (fun a W hR hS hdep K hK=>?_) ?_
 ·have e14:a.tmps[14]?.getD undef= .pointer (some ⟨C,2,none⟩):=Zad (hdep 2 (by decide+kernel))
  have m0:=Zab hR HMC.out
  go_simp
  exact hK _ _ Zbr (by first|rfl|simp)
 refine Zac rfl rfl (fun a W hR hS hdep K hK=>?_) ?_
 ·have e3:a.tmps[3]?.getD undef= .pointer (some ⟨w.heap.size,0,none⟩):=Zad (hS.keep 3 (by kernel_rfl))
  have m0:=Zab hR HM0.out
  have m1:=Zab hR HM1.out
  have m2:=Zab hR HM2.out
  have m3:=Zab hR HM3.out
  have m4:=Zab hR HM4.out
  have m5:=Zab hR HM5.out
  have m6:=Zab hR HM6.out
  have m7:=Zab hR HM7.out
  have m8:=Zab hR HM8.out
  have m9:=Zab hR HM9.out
  have m10:=Zab hR HM10.out
  have m11:=Zab hR HM11.out
  have m12:=Zab hR HM12.out
  go_simp
  exact hK _ _ Zbr (by first|rfl|simp)
 refine Zac rfl rfl (fun a W hR hS hdep K hK=>?_) ?_
 ·have e16:a.tmps[16]?.getD undef= .agg #[.slice h.na h.nl h.nc,.int .i64 f.typ,.int .i64 f.kind,.int .i64 f.rank,.int .i64 f.got,.int .i64 f.ttl,.slice h.sa h.sl h.sc,.slice h.za h.zl h.zc,.slice h.d.ba h.d.bl h.d.bc,.slice h.d.ha h.d.hl h.d.hc,.slice h.d.ma h.d.ml h.d.mc,.slice h.d.na h.d.nl h.d.nc,.slice h.d.ta h.d.tl h.d.tc]:=Zad (hdep 4 (by decide+kernel))
  go_simp
  have hbx:=Zaa (B:=Y.heap.size) (Below.drew Zbr) hR Zlr
  refine(HKY.out _ hbx).mono ?_
  rintro e W' ⟨rfl,hb⟩
  exact hK _ _ hb rfl
 refine Zac rfl rfl (fun a W hR hS hdep K hK=>?_) ?_
 ·have e4:a.tmps[4]?.getD undef= .pointer (some ⟨X,0,none⟩):=Zad (hS.keep 4 (by kernel_rfl))
  go_simp
  exact hK _ _ Zbr (by first|rfl|simp)
 exact fun j h1 h2=>absurd h1 (by omega)
def Znn (L:List ZaP) (f:Zas) (now:Int):Bool:=match atL L (Zax f) with|some s=>Zfa s.f f now|none=>true
def ZmB (L:List ZaP) (f:Zas) (now:Int):Bool:=Zbl f&&(Za6 now&&Znn L f now)
theorem Zj6 (w:World) (S R:Nat→Prop) (h k:ZaU) (f g:Zas) (now:Int) (B:Bool) (hB:B=Zfa f g now) (hf:IsFact S w h f) (hg:IsFact R w k g):
  Calls Tryz.prog 60 #[.agg (Zaj h f),.agg (Zaj k g),.int .i64 now] w fun e w'=>e= .returned (.bool B)∧Below w.heap.size w w':=by
 rw[hB]
 exact ZmQ w S R h k f g now hf hg
structure Zqk (B:Nat) (w':World) (C:Nat) (most stale:Int) (k:Nat) (L:List ZaP) (f:Zas) (b:Bool):Prop where
 yes:b=true→∃ b kk,IsCache B w' C most stale (k+1) (ZfB most (ZdH L (Zax f)++[⟨b,kk,f,k+1⟩]))
 no:b=false→IsCache B w' C most stale k L
theorem ZpE (w:World) (S:Nat→Prop) (B C:Nat) (most stale:Int) (k:Nat) (L:List ZaP) (hC:IsCache B w C most stale k L) (hk:k<4000000000000000000) (hL:L.length<100000) (h:ZaU) (f:Zas) (hf:IsFact S w h f) (hl:Zmy f) (now:Int):
  Calls Tryz.prog 26 #[.pointer (some ⟨C,0,none⟩),.agg (Zaj h f),.int .i64 now] w fun e w'=>e= .returned (.bool (ZmB L f now))∧Left B w w'∧Zqk B w' C most stale k L f (ZmB L f now):=by
 have hb1:Below w.heap.size w (w.alloc (.cells (Zaj h f) 37)):=Zbr.alloc Zlr _
 have hA:Blk (w.alloc (.cells (Zaj h f) 37)) w.heap.size (Zaj h f) 37:=Zha w _
 have HA:=Zhd hA
 have hBw:B≤w.heap.size:=by
  obtain⟨M,h1,_⟩:=hC.ex
  have:=hC.base
  have:=h1.lt
  omega
 have HB:=Zhd (Zan hb1 hBw)
 have HCC:=Zhd hC
 have HF1:=Zhd (hf.on hb1)
 have HV:=Zhd (Zan hl (Zan hk hL))
 obtain⟨m0,m1,m2,m3,m4,m5,m6,m7,m8,m9,m10,m11,m12⟩:=Zc13 (show Blk ((w.alloc (.cells (Zaj h f) 37))) w.heap.size _ _ from hA)
 have HS:=Zhd (ZdE _ S _ _ HF1.out)
 have HT:=Zhd (fun w'=>ZcI now w')
 clear hA hC hf hl hb1 hk hL hBw
 cases hFB:Zbl f with
 |false=>
  have hput:ZmB L f now=false:=by rw[ZmB,hFB];rfl
  rw[hput]
  rw[hFB] at HS
  go_enter Tryz.func26,Tryz.ntmps26
  simp only[Zaj]
  go_wp2_with (go_at_call 58;refine HS.out.mono ?_;rintro e W ⟨rfl,hb⟩;have HW:=Zhd (Zaa HB.out.1 hb Zlr);clear hb)
  go_ret
  exact⟨rfl,Left.below HW.out HB.out.2,⟨fun e=>absurd e (by simp),fun _=>HCC.out.on HW.out⟩⟩
 |true=>
  rw[hFB] at HS
  cases hTB:Za6 now with
  |false=>
   have hput:ZmB L f now=false:=by rw[ZmB,hTB];simp
   rw[hput]
   rw[hTB] at HT
   go_enter Tryz.func26,Tryz.ntmps26
   simp only[Zaj]
   go_wp2_with (first|(go_at_call 58;refine HS.out.mono ?_;rintro e W ⟨rfl,hb⟩;have HW:=Zhd (Zaa HB.out.1 hb Zlr);clear hb)|(go_at_call 42;refine(HT.out _).mono ?_;rintro e w' ⟨rfl,rfl⟩))
   go_ret
   exact⟨rfl,Left.below HW.out HB.out.2,⟨fun e=>absurd e (by simp),fun _=>HCC.out.on HW.out⟩⟩
  |true=>
   have hput:ZmB L f now=Znn L f now:=by rw[ZmB,hFB,hTB];simp
   rw[hput]
   rw[hTB] at HT
   have hfree:Znn L f now=(match atL L (Zax f) with|some s=>Zfa s.f f now|none=>true):=rfl
   have HZ:=Zhd (Zcz hFB)
   cases hat:atL L (Zax f) with
   |none=>
    rw[hat] at hfree
    simp only at hfree
    rw[hfree]
    clear hput hfree
    go_enter Tryz.func26,Tryz.ntmps26
    simp only[Zaj]
    go_wp2_with (first|(go_at_call 58;refine HS.out.mono ?_;rintro e Y ⟨rfl,hb⟩;have hA:=HA.out.on hb;have HW:=Zhd (Zaa HB.out.1 hb Zlr);have HFY:=Zhd (HF1.out.on hb);clear hb m0 m1 m2 m3 m4 m5 m6 m7 m8 m9 m10 m11 m12)|(go_at_call 42;refine(HT.out _).mono ?_;rintro e w' ⟨rfl,rfl⟩))
    obtain⟨M,hCb,hMB,hML⟩:=HCC.out.ex
    have HMC:=Zhd (show Y.drew.cell? ⟨C,2,none⟩=some (.map (some M)) from(hCb.on HW.out).cell 2)
    have HM0:=Zhd (show Y.drew.cell? ⟨w.heap.size,0,none⟩=some (.slice h.na h.nl h.nc) from hA.cell 0)
    have HM1:=Zhd (show Y.drew.cell? ⟨w.heap.size,1,none⟩=some (.int .i64 f.typ) from hA.cell 1)
    have HM2:=Zhd (show Y.drew.cell? ⟨w.heap.size,2,none⟩=some (.int .i64 f.kind) from hA.cell 2)
    have HM3:=Zhd (show Y.drew.cell? ⟨w.heap.size,3,none⟩=some (.int .i64 f.rank) from hA.cell 3)
    have HM4:=Zhd (show Y.drew.cell? ⟨w.heap.size,4,none⟩=some (.int .i64 f.got) from hA.cell 4)
    have HM5:=Zhd (show Y.drew.cell? ⟨w.heap.size,5,none⟩=some (.int .i64 f.ttl) from hA.cell 5)
    have HM6:=Zhd (show Y.drew.cell? ⟨w.heap.size,6,none⟩=some (.slice h.sa h.sl h.sc) from hA.cell 6)
    have HM7:=Zhd (show Y.drew.cell? ⟨w.heap.size,7,none⟩=some (.slice h.za h.zl h.zc) from hA.cell 7)
    have HM8:=Zhd (show Y.drew.cell? ⟨w.heap.size,8,none⟩=some (.slice h.d.ba h.d.bl h.d.bc) from hA.cell 8)
    have HM9:=Zhd (show Y.drew.cell? ⟨w.heap.size,9,none⟩=some (.slice h.d.ha h.d.hl h.d.hc) from hA.cell 9)
    have HM10:=Zhd (show Y.drew.cell? ⟨w.heap.size,10,none⟩=some (.slice h.d.ma h.d.ml h.d.mc) from hA.cell 10)
    have HM11:=Zhd (show Y.drew.cell? ⟨w.heap.size,11,none⟩=some (.slice h.d.na h.d.nl h.d.nc) from hA.cell 11)
    have HM12:=Zhd (show Y.drew.cell? ⟨w.heap.size,12,none⟩=some (.slice h.d.ta h.d.tl h.d.tc) from hA.cell 12)
    have HKY:=Zhd (fun w' (p:Below Y.heap.size Y w')=>ZeB w' h f ((HFY.out).on p).name (Nat.le_trans HZ.out (by decide)))
    simp only[Zaj] at HKY
    have HLK:=Zhd (fun w' (p:Below Y.heap.size Y w')=>((hML.on (HW.out.block M hML.lt)).on (p.block M (Nat.lt_of_lt_of_le hML.lt HW.out.size))).look_ok (key:=Zax f) (by rw[Zax,Zdc];have:=HZ.out;omega))
    simp only[hat] at HLK
    have HAY:=Zhd hA
    clear hCb hMB hML hA
    refine Zcs (m:=45) (by kernel_rfl) (fun x y=>Below x.heap.size x y) (fun i v xw=>match i with|0=>v= .pointer (some ⟨C,0,none⟩)|1=>v= .pointer (some ⟨C,0,none⟩)|2=>v= .pointer (some ⟨C,2,none⟩)|3=>v= .map (some M)|4=>v= .agg #[.slice h.na h.nl h.nc,.int .i64 f.typ,.int .i64 f.kind,.int .i64 f.rank,.int .i64 f.got,.int .i64 f.ttl,.slice h.sa h.sl h.sc,.slice h.za h.zl h.zc,.slice h.d.ba h.d.bl h.d.bc,.slice h.d.ha h.d.hl h.d.hc,.slice h.d.ma h.d.ml h.d.mc,.slice h.d.na h.d.nl h.d.nc,.slice h.d.ta h.d.tl h.d.tc]|5=>v= .string (⟨(Zax f).toArray⟩)|6=>v= .tuple #[.pointer none,.bool false]|7=>v= .tuple #[.pointer none,.bool false]|8=>v= .pointer none|9=>v= .bool false|10=>v= .pointer none|11=>v= .bool false|_=>True) rfl (by kernel_rfl) (fun _ _ _ h1 h2=>Zaa h1 h2 Zlr) Zbr (fun _ _ _ _ h _=>h) (Zc8 12 (by kernel_rfl) (fun _ _ h=>h)) ?_ ?_
    rotate_left
    ·intro a Z hR hS hdep
     have e0:a.tmps.getD 0 undef= .pointer (some ⟨C,0,none⟩):=hS.keep 0 (by kernel_rfl)
     have e2:a.tmps.getD 2 undef= .int .i64 now:=hS.keep 2 (by kernel_rfl)
     have e4:a.tmps.getD 4 undef= .pointer (some ⟨w.heap.size,0,none⟩):=hS.keep 4 (by kernel_rfl)
     have e7:a.tmps.getD 7 undef= .pointer none:=hdep 10 (by decide+kernel)
     have e8:a.tmps.getD 8 undef= .bool false:=hdep 11 (by decide+kernel)
     obtain⟨T,df⟩:=a
     obtain rfl:df=[]:=hS.defers
     have hT:=Zcy T 45 hS.size;simp only[List.range,List.range.loop,List.map_cons,List.map_nil] at hT
     have k0:T.getD 0 undef= .pointer (some ⟨C,0,none⟩):=e0
     have k2:T.getD 2 undef= .int .i64 now:=e2
     have k4:T.getD 4 undef= .pointer (some ⟨w.heap.size,0,none⟩):=e4
     have k7:T.getD 7 undef= .pointer none:=e7
     have k8:T.getD 8 undef= .bool false:=e8
     clear hS hdep
     rw[hT]
     rw[k0]
     clear k0 e0
     rw[k2]
     clear k2 e2
     rw[k4]
     clear k4 e4
     rw[k7]
     clear k7 e7
     rw[k8]
     clear k8 e8
     clear hT
     generalize T.getD 1 undef=u1
     generalize T.getD 3 undef=u3
     generalize T.getD 5 undef=u5
     generalize T.getD 6 undef=u6
     generalize T.getD 9 undef=u9
     generalize T.getD 10 undef=u10
     generalize T.getD 11 undef=u11
     generalize T.getD 12 undef=u12
     generalize T.getD 13 undef=u13
     generalize T.getD 14 undef=u14
     generalize T.getD 15 undef=u15
     generalize T.getD 16 undef=u16
     generalize T.getD 17 undef=u17
     generalize T.getD 18 undef=u18
     generalize T.getD 19 undef=u19
     generalize T.getD 20 undef=u20
     generalize T.getD 21 undef=u21
     generalize T.getD 22 undef=u22
     generalize T.getD 23 undef=u23
     generalize T.getD 24 undef=u24
     generalize T.getD 25 undef=u25
     generalize T.getD 26 undef=u26
     generalize T.getD 27 undef=u27
     generalize T.getD 28 undef=u28
     generalize T.getD 29 undef=u29
     generalize T.getD 30 undef=u30
     generalize T.getD 31 undef=u31
     generalize T.getD 32 undef=u32
     generalize T.getD 33 undef=u33
     generalize T.getD 34 undef=u34
     generalize T.getD 35 undef=u35
     generalize T.getD 36 undef=u36
     generalize T.getD 37 undef=u37
     generalize T.getD 38 undef=u38
     generalize T.getD 39 undef=u39
     generalize T.getD 40 undef=u40
     generalize T.getD 41 undef=u41
     generalize T.getD 42 undef=u42
     generalize T.getD 43 undef=u43
     generalize T.getD 44 undef=u44
     have hbx:=Zaa (B:=Y.heap.size) (Below.drew Zbr) hR Zlr
     clear hR
     have hAZ:=HAY.out.on hbx
     have HWZ:=Zhd (Zaa HW.out hbx Zlr)
     have HFZ:=Zhd (HFY.out.on hbx)
     clear hbx
     have HAZ:=Zhd hAZ
     clear hAZ
     go_wp2_with fail
     refine Zcs (m:=45) (by kernel_rfl) (fun x y=>Below x.heap.size x y) (fun i v xw=>match i with|0=>v= .bool false|1=>v= .bool false|2=>v=undef|3=>v=undef|4=>v=undef|5=>v=undef|6=>v=undef|7=>v=undef|8=>v=undef|9=>v=undef|10=>v= .bool false|_=>True) rfl (by kernel_rfl) (fun _ _ _ h1 h2=>Zaa h1 h2 Zlr) Zbr (fun _ _ _ _ h _=>h) (Zc8 11 (by kernel_rfl) (fun _ _ h=>h)) ?_ ?_
     rotate_left
     ·intro a V hR hS hdep
      have e0:a.tmps.getD 0 undef= .pointer (some ⟨C,0,none⟩):=hS.keep 0 (by kernel_rfl)
      have e4:a.tmps.getD 4 undef= .pointer (some ⟨w.heap.size,0,none⟩):=hS.keep 4 (by kernel_rfl)
      have e41:a.tmps.getD 41 undef= .bool false:=hdep 10 (by decide+kernel)
      obtain⟨T,df⟩:=a
      obtain rfl:df=[]:=hS.defers
      have hT:=Zcy T 45 hS.size;simp only[List.range,List.range.loop,List.map_cons,List.map_nil] at hT
      have k0:T.getD 0 undef= .pointer (some ⟨C,0,none⟩):=e0
      have k4:T.getD 4 undef= .pointer (some ⟨w.heap.size,0,none⟩):=e4
      have k41:T.getD 41 undef= .bool false:=e41
      clear hS hdep
      rw[hT]
      rw[k0]
      clear k0 e0
      rw[k4]
      clear k4 e4
      rw[k41]
      clear k41 e41
      clear hT
      generalize T.getD 1 undef=u1
      generalize T.getD 2 undef=u2
      generalize T.getD 3 undef=u3
      generalize T.getD 5 undef=u5
      generalize T.getD 6 undef=u6
      generalize T.getD 7 undef=u7
      generalize T.getD 8 undef=u8
      generalize T.getD 9 undef=u9
      generalize T.getD 10 undef=u10
      generalize T.getD 11 undef=u11
      generalize T.getD 12 undef=u12
      generalize T.getD 13 undef=u13
      generalize T.getD 14 undef=u14
      generalize T.getD 15 undef=u15
      generalize T.getD 16 undef=u16
      generalize T.getD 17 undef=u17
      generalize T.getD 18 undef=u18
      generalize T.getD 19 undef=u19
      generalize T.getD 20 undef=u20
      generalize T.getD 21 undef=u21
      generalize T.getD 22 undef=u22
      generalize T.getD 23 undef=u23
      generalize T.getD 24 undef=u24
      generalize T.getD 25 undef=u25
      generalize T.getD 26 undef=u26
      generalize T.getD 27 undef=u27
      generalize T.getD 28 undef=u28
      generalize T.getD 29 undef=u29
      generalize T.getD 30 undef=u30
      generalize T.getD 31 undef=u31
      generalize T.getD 32 undef=u32
      generalize T.getD 33 undef=u33
      generalize T.getD 34 undef=u34
      generalize T.getD 35 undef=u35
      generalize T.getD 36 undef=u36
      generalize T.getD 37 undef=u37
      generalize T.getD 38 undef=u38
      generalize T.getD 39 undef=u39
      generalize T.getD 40 undef=u40
      generalize T.getD 42 undef=u42
      generalize T.getD 43 undef=u43
      generalize T.getD 44 undef=u44
      have hbx:=Zaa (B:=Z.heap.size) (Below.drew Zbr) hR Zlr
      clear hR
      have hAV:=HAZ.out.on hbx
      have HWV:=Zhd (Zaa HWZ.out hbx Zlr)
      have HFV:=Zhd (HFZ.out.on hbx)
      clear hbx
      obtain⟨n0,n1,n2,n3,n4,n5,n6,n7,n8,n9,n10,n11,n12⟩:=Zc13 (show Blk V w.heap.size _ _ from hAV)
      clear hAV
      go_wp2_with (go_at_call 61;refine(Zij V S B C most stale k L (HCC.out.on HWV.out) HV.out.2.1 HV.out.2.2 h f HFV.out hFB HV.out.1).mono ?_;rintro e V2 ⟨rfl,b,kk,hI,hL⟩)
      go_ret
      exact⟨rfl,(Left.below HWV.out HB.out.2).trans hL,⟨fun _=>⟨b,kk,hI⟩,fun e=>absurd e (by simp)⟩⟩
     refine Zac rfl rfl (fun a V hR hS hdep K hK=>?_) ?_
     ·have e8:a.tmps[8]?.getD undef= .bool false:=Zad (hS.keep 8 (by kernel_rfl))
      go_simp
      exact hK _ _ Zbr (by first|rfl|simp)
     refine Zac rfl rfl (fun a V hR hS hdep K hK=>?_) ?_
     ·have e31:a.tmps[31]?.getD undef= .bool false:=Zad (hdep 0 (by decide+kernel))
      go_simp
      exact hK _ _ Zbr (by first|rfl|simp)
     refine Zac rfl rfl (fun a V hR hS hdep K hK=>?_) ?_
     ·have e32:a.tmps[32]?.getD undef= .bool false:=Zad (hdep 1 (by decide+kernel))
      have g32:a.tmps[32]?=some (.bool false):=Zau (show _=45 from hS.size) (by decide) (hdep 1 (by decide+kernel))
      go_simp
      exact hK _ _ Zbr (by first|rfl|simp)
     refine Zac rfl rfl (fun a V hR hS hdep K hK=>?_) ?_
     ·have e32:a.tmps[32]?.getD undef= .bool false:=Zad (hdep 1 (by decide+kernel))
      have g32:a.tmps[32]?=some (.bool false):=Zau (show _=45 from hS.size) (by decide) (hdep 1 (by decide+kernel))
      go_simp
      exact hK _ _ Zbr (by first|rfl|simp)
     refine Zac rfl rfl (fun a V hR hS hdep K hK=>?_) ?_
     ·have e32:a.tmps[32]?.getD undef= .bool false:=Zad (hdep 1 (by decide+kernel))
      have g32:a.tmps[32]?=some (.bool false):=Zau (show _=45 from hS.size) (by decide) (hdep 1 (by decide+kernel))
      go_simp
      exact hK _ _ Zbr (by first|rfl|simp)
     refine Zac rfl rfl (fun a V hR hS hdep K hK=>?_) ?_
     ·have e32:a.tmps[32]?.getD undef= .bool false:=Zad (hdep 1 (by decide+kernel))
      have g32:a.tmps[32]?=some (.bool false):=Zau (show _=45 from hS.size) (by decide) (hdep 1 (by decide+kernel))
      go_simp
      exact hK _ _ Zbr (by first|rfl|simp)
     refine Zac rfl rfl (fun a V hR hS hdep K hK=>?_) ?_
     ·have e32:a.tmps[32]?.getD undef= .bool false:=Zad (hdep 1 (by decide+kernel))
      have g32:a.tmps[32]?=some (.bool false):=Zau (show _=45 from hS.size) (by decide) (hdep 1 (by decide+kernel))
      go_simp
      exact hK _ _ Zbr (by first|rfl|simp)
     refine Zac rfl rfl (fun a V hR hS hdep K hK=>?_) ?_
     ·have e32:a.tmps[32]?.getD undef= .bool false:=Zad (hdep 1 (by decide+kernel))
      have g32:a.tmps[32]?=some (.bool false):=Zau (show _=45 from hS.size) (by decide) (hdep 1 (by decide+kernel))
      go_simp
      exact hK _ _ Zbr (by first|rfl|simp)
     refine Zac rfl rfl (fun a V hR hS hdep K hK=>?_) ?_
     ·have e32:a.tmps[32]?.getD undef= .bool false:=Zad (hdep 1 (by decide+kernel))
      have g32:a.tmps[32]?=some (.bool false):=Zau (show _=45 from hS.size) (by decide) (hdep 1 (by decide+kernel))
      go_simp
      exact hK _ _ Zbr (by first|rfl|simp)
     refine Zac rfl rfl (fun a V hR hS hdep K hK=>?_) ?_
     ·have e32:a.tmps[32]?.getD undef= .bool false:=Zad (hdep 1 (by decide+kernel))
      have g32:a.tmps[32]?=some (.bool false):=Zau (show _=45 from hS.size) (by decide) (hdep 1 (by decide+kernel))
      go_simp
      exact hK _ _ Zbr (by first|rfl|simp)
     refine Zac rfl rfl (fun a V hR hS hdep K hK=>?_) ?_
     ·have e32:a.tmps[32]?.getD undef= .bool false:=Zad (hdep 1 (by decide+kernel))
      have e40:a.tmps[40]?.getD undef=undef:=Zad (hdep 9 (by decide+kernel))
      go_simp
      exact hK _ _ Zbr rfl
     exact fun j h1 h2=>absurd h1 (by simp only[List.size_toArray,List.length_cons,List.length_nil];omega)
    refine Zac rfl rfl (fun a Z hR hS hdep K hK=>?_) ?_
    ·have e0:a.tmps[0]?.getD undef= .pointer (some ⟨C,0,none⟩):=Zad (hS.keep 0 (by kernel_rfl))
     go_simp
     exact hK _ _ Zbr (by first|rfl|simp)
    refine Zac rfl rfl (fun a Z hR hS hdep K hK=>?_) ?_
    ·have e22:a.tmps[22]?.getD undef= .pointer (some ⟨C,0,none⟩):=Zad (hdep 0 (by decide+kernel))
     go_simp
     exact hK _ _ Zbr (by first|rfl|simp)
    refine Zac rfl rfl (fun a Z hR hS hdep K hK=>?_) ?_
    ·have e23:a.tmps[23]?.getD undef= .pointer (some ⟨C,0,none⟩):=Zad (hdep 1 (by decide+kernel))
     go_simp
     exact hK _ _ Zbr (by first|rfl|simp)
    refine Zac rfl rfl (fun a Z hR hS hdep K hK=>?_) ?_
    ·have e24:a.tmps[24]?.getD undef= .pointer (some ⟨C,2,none⟩):=Zad (hdep 2 (by decide+kernel))
     have m0:=Zab hR HMC.out
     go_simp
     exact hK _ _ Zbr (by first|rfl|simp)
    refine Zac rfl rfl (fun a Z hR hS hdep K hK=>?_) ?_
    ·have e4:a.tmps[4]?.getD undef= .pointer (some ⟨w.heap.size,0,none⟩):=Zad (hS.keep 4 (by kernel_rfl))
     have m0:=Zab hR HM0.out
     have m1:=Zab hR HM1.out
     have m2:=Zab hR HM2.out
     have m3:=Zab hR HM3.out
     have m4:=Zab hR HM4.out
     have m5:=Zab hR HM5.out
     have m6:=Zab hR HM6.out
     have m7:=Zab hR HM7.out
     have m8:=Zab hR HM8.out
     have m9:=Zab hR HM9.out
     have m10:=Zab hR HM10.out
     have m11:=Zab hR HM11.out
     have m12:=Zab hR HM12.out
     go_simp
     exact hK _ _ Zbr (by first|rfl|simp)
    refine Zac rfl rfl (fun a Z hR hS hdep K hK=>?_) ?_
    ·have e26:a.tmps[26]?.getD undef= .agg #[.slice h.na h.nl h.nc,.int .i64 f.typ,.int .i64 f.kind,.int .i64 f.rank,.int .i64 f.got,.int .i64 f.ttl,.slice h.sa h.sl h.sc,.slice h.za h.zl h.zc,.slice h.d.ba h.d.bl h.d.bc,.slice h.d.ha h.d.hl h.d.hc,.slice h.d.ma h.d.ml h.d.mc,.slice h.d.na h.d.nl h.d.nc,.slice h.d.ta h.d.tl h.d.tc]:=Zad (hdep 4 (by decide+kernel))
     go_simp
     have hbx:=Zaa (B:=Y.heap.size) (Below.drew Zbr) hR Zlr
     refine(HKY.out _ hbx).mono ?_
     rintro e W' ⟨rfl,hb⟩
     exact hK _ _ hb rfl
    refine Zac rfl rfl (fun a Z hR hS hdep K hK=>?_) ?_
    ·have e25:a.tmps[25]?.getD undef= .map (some M):=Zad (hdep 3 (by decide+kernel))
     have e27:a.tmps[27]?.getD undef= .string (⟨(Zax f).toArray⟩):=Zad (hdep 5 (by decide+kernel))
     go_simp
     have hbx:=Zaa (B:=Y.heap.size) (Below.drew Zbr) hR Zlr
     rw[HLK.out _ hbx]
     exact hK _ _ Zbr rfl
    refine Zac rfl rfl (fun a Z hR hS hdep K hK=>?_) ?_
    ·have e28:a.tmps[28]?.getD undef= .tuple #[.pointer none,.bool false]:=Zad (hdep 6 (by decide+kernel))
     go_simp
     exact hK _ _ Zbr (by first|rfl|simp)
    refine Zac rfl rfl (fun a Z hR hS hdep K hK=>?_) ?_
    ·have e21:a.tmps[21]?.getD undef= .tuple #[.pointer none,.bool false]:=Zad (hdep 7 (by decide+kernel))
     go_simp
     exact hK _ _ Zbr rfl
    refine Zac rfl rfl (fun a Z hR hS hdep K hK=>?_) ?_
    ·have e21:a.tmps[21]?.getD undef= .tuple #[.pointer none,.bool false]:=Zad (hdep 7 (by decide+kernel))
     go_simp
     exact hK _ _ Zbr rfl
    refine Zac rfl rfl (fun a Z hR hS hdep K hK=>?_) ?_
    ·have e29:a.tmps[29]?.getD undef= .pointer none:=Zad (hdep 8 (by decide+kernel))
     go_simp
     exact hK _ _ Zbr (by first|rfl|simp)
    refine Zac rfl rfl (fun a Z hR hS hdep K hK=>?_) ?_
    ·have e30:a.tmps[30]?.getD undef= .bool false:=Zad (hdep 9 (by decide+kernel))
     go_simp
     exact hK _ _ Zbr (by first|rfl|simp)
    exact fun j h1 h2=>absurd h1 (by simp only[List.size_toArray,List.length_cons,List.length_nil];omega)
   |some s=>
    rw[hat] at hfree
    simp only at hfree
    rw[hfree]
    clear hput hfree
    obtain⟨BT,hBT⟩:∃ q:Bool,q=Zfa s.f f now:=⟨_,rfl⟩
    rw[←hBT]
    go_enter Tryz.func26,Tryz.ntmps26
    simp only[Zaj]
    go_wp2_with (first|(go_at_call 58;refine HS.out.mono ?_;rintro e Y ⟨rfl,hb⟩;have hA:=HA.out.on hb;have HW:=Zhd (Zaa HB.out.1 hb Zlr);have HFY:=Zhd (HF1.out.on hb);clear hb m0 m1 m2 m3 m4 m5 m6 m7 m8 m9 m10 m11 m12)|(go_at_call 42;refine(HT.out _).mono ?_;rintro e w' ⟨rfl,rfl⟩))
    obtain⟨M,hCb,hMB,hML⟩:=HCC.out.ex
    have HMC:=Zhd (show Y.drew.cell? ⟨C,2,none⟩=some (.map (some M)) from(hCb.on HW.out).cell 2)
    have HM0:=Zhd (show Y.drew.cell? ⟨w.heap.size,0,none⟩=some (.slice h.na h.nl h.nc) from hA.cell 0)
    have HM1:=Zhd (show Y.drew.cell? ⟨w.heap.size,1,none⟩=some (.int .i64 f.typ) from hA.cell 1)
    have HM2:=Zhd (show Y.drew.cell? ⟨w.heap.size,2,none⟩=some (.int .i64 f.kind) from hA.cell 2)
    have HM3:=Zhd (show Y.drew.cell? ⟨w.heap.size,3,none⟩=some (.int .i64 f.rank) from hA.cell 3)
    have HM4:=Zhd (show Y.drew.cell? ⟨w.heap.size,4,none⟩=some (.int .i64 f.got) from hA.cell 4)
    have HM5:=Zhd (show Y.drew.cell? ⟨w.heap.size,5,none⟩=some (.int .i64 f.ttl) from hA.cell 5)
    have HM6:=Zhd (show Y.drew.cell? ⟨w.heap.size,6,none⟩=some (.slice h.sa h.sl h.sc) from hA.cell 6)
    have HM7:=Zhd (show Y.drew.cell? ⟨w.heap.size,7,none⟩=some (.slice h.za h.zl h.zc) from hA.cell 7)
    have HM8:=Zhd (show Y.drew.cell? ⟨w.heap.size,8,none⟩=some (.slice h.d.ba h.d.bl h.d.bc) from hA.cell 8)
    have HM9:=Zhd (show Y.drew.cell? ⟨w.heap.size,9,none⟩=some (.slice h.d.ha h.d.hl h.d.hc) from hA.cell 9)
    have HM10:=Zhd (show Y.drew.cell? ⟨w.heap.size,10,none⟩=some (.slice h.d.ma h.d.ml h.d.mc) from hA.cell 10)
    have HM11:=Zhd (show Y.drew.cell? ⟨w.heap.size,11,none⟩=some (.slice h.d.na h.d.nl h.d.nc) from hA.cell 11)
    have HM12:=Zhd (show Y.drew.cell? ⟨w.heap.size,12,none⟩=some (.slice h.d.ta h.d.tl h.d.tc) from hA.cell 12)
    have HKY:=Zhd (fun w' (p:Below Y.heap.size Y w')=>ZeB w' h f ((HFY.out).on p).name (Nat.le_trans HZ.out (by decide)))
    simp only[Zaj] at HKY
    have HLK:=Zhd (fun w' (p:Below Y.heap.size Y w')=>((hML.on (HW.out.block M hML.lt)).on (p.block M (Nat.lt_of_lt_of_le hML.lt HW.out.size))).look_ok (key:=Zax f) (by rw[Zax,Zdc];have:=HZ.out;omega))
    simp only[hat] at HLK
    have HAY:=Zhd hA
    clear hCb hMB hML hA
    refine Zcs (m:=45) (by kernel_rfl) (fun x y=>Below x.heap.size x y) (fun i v xw=>match i with|0=>v= .pointer (some ⟨C,0,none⟩)|1=>v= .pointer (some ⟨C,0,none⟩)|2=>v= .pointer (some ⟨C,2,none⟩)|3=>v= .map (some M)|4=>v= .agg #[.slice h.na h.nl h.nc,.int .i64 f.typ,.int .i64 f.kind,.int .i64 f.rank,.int .i64 f.got,.int .i64 f.ttl,.slice h.sa h.sl h.sc,.slice h.za h.zl h.zc,.slice h.d.ba h.d.bl h.d.bc,.slice h.d.ha h.d.hl h.d.hc,.slice h.d.ma h.d.ml h.d.mc,.slice h.d.na h.d.nl h.d.nc,.slice h.d.ta h.d.tl h.d.tc]|5=>v= .string (⟨(Zax f).toArray⟩)|6=>v= .tuple #[.pointer (some ⟨s.b,0,none⟩),.bool true]|7=>v= .tuple #[.pointer (some ⟨s.b,0,none⟩),.bool true]|8=>v= .pointer (some ⟨s.b,0,none⟩)|9=>v= .bool true|10=>v= .pointer (some ⟨s.b,0,none⟩)|11=>v= .bool true|_=>True) rfl (by kernel_rfl) (fun _ _ _ h1 h2=>Zaa h1 h2 Zlr) Zbr (fun _ _ _ _ h _=>h) (Zc8 12 (by kernel_rfl) (fun _ _ h=>h)) ?_ ?_
    rotate_left
    ·intro a Z hR hS hdep
     have e0:a.tmps.getD 0 undef= .pointer (some ⟨C,0,none⟩):=hS.keep 0 (by kernel_rfl)
     have e2:a.tmps.getD 2 undef= .int .i64 now:=hS.keep 2 (by kernel_rfl)
     have e4:a.tmps.getD 4 undef= .pointer (some ⟨w.heap.size,0,none⟩):=hS.keep 4 (by kernel_rfl)
     have e7:a.tmps.getD 7 undef= .pointer (some ⟨s.b,0,none⟩):=hdep 10 (by decide+kernel)
     have e8:a.tmps.getD 8 undef= .bool true:=hdep 11 (by decide+kernel)
     obtain⟨T,df⟩:=a
     obtain rfl:df=[]:=hS.defers
     have hT:=Zcy T 45 hS.size;simp only[List.range,List.range.loop,List.map_cons,List.map_nil] at hT
     have k0:T.getD 0 undef= .pointer (some ⟨C,0,none⟩):=e0
     have k2:T.getD 2 undef= .int .i64 now:=e2
     have k4:T.getD 4 undef= .pointer (some ⟨w.heap.size,0,none⟩):=e4
     have k7:T.getD 7 undef= .pointer (some ⟨s.b,0,none⟩):=e7
     have k8:T.getD 8 undef= .bool true:=e8
     clear hS hdep
     rw[hT]
     rw[k0]
     clear k0 e0
     rw[k2]
     clear k2 e2
     rw[k4]
     clear k4 e4
     rw[k7]
     clear k7 e7
     rw[k8]
     clear k8 e8
     clear hT
     generalize T.getD 1 undef=u1
     generalize T.getD 3 undef=u3
     generalize T.getD 5 undef=u5
     generalize T.getD 6 undef=u6
     generalize T.getD 9 undef=u9
     generalize T.getD 10 undef=u10
     generalize T.getD 11 undef=u11
     generalize T.getD 12 undef=u12
     generalize T.getD 13 undef=u13
     generalize T.getD 14 undef=u14
     generalize T.getD 15 undef=u15
     generalize T.getD 16 undef=u16
     generalize T.getD 17 undef=u17
     generalize T.getD 18 undef=u18
     generalize T.getD 19 undef=u19
     generalize T.getD 20 undef=u20
     generalize T.getD 21 undef=u21
     generalize T.getD 22 undef=u22
     generalize T.getD 23 undef=u23
     generalize T.getD 24 undef=u24
     generalize T.getD 25 undef=u25
     generalize T.getD 26 undef=u26
     generalize T.getD 27 undef=u27
     generalize T.getD 28 undef=u28
     generalize T.getD 29 undef=u29
     generalize T.getD 30 undef=u30
     generalize T.getD 31 undef=u31
     generalize T.getD 32 undef=u32
     generalize T.getD 33 undef=u33
     generalize T.getD 34 undef=u34
     generalize T.getD 35 undef=u35
     generalize T.getD 36 undef=u36
     generalize T.getD 37 undef=u37
     generalize T.getD 38 undef=u38
     generalize T.getD 39 undef=u39
     generalize T.getD 40 undef=u40
     generalize T.getD 41 undef=u41
     generalize T.getD 42 undef=u42
     generalize T.getD 43 undef=u43
     generalize T.getD 44 undef=u44
     have hbx:=Zaa (B:=Y.heap.size) (Below.drew Zbr) hR Zlr
     clear hR
     have hAZ:=HAY.out.on hbx
     have HWZ:=Zhd (Zaa HW.out hbx Zlr)
     have HFZ:=Zhd (HFY.out.on hbx)
     clear hbx
     have HAZ:=Zhd hAZ
     have hsl:=HCC.out.slot s (ZfG hat).1
     have hiZ:=hsl.2.1.on HWZ.out
     have HBT:=Zhd (fun w' (p:Below Z.heap.size Z w')=>Zj6 w' _ S s.h h s.f f now BT hBT ((hsl.2.2.1.on HWZ.out).on p) (HFZ.out.on p))
     simp only[Zaj] at HBT
     have HP0:=Zhd (show Z.drew.cell? ⟨w.heap.size,0,none⟩=some (.slice h.na h.nl h.nc) from hAZ.cell 0)
     have HP1:=Zhd (show Z.drew.cell? ⟨w.heap.size,1,none⟩=some (.int .i64 f.typ) from hAZ.cell 1)
     have HP2:=Zhd (show Z.drew.cell? ⟨w.heap.size,2,none⟩=some (.int .i64 f.kind) from hAZ.cell 2)
     have HP3:=Zhd (show Z.drew.cell? ⟨w.heap.size,3,none⟩=some (.int .i64 f.rank) from hAZ.cell 3)
     have HP4:=Zhd (show Z.drew.cell? ⟨w.heap.size,4,none⟩=some (.int .i64 f.got) from hAZ.cell 4)
     have HP5:=Zhd (show Z.drew.cell? ⟨w.heap.size,5,none⟩=some (.int .i64 f.ttl) from hAZ.cell 5)
     have HP6:=Zhd (show Z.drew.cell? ⟨w.heap.size,6,none⟩=some (.slice h.sa h.sl h.sc) from hAZ.cell 6)
     have HP7:=Zhd (show Z.drew.cell? ⟨w.heap.size,7,none⟩=some (.slice h.za h.zl h.zc) from hAZ.cell 7)
     have HP8:=Zhd (show Z.drew.cell? ⟨w.heap.size,8,none⟩=some (.slice h.d.ba h.d.bl h.d.bc) from hAZ.cell 8)
     have HP9:=Zhd (show Z.drew.cell? ⟨w.heap.size,9,none⟩=some (.slice h.d.ha h.d.hl h.d.hc) from hAZ.cell 9)
     have HP10:=Zhd (show Z.drew.cell? ⟨w.heap.size,10,none⟩=some (.slice h.d.ma h.d.ml h.d.mc) from hAZ.cell 10)
     have HP11:=Zhd (show Z.drew.cell? ⟨w.heap.size,11,none⟩=some (.slice h.d.na h.d.nl h.d.nc) from hAZ.cell 11)
     have HP12:=Zhd (show Z.drew.cell? ⟨w.heap.size,12,none⟩=some (.slice h.d.ta h.d.tl h.d.tc) from hAZ.cell 12)
     have HI0:=Zhd (show Z.drew.cell? ⟨s.b,0,none⟩=some (.slice s.h.na s.h.nl s.h.nc) from hiZ.cell 0)
     have HI1:=Zhd (show Z.drew.cell? ⟨s.b,1,none⟩=some (.int .i64 s.f.typ) from hiZ.cell 1)
     have HI2:=Zhd (show Z.drew.cell? ⟨s.b,2,none⟩=some (.int .i64 s.f.kind) from hiZ.cell 2)
     have HI3:=Zhd (show Z.drew.cell? ⟨s.b,3,none⟩=some (.int .i64 s.f.rank) from hiZ.cell 3)
     have HI4:=Zhd (show Z.drew.cell? ⟨s.b,4,none⟩=some (.int .i64 s.f.got) from hiZ.cell 4)
     have HI5:=Zhd (show Z.drew.cell? ⟨s.b,5,none⟩=some (.int .i64 s.f.ttl) from hiZ.cell 5)
     have HI6:=Zhd (show Z.drew.cell? ⟨s.b,6,none⟩=some (.slice s.h.sa s.h.sl s.h.sc) from hiZ.cell 6)
     have HI7:=Zhd (show Z.drew.cell? ⟨s.b,7,none⟩=some (.slice s.h.za s.h.zl s.h.zc) from hiZ.cell 7)
     have HI8:=Zhd (show Z.drew.cell? ⟨s.b,8,none⟩=some (.slice s.h.d.ba s.h.d.bl s.h.d.bc) from hiZ.cell 8)
     have HI9:=Zhd (show Z.drew.cell? ⟨s.b,9,none⟩=some (.slice s.h.d.ha s.h.d.hl s.h.d.hc) from hiZ.cell 9)
     have HI10:=Zhd (show Z.drew.cell? ⟨s.b,10,none⟩=some (.slice s.h.d.ma s.h.d.ml s.h.d.mc) from hiZ.cell 10)
     have HI11:=Zhd (show Z.drew.cell? ⟨s.b,11,none⟩=some (.slice s.h.d.na s.h.d.nl s.h.d.nc) from hiZ.cell 11)
     have HI12:=Zhd (show Z.drew.cell? ⟨s.b,12,none⟩=some (.slice s.h.d.ta s.h.d.tl s.h.d.tc) from hiZ.cell 12)
     clear hAZ hiZ hsl hBT
     go_wp2_with fail
     obtain⟨X10,hX10⟩:∃ q:Bool,q=(true&&(!BT)):=⟨_,rfl⟩
     have HX10:=Zhd hX10
     clear hX10
     refine Zcs (m:=45) (by kernel_rfl) (fun x y=>Below x.heap.size x y) (fun i v xw=>match i with|0=>v= .bool true|1=>v= .bool true|2=>v= .pointer (some ⟨s.b,0,none⟩)|3=>v= .pointer (some ⟨s.b,0,none⟩)|4=>v= .pointer (some ⟨s.b,0,none⟩)|5=>v= .agg #[.slice s.h.na s.h.nl s.h.nc,.int .i64 s.f.typ,.int .i64 s.f.kind,.int .i64 s.f.rank,.int .i64 s.f.got,.int .i64 s.f.ttl,.slice s.h.sa s.h.sl s.h.sc,.slice s.h.za s.h.zl s.h.zc,.slice s.h.d.ba s.h.d.bl s.h.d.bc,.slice s.h.d.ha s.h.d.hl s.h.d.hc,.slice s.h.d.ma s.h.d.ml s.h.d.mc,.slice s.h.d.na s.h.d.nl s.h.d.nc,.slice s.h.d.ta s.h.d.tl s.h.d.tc]|6=>v= .agg #[.slice h.na h.nl h.nc,.int .i64 f.typ,.int .i64 f.kind,.int .i64 f.rank,.int .i64 f.got,.int .i64 f.ttl,.slice h.sa h.sl h.sc,.slice h.za h.zl h.zc,.slice h.d.ba h.d.bl h.d.bc,.slice h.d.ha h.d.hl h.d.hc,.slice h.d.ma h.d.ml h.d.mc,.slice h.d.na h.d.nl h.d.nc,.slice h.d.ta h.d.tl h.d.tc]|7=>v= .int .i64 now|8=>v= .bool BT|9=>v= .bool (!BT)|10=>v= .bool X10|_=>True) rfl (by kernel_rfl) (fun _ _ _ h1 h2=>Zaa h1 h2 Zlr) Zbr (fun _ _ _ _ h _=>h) (Zc8 11 (by kernel_rfl) (fun _ _ h=>h)) ?_ ?_
     rotate_left
     ·intro a V hR hS hdep
      have e0:a.tmps.getD 0 undef= .pointer (some ⟨C,0,none⟩):=hS.keep 0 (by kernel_rfl)
      have e4:a.tmps.getD 4 undef= .pointer (some ⟨w.heap.size,0,none⟩):=hS.keep 4 (by kernel_rfl)
      have e41:a.tmps.getD 41 undef= .bool X10:=hdep 10 (by decide+kernel)
      obtain⟨T,df⟩:=a
      obtain rfl:df=[]:=hS.defers
      have hT:=Zcy T 45 hS.size;simp only[List.range,List.range.loop,List.map_cons,List.map_nil] at hT
      have k0:T.getD 0 undef= .pointer (some ⟨C,0,none⟩):=e0
      have k4:T.getD 4 undef= .pointer (some ⟨w.heap.size,0,none⟩):=e4
      have k41:T.getD 41 undef= .bool X10:=e41
      clear hS hdep
      rw[hT]
      rw[k0]
      clear k0 e0
      rw[k4]
      clear k4 e4
      rw[k41]
      clear k41 e41
      clear hT
      generalize T.getD 1 undef=u1
      generalize T.getD 2 undef=u2
      generalize T.getD 3 undef=u3
      generalize T.getD 5 undef=u5
      generalize T.getD 6 undef=u6
      generalize T.getD 7 undef=u7
      generalize T.getD 8 undef=u8
      generalize T.getD 9 undef=u9
      generalize T.getD 10 undef=u10
      generalize T.getD 11 undef=u11
      generalize T.getD 12 undef=u12
      generalize T.getD 13 undef=u13
      generalize T.getD 14 undef=u14
      generalize T.getD 15 undef=u15
      generalize T.getD 16 undef=u16
      generalize T.getD 17 undef=u17
      generalize T.getD 18 undef=u18
      generalize T.getD 19 undef=u19
      generalize T.getD 20 undef=u20
      generalize T.getD 21 undef=u21
      generalize T.getD 22 undef=u22
      generalize T.getD 23 undef=u23
      generalize T.getD 24 undef=u24
      generalize T.getD 25 undef=u25
      generalize T.getD 26 undef=u26
      generalize T.getD 27 undef=u27
      generalize T.getD 28 undef=u28
      generalize T.getD 29 undef=u29
      generalize T.getD 30 undef=u30
      generalize T.getD 31 undef=u31
      generalize T.getD 32 undef=u32
      generalize T.getD 33 undef=u33
      generalize T.getD 34 undef=u34
      generalize T.getD 35 undef=u35
      generalize T.getD 36 undef=u36
      generalize T.getD 37 undef=u37
      generalize T.getD 38 undef=u38
      generalize T.getD 39 undef=u39
      generalize T.getD 40 undef=u40
      generalize T.getD 42 undef=u42
      generalize T.getD 43 undef=u43
      generalize T.getD 44 undef=u44
      cases BT with
      |false=>
       have HB5:=Zhd (show X10=true by simp[HX10.out])
       rw[HB5.out]
       have HRZ:=Zhd (Zaa (B:=Z.heap.size) (Below.drew Zbr) hR Zlr)
       clear hR
       go_wp2_with fail
       go_ret
       have hb:=Zaa HWZ.out HRZ.out Zlr
       exact⟨rfl,Left.below hb HB.out.2,⟨fun e=>absurd e (by simp),fun _=>HCC.out.on hb⟩⟩
      |true=>
       have HB5:=Zhd (show X10=false by simp[HX10.out])
       rw[HB5.out]
       have hbx:=Zaa (B:=Z.heap.size) (Below.drew Zbr) hR Zlr
       clear hR
       have hAV:=HAZ.out.on hbx
       have HWV:=Zhd (Zaa HWZ.out hbx Zlr)
       have HFV:=Zhd (HFZ.out.on hbx)
       clear hbx
       obtain⟨n0,n1,n2,n3,n4,n5,n6,n7,n8,n9,n10,n11,n12⟩:=Zc13 (show Blk V w.heap.size _ _ from hAV)
       clear hAV
       go_wp2_with (go_at_call 61;refine(Zij V S B C most stale k L (HCC.out.on HWV.out) HV.out.2.1 HV.out.2.2 h f HFV.out hFB HV.out.1).mono ?_;rintro e V2 ⟨rfl,b,kk,hI,hL⟩)
       go_ret
       exact⟨rfl,(Left.below HWV.out HB.out.2).trans hL,⟨fun _=>⟨b,kk,hI⟩,fun e=>absurd e (by simp)⟩⟩
     refine Zac rfl rfl (fun a V hR hS hdep K hK=>?_) ?_
     ·have e8:a.tmps[8]?.getD undef= .bool true:=Zad (hS.keep 8 (by kernel_rfl))
      go_simp
      exact hK _ _ Zbr (by first|rfl|simp)
     refine Zac rfl rfl (fun a V hR hS hdep K hK=>?_) ?_
     ·have e31:a.tmps[31]?.getD undef= .bool true:=Zad (hdep 0 (by decide+kernel))
      go_simp
      exact hK _ _ Zbr (by first|rfl|simp)
     refine Zac rfl rfl (fun a V hR hS hdep K hK=>?_) ?_
     ·have e7:a.tmps[7]?.getD undef= .pointer (some ⟨s.b,0,none⟩):=Zad (hS.keep 7 (by kernel_rfl))
      have e32:a.tmps[32]?.getD undef= .bool true:=Zad (hdep 1 (by decide+kernel))
      have g32:a.tmps[32]?=some (.bool true):=Zau (show _=45 from hS.size) (by decide) (hdep 1 (by decide+kernel))
      go_simp
      exact hK _ _ Zbr (by first|rfl|simp)
     refine Zac rfl rfl (fun a V hR hS hdep K hK=>?_) ?_
     ·have e33:a.tmps[33]?.getD undef= .pointer (some ⟨s.b,0,none⟩):=Zad (hdep 2 (by decide+kernel))
      have e32:a.tmps[32]?.getD undef= .bool true:=Zad (hdep 1 (by decide+kernel))
      have g32:a.tmps[32]?=some (.bool true):=Zau (show _=45 from hS.size) (by decide) (hdep 1 (by decide+kernel))
      go_simp
      exact hK _ _ Zbr (by first|rfl|simp)
     refine Zac rfl rfl (fun a V hR hS hdep K hK=>?_) ?_
     ·have e34:a.tmps[34]?.getD undef= .pointer (some ⟨s.b,0,none⟩):=Zad (hdep 3 (by decide+kernel))
      have e32:a.tmps[32]?.getD undef= .bool true:=Zad (hdep 1 (by decide+kernel))
      have g32:a.tmps[32]?=some (.bool true):=Zau (show _=45 from hS.size) (by decide) (hdep 1 (by decide+kernel))
      go_simp
      exact hK _ _ Zbr (by first|rfl|simp)
     refine Zac rfl rfl (fun a V hR hS hdep K hK=>?_) ?_
     ·have e35:a.tmps[35]?.getD undef= .pointer (some ⟨s.b,0,none⟩):=Zad (hdep 4 (by decide+kernel))
      have e32:a.tmps[32]?.getD undef= .bool true:=Zad (hdep 1 (by decide+kernel))
      have g32:a.tmps[32]?=some (.bool true):=Zau (show _=45 from hS.size) (by decide) (hdep 1 (by decide+kernel))
      have m0:=Zab hR HI0.out
      have m1:=Zab hR HI1.out
      have m2:=Zab hR HI2.out
      have m3:=Zab hR HI3.out
      have m4:=Zab hR HI4.out
      have m5:=Zab hR HI5.out
      have m6:=Zab hR HI6.out
      have m7:=Zab hR HI7.out
      have m8:=Zab hR HI8.out
      have m9:=Zab hR HI9.out
      have m10:=Zab hR HI10.out
      have m11:=Zab hR HI11.out
      have m12:=Zab hR HI12.out
      go_simp
      exact hK _ _ Zbr (by first|rfl|simp)
     refine Zac rfl rfl (fun a V hR hS hdep K hK=>?_) ?_
     ·have e4:a.tmps[4]?.getD undef= .pointer (some ⟨w.heap.size,0,none⟩):=Zad (hS.keep 4 (by kernel_rfl))
      have e32:a.tmps[32]?.getD undef= .bool true:=Zad (hdep 1 (by decide+kernel))
      have g32:a.tmps[32]?=some (.bool true):=Zau (show _=45 from hS.size) (by decide) (hdep 1 (by decide+kernel))
      have m0:=Zab hR HP0.out
      have m1:=Zab hR HP1.out
      have m2:=Zab hR HP2.out
      have m3:=Zab hR HP3.out
      have m4:=Zab hR HP4.out
      have m5:=Zab hR HP5.out
      have m6:=Zab hR HP6.out
      have m7:=Zab hR HP7.out
      have m8:=Zab hR HP8.out
      have m9:=Zab hR HP9.out
      have m10:=Zab hR HP10.out
      have m11:=Zab hR HP11.out
      have m12:=Zab hR HP12.out
      go_simp
      exact hK _ _ Zbr (by first|rfl|simp)
     refine Zac rfl rfl (fun a V hR hS hdep K hK=>?_) ?_
     ·have e2:a.tmps[2]?.getD undef= .int .i64 now:=Zad (hS.keep 2 (by kernel_rfl))
      have e32:a.tmps[32]?.getD undef= .bool true:=Zad (hdep 1 (by decide+kernel))
      have g32:a.tmps[32]?=some (.bool true):=Zau (show _=45 from hS.size) (by decide) (hdep 1 (by decide+kernel))
      go_simp
      exact hK _ _ Zbr (by first|rfl|simp)
     refine Zac rfl rfl (fun a V hR hS hdep K hK=>?_) ?_
     ·have e36:a.tmps[36]?.getD undef= .agg #[.slice s.h.na s.h.nl s.h.nc,.int .i64 s.f.typ,.int .i64 s.f.kind,.int .i64 s.f.rank,.int .i64 s.f.got,.int .i64 s.f.ttl,.slice s.h.sa s.h.sl s.h.sc,.slice s.h.za s.h.zl s.h.zc,.slice s.h.d.ba s.h.d.bl s.h.d.bc,.slice s.h.d.ha s.h.d.hl s.h.d.hc,.slice s.h.d.ma s.h.d.ml s.h.d.mc,.slice s.h.d.na s.h.d.nl s.h.d.nc,.slice s.h.d.ta s.h.d.tl s.h.d.tc]:=Zad (hdep 5 (by decide+kernel))
      have e37:a.tmps[37]?.getD undef= .agg #[.slice h.na h.nl h.nc,.int .i64 f.typ,.int .i64 f.kind,.int .i64 f.rank,.int .i64 f.got,.int .i64 f.ttl,.slice h.sa h.sl h.sc,.slice h.za h.zl h.zc,.slice h.d.ba h.d.bl h.d.bc,.slice h.d.ha h.d.hl h.d.hc,.slice h.d.ma h.d.ml h.d.mc,.slice h.d.na h.d.nl h.d.nc,.slice h.d.ta h.d.tl h.d.tc]:=Zad (hdep 6 (by decide+kernel))
      have e38:a.tmps[38]?.getD undef= .int .i64 now:=Zad (hdep 7 (by decide+kernel))
      have e32:a.tmps[32]?.getD undef= .bool true:=Zad (hdep 1 (by decide+kernel))
      have g32:a.tmps[32]?=some (.bool true):=Zau (show _=45 from hS.size) (by decide) (hdep 1 (by decide+kernel))
      go_simp
      have hbx:=Zaa (B:=Z.heap.size) (Below.drew Zbr) hR Zlr
      refine(HBT.out _ hbx).mono ?_
      rintro e W' ⟨rfl,hb⟩
      exact hK _ _ hb rfl
     refine Zac rfl rfl (fun a V hR hS hdep K hK=>?_) ?_
     ·have e39:a.tmps[39]?.getD undef= .bool BT:=Zad (hdep 8 (by decide+kernel))
      have e32:a.tmps[32]?.getD undef= .bool true:=Zad (hdep 1 (by decide+kernel))
      have g32:a.tmps[32]?=some (.bool true):=Zau (show _=45 from hS.size) (by decide) (hdep 1 (by decide+kernel))
      go_simp
      exact hK _ _ Zbr (by first|rfl|simp)
     refine Zac rfl rfl (fun a V hR hS hdep K hK=>?_) ?_
     ·have e32:a.tmps[32]?.getD undef= .bool true:=Zad (hdep 1 (by decide+kernel))
      have e40:a.tmps[40]?.getD undef= .bool (!BT):=Zad (hdep 9 (by decide+kernel))
      go_simp
      exact hK _ _ Zbr (by first|rfl|(rw[HX10.out];rfl)|(rw[HX10.out];simp)|simp[HX10.out])
     exact fun j h1 h2=>absurd h1 (by simp only[List.size_toArray,List.length_cons,List.length_nil];omega)
    refine Zac rfl rfl (fun a Z hR hS hdep K hK=>?_) ?_
    ·have e0:a.tmps[0]?.getD undef= .pointer (some ⟨C,0,none⟩):=Zad (hS.keep 0 (by kernel_rfl))
     go_simp
     exact hK _ _ Zbr (by first|rfl|simp)
    refine Zac rfl rfl (fun a Z hR hS hdep K hK=>?_) ?_
    ·have e22:a.tmps[22]?.getD undef= .pointer (some ⟨C,0,none⟩):=Zad (hdep 0 (by decide+kernel))
     go_simp
     exact hK _ _ Zbr (by first|rfl|simp)
    refine Zac rfl rfl (fun a Z hR hS hdep K hK=>?_) ?_
    ·have e23:a.tmps[23]?.getD undef= .pointer (some ⟨C,0,none⟩):=Zad (hdep 1 (by decide+kernel))
     go_simp
     exact hK _ _ Zbr (by first|rfl|simp)
    refine Zac rfl rfl (fun a Z hR hS hdep K hK=>?_) ?_
    ·have e24:a.tmps[24]?.getD undef= .pointer (some ⟨C,2,none⟩):=Zad (hdep 2 (by decide+kernel))
     have m0:=Zab hR HMC.out
     go_simp
     exact hK _ _ Zbr (by first|rfl|simp)
    refine Zac rfl rfl (fun a Z hR hS hdep K hK=>?_) ?_
    ·have e4:a.tmps[4]?.getD undef= .pointer (some ⟨w.heap.size,0,none⟩):=Zad (hS.keep 4 (by kernel_rfl))
     have m0:=Zab hR HM0.out
     have m1:=Zab hR HM1.out
     have m2:=Zab hR HM2.out
     have m3:=Zab hR HM3.out
     have m4:=Zab hR HM4.out
     have m5:=Zab hR HM5.out
     have m6:=Zab hR HM6.out
     have m7:=Zab hR HM7.out
     have m8:=Zab hR HM8.out
     have m9:=Zab hR HM9.out
     have m10:=Zab hR HM10.out
     have m11:=Zab hR HM11.out
     have m12:=Zab hR HM12.out
     go_simp
     exact hK _ _ Zbr (by first|rfl|simp)
    refine Zac rfl rfl (fun a Z hR hS hdep K hK=>?_) ?_
    ·have e26:a.tmps[26]?.getD undef= .agg #[.slice h.na h.nl h.nc,.int .i64 f.typ,.int .i64 f.kind,.int .i64 f.rank,.int .i64 f.got,.int .i64 f.ttl,.slice h.sa h.sl h.sc,.slice h.za h.zl h.zc,.slice h.d.ba h.d.bl h.d.bc,.slice h.d.ha h.d.hl h.d.hc,.slice h.d.ma h.d.ml h.d.mc,.slice h.d.na h.d.nl h.d.nc,.slice h.d.ta h.d.tl h.d.tc]:=Zad (hdep 4 (by decide+kernel))
     go_simp
     have hbx:=Zaa (B:=Y.heap.size) (Below.drew Zbr) hR Zlr
     refine(HKY.out _ hbx).mono ?_
     rintro e W' ⟨rfl,hb⟩
     exact hK _ _ hb rfl
    refine Zac rfl rfl (fun a Z hR hS hdep K hK=>?_) ?_
    ·have e25:a.tmps[25]?.getD undef= .map (some M):=Zad (hdep 3 (by decide+kernel))
     have e27:a.tmps[27]?.getD undef= .string (⟨(Zax f).toArray⟩):=Zad (hdep 5 (by decide+kernel))
     go_simp
     have hbx:=Zaa (B:=Y.heap.size) (Below.drew Zbr) hR Zlr
     rw[HLK.out _ hbx]
     exact hK _ _ Zbr rfl
    refine Zac rfl rfl (fun a Z hR hS hdep K hK=>?_) ?_
    ·have e28:a.tmps[28]?.getD undef= .tuple #[.pointer (some ⟨s.b,0,none⟩),.bool true]:=Zad (hdep 6 (by decide+kernel))
     go_simp
     exact hK _ _ Zbr (by first|rfl|simp)
    refine Zac rfl rfl (fun a Z hR hS hdep K hK=>?_) ?_
    ·have e21:a.tmps[21]?.getD undef= .tuple #[.pointer (some ⟨s.b,0,none⟩),.bool true]:=Zad (hdep 7 (by decide+kernel))
     go_simp
     exact hK _ _ Zbr rfl
    refine Zac rfl rfl (fun a Z hR hS hdep K hK=>?_) ?_
    ·have e21:a.tmps[21]?.getD undef= .tuple #[.pointer (some ⟨s.b,0,none⟩),.bool true]:=Zad (hdep 7 (by decide+kernel))
     go_simp
     exact hK _ _ Zbr rfl
    refine Zac rfl rfl (fun a Z hR hS hdep K hK=>?_) ?_
    ·have e29:a.tmps[29]?.getD undef= .pointer (some ⟨s.b,0,none⟩):=Zad (hdep 8 (by decide+kernel))
     go_simp
     exact hK _ _ Zbr (by first|rfl|simp)
    refine Zac rfl rfl (fun a Z hR hS hdep K hK=>?_) ?_
    ·have e30:a.tmps[30]?.getD undef= .bool true:=Zad (hdep 9 (by decide+kernel))
     go_simp
     exact hK _ _ Zbr (by first|rfl|simp)
    exact fun j h1 h2=>absurd h1 (by simp only[List.size_toArray,List.length_cons,List.length_nil];omega)
theorem ZgF {B B':Nat} {w:World} {C k:Nat} {most stale:Int} {L:List ZaP} (h:IsCache B w C most stale k L) (hB:B'≤B):IsCache B' w C most stale k L:=by
 obtain⟨M,a,b,c⟩:=h.ex
 exact⟨⟨M,a,by omega,c⟩,by have:=h.base;omega,fun s hs=>by
  obtain⟨p,q⟩:=h.slot s hs
  exact⟨by omega,q⟩,h.apart,h.keys,h.used,h.order⟩
theorem Zch {T:List TypeId} {w w':World} {g:Nat} {cs:Array Value} {t:TypeId} (h:Blk w g cs t) (hs:Same (Zak T w) w w') (ht:t∈T):Blk w' g cs t:=by
 unfold Blk at h⊢
 rw[hs g (Array.getElem?_eq_some_iff.1 h).1 ⟨cs,t,h,ht⟩,h]
theorem ZcH {T T':List TypeId} {w w':World} (h:Same (Zak T w) w w') (hs:∀ t∈T',t∈T):Same (Zak T' w) w w':=h.mono fun _ _ ht=>Za4 ht hs
theorem ZoW {B B':Nat} {w w':World} {D:Nat} {d:Zaz} (hd:IsDev B w D d) (ho:Left B' w w'):IsDev B w' D d:=by
 obtain⟨SU,v,k1,k2,k3,k4⟩:=hd.ex
 exact⟨⟨SU,v,Zch k1 ho.same (by decide),Zch k2 ho.same (by decide),k3,k4.step (ZcH ho.same (by decide))⟩,hd.base,hd.pos,hd.le,hd.lens,hd.ulens,hd.lim,hd.cnt⟩
theorem Zpi {B B':Nat} {w w':World} {L D:Nat} {l:ZaZ} (h:IsLog B w L D l) (ho:Left B' w w'):IsLog B w' L D l:=by
 obtain⟨v,a,b⟩:=h.ex
 exact⟨⟨v,Zch a ho.same (by decide),b.step (ZcH ho.same (by decide))⟩,h.base,h.fits,h.cnt⟩
def qT:List TypeId:=[5,9,3,35,37]
structure Kfr (B:Nat) (w w':World):Prop where
 bel:Below B w w'
 same:Same (Zak qT w) w w'
theorem Kfr.trans {B:Nat} {a b c:World} (h:Kfr B a b) (k:Kfr B b c):Kfr B a c:=⟨h.bel.trans k.bel,h.same.step k.same⟩
theorem Kfr.below {B:Nat} {w w':World} (h:Below w.heap.size w w') (hB:B≤w.heap.size):Kfr B w w':=⟨h.mono hB,Same.below h _⟩
theorem Kfr.left {B B':Nat} {w w':World} (h:Left B' w w') (hB:B≤B'):Kfr B w w':=⟨h.bel.mono hB,ZcH h.same (by decide)⟩
theorem Kfr.only {S:List TypeId} {B:Nat} {w w':World} (h:Only S B w w') (hd:∀ t∈qT,t∉S):Kfr B w w':=⟨h.bel,h.same hd⟩
theorem Kfr.fact {B:Nat} {w w':World} (h:Kfr B w w'):Same (Zak fT w) w w':=ZcH h.same (by decide)
theorem Zfw (h:ZaU) (f:Zas):(ZbK h f).all (·.oneCell')=true:=by simp[ZbK,Value.oneCell']
structure Zq8 (B:Nat) (w W:World) (K C L D:Nat) (pl no te:Int) (me:Bool) (l:ZaZ) (d:Zaz) (h:ZaU) (f:Zas) (most stale:Int) (kk:Nat) (Ls:List ZaP):Prop where
 fr:Kfr B w W
 blk:Blk W K (ZaQ C L pl no te me false) 62
 log:IsLog B W L D l
 dev:IsDev B W D d
 rc:RecIs W (ZbK h f) (ZcY f)
 ca:∃ b k2,IsCache B W C most stale (kk+1) (ZfB most (ZdH Ls (Zax f)++[⟨b,k2,f,kk+1⟩]))
theorem ZkZ (w:World) (B K C L D:Nat) (pl no te:Int) (me:Bool) (hK:Blk w K (ZaQ C L pl no te me false) 62) (hB:B≤K) (hBw:B≤w.heap.size) (l:ZaZ) (d:Zaz) (hl:IsLog B w L D l) (hd:IsDev B w D d)
  (most stale:Int) (kk:Nat) (Ls:List ZaP) (hC:IsCache B w C most stale kk Ls) (hkk:kk<4000000000000000000) (hL:Ls.length<100000) (h:ZaU) (f:Zas) (hf:IsFact (Zak fT w) w h f) (hfl:Zmy f) (now:Int) (he:Zh6 f=0) (hpb:ZmB Ls f (atT no now)=true) (Q:World→Prop)
  (hwr:∀ W,Zq8 B w W K C L D pl (atT no now) te me l d h f most stale kk Ls→Calls Tryz.prog 28 #[.pointer (some ⟨K,0,none⟩),.agg (ZbK h f)] W fun e w'=>(∃ e0,e= .returned (.int .i64 e0))∧Q w'):
  Calls Tryz.prog 8 #[.pointer (some ⟨K,0,none⟩),.agg (Zaj h f),.int .i64 now] w fun e w'=>e= .returned (.bool true)∧Q w':=by
 have hb1:Below w.heap.size w (w.alloc (.cells (Zaj h f) 37)):=Zbr.alloc Zlr _
 have a1:Blk (w.alloc (.cells (Zaj h f) 37)) w.heap.size (Zaj h f) 37:=Zha w _
 obtain⟨nn,hnn⟩:∃ nn,nn=atT no now:=⟨_,rfl⟩
 rw[←hnn] at hpb hwr
 have H0:=Zhd (Zan hK (Zan hB (Zan hBw (Zan hl (Zan hd (Zan hC (Zan hkk (Zan hL (Zan hf (Zan hfl (Zan he (Zan hpb hwr))))))))))))
 have HN:=Zhd hnn
 clear hK hB hBw hl hd hC hkk hL hf hfl he hpb hwr hnn
 go_enter Tryz.func8,Tryz.ntmps8
 go_upto_region 1 with fail
 simp only[Zaj] at a1 hb1⊢
 generalize w.alloc (.cells #[.slice h.na h.nl h.nc,.int .i64 f.typ,.int .i64 f.kind,.int .i64 f.rank,.int .i64 f.got,.int .i64 f.ttl,.slice h.sa h.sl h.sc,.slice h.za h.zl h.zc,.slice h.d.ba h.d.bl h.d.bc,.slice h.d.ha h.d.hl h.d.hc,.slice h.d.ma h.d.ml h.d.mc,.slice h.d.na h.d.nl h.d.nc,.slice h.d.ta h.d.tl h.d.tc] 37)=A1 at a1 hb1⊢
 obtain⟨m0,m1,m2,m3,m4,m5,m6,m7,m8,m9,m10,m11,m12⟩:=Zc13 (show Blk A1 w.heap.size _ _ from a1)
 have hA:Blk (A1.alloc (.cells (Zar 0 0 (.slice none 0 0)) 66)) A1.heap.size (Zar 0 0 (.slice none 0 0)) 66:=Zha A1 _
 have hal:Below A1.heap.size A1 (A1.alloc (.cells (Zar 0 0 (.slice none 0 0)) 66)):=Zbr.alloc Zlr _
 have hq:=ZaA hA (ZbK h f)
 have hqg:=Zav (A1.alloc (.cells (Zar 0 0 (.slice none 0 0)) 66)) A1.heap.size (ZbK h f)
 have hbq:=hal.trans (Zam hqg Zlr hal.size)
 have HA:=Zhd (Zan hA (Zan hq (Zan (Zaa hb1 hbq Zlr) (Blk.on a1 hbq))))
 have HZ:=Zhd hb1.size
 clear hA hal hq hqg hbq a1 hb1
 go_upto_region 2 with(refine wpList_store_row rfl 66 _ _ rfl A1.heap.size (ZbK h f) rfl rfl 66 (Zar 0 0 (.slice none 0 0)) HA.out.1 Za5 rfl (Zfw h f) ?_;(try change wpList _ _ _ _ _ ((A1.alloc (.cells (Zar 0 0 (.slice none 0 0)) 66)).setRow A1.heap.size (ZbK h f)));have hz:=HA.out.2;generalize (A1.alloc (.cells (Zar 0 0 (.slice none 0 0)) 66)).setRow A1.heap.size (ZbK h f)=W1 at hz⊢;have HY:=Zhd hz;clear hz)
 have hz:=HY.out
 obtain⟨g,hg⟩:∃ g,g=A1.heap.size:=⟨_,rfl⟩
 rw[←hg] at hz HZ⊢
 have hk1:=Blk.on H0.out.1 hz.2.1
 have k6:W1.cell? ⟨K,6,none⟩=some (.bool false):=hk1.cell 6
 have hf1:=H0.out.2.2.2.2.2.2.2.2.1.step (Same.below hz.2.1 _)
 have hen:=ZhM W1 h f (hf1.mono (fun _ _ ht=>ZdI ht))
 rw[H0.out.2.2.2.2.2.2.2.2.2.2.1] at hen
 have HE:=Zhd hen
 have H1:=Zhd (Zan hz (Zan hk1 hf1))
 clear hz hk1 hf1 hen hg m0 m1 m2 m3 m4 m5 m6 m7 m8 m9 m10 m11 m12
 go_upto_region 5 with(first
  |(refine wpList_load_row rfl 66 _ rfl g rfl 66 (ZbK h f) (0,0) _ H1.out.1.1 Tryz.underlying66 rfl Za5 ?_)
  |(go_at_call 25;refine HE.out.mono ?_;rintro e W2 ⟨⟨v,rfl,hv⟩,hb⟩;obtain⟨ao,c,rfl,-⟩:=hv rfl;have H2:=Zhd hb;clear hv hb))
 have hbd:=Below.drew (Below.refl W2.heap.size W2)
 have hb12:=Zaa H2.out hbd Zlr
 have k2:=Blk.on H1.out.2.1 hb12
 have f2:=Blk.on H1.out.1.2.2 hb12
 have hbw:=Zaa H1.out.1.2.1 hb12 Zlr
 have D0:=Zhd (show W2.drew.cell? ⟨K,0,none⟩=some (.pointer (some ⟨C,0,none⟩))∧W2.drew.cell? ⟨w.heap.size,0,none⟩=some (.slice h.na h.nl h.nc)∧W2.drew.cell? ⟨w.heap.size,1,none⟩=some (.int .i64 f.typ)∧W2.drew.cell? ⟨w.heap.size,2,none⟩=some (.int .i64 f.kind)∧W2.drew.cell? ⟨w.heap.size,3,none⟩=some (.int .i64 f.rank)∧W2.drew.cell? ⟨w.heap.size,4,none⟩=some (.int .i64 f.got)∧W2.drew.cell? ⟨w.heap.size,5,none⟩=some (.int .i64 f.ttl)∧W2.drew.cell? ⟨w.heap.size,6,none⟩=some (.slice h.sa h.sl h.sc)∧W2.drew.cell? ⟨w.heap.size,7,none⟩=some (.slice h.za h.zl h.zc)∧W2.drew.cell? ⟨w.heap.size,8,none⟩=some (.slice h.d.ba h.d.bl h.d.bc)∧W2.drew.cell? ⟨w.heap.size,9,none⟩=some (.slice h.d.ha h.d.hl h.d.hc)∧W2.drew.cell? ⟨w.heap.size,10,none⟩=some (.slice h.d.ma h.d.ml h.d.mc)∧W2.drew.cell? ⟨w.heap.size,11,none⟩=some (.slice h.d.na h.d.nl h.d.nc)∧W2.drew.cell? ⟨w.heap.size,12,none⟩=some (.slice h.d.ta h.d.tl h.d.tc) from⟨k2.cell 0,f2.cell 0,f2.cell 1,f2.cell 2,f2.cell 3,f2.cell 4,f2.cell 5,f2.cell 6,f2.cell 7,f2.cell 8,f2.cell 9,f2.cell 10,f2.cell 11,f2.cell 12⟩)
 have HAT:=Zhd (Zkm W2.drew B K C L pl no te me false k2 H0.out.2.1 now)
 rw[←HN.out] at HAT
 have HC2:=Zhd (Zan (H0.out.2.2.2.2.2.1.on hbw) (Zan f2 (Zan hbw (Zan (Blk.on H1.out.1.1 hb12) (H0.out.2.2.2.2.2.2.2.2.1.step (Same.below hbw _))))))
 clear hbd hb12 k2 f2 hbw
 go_region_held3 (fun w'=>w'.cell? ⟨K,0,none⟩=some (.pointer (some ⟨C,0,none⟩))∧w'.cell? ⟨w.heap.size,0,none⟩=some (.slice h.na h.nl h.nc)∧w'.cell? ⟨w.heap.size,1,none⟩=some (.int .i64 f.typ)∧w'.cell? ⟨w.heap.size,2,none⟩=some (.int .i64 f.kind)∧w'.cell? ⟨w.heap.size,3,none⟩=some (.int .i64 f.rank)∧w'.cell? ⟨w.heap.size,4,none⟩=some (.int .i64 f.got)∧w'.cell? ⟨w.heap.size,5,none⟩=some (.int .i64 f.ttl)∧w'.cell? ⟨w.heap.size,6,none⟩=some (.slice h.sa h.sl h.sc)∧w'.cell? ⟨w.heap.size,7,none⟩=some (.slice h.za h.zl h.zc)∧w'.cell? ⟨w.heap.size,8,none⟩=some (.slice h.d.ba h.d.bl h.d.bc)∧w'.cell? ⟨w.heap.size,9,none⟩=some (.slice h.d.ha h.d.hl h.d.hc)∧w'.cell? ⟨w.heap.size,10,none⟩=some (.slice h.d.ma h.d.ml h.d.mc)∧w'.cell? ⟨w.heap.size,11,none⟩=some (.slice h.d.na h.d.nl h.d.nc)∧w'.cell? ⟨w.heap.size,12,none⟩=some (.slice h.d.ta h.d.tl h.d.tc))
  (first|exact D0.out|exact D3.out|exact D5.out|go_keep)
  (first
   |(go_at_call 26;have hpf:=ZpE W3 _ B C most stale kk Ls H3.out.2.2.2.1 H0.out.2.2.2.2.2.2.1 H0.out.2.2.2.2.2.2.2.1 h f H3.out.2.2.2.2.1 H0.out.2.2.2.2.2.2.2.2.2.1 nn;rw[H0.out.2.2.2.2.2.2.2.2.2.2.2.1] at hpf;refine hpf.mono ?_;rintro e W5 ⟨rfl,hl5,hp5⟩;have k5:=Zch H3.out.1 hl5.same (by decide);have f5:=Zch H3.out.2.2.1 hl5.same (by decide);have D5:=Zhd (show W5.cell? ⟨K,0,none⟩=some (.pointer (some ⟨C,0,none⟩))∧W5.cell? ⟨w.heap.size,0,none⟩=some (.slice h.na h.nl h.nc)∧W5.cell? ⟨w.heap.size,1,none⟩=some (.int .i64 f.typ)∧W5.cell? ⟨w.heap.size,2,none⟩=some (.int .i64 f.kind)∧W5.cell? ⟨w.heap.size,3,none⟩=some (.int .i64 f.rank)∧W5.cell? ⟨w.heap.size,4,none⟩=some (.int .i64 f.got)∧W5.cell? ⟨w.heap.size,5,none⟩=some (.int .i64 f.ttl)∧W5.cell? ⟨w.heap.size,6,none⟩=some (.slice h.sa h.sl h.sc)∧W5.cell? ⟨w.heap.size,7,none⟩=some (.slice h.za h.zl h.zc)∧W5.cell? ⟨w.heap.size,8,none⟩=some (.slice h.d.ba h.d.bl h.d.bc)∧W5.cell? ⟨w.heap.size,9,none⟩=some (.slice h.d.ha h.d.hl h.d.hc)∧W5.cell? ⟨w.heap.size,10,none⟩=some (.slice h.d.ma h.d.ml h.d.mc)∧W5.cell? ⟨w.heap.size,11,none⟩=some (.slice h.d.na h.d.nl h.d.nc)∧W5.cell? ⟨w.heap.size,12,none⟩=some (.slice h.d.ta h.d.tl h.d.tc) from⟨k5.cell 0,f5.cell 0,f5.cell 1,f5.cell 2,f5.cell 3,f5.cell 4,f5.cell 5,f5.cell 6,f5.cell 7,f5.cell 8,f5.cell 9,f5.cell 10,f5.cell 11,f5.cell 12⟩);have e5:=Zch H3.out.2.2.2.2.2 hl5.same (by decide);have H5:=Zhd (Zan hl5 (Zan hp5 (Zan k5 e5)));clear hpf hl5 hp5 k5 f5 e5)
   |(go_at_call 27;refine HAT.out.mono ?_;rintro e W3 ⟨rfl,hk3,ho3⟩;have f3:=ho3.blk HC2.out.2.1 (by decide);have D3:=Zhd (show W3.cell? ⟨K,0,none⟩=some (.pointer (some ⟨C,0,none⟩))∧W3.cell? ⟨w.heap.size,0,none⟩=some (.slice h.na h.nl h.nc)∧W3.cell? ⟨w.heap.size,1,none⟩=some (.int .i64 f.typ)∧W3.cell? ⟨w.heap.size,2,none⟩=some (.int .i64 f.kind)∧W3.cell? ⟨w.heap.size,3,none⟩=some (.int .i64 f.rank)∧W3.cell? ⟨w.heap.size,4,none⟩=some (.int .i64 f.got)∧W3.cell? ⟨w.heap.size,5,none⟩=some (.int .i64 f.ttl)∧W3.cell? ⟨w.heap.size,6,none⟩=some (.slice h.sa h.sl h.sc)∧W3.cell? ⟨w.heap.size,7,none⟩=some (.slice h.za h.zl h.zc)∧W3.cell? ⟨w.heap.size,8,none⟩=some (.slice h.d.ba h.d.bl h.d.bc)∧W3.cell? ⟨w.heap.size,9,none⟩=some (.slice h.d.ha h.d.hl h.d.hc)∧W3.cell? ⟨w.heap.size,10,none⟩=some (.slice h.d.ma h.d.ml h.d.mc)∧W3.cell? ⟨w.heap.size,11,none⟩=some (.slice h.d.na h.d.nl h.d.nc)∧W3.cell? ⟨w.heap.size,12,none⟩=some (.slice h.d.ta h.d.tl h.d.tc) from⟨hk3.cell 0,f3.cell 0,f3.cell 1,f3.cell 2,f3.cell 3,f3.cell 4,f3.cell 5,f3.cell 6,f3.cell 7,f3.cell 8,f3.cell 9,f3.cell 10,f3.cell 11,f3.cell 12⟩);have hc3:=HC2.out.1.only ho3 (by decide) (by decide) (by decide);have hf3:=HC2.out.2.2.2.2.step (ho3.same (T:=fT) (by decide));have e3:=ho3.blk HC2.out.2.2.2.1 (by decide);have H3:=Zhd (Zan hk3 (Zan ho3 (Zan f3 (Zan hc3 (Zan hf3 e3)))));clear hk3 ho3 f3 hc3 hf3 e3))
 all_goals
  go_split_ands
  have HPA:Hid (Zq8 B w W5 K C L D pl nn te me l d h f most stale kk Ls):=by
   have hfr:Kfr B w W5:=((Kfr.below HC2.out.2.2.1 H0.out.2.2.1).trans (Kfr.only H3.out.2.1 (by decide))).trans (Kfr.left H5.out.1 Zlr)
   have hl3:=(H0.out.2.2.2.1.on HC2.out.2.2.1).only H3.out.2.1 (by decide) (by decide)
   have hd3:=ZdF (H0.out.2.2.2.2.1.on HC2.out.2.2.1) H3.out.2.1 (by decide) (by decide) (by decide) (by decide)
   exact Zhd ⟨hfr,H5.out.2.2.1,Zpi hl3 H5.out.1,ZoW hd3 H5.out.1,Zn7 W5 h f (ZqC (H3.out.2.2.2.2.1.step (ZcH H5.out.1.same (by decide)))) H0.out.2.2.2.2.2.2.2.2.2.2.1,H5.out.2.1.yes rfl⟩
  go_wp2_with (first
   |(go_at_call 28;refine(H0.out.2.2.2.2.2.2.2.2.2.2.2.2 W5 HPA.out).mono ?_;rintro e W6 ⟨⟨e0,rfl⟩,hq⟩;have H6:=Zhd hq;clear hq)
   |(refine wpList_load_row rfl 66 _ rfl g rfl 66 (ZbK h f) (0,0) _ H5.out.2.2.2 Tryz.underlying66 rfl Za5 ?_))
  go_ret
  exact⟨rfl,H6.out⟩
def Zcv:Zaq:=⟨[],[],[],[],[]⟩
def adD (b:UInt8):Zaq:=⟨[1,2,3,b],[],[],[],[]⟩
def adF (nm:List ByteArray) (b:UInt8):Zas:=⟨nm,1,1,4,0,100,[adD b],[],Zcv⟩
def adH (na:Option Addr) (nl nc Y:Nat):ZaU:=⟨na,nl,nc,some ⟨Y,0,none⟩,1,1,none,0,0,⟨none,0,0,none,0,0,none,0,0,none,0,0,none,0,0⟩⟩
theorem ZrP (w:World) (X Y:Nat) (na:Option Addr) (nl nc:Nat) (nm:List ByteArray) (hn:Strs w na nl nc nm) (hni:rowIn (Zak fT w) na nl) (b:UInt8) (hX:Blk w X #[.int .u8 1,.int .u8 2,.int .u8 3,.int .u8 (b.toNat:Int)] 5) (hY:Blk w Y #[.slice (some ⟨X,0,none⟩) 4 4,.slice none 0 0,.slice none 0 0,.slice none 0 0,.slice none 0 0] 35):IsFact (Zak fT w) w (adH na nl nc Y) (adF nm b):=by
 have hr:Row w none 0 0 []:=Row.empty (by decide) (fun _=>rfl)
 have hs:Strs w none 0 0 []:=⟨hr,by simp⟩
 have hi:∀ {S:Nat→Prop},rowIn S none 0:=fun h=>absurd h (by omega)
 refine⟨hn,hni,(show wfi 1 by decide),(show wfi 1 by decide),(show wfi 4 by decide),(show wfi 0 by decide),(show wfi 100 by decide),⟨rfl,Nat.le_refl _,show(1:Nat)≤_ by decide,(fun h=>nomatch h),(fun _=>⟨Y,0,rfl,⟨_,_,hY,by decide⟩,?_⟩)⟩,hs,hi,⟨hr,hs,hs,hr,hs,by simp[adF,Zcv]⟩,⟨hi,hi,hi,hi,hi⟩⟩
 intro i hi'
 obtain rfl:i=0:=by simp[adF] at hi';omega
 refine⟨⟨some ⟨X,0,none⟩,4,4,none,0,0,none,0,0,none,0,0,none,0,0⟩,?_,?_,?_⟩
 ·intro q hq
  rw[hY.cell]
  simp[Zb0,Zae]
 ·refine⟨⟨rfl,Nat.le_refl _,show(4:Nat)≤_ by decide,show(4:Nat)≤_ by decide,(fun h=>nomatch h),(fun _=>⟨X,0,rfl,?_⟩)⟩,hs,hs,hr,hs,by simp[adF,adD]⟩
  intro q hq
  rw[hX.cell]
  have h4:q<4:=by simpa [adF,adD] using hq
  obtain rfl|rfl|rfl|rfl:q=0∨q=1∨q=2∨q=3:=by omega
  all_goals rfl
 ·exact⟨fun _ a e=>by cases e;exact⟨_,_,hX,by decide⟩,hi,hi,hi,hi⟩
theorem ZiO (W:World) (A B:Array Value) (T U:TypeId):Blk ((W.alloc (.cells A T)).alloc (.cells B U)) W.heap.size A T∧Blk ((W.alloc (.cells A T)).alloc (.cells B U)) (W.heap.size+1) B U∧Below W.heap.size W ((W.alloc (.cells A T)).alloc (.cells B U)):=by
 have h1:Blk (W.alloc (.cells A T)) W.heap.size A T:=Zha W _
 refine⟨h1.on (Zbr.alloc Zlr _),?_,(Zbr.alloc Zlr _).alloc (by simp) _⟩
 have:=Zha (W.alloc (.cells A T)) (.cells B U)
 simpa [Blk] using this
theorem ZmH {nm:List ByteArray} (h:ZaG nm=true) (b:UInt8):Zbl (adF nm b)=true:=by
 simp[Zbl,Zie,ZqL,adF,h,Za6,ZbW,Zbc,ZaB,ZaD,Zb5,Zir,Zcv,adD]
theorem ZmG {nm:List ByteArray} (h:ZaG nm=true) (b:UInt8):Zmy (adF nm b):=by
 have h1:DLen Zcv:=⟨by decide,by decide,by decide,by decide⟩
 have h2:DLen (adD b):=⟨by show(0:Nat)≤_;decide,by show(0:Nat)≤_;decide,by show(0:Nat)≤_;decide,by show(0:Nat)≤_;decide⟩
 have hl:=Zbk nm
 have hl2:=(ZaS h).1
 exact⟨by show nm.length≤_;omega,by show(0:Nat)≤_;decide,by show(1:Nat)≤_;decide,h1,fun d hd=>by rw[List.mem_singleton.1 hd];exact h2⟩
theorem Zrd (b:UInt8):cdW 1 (adD b)=[1,2,3,b]:=by rfl
theorem Zqp {nm:List ByteArray} (h:ZaG nm=true) (b:UInt8):Zh6 (adF nm b)=0∧1≤(ZcY (adF nm b)).length∧(ZcY (adF nm b)).length≤496:=by
 have hf:=ZmH h b
 have hff:=Zdw hf
 have h1:=ZdX hff
 have h2:(ZcY (adF nm b)).length≤496:=by
  have hn1:=Zbd false nm [] ([]++Za1 1 1)
  have hn2:=(ZaS h).1
  have e1:([]++Za1 1 1:List UInt8).length=1:=by simp[Zap]
  rw[e1] at hn1
  have hd:(Zd1 1 [adD b]).length=6:=by
   simp[Zd1,ZeX,Zrd,Zap]
  unfold ZcY Zd2
  rw[if_pos (show(adF nm b).kind=1 from rfl)]
  show(((ZaV (adF nm b) [] ([]++Za1 1 1)).2++Za1 _ 1)++Zd1 1 [adD b]).length≤496
  simp only[Zla,Zap,hd,ZaV]
  show(((((((nameW false nm [] ([]++Za1 1 1)).2.length+2)+1)+1)+7)+4)+1)+6≤496
  omega
 exact⟨by rw[Zh6,if_pos hf,if_pos (by omega)],h1.2,h2⟩
theorem ZgE (w:World) (na:Option Addr) (nl nc:Nat) (nm:List ByteArray) (hn:Strs w na nl nc nm) (hni:rowIn (Zak fT w) na nl) (b:UInt8):
  Calls Tryz.prog 7 #[.slice na nl nc,.int .u8 (b.toNat:Int)] w fun e w'=>(∃ h,e= .returned (.agg (Zaj h (adF nm b)))∧IsFact (Zak fT w') w' h (adF nm b))∧Below w.heap.size w w':=by
 obtain⟨z,hz⟩:∃ z:Int,z=(b.toNat:Int):=⟨_,rfl⟩
 rw[←hz]
 have HZ:=Zhd hz
 have HN:=Zhd (Zan hn hni)
 clear hz hn hni
 go_enter Tryz.func7,Tryz.ntmps7
 go_wp2_with fail
 rw[HZ.out]
 have hb1:Below w.heap.size w (w.alloc (.cells (Zaj (adH na nl nc (w.heap.size+1+1)) (adF nm b)) 37)):=Zbr.alloc Zlr _
 have a1:Blk (w.alloc (.cells (Zaj (adH na nl nc (w.heap.size+1+1)) (adF nm b)) 37)) w.heap.size (Zaj (adH na nl nc (w.heap.size+1+1)) (adF nm b)) 37:=Zha w _
 have hz1:(w.alloc (.cells (Zaj (adH na nl nc (w.heap.size+1+1)) (adF nm b)) 37)).heap.size=w.heap.size+1:=by simp
 change bodyPost _ _ _ _ _ (((w.alloc (.cells (Zaj (adH na nl nc (w.heap.size+1+1)) (adF nm b)) 37)).alloc (.cells #[.int .u8 1,.int .u8 2,.int .u8 3,.int .u8 (b.toNat:Int)] 5)).alloc (.cells #[.slice (some ⟨w.heap.size+1,0,none⟩) 4 4,.slice none 0 0,.slice none 0 0,.slice none 0 0,.slice none 0 0] 35))
 generalize w.alloc (.cells (Zaj (adH na nl nc (w.heap.size+1+1)) (adF nm b)) 37)=X1 at hb1 a1 hz1⊢
 have h2:=ZiO X1 #[.int .u8 1,.int .u8 2,.int .u8 3,.int .u8 (b.toNat:Int)] #[.slice (some ⟨w.heap.size+1,0,none⟩) 4 4,.slice none 0 0,.slice none 0 0,.slice none 0 0,.slice none 0 0] 5 35
 rw[hz1] at h2
 generalize (X1.alloc (.cells #[.int .u8 1,.int .u8 2,.int .u8 3,.int .u8 (b.toNat:Int)] 5)).alloc (.cells #[.slice (some ⟨w.heap.size+1,0,none⟩) 4 4,.slice none 0 0,.slice none 0 0,.slice none 0 0,.slice none 0 0] 35)=X3 at h2⊢
 have hb3:=Zaa hb1 (hz1▸h2.2.2) Zlr
 have hN3:=HN.out.1.below hb3 Zlr
 have hni3:rowIn (Zak fT X3) na nl:=fun h0 a ha=>by
  have ht:=HN.out.2 h0 a ha
  exact Zbt ht (hb3.block _ (ZdI ht))
 have hi:=ZrP X3 (w.heap.size+1) (w.heap.size+1+1) na nl nc nm hN3 hni3 b h2.1 h2.2.1
 have ha3:Blk X3 w.heap.size (Zaj (adH na nl nc (w.heap.size+1+1)) (adF nm b)) 37:=a1.on (hz1▸h2.2.2)
 refine bodyPost_ret (v:= .agg (Zaj (adH na nl nc (w.heap.size+1+1)) (adF nm b))) (results_cell_row (p:=4) (ty:=37) rfl _ _ w.heap.size 37 (Zaj (adH na nl nc (w.heap.size+1+1)) (adF nm b)) (0,0) _ rfl ha3 Tryz.underlying37 rfl Zcj) rfl ?_
 exact⟨⟨_,rfl,hi⟩,hb3⟩
theorem Zn0 (n size:Nat):Za1 (n:Int) (size+1)=Za1 ((n/256:Nat):Int) size++[UInt8.ofNat (n%256)]:=by
 simp only[Za1,List.range_succ,List.map_append,List.map_cons,List.map_nil,Int.toNat_natCast]
 congr 1
 ·apply List.map_congr_left
  intro t ht
  have ht:=List.mem_range.1 ht
  rw[show size+1-1-t=(size-1-t)+1 by omega,Nat.pow_succ,Nat.mul_comm,←Nat.div_div_eq_div_mul]
 ·rw[show size+1-1-size=0 by omega,Nat.pow_zero,Nat.div_one]
theorem Zex:∀ (size n:Nat),n<256^size→beN (Za1 (n:Int) size)=n
 |0,n,h=>by
  have:n=0:=by simpa using h
  subst this
  rfl
 |size+1,n,h=>by
  have hq:n/256<256^size:=by rw[Nat.pow_succ] at h;omega
  rw[Zn0,Zgn,Zex size _ hq]
  have:(UInt8.ofNat (n%256)).toNat=n%256:=by simp
  rw[this]
  omega
theorem ZpB (h:Zb7) (n:Nat) {t:Nat} (ht:t≤6):(Zhr h n t).length=Ziu t:=by
 have h7:t=0∨t=1∨t=2∨t=3∨t=4∨t=5∨t=6:=by omega
 rcases h7 with rfl|rfl|rfl|rfl|rfl|rfl|rfl<;>simp[Zhr,Zap,Zby,Ziu]
theorem ZnX (h:Zb7) (n:Nat) (t k:Nat):∃ r,Zhr h n (t+k)=Zhr h n t++r:=by
 induction k with
 |zero=>exact⟨[],by simp⟩
 |succ k ih=>
  obtain⟨r,hr⟩:=ih
  exact⟨r++Za1 (ZdV h n (t+k)) (Zby (t+k)),by rw[←Nat.add_assoc,Zhr,hr,List.append_assoc]⟩
theorem Zoh (h:Zb7) (l:List UInt8) {t:Nat} (ht:t<6):((ZcZ h l).drop (Ziu t)).take (Zby t)=Za1 (ZdV h l.length t) (Zby t):=by
 obtain⟨r,hr⟩:=ZnX h l.length (t+1) (6-(t+1))
 rw[show t+1+(6-(t+1))=6 by omega,show Zhr h l.length (t+1)=Zhr h l.length t++Za1 (ZdV h l.length t) (Zby t) from rfl] at hr
 have hl:=Zap (ZdV h l.length t) (Zby t)
 rw[ZcZ,hr]
 simp only[List.append_assoc]
 rw[←ZpB h l.length (Nat.le_of_lt ht),List.drop_left,List.take_append_of_le_length (by omega),List.take_of_length_le (by omega)]
theorem ZeK (h:Zb7) (l:List UInt8) {t:Nat} (ht:t<6) (hf:Za2 (ZdV h l.length t) (Zby t)=true):Zdx (ZcZ h l) t=ZdV h l.length t:=by
 rw[Zdx,Zoh h l ht]
 simp only[Za2,Zae2,Zde] at hf
 obtain⟨m,hm⟩:∃ m:Nat,ZdV h l.length t=(m:Int):=⟨(ZdV h l.length t).toNat,by omega⟩
 rw[hm] at hf⊢
 have h2:m<256^Zby t:=by
  have:=hf.2
  rw[show(256:Int)=((256:Nat):Int) from rfl,←Int.natCast_pow] at this
  exact Int.ofNat_lt.1 this
 rw[Zex _ _ h2]
theorem Zg6 {h:Zb7} {l:List UInt8} (he:Zb9 h l=0):Zb8 (ZcZ h l)=0∧ZbR (ZcZ h l)=h∧ZbE (ZcZ h l)=l:=by
 have hl:l.length≤496:=by
  rw[Zb9] at he
  split at he
  ·cases he
  ·split at he
   ·cases he
   ·split at he
    ·cases he
    ·omega
 have hf:Zd3 h=true:=by
  rw[Zb9] at he
  split at he
  ·cases he
  ·rename_i hx
   simpa using hx
 simp only[Zd3,Zae2] at hf
 obtain⟨⟨⟨⟨f0,f1⟩,f2⟩,f3⟩,f4⟩:=hf
 have n0:=ZeK h l (t:=0) (by omega) f0
 have n1:=ZeK h l (t:=1) (by omega) f1
 have n2:=ZeK h l (t:=2) (by omega) f2
 have n3:=ZeK h l (t:=3) (by omega) f3
 have n4:=ZeK h l (t:=4) (by omega) f4
 have n5:=ZeK h l (t:=5) (by omega) (by simp only[Za2,ZdV,Zby,Zae2,Zde];omega)
 simp only[ZdV] at n0 n1 n2 n3 n4 n5
 have hH:ZbR (ZcZ h l)=h:=by rw[ZbR,n0,n1,n2,n3,n4]
 have hD:ZbE (ZcZ h l)=l:=by
  rw[ZbE,n5,Int.toNat_natCast,ZcZ,List.append_assoc,←ZiA h l.length,List.drop_left,List.take_left]
 refine⟨?_,hH,hD⟩
 rw[Zb8,if_neg (by rw[Zog hl];omega),if_neg (by rw[n5];omega),hH,hD,if_neg (by simp[he])]
structure Calm (d:Zaz):Prop where
 dn:d.down=false
 lim:d.limit=0
 us:∀ u∈d.unsure,u.1<d.sure.length
theorem Calm.ok {d:Zaz} (h:Calm d):Zbu d=true:=by simp[Zbu,h.lim]
theorem Calm.spend {d:Zaz} (h:Calm d):spendP d=d:=by simp[spendP,h.lim]
theorem Calm.writeE {d:Zaz} (h:Calm d):ZbM d=0:=by simp[Go.Proofs.YtjpefpclmndgeaaGreat.ZbM,h.dn,h.ok]
theorem Calm.writeP {d:Zaz} (h:Calm d) (p:Nat) (b:List UInt8):ZaL d p b={d with unsure:=d.unsure++[(p,b)]}:=by simp[Go.Proofs.YtjpefpclmndgeaaGreat.ZaL,h.dn,h.ok,h.spend]
theorem Calm.write {d:Zaz} (h:Calm d) {p:Nat} (hp:p<d.sure.length) (b:List UInt8):Calm (Go.Proofs.YtjpefpclmndgeaaGreat.ZaL d p b):=by
 rw[h.writeP]
 refine⟨h.dn,h.lim,fun u hu=>?_⟩
 rcases List.mem_append.1 hu with hu|hu
 ·exact h.us u hu
 ·rw[List.mem_singleton.1 hu];exact hp
theorem Zji (us:List (Nat×List UInt8)) (p:Nat) (b:List UInt8) (t:Nat):lastW (us++[(p,b)]) t=if p=t then some b else lastW us t:=by
 unfold lastW
 rw[List.reverse_append,List.reverse_singleton,List.singleton_append]
 by_cases he:p=t
 ·rw[if_pos he,List.find?_cons_of_pos (by simpa using he)];rfl
 ·rw[if_neg he,List.find?_cons_of_neg (by simpa using he)]
theorem Calm.read_write {d:Zaz} (h:Calm d) (p:Nat) (b:List UInt8) (t:Nat):Zbg (Go.Proofs.YtjpefpclmndgeaaGreat.ZaL d p b) t=if p=t then some b else Zbg d t:=by
 rw[h.writeP]
 unfold Zbg
 rw[show({d with unsure:=d.unsure++[(p,b)]}:Zaz).unsure=d.unsure++[(p,b)] from rfl,Zji]
 by_cases he:p=t
 ·rw[if_pos he,if_pos he]
 ·rw[if_neg he,if_neg he]
theorem Calm.syncE {d:Zaz} (h:Calm d):Zcr d=0:=by simp[Go.Proofs.YtjpefpclmndgeaaGreat.Zcr,h.dn,h.ok]
theorem Calm.syncP {d:Zaz} (h:Calm d):ZaE d={d with sure:=ZdB (fun _=>some false) d.unsure d.sure d.unsure.length,unsure:=[]}:=by simp[Go.Proofs.YtjpefpclmndgeaaGreat.ZaE,h.dn,h.ok,h.spend]
theorem Calm.sync {d:Zaz} (h:Calm d):Calm (Go.Proofs.YtjpefpclmndgeaaGreat.ZaE d):=by
 rw[h.syncP]
 exact⟨h.dn,h.lim,fun u hu=>by cases hu⟩
theorem Calm.sync_len {d:Zaz} (h:Calm d):(Go.Proofs.YtjpefpclmndgeaaGreat.ZaE d).sure.length=d.sure.length:=by
 rw[h.syncP]
 exact ZeL _ _ _ _
theorem Calm.sync_none {d:Zaz} (h:Calm d):(Go.Proofs.YtjpefpclmndgeaaGreat.ZaE d).unsure=[]:=by rw[h.syncP]
theorem ZiH (us:List (Nat×List UInt8)) (s:List (List UInt8×Bool)) (hu:∀ u∈us,u.1<s.length) (t:Nat):∀ k,k≤us.length→(ZdB (fun _=>some false) us s k)[t]?=match lastW (us.take k) t with
  |some b=>some (b,false)
  |none=>s[t]?
 |0,_=>rfl
 |k+1,hk=>by
  have hlt:k<us.length:=hk
  have ih:=ZiH us s hu t k (by omega)
  rw[ZhO hlt,ZdB,List.getElem?_eq_getElem hlt]
  show((ZdB (fun _=>some false) us s k).set (us[k]).1 ((us[k]).2,false))[t]?=_
  by_cases he:(us[k]).1=t
  ·rw[if_pos he,he,List.getElem?_set_self (by rw[ZeL,←he];exact hu _ (List.getElem_mem hlt))]
  ·rw[if_neg he,List.getElem?_set_ne he]
   exact ih
theorem Calm.read_sync {d:Zaz} (h:Calm d) (t:Nat):Zbg (Go.Proofs.YtjpefpclmndgeaaGreat.ZaE d) t=Zbg d t:=by
 rw[h.syncP]
 unfold Zbg
 have hg:=ZiH d.unsure d.sure h.us t d.unsure.length Zlr
 rw[List.take_length] at hg
 show(match lastW [] t with
  |some b=>some b
  |none=>match (ZdB (fun _=>some false) d.unsure d.sure d.unsure.length)[t]? with
   |some s=>if s.2=true then none else some s.1
   |none=>none)=_
 rw[show lastW [] t=none from rfl,hg]
 cases lastW d.unsure t with
 |some b=>rfl
 |none=>rfl
theorem Calm.crash {d:Zaz} (h:Calm d) (hu:d.unsure=[]) (m tn:Nat):ZaN d m tn=d:=by
 unfold ZaN
 rw[hu]
 have e1:=h.dn
 have e2:=h.lim
 cases d
 simp_all [ZdB]
theorem Zhi (s:ZcS):∀ k t,t<k→k≤5→((Zb6 s k).drop (t*7)).take 7=Za1 (ZbZ s t) 7
 |0,t,h,_=>by omega
 |k+1,t,h,hk=>by
  rw[Zb6]
  have hl:=Zdi s k
  rcases Nat.lt_succ_iff_lt_or_eq.1 h with h|rfl
  ·have h7:t*7+7≤k*7:=by omega
   rw[List.drop_append_of_le_length (by omega),List.take_append_of_le_length (by rw[List.length_drop];omega)]
   exact Zhi s k t h (by omega)
  ·rw[←hl,List.drop_left,List.take_of_length_le (by rw[Zap];omega)]
theorem Zqv {n:Int} {k:Nat} (h:Za2 n k=true):(beN (Za1 n k):Int)=n:=by
 simp only[Za2,Zae2,Zde] at h
 obtain⟨m,hm⟩:∃ m:Nat,n=(m:Int):=⟨n.toNat,by omega⟩
 subst hm
 have h2:m<256^k:=by
  have:=h.2
  rw[show(256:Int)=((256:Nat):Int) from rfl,←Int.natCast_pow] at this
  exact Int.ofNat_lt.1 this
 rw[Zex _ _ h2]
theorem ZpN {b:ZcS} (h:ZaT b=true):ZhC (ZaY b)=true∧ZeR (ZbE (ZaY b))=b:=by
 have hlen:(Zb6 b 5).length=35:=Zdi b 5
 obtain⟨h1,h2,h3⟩:=Zg6 (Zll (Zb6 b 5) hlen)
 refine⟨?_,?_⟩
 ·unfold ZhC ZaY
  rw[h1,h2,h3,hlen]
  decide
 ·unfold ZaY
  rw[h3,ZeR]
  have e:∀ t,t<5→Zdm (Zb6 b 5) t=ZbZ b t:=fun t ht=>by
   rw[Zdm,Zhi b 5 t ht Zlr]
   exact Zqv (ZaR h ht)
  rw[e 0 (by omega),e 1 (by omega),e 2 (by omega),e 3 (by omega),e 4 (by omega)]
  rfl
theorem Zet {d:Zaz} (h:d.down=false) (t:Nat):ZaW d t=match Zbg d t with
  |none=>(Zal,false,0)
  |some raw=>if ZhC raw=true then(ZeR (ZbE raw),decide ((ZeR (ZbE raw)).gen%2=(t:Int)),0) else(Zal,false,0):=by
 rw[ZaW,if_neg (by rw[h];decide)]
 rfl
theorem Zf0 {d d':Zaz} (h:d.down=false) (h':d'.down=false) {t:Nat} (hr:Zbg d' t=Zbg d t):ZaW d' t=ZaW d t:=by
 rw[Zet h,Zet h',hr]
theorem Zil {d d':Zaz} (h:d.down=false) (h':d'.down=false) (hr:∀ t,t<2→Zbg d' t=Zbg d t):Zb1 d' 2=Zb1 d 2:=by
 have e0:=Zf0 h h' (hr 0 (by omega))
 have e1:=Zf0 h h' (hr 1 (by omega))
 simp only[Zb1,e0,e1]
 rfl
theorem Zg4 {d:Zaz} (h:Calm d) {b:ZcS} (hf:ZaT b=true) (hn:ZbI d b=true):ZbH d b=(ZaE (ZaL (ZaE d) (b.gen%2).toNat (ZaY b)),0):=by
 have hs:=h.sync
 have hw:∀ p,p<2∨True→ZbM (ZaE d)=0:=fun _ _=>hs.writeE
 have hc:(ZaL (ZaE d) (b.gen%2).toNat (ZaY b)).down=false∧Zbu (ZaL (ZaE d) (b.gen%2).toNat (ZaY b))=true:=by
  rw[hs.writeP]
  exact⟨hs.dn,hs.ok⟩
 have he:Zcr (ZaL (ZaE d) (b.gen%2).toNat (ZaY b))=0:=by
  rw[Go.Proofs.YtjpefpclmndgeaaGreat.Zcr,if_neg (by rw[hc.1];decide),if_pos hc.2]
 rw[ZbH,if_neg (by rw[h.dn];decide),if_neg (by rw[hf];decide),if_neg (by rw[hn];decide),if_neg (by rw[h.syncE];decide),if_neg (by rw[hs.writeE];decide),he]
theorem Zhg (n:Int):(n%2).toNat<2:=by omega
structure ZrN (d:Zaz) (b:ZcS) (d':Zaz):Prop where
 calm:Calm d'
 read:∀ t,Zbg d' t=if t=(b.gen%2).toNat then some (ZaY b) else Zbg d t
 len:d'.sure.length=d.sure.length
 none:d'.unsure=[]
 load:Zb1 d' 2=some b
theorem Zpg {d:Zaz} {o:ZcS} (h:Zb1 d 2=some o) {t:Nat} (ht:t<2) (hok:(ZaW d t).2.1=true):(ZaW d t).1.gen≤o.gen:=by
 simp only[Zb1] at h
 have h2:t=0∨t=1:=by omega
 by_cases h0:(ZaW d 0).2.1=true<;>by_cases h1:(ZaW d 1).2.1=true<;>rcases h2 with rfl|rfl
 all_goals simp_all
 all_goals split at h<;>simp_all<;>first|omega|(subst h;omega)|(subst h;exact Int.le_refl _)
theorem Zfy {d:Zaz} (h:Calm d) (h2:2≤d.sure.length) {b:ZcS} (hf:ZaT b=true) (hn:ZbI d b=true):(ZbH d b).2=0∧ZrN d b (ZbH d b).1:=by
 rw[Zg4 h hf hn]
 have hs:=h.sync
 have hp:(b.gen%2).toNat<(ZaE d).sure.length:=by rw[h.sync_len];have:=Zhg b.gen;omega
 have hw:=hs.write hp (ZaY b)
 have hd:=hw.sync
 have hread:∀ t,Zbg (ZaE (ZaL (ZaE d) (b.gen%2).toNat (ZaY b))) t=if t=(b.gen%2).toNat then some (ZaY b) else Zbg d t:=fun t=>by
  rw[hw.read_sync,hs.read_write,h.read_sync]
  by_cases e:(b.gen%2).toNat=t
  ·rw[if_pos e,if_pos e.symm]
  ·rw[if_neg e,if_neg (fun x=>e x.symm)]
 refine⟨rfl,hd,hread,?_,hw.sync_none,?_⟩
 ·rw[hw.sync_len,hs.writeP]
  exact h.sync_len
 ·have hb:=ZpN hf
  obtain⟨d',hd'⟩:∃ d',d'=ZaE (ZaL (ZaE d) (b.gen%2).toNat (ZaY b)):=⟨_,rfl⟩
  rw[←hd'] at hread hd⊢
  have hslot:ZaW d' (b.gen%2).toNat=(b,true,0):=by
   rw[Zet hd.dn,hread,if_pos rfl]
   simp only[hb.1,if_true,hb.2]
   congr
   simp
   omega
  have hoth:∀ t,t<2→t≠(b.gen%2).toNat→ZaW d' t=ZaW d t:=fun t _ hne=>Zf0 h.dn hd.dn (by rw[hread,if_neg hne])
  have hle:∀ t,t<2→t≠(b.gen%2).toNat→(ZaW d' t).2.1=true→(ZaW d' t).1.gen<b.gen:=fun t ht hne hok=>by
   rw[hoth t ht hne] at hok⊢
   unfold ZbI at hn
   cases hl:Zb1 d 2 with
   |none=>
    exfalso
    simp only[Zb1] at hl
    have h2:t=0∨t=1:=by omega
    rcases h2 with rfl|rfl<;>by_cases h0:(ZaW d 0).2.1=true<;>by_cases h1:(ZaW d 1).2.1=true<;>simp_all
    all_goals (split at hl<;>simp_all)
   |some o=>
    have hm:=Zpg hl ht hok
    rw[hl] at hn
    simp at hn
    omega
  have hs2:=Zhg b.gen
  have hcase:(b.gen%2).toNat=0∨(b.gen%2).toNat=1:=by omega
  rcases hcase with e|e
  ·rw[e] at hslot hle
   have h1:=hle 1 (by omega) (by omega)
   simp only[Zb1,hslot]
   simp
   intro h3
   have:=h1 h3
   omega
  ·rw[e] at hslot hle
   have h0:=hle 0 (by omega) (by omega)
   simp only[Zb1,hslot]
   simp
   intro h3 h4
   have:=h0 h3
   omega
def ZbF (d:Zaz) (p:Nat):Zb7×List UInt8×Int:=match Zbg d (atN d p) with
 |none=>(ZaO,[],9)
 |some b=>if Zb8 b=0 then(ZbR b,ZbE b,0) else(ZaO,[],Zb8 b)
structure Zj5 (w:World) (d:Zaz) (p:Nat) (e:Ending) (w':World):Prop where
 out:∃ ao c,e= .returned (.tuple #[.agg (Zat (ZbF d p).1),.slice ao (ZbF d p).2.1.length c,.int .i64 (ZbF d p).2.2])∧Own1 [5] w.heap.size w' ao (ZbF d p).2.1.length c ((ZbF d p).2.1.map u8V)
 bel:Below w.heap.size w w'
theorem Zk7 (T:List TypeId) (B:Nat) (w:World):Own1 T B w none 0 0 []:=⟨Row.empty (by omega) (fun _=>rfl),Za3 _ _⟩
theorem Zen {tmps:Array Value} {w:World} {R:Nat} {h:Zb7} {v:Value} {k:Int} (h2:tmps[4]?=some (.pointer (some ⟨R,0,none⟩))) (h3:tmps[5]?=some v) (h4:tmps[6]?=some (.int .i64 k)) (hB:Blk w R (Zat h) 108):
  (results Tryz.f49 tmps).run Tryz.prog w= .ok (.tuple #[.agg (Zat h),v,.int .i64 k]) w:=by
 have c0:=hB.cell 0
 have c1:=hB.cell 1
 have c2:=hB.cell 2
 have c3:=hB.cell 3
 have c4:=hB.cell 4
 simp[Zat] at c0 c1 c2 c3 c4
 simp[results,go_sem,h2,h3,h4,c0,c1,c2,c3,c4,Zat]
theorem Zjq (w:World) (B L D:Nat) (l:ZaZ) (d:Zaz) (hl:IsLog B w L D l) (hd:IsDev B w D d) (hdn:d.down=false) (h3:3≤d.sure.length) (p:Nat) (hp:p≤1000000000):
  Calls Tryz.prog 49 #[.pointer (some ⟨L,0,none⟩),.int .i64 (p:Int)] w fun e w'=>Zj5 w d p e w':=by
 have hal:Below w.heap.size w (w.alloc (.cells (Zat ZaO) 108)):=Zbr.alloc Zlr _
 have hA:Blk (w.alloc (.cells (Zat ZaO) 108)) w.heap.size (Zat ZaO) 108:=Zha w _
 have hbd:Below w.heap.size w (w.alloc (.cells (Zat ZaO) 108)).drew:=Below.drew hal
 have HAT:=Zhd (Znx _ B L D l d (hl.on hbd) (hd.on hbd) h3 p hp)
 have HRD:=Zhd (ZgI _ B D d (hd.on hbd) (atN d p) (Zqt h3 p))
 obtain⟨v,h1,_⟩:=hl.ex
 have c0:(w.alloc (.cells (Zat ZaO) 108)).drew.cell? ⟨L,0,none⟩=some (.pointer (some ⟨D,0,none⟩)):=(h1.on hbd).cell 0
 have HA:=Zhd (Zan (hA.on (Below.drew Zbr)) hbd)
 have HD:=Zhd hdn
 obtain⟨q,hq⟩:∃ q,q=atN d p:=⟨_,rfl⟩
 rw[←hq] at HAT HRD
 have HQ:=Zhd hq
 have hsz:(w.alloc (.cells (Zat ZaO) 108)).drew.heap.size=w.heap.size+1:=Array.size_push _
 have HSZ:=Zhd hsz
 clear hal hA hbd h1 hl hd hdn hq hsz
 simp only[Zat,ZaO] at HAT HRD c0 HA HSZ
 cases hrp:Zbg d q with
 |none=>
  have HO:=Zhd (show ZbF d p=(ZaO,[],9) by rw[ZbF,←HQ.out,hrp])
  have HRP:=Zhd hrp
  clear hrp
  go_enter Tryz.func49,Tryz.ntmps49
  go_wp2_with fail
  go_region_held3 (fun w'=>w'.cell? ⟨L,0,none⟩=some (.pointer (some ⟨D,0,none⟩)))
   (first|go_keep|exact c0|exact hc2)
   (first|(go_at_call 90;refine HAT.out.mono ?_;rintro e w2 ⟨rfl,rfl⟩)|(go_at_call 83;refine HRD.out.mono ?_;rintro e W2 hR;obtain rfl:=hR.torn HD.out HRP.out;have hc2:=Zab hR.bel c0;have H2:=Zhd (Zan (Zaa HA.out.2 hR.bel Zlr) (HA.out.1.on hR.bel));clear hR))
  all_goals go_split_ands
  all_goals go_wp2_with (refine wpList_store_row rfl 108 _ _ rfl w.heap.size (Zat ZaO) rfl rfl 108 (Zat ZaO) H2.out.2 ZbD rfl (Zbs _) ?_)
  have HF:=Zgu (show Blk W2 w.heap.size (Zat ZaO) 108 from H2.out.2) H2.out.1 ZaO
  exact bodyPost_ret (v:= .tuple #[.agg (Zat ZaO),.slice none 0 0,.int .i64 9]) (Zen rfl rfl rfl HF.1) rfl ⟨⟨none,0,by rw[HO.out];rfl,by rw[HO.out];exact Zk7 _ _ _⟩,HF.2⟩
 |some raw=>
  have HRP:=Zhd hrp
  clear hrp
  by_cases he:Zb8 raw=0
  ·have HO:=Zhd (show ZbF d p=(ZbR raw,ZbE raw,0) by rw[ZbF,←HQ.out,HRP.out];simp only[he,if_true])
   have HE:=Zhd he
   clear he
   go_enter Tryz.func49,Tryz.ntmps49
   go_wp2_with fail
   go_region_held3 (fun w'=>w'.cell? ⟨L,0,none⟩=some (.pointer (some ⟨D,0,none⟩)))
    (first|go_keep|exact c0|exact hc2)
    (first|(go_at_call 90;refine HAT.out.mono ?_;rintro e w2 ⟨rfl,rfl⟩)|(go_at_call 83;refine HRD.out.mono ?_;rintro e W2 hR;obtain⟨ao,c,rfl,hown,h512⟩:=hR.ok HD.out raw HRP.out;have hc2:=Zab hR.bel c0;have H2:=Zhd (Zan (Zaa HA.out.2 hR.bel Zlr) (Zan (HA.out.1.on hR.bel) hown.row));clear hR hown h512))
   all_goals go_split_ands
   go_wp2_with (first|(go_at_call 91;refine(Zes W2 ao 512 c raw H2.out.2.2).mono ?_;rintro e W3 hO;obtain⟨da,dc,rfl,hda⟩:=hO.ok HE.out;have H3:=Zhd (Zan (Zaa H2.out.1 hO.bel Zlr) (Zan (H2.out.2.1.on hO.bel) (hda.mono (Nat.le_trans Zlr H2.out.1.size))));clear hO hda)|(refine wpList_store_row rfl 108 _ _ rfl w.heap.size (Zat (ZbR raw)) rfl rfl 108 (Zat ZaO) H3.out.2.1 ZbD rfl (Zbs _) ?_))
   have HF:=Zgu (show Blk W3 w.heap.size (Zat ZaO) 108 from H3.out.2.1) H3.out.1 (ZbR raw)
   have hk:Own1 [5] w.heap.size (W3.setRow w.heap.size (Zat (ZbR raw))) da (ZbE raw).length dc ((ZbE raw).map u8V):=H3.out.2.2.step (Same.mono (Same.but (T:=[5]) (Zav W3 w.heap.size (Zat (ZbR raw))) H3.out.2.1 (by decide)) (fun _ _ h=>h.1))
   exact bodyPost_ret (v:= .tuple #[.agg (Zat (ZbR raw)),.slice da (ZbE raw).length dc,.int .i64 0]) (Zen rfl rfl rfl HF.1) rfl ⟨⟨da,dc,by rw[HO.out],by rw[HO.out];exact hk⟩,HF.2⟩
  ·have HO:=Zhd (show ZbF d p=(ZaO,[],Zb8 raw) by rw[ZbF,←HQ.out,HRP.out];simp only[he,if_false])
   have HE:=Zhd he
   clear he
   go_enter Tryz.func49,Tryz.ntmps49
   go_wp2_with fail
   go_region_held3 (fun w'=>w'.cell? ⟨L,0,none⟩=some (.pointer (some ⟨D,0,none⟩)))
    (first|go_keep|exact c0|exact hc2)
    (first|(go_at_call 90;refine HAT.out.mono ?_;rintro e w2 ⟨rfl,rfl⟩)|(go_at_call 83;refine HRD.out.mono ?_;rintro e W2 hR;obtain⟨ao,c,rfl,hown,h512⟩:=hR.ok HD.out raw HRP.out;have hc2:=Zab hR.bel c0;have H2:=Zhd (Zan (Zaa HA.out.2 hR.bel Zlr) (Zan (HA.out.1.on hR.bel) hown.row));clear hR hown h512))
   all_goals go_split_ands
   go_wp2_with (first|(go_at_call 91;refine(Zes W2 ao 512 c raw H2.out.2.2).mono ?_;rintro e W3 hO;obtain rfl:=hO.bad HE.out;have H3:=Zhd (Zan (Zaa H2.out.1 hO.bel Zlr) (H2.out.2.1.on hO.bel));clear hO)|(refine wpList_store_row rfl 108 _ _ rfl w.heap.size (Zat ZaO) rfl rfl 108 (Zat ZaO) H3.out.2 ZbD rfl (Zbs _) ?_))
   have HF:=Zgu (show Blk W3 w.heap.size (Zat ZaO) 108 from H3.out.2) H3.out.1 ZaO
   exact bodyPost_ret (v:= .tuple #[.agg (Zat ZaO),.slice none 0 0,.int .i64 (Zb8 raw)]) (Zen rfl rfl rfl HF.1) rfl ⟨⟨none,0,by rw[HO.out];rfl,by rw[HO.out];exact Zk7 _ _ _⟩,HF.2⟩
end Go.Proofs.YtjpefpclmndgeaaGreat

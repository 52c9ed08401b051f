/- Contracts of the given program's functions, in the order in which they are proved. -/
import Derived.Test.YtjpefpclmndgeaaGreatRows
import Derived.Laws.Tables
import Derived.Maps.OwnSet
import Derived.Maps.RangeWalk
import Derived.StringKeys
import Derived.Deep.RegionLaw
import Derived.Laws.BitsAllLaws
import Derived.Test.YtjpefpclmndgeaaGreatPl1
namespace Go.Proofs.YtjpefpclmndgeaaGreat
set_option maxHeartbeats 64000000
set_option maxRecDepth 100000
open Go.ChangeShapes Go.WideShapes Go.ChangeAt Go.RowKit
def ZaB (k:Int) (d:Zaq):Bool:=
 if k<1∨65535<k then false
 else if k=1 then decide (d.bytes.length=4)&&ZaD d true false false false false
 else if k=28 then decide (d.bytes.length=16)&&ZaD d true false false false false
 else if k=2∨k=5∨k=12 then ZaG d.host&&ZaD d false true false false false
 else if k=15 then(ZaG d.host&&Zgo d.nums 1 2)&&ZaD d false true false true false
 else if k=6 then((ZaG d.host&&ZaG d.mail)&&Zgo d.nums 5 4)&&ZaD d false true true true false
 else if k=33 then(ZaG d.host&&Zgo d.nums 3 2)&&ZaD d false true false true false
 else if k=16 then(decide (1≤d.texts.length)&&(decide (d.texts.length≤64)&&ZaD d false false false false true))&&d.texts.all (fun s=>decide (s.size≤255))
 else decide (d.bytes.length≤65535)&&ZaD d true false false false false
theorem Zec {k:Int} {d:Zaq} (h:k<1∨65535<k):ZaB k d=false:=by rw[ZaB,if_pos h]
theorem Zc7 {k:Int} {d:Zaq} (h1:1≤k) (h2:k≤65535) (h:k≠1∧k≠28∧k≠2∧k≠5∧k≠12∧k≠15∧k≠6∧k≠33∧k≠16):ZaB k d=(decide (d.bytes.length≤65535)&&ZaD d true false false false false):=by
 obtain⟨a1,a2,a3,a4,a5,a6,a7,a8,a9⟩:=h
 rw[ZaB,if_neg (by omega),if_neg a1,if_neg a2,if_neg (by omega),if_neg a6,if_neg a7,if_neg a8,if_neg a9]
theorem Zc2 (k:Int):(k<1∨65535<k)∨k=1∨k=28∨(k=2∨k=5∨k=12)∨k=15∨k=6∨k=33∨k=16∨((1≤k∧k≤65535)∧(k≠1∧k≠28∧k≠2∧k≠5∧k≠12∧k≠15∧k≠6∧k≠33∧k≠16)):=by omega
theorem Zn4 (w:World) (k:Int) (h:ZaJ) (d:Zaq) (hd:IsData w h d):
  Calls Tryz.prog 75 #[.int .i64 k,.agg (Zae h)] w fun e w'=>e= .returned (.bool (ZaB k d))∧Below w.heap.size w w':=by
 have hlen:=hd.len
 have hB:Blk (w.alloc (.cells (Zae h) 35)) w.heap.size (Zae h) 35:=Zha w _
 have hb1:Below w.heap.size w (w.alloc (.cells (Zae h) 35)):=Zbr.alloc Zlr _
 have HEMP:=Zhd (fun w' b1 b2 b3 b4 b5=>Zm9 w' h d hlen b1 b2 b3 b4 b5)
 have hd1:=hd.on hb1
 have HBK:=Zhd (show ∀ w',Below (w.heap.size+1) (w.alloc (.cells (Zae h) 35)) w'→w'.cell? ⟨w.heap.size,4,none⟩=some (.slice h.ta h.tl h.tc) from fun w' hb=>(Zab (hb.mono (by simp)) (hB.cell 4)))
 have HTX:=Zhd (show ∀ w',Below (w.heap.size+1) (w.alloc (.cells (Zae h) 35)) w'→Strs w' h.ta h.tl h.tc d.texts from fun w' hb=>hd1.texts.below hb (by simp))
 have hs1:(w.alloc (.cells (Zae h) 35)).heap.size=w.heap.size+1:=by simp
 obtain⟨ba,bl,bc,ha,hl,hc,ma,ml,mc,na,nl,nc,ta,tl,tc⟩:=h
 obtain⟨e0,e1,e2,e3,e4⟩:=hlen
 simp only[Zae] at*
 have c0:=hB.cell 0
 have c1:=hB.cell 1
 have c2:=hB.cell 2
 have c3:=hB.cell 3
 have c4:=hB.cell 4
 simp at c0 c1 c2 c3 c4
 have HS1:=Zhd (ZfT _ _ _ _ _ hd1.host)
 have HS2:=Zhd (ZfT _ _ _ _ _ hd1.mail)
 have HF2:=Zhd (fun (count:Nat)=>Zni _ _ _ _ _ hd1.nums hd1.fits count 2 (by omega) (by omega))
 have HF4:=Zhd (fun (count:Nat)=>Zni _ _ _ _ _ hd1.nums hd1.fits count 4 (by omega) (by omega))
 have HB1:=Zhd hb1
 have HL:=Zhd e4
 have HL0:=Zhd e0
 have HSZ:=Zhd hs1
 have hcap:=hd1.texts.row.hcap
 have hle:=hd1.texts.row.hle
 clear hb1 hB hd hd1 e0 e1 e2 e3 e4 hs1
 rcases Zc2 k with hk|rfl|rfl|hk|rfl|rfl|rfl|rfl|⟨⟨k1,k2⟩,hk⟩
 ·rw[Zec hk]
  rcases hk with hk|hk
  all_goals
   go_enter Tryz.func75,Tryz.ntmps75
   go_wp2
   go_ret
   exact⟨rfl,HB1.out⟩
 ·obtain⟨M,hM⟩:∃ M,M=ZaD d true false false false false:=⟨_,rfl⟩
  have HE:Hid (ZaB 1 d=(decide (bl=4)&&M)):=by show ZaB 1 d=_;rw[hM,←HL0.out];rfl
  have HEM:=Zhd (fun w'=>HEMP.out w' true false false false false)
  rw[←hM] at HEM
  rw[HE.out]
  clear hM HE HEMP
  by_cases hq:bl=4
  ·have g1:((bl:Int)==4)=true:=by rw[beq_iff_eq];omega
   rw[Zdt hq,Bool.true_and]
   clear hq
   go_enter Tryz.func75,Tryz.ntmps75
   go_wp2_with (go_at_call 132;refine(HEM.out _).mono ?_;rintro e w' ⟨rfl,hb2⟩)
   go_ret
   exact⟨rfl,Zaa HB1.out hb2 Zlr⟩
  ·have g1:((bl:Int)==4)=false:=by rw[beq_eq_false_iff_ne];omega
   rw[Zdf hq,Bool.false_and]
   clear hq
   go_enter Tryz.func75,Tryz.ntmps75
   go_wp2
   go_ret
   exact⟨rfl,HB1.out⟩
 ·obtain⟨M,hM⟩:∃ M,M=ZaD d true false false false false:=⟨_,rfl⟩
  have HE:Hid (ZaB 28 d=(decide (bl=16)&&M)):=by show ZaB 28 d=_;rw[hM,←HL0.out];rfl
  have HEM:=Zhd (fun w'=>HEMP.out w' true false false false false)
  rw[←hM] at HEM
  rw[HE.out]
  clear hM HE HEMP
  by_cases hq:bl=16
  ·have g1:((bl:Int)==16)=true:=by rw[beq_iff_eq];omega
   rw[Zdt hq,Bool.true_and]
   clear hq
   go_enter Tryz.func75,Tryz.ntmps75
   go_wp2_with (go_at_call 132;refine(HEM.out _).mono ?_;rintro e w' ⟨rfl,hb2⟩)
   go_ret
   exact⟨rfl,Zaa HB1.out hb2 Zlr⟩
  ·have g1:((bl:Int)==16)=false:=by rw[beq_eq_false_iff_ne];omega
   rw[Zdf hq,Bool.false_and]
   clear hq
   go_enter Tryz.func75,Tryz.ntmps75
   go_wp2
   go_ret
   exact⟨rfl,HB1.out⟩
 ·obtain⟨M,hM⟩:∃ M,M=ZaD d false true false false false:=⟨_,rfl⟩
  obtain⟨S,hS⟩:∃ S,S=ZaG d.host:=⟨_,rfl⟩
  have HE:Hid (ZaB k d=(S&&M)):=by show ZaB k d=_;rw[hM,hS];rcases hk with rfl|rfl|rfl<;>rfl
  have HEM:=Zhd (fun w'=>HEMP.out w' false true false false false)
  rw[←hM] at HEM
  rw[←hS] at HS1
  rw[HE.out]
  clear hM hS HE
  rcases hk with rfl|rfl|rfl
  all_goals
   go_enter Tryz.func75,Tryz.ntmps75
   go_wp2_with (first|(go_at_call 132;refine(HEM.out _).mono ?_;rintro e w' ⟨rfl,hb2⟩)|(go_at_call 72;refine HS1.out.mono ?_;rintro e w' ⟨rfl,rfl⟩))
  all_goals
   go_ret
   refine⟨Zaf ?_,by first|exact HB1.out|(refine Zaa HB1.out ?_ Zlr;assumption)⟩
   simp_all
 ·obtain⟨M,hM⟩:∃ M,M=ZaD d false true false true false:=⟨_,rfl⟩
  obtain⟨S,hS⟩:∃ S,S=ZaG d.host:=⟨_,rfl⟩
  obtain⟨F,hF⟩:∃ S,S=Zgo d.nums 1 2:=⟨_,rfl⟩
  have HE:Hid (ZaB 15 d=((S&&F)&&M)):=by show ZaB 15 d=_;rw[hM,hS,hF];rfl
  have HEM:=Zhd (fun w'=>HEMP.out w' false true false true false)
  have HF:=Zhd (HF2.out 1)
  rw[←hM] at HEM
  rw[←hS] at HS1
  rw[←hF] at HF
  rw[HE.out]
  clear hM hS hF HE
  go_enter Tryz.func75,Tryz.ntmps75
  go_wp2_with (first|(go_at_call 132;refine(HEM.out _).mono ?_;rintro e w' ⟨rfl,hb2⟩)|(go_at_call 72;refine HS1.out.mono ?_;rintro e w' ⟨rfl,rfl⟩)|(go_at_call 133;refine HF.out.mono ?_;rintro e w' ⟨rfl,rfl⟩))
  all_goals
   go_ret
   refine⟨Zaf ?_,by first|exact HB1.out|(refine Zaa HB1.out ?_ Zlr;assumption)⟩
   simp_all
 ·obtain⟨M,hM⟩:∃ M,M=ZaD d false true true true false:=⟨_,rfl⟩
  obtain⟨S,hS⟩:∃ S,S=ZaG d.host:=⟨_,rfl⟩
  obtain⟨S2,hS2⟩:∃ S,S=ZaG d.mail:=⟨_,rfl⟩
  obtain⟨F,hF⟩:∃ S,S=Zgo d.nums 5 4:=⟨_,rfl⟩
  have HE:Hid (ZaB 6 d=(((S&&S2)&&F)&&M)):=by show ZaB 6 d=_;rw[hM,hS,hS2,hF];rfl
  have HEM:=Zhd (fun w'=>HEMP.out w' false true true true false)
  have HF:=Zhd (HF4.out 5)
  rw[←hM] at HEM
  rw[←hS] at HS1
  rw[←hS2] at HS2
  rw[←hF] at HF
  rw[HE.out]
  clear hM hS hS2 hF HE HEMP HF2 HF4
  go_enter Tryz.func75,Tryz.ntmps75
  go_wp2_with fail
  refine HS1.out.mono ?_
  rintro e w' ⟨rfl,rfl⟩
  cases S
  ·go_wp2_with fail
   go_ret
   exact⟨rfl,HB1.out⟩
  go_wp2_with fail
  refine HS2.out.mono ?_
  rintro e w' ⟨rfl,rfl⟩
  cases S2
  ·go_wp2_with fail
   go_ret
   exact⟨rfl,HB1.out⟩
  go_wp2_with fail
  refine HF.out.mono ?_
  rintro e w' ⟨rfl,rfl⟩
  cases F
  ·go_wp2_with fail
   go_ret
   exact⟨rfl,HB1.out⟩
  go_wp2_with fail
  refine(HEM.out _).mono ?_
  rintro e w' ⟨rfl,hb2⟩
  go_wp2_with fail
  go_ret
  exact⟨rfl,Zaa HB1.out hb2 Zlr⟩
 ·obtain⟨M,hM⟩:∃ M,M=ZaD d false true false true false:=⟨_,rfl⟩
  obtain⟨S,hS⟩:∃ S,S=ZaG d.host:=⟨_,rfl⟩
  obtain⟨F,hF⟩:∃ S,S=Zgo d.nums 3 2:=⟨_,rfl⟩
  have HE:Hid (ZaB 33 d=((S&&F)&&M)):=by show ZaB 33 d=_;rw[hM,hS,hF];rfl
  have HEM:=Zhd (fun w'=>HEMP.out w' false true false true false)
  have HF:=Zhd (HF2.out 3)
  rw[←hM] at HEM
  rw[←hS] at HS1
  rw[←hF] at HF
  rw[HE.out]
  clear hM hS hF HE
  go_enter Tryz.func75,Tryz.ntmps75
  go_wp2_with (first|(go_at_call 132;refine(HEM.out _).mono ?_;rintro e w' ⟨rfl,hb2⟩)|(go_at_call 72;refine HS1.out.mono ?_;rintro e w' ⟨rfl,rfl⟩)|(go_at_call 133;refine HF.out.mono ?_;rintro e w' ⟨rfl,rfl⟩))
  all_goals
   go_ret
   refine⟨Zaf ?_,by first|exact HB1.out|(refine Zaa HB1.out ?_ Zlr;assumption)⟩
   simp_all
 ·obtain⟨M,hM⟩:∃ M,M=ZaD d false false false false true:=⟨_,rfl⟩
  have HE:Hid (ZaB 16 d=((decide (1≤tl)&&(decide (tl≤64)&&M))&&d.texts.all (fun s=>decide (s.size≤255)))):=by show ZaB 16 d=_;rw[hM,←HL.out];rfl
  have HEM:=Zhd (fun w'=>HEMP.out w' false false false false true)
  rw[←hM] at HEM
  rw[HE.out]
  clear hM HE HEMP HF2 HF4 HS1 HS2
  by_cases h1:1≤tl
  case neg=>
   have g1:decide ((tl:Int)<1)=true:=by rw[Zde];omega
   rw[Zdf h1,Bool.false_and,Bool.false_and]
   clear h1
   go_enter Tryz.func75,Tryz.ntmps75
   go_wp2
   go_ret
   exact⟨rfl,HB1.out⟩
  by_cases h2:tl≤64
  case neg=>
   have g1:decide ((tl:Int)<1)=false:=by rw[decide_eq_false_iff_not];omega
   have g2:decide ((64:Int)<(tl:Int))=true:=by rw[Zde];omega
   rw[Zdf h2,Bool.false_and,Bool.and_false,Bool.false_and]
   clear h1 h2
   go_enter Tryz.func75,Tryz.ntmps75
   go_wp2
   go_ret
   exact⟨rfl,HB1.out⟩
  have g1:decide ((tl:Int)<1)=false:=by rw[decide_eq_false_iff_not];omega
  have g2:decide ((64:Int)<(tl:Int))=false:=by rw[decide_eq_false_iff_not];omega
  rw[Zdt h1,Zdt h2,Bool.true_and,Bool.true_and]
  go_enter Tryz.func75,Tryz.ntmps75
  go_wp2_with fail
  refine(HEM.out _).mono ?_
  rintro e w2 ⟨rfl,hb2⟩
  have hb2':Below (w.heap.size+1) (w.alloc (.cells #[.slice ba bl bc,.slice ha hl hc,.slice ma ml mc,.slice na nl nc,.slice ta tl tc] 35)) w2:=by rw[←HSZ.out];exact hb2
  have t4:=HBK.out _ hb2'
  have hT:=HTX.out _ hb2'
  have HB2:=Zhd (Zaa HB1.out hb2 Zlr)
  clear hb2 hb2' HEM
  cases M
  ·go_wp2_with fail
   go_ret
   exact⟨rfl,HB2.out⟩
  go_wp2_with fail
  go_loop [5] (fun i=>∃ k:Nat,k≤tl∧i= .int .i64 k∧Hid (∀ j (hj:j<d.texts.length),j<k→(d.texts[j]).size≤255)) (fun i=>tl-(intOf i).toNat)
  case atStart=>exact⟨0,Nat.zero_le _,rfl,fun j hj h=>absurd h (by omega)⟩
  case round=>
   obtain⟨k,hk,rfl,hno⟩:=hrel
   by_cases hlt:k<tl
   ·obtain⟨b,off,rfl⟩:=hT.row.addr hlt
    have hc:=hT.at hlt
    have h3:=hT.get_small (i:=k) (by have:=HL.out;omega)
    obtain⟨s,hsk⟩:∃ s,s=d.texts[k]'(by have:=HL.out;omega):=⟨_,rfl⟩
    rw[←hsk] at hc h3
    have HK:=Zhd hsk
    clear hsk
    by_cases hs:s.size≤255
    ·have HS:=Zhd hs
     have d1:decide ((255:Int)<(s.size:Int))=false:=by rw[decide_eq_false_iff_not];omega
     clear hs
     go_wp2_with fail
     go_round
     case rel=>
      refine⟨k+1,by omega,by go_num,fun j hj h=>?_⟩
      rcases Nat.lt_succ_iff_lt_or_eq.1 h with h|rfl
      ·exact hno.out j hj h
      ·rw[←HK.out];exact HS.out
     case measure=>simp[intOf];omega
    ·have HS:=Zhd hs
     have d1:decide ((255:Int)<(s.size:Int))=true:=by rw[Zde];omega
     clear hs
     go_wp2_with fail
     go_ret
     refine⟨Zaf ?_,HB2.out⟩
     symm
     rw[List.all_eq_false]
     exact⟨s,by rw[HK.out];exact List.getElem_mem _,by simpa using HS.out⟩
   ·have HA:Hid (d.texts.all (fun s=>decide (s.size≤255))=true):=by
     rw[Hid,List.all_eq_true]
     intro s hs
     obtain⟨j,hj,rfl⟩:=List.getElem_of_mem hs
     simpa using hno.out j hj (by have:=HL.out;omega)
    clear hno
    go_wp2_with fail
    go_ret
    exact⟨Zaf HA.out.symm,HB2.out⟩
 ·obtain⟨M,hM⟩:∃ M,M=ZaD d true false false false false:=⟨_,rfl⟩
  have HE:Hid (ZaB k d=(decide (bl≤65535)&&M)):=by show ZaB k d=_;rw[Zc7 k1 k2 hk,hM,←HL0.out]
  have HEM:=Zhd (fun w'=>HEMP.out w' true false false false false)
  rw[←hM] at HEM
  rw[HE.out]
  clear hM HE
  obtain⟨a1,a2,a3,a4,a5,a6,a7,a8,a9⟩:=hk
  have g1:(k==1)=false:=by rw[beq_eq_false_iff_ne];exact a1
  have g2:(k==28)=false:=by rw[beq_eq_false_iff_ne];exact a2
  have g3:(k==2)=false:=by rw[beq_eq_false_iff_ne];exact a3
  have g4:(k==5)=false:=by rw[beq_eq_false_iff_ne];exact a4
  have g5:(k==12)=false:=by rw[beq_eq_false_iff_ne];exact a5
  have g6:(k==15)=false:=by rw[beq_eq_false_iff_ne];exact a6
  have g7:(k==6)=false:=by rw[beq_eq_false_iff_ne];exact a7
  have g8:(k==33)=false:=by rw[beq_eq_false_iff_ne];exact a8
  have g9:(k==16)=false:=by rw[beq_eq_false_iff_ne];exact a9
  clear a1 a2 a3 a4 a5 a6 a7 a8 a9
  go_enter Tryz.func75,Tryz.ntmps75
  go_wp2_with (go_at_call 132;refine(HEM.out _).mono ?_;rintro e w' ⟨rfl,hb2⟩)
  all_goals
   go_ret
   refine⟨Zaf ?_,by first|exact HB1.out|(refine Zaa HB1.out ?_ Zlr;assumption)⟩
   simp_all
   try omega
def ZaF (b:Int) (host mail short:Bool) (nums size:Int) (texts first:Bool):Array Value:=#[.int .i64 b,.bool host,.bool mail,.bool short,.int .i64 nums,.int .i64 size,.bool texts,.bool first]
theorem Zbn {tmps:Array Value} {w:World} {R:Nat} {b:Int} {host mail short:Bool} {nums size:Int} {texts first:Bool} (h2:tmps[2]?=some (.pointer (some ⟨R,0,none⟩))) (hB:Blk w R (ZaF b host mail short nums size texts first) 211):
  (results Tryz.f152 tmps).run Tryz.prog w= .ok (.agg (ZaF b host mail short nums size texts first)) w:=by
 have c0:=hB.cell 0
 have c1:=hB.cell 1
 have c2:=hB.cell 2
 have c3:=hB.cell 3
 have c4:=hB.cell 4
 have c5:=hB.cell 5
 have c6:=hB.cell 6
 have c7:=hB.cell 7
 simp[ZaF] at c0 c1 c2 c3 c4 c5 c6 c7
 simp[results,go_sem,h2,c0,c1,c2,c3,c4,c5,c6,c7,ZaF]
theorem ZiJ (w:World):Calls Tryz.prog 152 #[.int .i64 1] w fun e w'=>e= .returned (.agg (ZaF 4 false false false 0 0 false false))∧Below w.heap.size w w':=by
 have hb:Below w.heap.size w (w.alloc (.cells (ZaF 4 false false false 0 0 false false) 211)):=Zbr.alloc Zlr _
 have hB:Blk (w.alloc (.cells (ZaF 4 false false false 0 0 false false) 211)) w.heap.size (ZaF 4 false false false 0 0 false false) 211:=Zha w _
 go_enter Tryz.func152,Tryz.ntmps152
 go_wp2
 refine bodyPost_ret (v:= .agg (ZaF 4 false false false 0 0 false false)) (Zbn rfl hB) rfl ?_
 exact⟨rfl,hb⟩
theorem Ze7 (w:World):Calls Tryz.prog 152 #[.int .i64 28] w fun e w'=>e= .returned (.agg (ZaF 16 false false false 0 0 false false))∧Below w.heap.size w w':=by
 have hb:Below w.heap.size w (w.alloc (.cells (ZaF 16 false false false 0 0 false false) 211)):=Zbr.alloc Zlr _
 have hB:Blk (w.alloc (.cells (ZaF 16 false false false 0 0 false false) 211)) w.heap.size (ZaF 16 false false false 0 0 false false) 211:=Zha w _
 go_enter Tryz.func152,Tryz.ntmps152
 go_wp2
 refine bodyPost_ret (v:= .agg (ZaF 16 false false false 0 0 false false)) (Zbn rfl hB) rfl ?_
 exact⟨rfl,hb⟩
theorem Zhb (w:World) (k:Int) (hk:k=2∨k=5∨k=12):Calls Tryz.prog 152 #[.int .i64 k] w fun e w'=>e= .returned (.agg (ZaF 0 true false true 0 0 false false))∧Below w.heap.size w w':=by
 have hb:Below w.heap.size w (w.alloc (.cells (ZaF 0 true false true 0 0 false false) 211)):=Zbr.alloc Zlr _
 have hB:Blk (w.alloc (.cells (ZaF 0 true false true 0 0 false false) 211)) w.heap.size (ZaF 0 true false true 0 0 false false) 211:=Zha w _
 rcases hk with rfl|rfl|rfl
 all_goals
  go_enter Tryz.func152,Tryz.ntmps152
  go_wp2
  refine bodyPost_ret (v:= .agg (ZaF 0 true false true 0 0 false false)) (Zbn rfl hB) rfl ?_
  exact⟨rfl,hb⟩
theorem Zg9 (w:World):Calls Tryz.prog 152 #[.int .i64 15] w fun e w'=>e= .returned (.agg (ZaF 0 true false true 1 2 false true))∧Below w.heap.size w w':=by
 have hb:Below w.heap.size w (w.alloc (.cells (ZaF 0 true false true 1 2 false true) 211)):=Zbr.alloc Zlr _
 have hB:Blk (w.alloc (.cells (ZaF 0 true false true 1 2 false true) 211)) w.heap.size (ZaF 0 true false true 1 2 false true) 211:=Zha w _
 go_enter Tryz.func152,Tryz.ntmps152
 go_wp2
 refine bodyPost_ret (v:= .agg (ZaF 0 true false true 1 2 false true)) (Zbn rfl hB) rfl ?_
 exact⟨rfl,hb⟩
theorem ZfV (w:World):Calls Tryz.prog 152 #[.int .i64 6] w fun e w'=>e= .returned (.agg (ZaF 0 true true true 5 4 false false))∧Below w.heap.size w w':=by
 have hb:Below w.heap.size w (w.alloc (.cells (ZaF 0 true true true 5 4 false false) 211)):=Zbr.alloc Zlr _
 have hB:Blk (w.alloc (.cells (ZaF 0 true true true 5 4 false false) 211)) w.heap.size (ZaF 0 true true true 5 4 false false) 211:=Zha w _
 go_enter Tryz.func152,Tryz.ntmps152
 go_wp2
 refine bodyPost_ret (v:= .agg (ZaF 0 true true true 5 4 false false)) (Zbn rfl hB) rfl ?_
 exact⟨rfl,hb⟩
theorem ZfW (w:World):Calls Tryz.prog 152 #[.int .i64 33] w fun e w'=>e= .returned (.agg (ZaF 0 true false false 3 2 false true))∧Below w.heap.size w w':=by
 have hb:Below w.heap.size w (w.alloc (.cells (ZaF 0 true false false 3 2 false true) 211)):=Zbr.alloc Zlr _
 have hB:Blk (w.alloc (.cells (ZaF 0 true false false 3 2 false true) 211)) w.heap.size (ZaF 0 true false false 3 2 false true) 211:=Zha w _
 go_enter Tryz.func152,Tryz.ntmps152
 go_wp2
 refine bodyPost_ret (v:= .agg (ZaF 0 true false false 3 2 false true)) (Zbn rfl hB) rfl ?_
 exact⟨rfl,hb⟩
theorem ZfX (w:World):Calls Tryz.prog 152 #[.int .i64 16] w fun e w'=>e= .returned (.agg (ZaF 0 false false false 0 0 true false))∧Below w.heap.size w w':=by
 have hb:Below w.heap.size w (w.alloc (.cells (ZaF 0 false false false 0 0 true false) 211)):=Zbr.alloc Zlr _
 have hB:Blk (w.alloc (.cells (ZaF 0 false false false 0 0 true false) 211)) w.heap.size (ZaF 0 false false false 0 0 true false) 211:=Zha w _
 go_enter Tryz.func152,Tryz.ntmps152
 go_wp2
 refine bodyPost_ret (v:= .agg (ZaF 0 false false false 0 0 true false)) (Zbn rfl hB) rfl ?_
 exact⟨rfl,hb⟩
theorem Zdr (w:World) (k:Int) (hk:k≠1∧k≠28∧k≠2∧k≠5∧k≠12∧k≠15∧k≠6∧k≠33∧k≠16):Calls Tryz.prog 152 #[.int .i64 k] w fun e w'=>e= .returned (.agg (ZaF (-1) false false false 0 0 false false))∧Below w.heap.size w w':=by
 have hb:Below w.heap.size w (w.alloc (.cells (ZaF (-1) false false false 0 0 false false) 211)):=Zbr.alloc Zlr _
 have hB:Blk (w.alloc (.cells (ZaF (-1) false false false 0 0 false false) 211)) w.heap.size (ZaF (-1) false false false 0 0 false false) 211:=Zha w _
 obtain⟨a1,a2,a3,a4,a5,a6,a7,a8,a9⟩:=hk
 have g1:(k==1)=false:=by rw[beq_eq_false_iff_ne];exact a1
 have g2:(k==28)=false:=by rw[beq_eq_false_iff_ne];exact a2
 have g3:(k==2)=false:=by rw[beq_eq_false_iff_ne];exact a3
 have g4:(k==5)=false:=by rw[beq_eq_false_iff_ne];exact a4
 have g5:(k==12)=false:=by rw[beq_eq_false_iff_ne];exact a5
 have g6:(k==15)=false:=by rw[beq_eq_false_iff_ne];exact a6
 have g7:(k==6)=false:=by rw[beq_eq_false_iff_ne];exact a7
 have g8:(k==33)=false:=by rw[beq_eq_false_iff_ne];exact a8
 have g9:(k==16)=false:=by rw[beq_eq_false_iff_ne];exact a9
 clear a1 a2 a3 a4 a5 a6 a7 a8 a9
 go_enter Tryz.func152,Tryz.ntmps152
 go_wp2
 refine bodyPost_ret (v:= .agg (ZaF (-1) false false false 0 0 false false)) (Zbn rfl hB) rfl ?_
 exact⟨rfl,hb⟩
theorem Znl (w:World) (n:Int) (g:Nat) (hw:wfi n) (hc:w.cell? ⟨g,5,none⟩=some (.int .i64 2)):
  Calls Tryz.prog 154 #[.int .i64 n,.pointer (some ⟨g,0,none⟩)] w fun e w'=>e= .returned (.bool (!ZcU n 2))∧w=w':=by
 have H:=Zhd (Zrw w n hw)
 go_enter Tryz.func154,Tryz.ntmps154
 go_wp2_with (go_at_call 86;refine H.out.mono ?_;rintro e w' ⟨rfl,rfl⟩)
 go_ret
 exact⟨rfl,rfl⟩
theorem ZqG (w:World) (n:Int) (g:Nat) (hw:wfi n) (hc:w.cell? ⟨g,5,none⟩=some (.int .i64 4)):
  Calls Tryz.prog 154 #[.int .i64 n,.pointer (some ⟨g,0,none⟩)] w fun e w'=>e= .returned (.bool (!ZcU n 4))∧w=w':=by
 have H:=Zhd (Zrx w n hw)
 go_enter Tryz.func154,Tryz.ntmps154
 go_wp2_with (go_at_call 86;refine H.out.mono ?_;rintro e w' ⟨rfl,rfl⟩)
 go_ret
 exact⟨rfl,rfl⟩
theorem Zkl (w:World) (ao:Option Addr) (len cap:Nat) (l:List Int) (g:Nat) (p:Int→Bool) (hs:ZoN w ao len cap l) (hf:∀ n∈l,wfi n)
  (H1:Hid (∀ n,wfi n→Calls Tryz.prog 154 #[.int .i64 n,.pointer (some ⟨g,0,none⟩)] w fun e w'=>e= .returned (.bool (p n))∧w=w')):
  Calls Tryz.prog 176 #[.slice ao len cap,.func (.func 154) #[] #[.pointer (some ⟨g,0,none⟩)]] w fun e w'=>e= .returned (.int .i64 (Zo7 p l))∧w=w':=by
 have hl:l.length=len:=by simpa using hs.hlen
 have hcap:=hs.hcap
 have hle:=hs.hle
 have HL:=Zhd hl
 have HF:=Zhd hf
 clear hl hf
 go_enter Tryz.func176,Tryz.ntmps176
 go_wp2
 go_loop [8,5] (fun i _=>∃ k:Nat,k≤len∧i= .int .i64 k∧Hid (∀ j (hj:j<l.length),j<k→p l[j]=false)) (fun i _=>len-(intOf i).toNat)
 case atStart=>exact⟨0,Nat.zero_le _,rfl,fun j hj h=>absurd h (by omega)⟩
 case round=>
  obtain⟨k,hk,rfl,hno⟩:=hrel
  by_cases hlt:k<len
  ·obtain⟨b,off,rfl⟩:=hs.addr hlt
   have hc:=hs.at hlt
   rw[List.getElem_map] at hc
   have hkl:k<l.length:=by have:=HL.out;omega
   have hw1:=HF.out _ (List.getElem_mem hkl)
   obtain⟨z,hz⟩:∃ z,z=l[k]:=⟨_,rfl⟩
   rw[←hz] at hc hw1
   have HZ:=Zhd hz
   have HC:=Zhd (H1.out z hw1)
   clear hz hw1
   cases hb:p z
   all_goals
    rw[hb] at HC
    have HB:=Zhd hb
    clear hb
    go_wp2_with (go_at_call 154;refine HC.out.mono ?_;rintro e w' ⟨rfl,rfl⟩)
   ·go_round
    case rel=>
     refine⟨k+1,by omega,by go_num,fun j hj h=>?_⟩
     rcases Nat.lt_succ_iff_lt_or_eq.1 h with h|rfl
     ·exact hno.out j hj h
     ·rw[←HZ.out];exact HB.out
    case measure=>simp[intOf];omega
   ·go_ret
    exact⟨Zbh (ZfN (by have:=HL.out;omega) (fun j hj=>hno.out j (by have:=HL.out;omega) hj) (by rw[←HZ.out];exact HB.out)).symm,rfl⟩
  ·go_wp2
   go_ret
   exact⟨Zbh (ZgO fun j hj=>hno.out j hj (by have:=HL.out;omega)).symm,rfl⟩
theorem ZcT (w:World) (ao:Option Addr) (len cap:Nat) (l:List Int) (g:Nat) (p:Int→Bool) (hs:ZoN w ao len cap l) (hf:∀ n∈l,wfi n)
  (H1:Hid (∀ n,wfi n→Calls Tryz.prog 154 #[.int .i64 n,.pointer (some ⟨g,0,none⟩)] w fun e w'=>e= .returned (.bool (p n))∧w=w')):
  Calls Tryz.prog 153 #[.slice ao len cap,.func (.func 154) #[] #[.pointer (some ⟨g,0,none⟩)]] w fun e w'=>e= .returned (.bool (l.any p))∧w=w':=by
 have HC:=Zhd (Zkl w ao len cap l g p hs hf H1)
 go_enter Tryz.func153,Tryz.ntmps153
 go_wp2_with (go_at_call 176;refine HC.out.mono ?_;rintro e w' ⟨rfl,rfl⟩)
 go_ret
 exact⟨Zaf (Zif p l),rfl⟩
theorem Zci (w:World) (ao:Option Addr) (cap:Nat) (_:cap≤9223372036854775807) (f:Value):Calls Tryz.prog 153 #[.slice ao 0 cap,f] w fun e w'=>e= .returned (.bool false)∧w=w':=by
 have HI:Hid (Calls Tryz.prog 176 #[.slice ao 0 cap,f] w fun e w'=>e= .returned (.int .i64 (-1))∧w=w'):=by
  rw[Hid]
  go_enter Tryz.func176,Tryz.ntmps176
  go_wp2
  go_loop [8,5] (fun i _=>i= .int .i64 0) (fun _ _=>0)
  case atStart=>rfl
  case round=>
   subst hrel
   go_wp2
   go_ret
   exact⟨rfl,rfl⟩
 go_enter Tryz.func153,Tryz.ntmps153
 go_wp2_with (go_at_call 176;refine HI.out.mono ?_;rintro e w' ⟨rfl,rfl⟩)
 go_ret
 exact⟨rfl,rfl⟩
theorem ZnH (w:World) (s:ByteArray) (hs:s.size≤9223372036854775807):
  Calls Tryz.prog 155 #[.string s] w fun e w'=>e= .returned (.bool (decide (255<s.size)))∧w=w':=by
 go_enter Tryz.func155,Tryz.ntmps155
 go_wp2
 go_ret
 exact⟨Zaf (decide_eq_decide.2 (by omega)),rfl⟩
theorem Zkk (w:World) (ao:Option Addr) (len cap:Nat) (ss:List ByteArray) (hs:Strs w ao len cap ss):
  Calls Tryz.prog 167 #[.slice ao len cap,.func (.func 155) #[] #[]] w fun e w'=>e= .returned (.int .i64 (Zo7 (fun s=>decide (255<s.size)) ss))∧w=w':=by
 have hl:=hs.len
 have hcap:=hs.row.hcap
 have hle:=hs.row.hle
 go_enter Tryz.func167,Tryz.ntmps167
 go_wp2
 go_loop [8,5] (fun i _=>∃ k:Nat,k≤len∧i= .int .i64 k∧Hid (∀ j (hj:j<ss.length),j<k→decide (255<ss[j].size)=false)) (fun i _=>len-(intOf i).toNat)
 case atStart=>exact⟨0,Nat.zero_le _,rfl,fun j hj h=>absurd h (by omega)⟩
 case round=>
  obtain⟨k,hk,rfl,hno⟩:=hrel
  by_cases hlt:k<len
  ·obtain⟨b,off,rfl⟩:=hs.row.addr hlt
   have hc:=hs.at hlt
   have h3:=hs.get_small (i:=k) (by omega)
   obtain⟨s,hsk⟩:∃ s,s=ss[k]:=⟨_,rfl⟩
   rw[←hsk] at hc h3
   have HK:=Zhd hsk
   clear hsk
   have HC:=Zhd (ZnH w s h3)
   cases hb:decide (255<s.size)
   all_goals
    rw[hb] at HC
    have HB:=Zhd hb
    clear hb
    go_wp2_with (go_at_call 155;refine HC.out.mono ?_;rintro e w' ⟨rfl,rfl⟩)
   ·go_round
    case rel=>
     refine⟨k+1,by omega,by go_num,fun j hj h=>?_⟩
     rcases Nat.lt_succ_iff_lt_or_eq.1 h with h|rfl
     ·exact hno.out j hj h
     ·rw[←HK.out];exact HB.out
    case measure=>simp[intOf];omega
   ·go_ret
    exact⟨Zbh (ZfN (by omega) (fun j hj=>hno.out j (by omega) hj) (by rw[←HK.out];exact HB.out)).symm,rfl⟩
  ·go_wp2
   go_ret
   exact⟨Zbh (ZgO fun j hj=>hno.out j hj (by omega)).symm,rfl⟩
theorem Zgg (w:World) (ao:Option Addr) (len cap:Nat) (ss:List ByteArray) (hs:Strs w ao len cap ss):
  Calls Tryz.prog 142 #[.slice ao len cap,.func (.func 155) #[] #[]] w fun e w'=>e= .returned (.bool (ss.any (fun s=>decide (255<s.size))))∧w=w':=by
 have HC:=Zhd (Zkk w ao len cap ss hs)
 go_enter Tryz.func142,Tryz.ntmps142
 go_wp2_with (go_at_call 167;refine HC.out.mono ?_;rintro e w' ⟨rfl,rfl⟩)
 go_ret
 exact⟨Zaf (Zif _ ss),rfl⟩
theorem Zh9 (l:List Int) (c s:Nat):Zgo l c s=(decide (l.length=c)&& !(l.any fun n=> !ZcU n s)):=by
 rw[Zgo]
 congr 1
 rw[Bool.eq_iff_iff]
 simp
theorem Zpl (l:List ByteArray):l.all (fun s=>decide (s.size≤255))= !(l.any fun s=>decide (255<s.size)):=by
 rw[Bool.eq_iff_iff]
 simp
theorem Zo0 (w:World) (h:ZaJ) (d:Zaq) (hd:IsData w h d):
  Calls Tryz.prog 106 #[.int .i64 1,.agg (Zae h)] w fun e w'=>e= .returned (.bool (ZaB 1 d))∧Below w.heap.size w w':=by
 have hlen:=hd.len
 have hB:Blk (w.alloc (.cells (Zae h) 35)) w.heap.size (Zae h) 35:=Zha w _
 have hb1:Below w.heap.size w (w.alloc (.cells (Zae h) 35)):=Zbr.alloc Zlr _
 obtain⟨ba,bl,bc,ha,hl,hc,ma,ml,mc,na,nl,nc,ta,tl,tc⟩:=h
 obtain⟨e0,e1,e2,e3,e4⟩:=hlen
 simp only[Zae] at*
 have HE:Hid (ZaB 1 d=(decide (bl=4)&&(decide (hl=0)&&(decide (ml=0)&&(decide (nl=0)&&decide (tl=0)))))):=by
  show ZaB 1 d=_
  show(decide (d.bytes.length=4)&&ZaD d true false false false false)=_
  simp only[ZaD,e0,e1,e2,e3,e4,Bool.true_or,Bool.false_or,Bool.true_and]
 obtain⟨E,hE⟩:∃ E,E=ZaB 1 d:=⟨_,rfl⟩
 have HE2:=Zhd (hE.trans HE.out)
 rw[←hE]
 have HA:=Zhd hB
 have HB1:=Zhd hb1
 have HD:=Zhd hd
 have HSH:=Zhd (fun w'=>ZiJ w')
 simp only[ZaF] at HSH
 have hnc:=hd.nums.hcap
 have HNC:=Zhd hnc
 clear hnc
 clear hb1 hB e0 e1 e2 e3 e4 hE HE hd
 go_enter Tryz.func106,Tryz.ntmps106
 go_wp2_with fail
 refine(HSH.out _).mono ?_
 rintro e w2 ⟨rfl,hb2⟩
 have hb3:Below w2.heap.size w2 (w2.alloc (.cells #[.int .i64 4,.bool false,.bool false,.bool false,.int .i64 0,.int .i64 0,.bool false,.bool false] 211)):=Zbr.alloc Zlr _
 have hSb:Blk (w2.alloc (.cells #[.int .i64 4,.bool false,.bool false,.bool false,.int .i64 0,.int .i64 0,.bool false,.bool false] 211)) w2.heap.size #[.int .i64 4,.bool false,.bool false,.bool false,.int .i64 0,.int .i64 0,.bool false,.bool false] 211:=Zha w2 _
 have hA:=(HA.out.on hb2).on hb3
 have a0':=hA.cell 0
 have a1:=hA.cell 1
 have a2:=hA.cell 2
 have a3:=hA.cell 3
 have a4:=hA.cell 4
 have s0:=hSb.cell 0
 have s1:=hSb.cell 1
 have s2:=hSb.cell 2
 have s3:=hSb.cell 3
 have s4:=hSb.cell 4
 have s5:=hSb.cell 5
 have s6:=hSb.cell 6
 have s7:=hSb.cell 7
 simp at a0' a1 a2 a3 a4 s0 s1 s2 s3 s4 s5 s6 s7
 have hb13:=Zaa HB1.out (Zaa hb2 hb3 Zlr) Zlr
 have HB3:=Zhd hb13
 have hD3:=HD.out.on hb13
 have HG:=Zhd (fun w'=>Zci w' na nc HNC.out (.func (.func 154) #[] #[.pointer (some ⟨w2.heap.size,0,none⟩)]))
 clear hb2 hb3 hSb hA hb13 hD3 HSH HA HB1 HD
 by_cases hn0:nl=0
 case neg=>
  have gn:((nl:Int)!=0)=true:=by rw[bne_iff_ne];omega
  have gn2:decide (nl=0)=false:=Zdf hn0
  clear hn0
  go_wp2_with fail
  all_goals
   go_ret
   refine⟨Zaf ?_,HB3.out⟩
   have h2:=HE2.out
   clear HE2 HB3
   subst h2
   rw[gn2]
   simp
 subst hn0
 go_wp2_with (first|(go_at_call 153;refine(HG.out _).mono ?_;rintro e w' ⟨rfl,rfl⟩))
 all_goals
  go_ret
  refine⟨Zaf ?_,HB3.out⟩
  have h2:=HE2.out
  clear HE2 HB3 HG HNC
  subst h2
  simp_all
  all_goals first|(intros;omega)|(rw[Bool.eq_iff_iff];simp<;>omega)
theorem Zkd (w:World) (h:ZaJ) (d:Zaq) (hd:IsData w h d):
  Calls Tryz.prog 106 #[.int .i64 28,.agg (Zae h)] w fun e w'=>e= .returned (.bool (ZaB 28 d))∧Below w.heap.size w w':=by
 have hlen:=hd.len
 have hB:Blk (w.alloc (.cells (Zae h) 35)) w.heap.size (Zae h) 35:=Zha w _
 have hb1:Below w.heap.size w (w.alloc (.cells (Zae h) 35)):=Zbr.alloc Zlr _
 obtain⟨ba,bl,bc,ha,hl,hc,ma,ml,mc,na,nl,nc,ta,tl,tc⟩:=h
 obtain⟨e0,e1,e2,e3,e4⟩:=hlen
 simp only[Zae] at*
 have HE:Hid (ZaB 28 d=(decide (bl=16)&&(decide (hl=0)&&(decide (ml=0)&&(decide (nl=0)&&decide (tl=0)))))):=by
  show ZaB 28 d=_
  show(decide (d.bytes.length=16)&&ZaD d true false false false false)=_
  simp only[ZaD,e0,e1,e2,e3,e4,Bool.true_or,Bool.false_or,Bool.true_and]
 obtain⟨E,hE⟩:∃ E,E=ZaB 28 d:=⟨_,rfl⟩
 have HE2:=Zhd (hE.trans HE.out)
 rw[←hE]
 have HA:=Zhd hB
 have HB1:=Zhd hb1
 have HD:=Zhd hd
 have HSH:=Zhd (fun w'=>Ze7 w')
 simp only[ZaF] at HSH
 have hnc:=hd.nums.hcap
 have HNC:=Zhd hnc
 clear hnc
 clear hb1 hB e0 e1 e2 e3 e4 hE HE hd
 go_enter Tryz.func106,Tryz.ntmps106
 go_wp2_with fail
 refine(HSH.out _).mono ?_
 rintro e w2 ⟨rfl,hb2⟩
 have hb3:Below w2.heap.size w2 (w2.alloc (.cells #[.int .i64 16,.bool false,.bool false,.bool false,.int .i64 0,.int .i64 0,.bool false,.bool false] 211)):=Zbr.alloc Zlr _
 have hSb:Blk (w2.alloc (.cells #[.int .i64 16,.bool false,.bool false,.bool false,.int .i64 0,.int .i64 0,.bool false,.bool false] 211)) w2.heap.size #[.int .i64 16,.bool false,.bool false,.bool false,.int .i64 0,.int .i64 0,.bool false,.bool false] 211:=Zha w2 _
 have hA:=(HA.out.on hb2).on hb3
 have a0':=hA.cell 0
 have a1:=hA.cell 1
 have a2:=hA.cell 2
 have a3:=hA.cell 3
 have a4:=hA.cell 4
 have s0:=hSb.cell 0
 have s1:=hSb.cell 1
 have s2:=hSb.cell 2
 have s3:=hSb.cell 3
 have s4:=hSb.cell 4
 have s5:=hSb.cell 5
 have s6:=hSb.cell 6
 have s7:=hSb.cell 7
 simp at a0' a1 a2 a3 a4 s0 s1 s2 s3 s4 s5 s6 s7
 have hb13:=Zaa HB1.out (Zaa hb2 hb3 Zlr) Zlr
 have HB3:=Zhd hb13
 have hD3:=HD.out.on hb13
 have HG:=Zhd (fun w'=>Zci w' na nc HNC.out (.func (.func 154) #[] #[.pointer (some ⟨w2.heap.size,0,none⟩)]))
 clear hb2 hb3 hSb hA hb13 hD3 HSH HA HB1 HD
 by_cases hn0:nl=0
 case neg=>
  have gn:((nl:Int)!=0)=true:=by rw[bne_iff_ne];omega
  have gn2:decide (nl=0)=false:=Zdf hn0
  clear hn0
  go_wp2_with fail
  all_goals
   go_ret
   refine⟨Zaf ?_,HB3.out⟩
   have h2:=HE2.out
   clear HE2 HB3
   subst h2
   rw[gn2]
   simp
 subst hn0
 go_wp2_with (first|(go_at_call 153;refine(HG.out _).mono ?_;rintro e w' ⟨rfl,rfl⟩))
 all_goals
  go_ret
  refine⟨Zaf ?_,HB3.out⟩
  have h2:=HE2.out
  clear HE2 HB3 HG HNC
  subst h2
  simp_all
  all_goals first|(intros;omega)|(rw[Bool.eq_iff_iff];simp<;>omega)
theorem Zm8 (w:World) (k:Int) (hk:k=2∨k=5∨k=12) (h:ZaJ) (d:Zaq) (hd:IsData w h d):
  Calls Tryz.prog 106 #[.int .i64 k,.agg (Zae h)] w fun e w'=>e= .returned (.bool (ZaB k d))∧Below w.heap.size w w':=by
 have hlen:=hd.len
 have hB:Blk (w.alloc (.cells (Zae h) 35)) w.heap.size (Zae h) 35:=Zha w _
 have hb1:Below w.heap.size w (w.alloc (.cells (Zae h) 35)):=Zbr.alloc Zlr _
 obtain⟨ba,bl,bc,ha,hl,hc,ma,ml,mc,na,nl,nc,ta,tl,tc⟩:=h
 obtain⟨e0,e1,e2,e3,e4⟩:=hlen
 simp only[Zae] at*
 obtain⟨S,hS⟩:∃ S,S=ZaG d.host:=⟨_,rfl⟩
 have HE:Hid (ZaB k d=(S&&(decide (bl=0)&&(decide (ml=0)&&(decide (nl=0)&&decide (tl=0)))))):=by
  show ZaB k d=_
  have hx:ZaB k d=(ZaG d.host&&ZaD d false true false false false):=by rcases hk with rfl|rfl|rfl<;>rfl
  rw[hx,←hS]
  simp only[ZaD,e0,e1,e2,e3,e4,Bool.true_or,Bool.false_or,Bool.true_and]
 obtain⟨E,hE⟩:∃ E,E=ZaB k d:=⟨_,rfl⟩
 have HE2:=Zhd (hE.trans HE.out)
 rw[←hE]
 have HA:=Zhd hB
 have HB1:=Zhd hb1
 have HD:=Zhd hd
 have HSH:=Zhd (fun w'=>Zhb w' k hk)
 have d1:decide (k<1)=false:=by rw[decide_eq_false_iff_not];omega
 have d2:decide ((65535:Int)<k)=false:=by rw[decide_eq_false_iff_not];omega
 simp only[ZaF] at HSH
 have hnc:=hd.nums.hcap
 have HNC:=Zhd hnc
 clear hnc
 clear hb1 hB e0 e1 e2 e3 e4 hE HE hk hd
 go_enter Tryz.func106,Tryz.ntmps106
 go_wp2_with fail
 refine(HSH.out _).mono ?_
 rintro e w2 ⟨rfl,hb2⟩
 have hb3:Below w2.heap.size w2 (w2.alloc (.cells #[.int .i64 0,.bool true,.bool false,.bool true,.int .i64 0,.int .i64 0,.bool false,.bool false] 211)):=Zbr.alloc Zlr _
 have hSb:Blk (w2.alloc (.cells #[.int .i64 0,.bool true,.bool false,.bool true,.int .i64 0,.int .i64 0,.bool false,.bool false] 211)) w2.heap.size #[.int .i64 0,.bool true,.bool false,.bool true,.int .i64 0,.int .i64 0,.bool false,.bool false] 211:=Zha w2 _
 have hA:=(HA.out.on hb2).on hb3
 have a0':=hA.cell 0
 have a1:=hA.cell 1
 have a2:=hA.cell 2
 have a3:=hA.cell 3
 have a4:=hA.cell 4
 have s0:=hSb.cell 0
 have s1:=hSb.cell 1
 have s2:=hSb.cell 2
 have s3:=hSb.cell 3
 have s4:=hSb.cell 4
 have s5:=hSb.cell 5
 have s6:=hSb.cell 6
 have s7:=hSb.cell 7
 simp at a0' a1 a2 a3 a4 s0 s1 s2 s3 s4 s5 s6 s7
 have hb13:=Zaa HB1.out (Zaa hb2 hb3 Zlr) Zlr
 have HB3:=Zhd hb13
 have hD3:=HD.out.on hb13
 have HS1:=Zhd (ZcQ _ _ _ _ _ hD3.host)
 rw[←hS] at HS1
 have HG:=Zhd (fun w'=>Zci w' na nc HNC.out (.func (.func 154) #[] #[.pointer (some ⟨w2.heap.size,0,none⟩)]))
 clear hb2 hb3 hSb hA hb13 hD3 HSH HA HB1 HD hS
 by_cases hn0:nl=0
 case neg=>
  have gn:((nl:Int)!=0)=true:=by rw[bne_iff_ne];omega
  have gn2:decide (nl=0)=false:=Zdf hn0
  clear hn0
  go_wp2_with fail
  all_goals
   go_ret
   refine⟨Zaf ?_,HB3.out⟩
   have h2:=HE2.out
   clear HE2 HB3
   subst h2
   rw[gn2]
   simp
 subst hn0
 go_wp2_with (first|(go_at_call 96;refine HS1.out.mono ?_;rintro e w' ⟨rfl,rfl⟩)|(go_at_call 153;refine(HG.out _).mono ?_;rintro e w' ⟨rfl,rfl⟩))
 all_goals
  go_ret
  refine⟨Zaf ?_,HB3.out⟩
  have h2:=HE2.out
  clear HE2 HB3 HG HNC HS1
  subst h2
  simp_all
  all_goals first|(intros;omega)|(rw[Bool.eq_iff_iff];simp<;>omega)
theorem Zm7 (w:World) (h:ZaJ) (d:Zaq) (hd:IsData w h d):
  Calls Tryz.prog 106 #[.int .i64 15,.agg (Zae h)] w fun e w'=>e= .returned (.bool (ZaB 15 d))∧Below w.heap.size w w':=by
 have hlen:=hd.len
 have hB:Blk (w.alloc (.cells (Zae h) 35)) w.heap.size (Zae h) 35:=Zha w _
 have hb1:Below w.heap.size w (w.alloc (.cells (Zae h) 35)):=Zbr.alloc Zlr _
 obtain⟨ba,bl,bc,ha,hl,hc,ma,ml,mc,na,nl,nc,ta,tl,tc⟩:=h
 obtain⟨e0,e1,e2,e3,e4⟩:=hlen
 simp only[Zae] at*
 obtain⟨S,hS⟩:∃ S,S=ZaG d.host:=⟨_,rfl⟩
 obtain⟨G,hG⟩:∃ S,S=d.nums.any (fun n=> !ZcU n 2):=⟨_,rfl⟩
 have HE:Hid (ZaB 15 d=((S&&(decide (nl=1)&& !G))&&(decide (bl=0)&&(decide (ml=0)&&decide (tl=0))))):=by
  show ZaB 15 d=_
  show((ZaG d.host&&Zgo d.nums 1 2)&&ZaD d false true false true false)=_;rw[Zh9,←hS,←hG]
  simp only[ZaD,e0,e1,e2,e3,e4,Bool.true_or,Bool.false_or,Bool.true_and]
 obtain⟨E,hE⟩:∃ E,E=ZaB 15 d:=⟨_,rfl⟩
 have HE2:=Zhd (hE.trans HE.out)
 rw[←hE]
 have HA:=Zhd hB
 have HB1:=Zhd hb1
 have HD:=Zhd hd
 have HSH:=Zhd (fun w'=>Zg9 w')
 simp only[ZaF] at HSH
 have hnc:=hd.nums.hcap
 have HNC:=Zhd hnc
 clear hnc
 clear hb1 hB e0 e1 e2 e3 e4 hE HE hd
 go_enter Tryz.func106,Tryz.ntmps106
 go_wp2_with fail
 refine(HSH.out _).mono ?_
 rintro e w2 ⟨rfl,hb2⟩
 have hb3:Below w2.heap.size w2 (w2.alloc (.cells #[.int .i64 0,.bool true,.bool false,.bool true,.int .i64 1,.int .i64 2,.bool false,.bool true] 211)):=Zbr.alloc Zlr _
 have hSb:Blk (w2.alloc (.cells #[.int .i64 0,.bool true,.bool false,.bool true,.int .i64 1,.int .i64 2,.bool false,.bool true] 211)) w2.heap.size #[.int .i64 0,.bool true,.bool false,.bool true,.int .i64 1,.int .i64 2,.bool false,.bool true] 211:=Zha w2 _
 have hA:=(HA.out.on hb2).on hb3
 have a0':=hA.cell 0
 have a1:=hA.cell 1
 have a2:=hA.cell 2
 have a3:=hA.cell 3
 have a4:=hA.cell 4
 have s0:=hSb.cell 0
 have s1:=hSb.cell 1
 have s2:=hSb.cell 2
 have s3:=hSb.cell 3
 have s4:=hSb.cell 4
 have s5:=hSb.cell 5
 have s6:=hSb.cell 6
 have s7:=hSb.cell 7
 simp at a0' a1 a2 a3 a4 s0 s1 s2 s3 s4 s5 s6 s7
 have hb13:=Zaa HB1.out (Zaa hb2 hb3 Zlr) Zlr
 have HB3:=Zhd hb13
 have hD3:=HD.out.on hb13
 have HS1:=Zhd (ZcQ _ _ _ _ _ hD3.host)
 rw[←hS] at HS1
 have HG:=Zhd (ZcT _ _ _ _ _ w2.heap.size (fun n=> !ZcU n 2) hD3.nums hD3.fits (fun n hn=>Znl _ n _ hn (by rw[hSb.cell 5];rfl)))
 rw[←hG] at HG
 clear hb2 hb3 hSb hA hb13 hD3 HSH HA HB1 HD hS hG
 by_cases hn0:nl=1
 case neg=>
  have gn:((nl:Int)!=1)=true:=by rw[bne_iff_ne];omega
  have gn2:decide (nl=1)=false:=Zdf hn0
  clear hn0
  go_wp2_with fail
  all_goals
   go_ret
   refine⟨Zaf ?_,HB3.out⟩
   have h2:=HE2.out
   clear HE2 HB3
   subst h2
   rw[gn2]
   simp
 subst hn0
 go_wp2_with (first|(go_at_call 96;refine HS1.out.mono ?_;rintro e w' ⟨rfl,rfl⟩)|(go_at_call 153;refine HG.out.mono ?_;rintro e w' ⟨rfl,rfl⟩))
 all_goals
  go_ret
  refine⟨Zaf ?_,HB3.out⟩
  have h2:=HE2.out
  clear HE2 HB3 HG HNC HS1
  subst h2
  simp_all
  all_goals first|(intros;omega)|(rw[Bool.eq_iff_iff];simp<;>omega)
theorem ZlO (w:World) (h:ZaJ) (d:Zaq) (hd:IsData w h d):
  Calls Tryz.prog 106 #[.int .i64 6,.agg (Zae h)] w fun e w'=>e= .returned (.bool (ZaB 6 d))∧Below w.heap.size w w':=by
 have hlen:=hd.len
 have hB:Blk (w.alloc (.cells (Zae h) 35)) w.heap.size (Zae h) 35:=Zha w _
 have hb1:Below w.heap.size w (w.alloc (.cells (Zae h) 35)):=Zbr.alloc Zlr _
 obtain⟨ba,bl,bc,ha,hl,hc,ma,ml,mc,na,nl,nc,ta,tl,tc⟩:=h
 obtain⟨e0,e1,e2,e3,e4⟩:=hlen
 simp only[Zae] at*
 obtain⟨S,hS⟩:∃ S,S=ZaG d.host:=⟨_,rfl⟩
 obtain⟨S2,hS2⟩:∃ S,S=ZaG d.mail:=⟨_,rfl⟩
 obtain⟨G,hG⟩:∃ S,S=d.nums.any (fun n=> !ZcU n 4):=⟨_,rfl⟩
 have HE:Hid (ZaB 6 d=(((S&&S2)&&(decide (nl=5)&& !G))&&(decide (bl=0)&&decide (tl=0)))):=by
  show ZaB 6 d=_
  show(((ZaG d.host&&ZaG d.mail)&&Zgo d.nums 5 4)&&ZaD d false true true true false)=_;rw[Zh9,←hS,←hS2,←hG]
  simp only[ZaD,e0,e1,e2,e3,e4,Bool.true_or,Bool.false_or,Bool.true_and]
 obtain⟨E,hE⟩:∃ E,E=ZaB 6 d:=⟨_,rfl⟩
 have HE2:=Zhd (hE.trans HE.out)
 rw[←hE]
 have HA:=Zhd hB
 have HB1:=Zhd hb1
 have HD:=Zhd hd
 have HSH:=Zhd (fun w'=>ZfV w')
 simp only[ZaF] at HSH
 have hnc:=hd.nums.hcap
 have HNC:=Zhd hnc
 clear hnc
 clear hb1 hB e0 e1 e2 e3 e4 hE HE hd
 go_enter Tryz.func106,Tryz.ntmps106
 go_wp2_with fail
 refine(HSH.out _).mono ?_
 rintro e w2 ⟨rfl,hb2⟩
 have hb3:Below w2.heap.size w2 (w2.alloc (.cells #[.int .i64 0,.bool true,.bool true,.bool true,.int .i64 5,.int .i64 4,.bool false,.bool false] 211)):=Zbr.alloc Zlr _
 have hSb:Blk (w2.alloc (.cells #[.int .i64 0,.bool true,.bool true,.bool true,.int .i64 5,.int .i64 4,.bool false,.bool false] 211)) w2.heap.size #[.int .i64 0,.bool true,.bool true,.bool true,.int .i64 5,.int .i64 4,.bool false,.bool false] 211:=Zha w2 _
 have hA:=(HA.out.on hb2).on hb3
 have a0':=hA.cell 0
 have a1:=hA.cell 1
 have a2:=hA.cell 2
 have a3:=hA.cell 3
 have a4:=hA.cell 4
 have s0:=hSb.cell 0
 have s1:=hSb.cell 1
 have s2:=hSb.cell 2
 have s3:=hSb.cell 3
 have s4:=hSb.cell 4
 have s5:=hSb.cell 5
 have s6:=hSb.cell 6
 have s7:=hSb.cell 7
 simp at a0' a1 a2 a3 a4 s0 s1 s2 s3 s4 s5 s6 s7
 have hb13:=Zaa HB1.out (Zaa hb2 hb3 Zlr) Zlr
 have HB3:=Zhd hb13
 have hD3:=HD.out.on hb13
 have HS1:=Zhd (ZcQ _ _ _ _ _ hD3.host)
 rw[←hS] at HS1
 have HS2:=Zhd (ZcQ _ _ _ _ _ hD3.mail)
 rw[←hS2] at HS2
 have HG:=Zhd (ZcT _ _ _ _ _ w2.heap.size (fun n=> !ZcU n 4) hD3.nums hD3.fits (fun n hn=>ZqG _ n _ hn (by rw[hSb.cell 5];rfl)))
 rw[←hG] at HG
 clear hb2 hb3 hSb hA hb13 hD3 HSH HA HB1 HD hS hS2 hG
 by_cases hn0:nl=5
 case neg=>
  have gn:((nl:Int)!=5)=true:=by rw[bne_iff_ne];omega
  have gn2:decide (nl=5)=false:=Zdf hn0
  clear hn0
  go_wp2_with fail
  all_goals
   go_ret
   refine⟨Zaf ?_,HB3.out⟩
   have h2:=HE2.out
   clear HE2 HB3
   subst h2
   rw[gn2]
   simp
 subst hn0
 by_cases hb0:bl=0
 case neg=>
  have gb:((bl:Int)!=0)=true:=by rw[bne_iff_ne];omega
  have gb2:decide (bl=0)=false:=Zdf hb0
  clear hb0
  go_wp2_with fail
  all_goals
   go_ret
   refine⟨Zaf ?_,HB3.out⟩
   have h2:=HE2.out
   clear HE2 HB3
   subst h2
   rw[gb2]
   simp
 subst hb0
 go_wp2_with fail
 refine HS1.out.mono ?_
 rintro e w' ⟨rfl,rfl⟩
 cases S
 ·go_wp2_with fail
  go_ret
  exact⟨Zaf (by rw[HE2.out];rfl),HB3.out⟩
 go_wp2_with fail
 refine HS2.out.mono ?_
 rintro e w' ⟨rfl,rfl⟩
 cases S2
 ·go_wp2_with fail
  go_ret
  exact⟨Zaf (by rw[HE2.out];rfl),HB3.out⟩
 go_wp2_with fail
 refine HG.out.mono ?_
 rintro e w' ⟨rfl,rfl⟩
 cases G
 ·go_wp2_with fail
  go_ret
  refine⟨Zaf ?_,HB3.out⟩
  rw[HE2.out]
  rw[Bool.eq_iff_iff]
  simp
 ·go_wp2_with fail
  go_ret
  refine⟨Zaf ?_,HB3.out⟩
  rw[HE2.out]
  simp
theorem ZlP (w:World) (h:ZaJ) (d:Zaq) (hd:IsData w h d):
  Calls Tryz.prog 106 #[.int .i64 33,.agg (Zae h)] w fun e w'=>e= .returned (.bool (ZaB 33 d))∧Below w.heap.size w w':=by
 have hlen:=hd.len
 have hB:Blk (w.alloc (.cells (Zae h) 35)) w.heap.size (Zae h) 35:=Zha w _
 have hb1:Below w.heap.size w (w.alloc (.cells (Zae h) 35)):=Zbr.alloc Zlr _
 obtain⟨ba,bl,bc,ha,hl,hc,ma,ml,mc,na,nl,nc,ta,tl,tc⟩:=h
 obtain⟨e0,e1,e2,e3,e4⟩:=hlen
 simp only[Zae] at*
 obtain⟨S,hS⟩:∃ S,S=ZaG d.host:=⟨_,rfl⟩
 obtain⟨G,hG⟩:∃ S,S=d.nums.any (fun n=> !ZcU n 2):=⟨_,rfl⟩
 have HE:Hid (ZaB 33 d=((S&&(decide (nl=3)&& !G))&&(decide (bl=0)&&(decide (ml=0)&&decide (tl=0))))):=by
  show ZaB 33 d=_
  show((ZaG d.host&&Zgo d.nums 3 2)&&ZaD d false true false true false)=_;rw[Zh9,←hS,←hG]
  simp only[ZaD,e0,e1,e2,e3,e4,Bool.true_or,Bool.false_or,Bool.true_and]
 obtain⟨E,hE⟩:∃ E,E=ZaB 33 d:=⟨_,rfl⟩
 have HE2:=Zhd (hE.trans HE.out)
 rw[←hE]
 have HA:=Zhd hB
 have HB1:=Zhd hb1
 have HD:=Zhd hd
 have HSH:=Zhd (fun w'=>ZfW w')
 simp only[ZaF] at HSH
 have hnc:=hd.nums.hcap
 have HNC:=Zhd hnc
 clear hnc
 clear hb1 hB e0 e1 e2 e3 e4 hE HE hd
 go_enter Tryz.func106,Tryz.ntmps106
 go_wp2_with fail
 refine(HSH.out _).mono ?_
 rintro e w2 ⟨rfl,hb2⟩
 have hb3:Below w2.heap.size w2 (w2.alloc (.cells #[.int .i64 0,.bool true,.bool false,.bool false,.int .i64 3,.int .i64 2,.bool false,.bool true] 211)):=Zbr.alloc Zlr _
 have hSb:Blk (w2.alloc (.cells #[.int .i64 0,.bool true,.bool false,.bool false,.int .i64 3,.int .i64 2,.bool false,.bool true] 211)) w2.heap.size #[.int .i64 0,.bool true,.bool false,.bool false,.int .i64 3,.int .i64 2,.bool false,.bool true] 211:=Zha w2 _
 have hA:=(HA.out.on hb2).on hb3
 have a0':=hA.cell 0
 have a1:=hA.cell 1
 have a2:=hA.cell 2
 have a3:=hA.cell 3
 have a4:=hA.cell 4
 have s0:=hSb.cell 0
 have s1:=hSb.cell 1
 have s2:=hSb.cell 2
 have s3:=hSb.cell 3
 have s4:=hSb.cell 4
 have s5:=hSb.cell 5
 have s6:=hSb.cell 6
 have s7:=hSb.cell 7
 simp at a0' a1 a2 a3 a4 s0 s1 s2 s3 s4 s5 s6 s7
 have hb13:=Zaa HB1.out (Zaa hb2 hb3 Zlr) Zlr
 have HB3:=Zhd hb13
 have hD3:=HD.out.on hb13
 have HS1:=Zhd (ZcQ _ _ _ _ _ hD3.host)
 rw[←hS] at HS1
 have HG:=Zhd (ZcT _ _ _ _ _ w2.heap.size (fun n=> !ZcU n 2) hD3.nums hD3.fits (fun n hn=>Znl _ n _ hn (by rw[hSb.cell 5];rfl)))
 rw[←hG] at HG
 clear hb2 hb3 hSb hA hb13 hD3 HSH HA HB1 HD hS hG
 by_cases hn0:nl=3
 case neg=>
  have gn:((nl:Int)!=3)=true:=by rw[bne_iff_ne];omega
  have gn2:decide (nl=3)=false:=Zdf hn0
  clear hn0
  go_wp2_with fail
  all_goals
   go_ret
   refine⟨Zaf ?_,HB3.out⟩
   have h2:=HE2.out
   clear HE2 HB3
   subst h2
   rw[gn2]
   simp
 subst hn0
 go_wp2_with (first|(go_at_call 96;refine HS1.out.mono ?_;rintro e w' ⟨rfl,rfl⟩)|(go_at_call 153;refine HG.out.mono ?_;rintro e w' ⟨rfl,rfl⟩))
 all_goals
  go_ret
  refine⟨Zaf ?_,HB3.out⟩
  have h2:=HE2.out
  clear HE2 HB3 HG HNC HS1
  subst h2
  simp_all
  all_goals first|(intros;omega)|(rw[Bool.eq_iff_iff];simp<;>omega)
theorem ZlQ (w:World) (h:ZaJ) (d:Zaq) (hd:IsData w h d):
  Calls Tryz.prog 106 #[.int .i64 16,.agg (Zae h)] w fun e w'=>e= .returned (.bool (ZaB 16 d))∧Below w.heap.size w w':=by
 have hlen:=hd.len
 have hB:Blk (w.alloc (.cells (Zae h) 35)) w.heap.size (Zae h) 35:=Zha w _
 have hb1:Below w.heap.size w (w.alloc (.cells (Zae h) 35)):=Zbr.alloc Zlr _
 obtain⟨ba,bl,bc,ha,hl,hc,ma,ml,mc,na,nl,nc,ta,tl,tc⟩:=h
 obtain⟨e0,e1,e2,e3,e4⟩:=hlen
 simp only[Zae] at*
 obtain⟨T,hT⟩:∃ S,S=d.texts.any (fun s=>decide (255<s.size)):=⟨_,rfl⟩
 have HE:Hid (ZaB 16 d=((decide (1≤tl)&&(decide (tl≤64)&&(decide (bl=0)&&(decide (hl=0)&&(decide (ml=0)&&decide (nl=0))))))&& !T)):=by
  show ZaB 16 d=_
  show((decide (1≤d.texts.length)&&(decide (d.texts.length≤64)&&ZaD d false false false false true))&&d.texts.all (fun s=>decide (s.size≤255)))=_;rw[Zpl,←hT]
  simp only[ZaD,e0,e1,e2,e3,e4,Bool.true_or,Bool.false_or,Bool.and_true]
 obtain⟨E,hE⟩:∃ E,E=ZaB 16 d:=⟨_,rfl⟩
 have HE2:=Zhd (hE.trans HE.out)
 rw[←hE]
 have HA:=Zhd hB
 have HB1:=Zhd hb1
 have HD:=Zhd hd
 have HSH:=Zhd (fun w'=>ZfX w')
 simp only[ZaF] at HSH
 have hnc:=hd.nums.hcap
 have HNC:=Zhd hnc
 clear hnc
 clear hb1 hB e0 e1 e2 e3 e4 hE HE hd
 go_enter Tryz.func106,Tryz.ntmps106
 go_wp2_with fail
 refine(HSH.out _).mono ?_
 rintro e w2 ⟨rfl,hb2⟩
 have hb3:Below w2.heap.size w2 (w2.alloc (.cells #[.int .i64 0,.bool false,.bool false,.bool false,.int .i64 0,.int .i64 0,.bool true,.bool false] 211)):=Zbr.alloc Zlr _
 have hSb:Blk (w2.alloc (.cells #[.int .i64 0,.bool false,.bool false,.bool false,.int .i64 0,.int .i64 0,.bool true,.bool false] 211)) w2.heap.size #[.int .i64 0,.bool false,.bool false,.bool false,.int .i64 0,.int .i64 0,.bool true,.bool false] 211:=Zha w2 _
 have hA:=(HA.out.on hb2).on hb3
 have a0':=hA.cell 0
 have a1:=hA.cell 1
 have a2:=hA.cell 2
 have a3:=hA.cell 3
 have a4:=hA.cell 4
 have s0:=hSb.cell 0
 have s1:=hSb.cell 1
 have s2:=hSb.cell 2
 have s3:=hSb.cell 3
 have s4:=hSb.cell 4
 have s5:=hSb.cell 5
 have s6:=hSb.cell 6
 have s7:=hSb.cell 7
 simp at a0' a1 a2 a3 a4 s0 s1 s2 s3 s4 s5 s6 s7
 have hb13:=Zaa HB1.out (Zaa hb2 hb3 Zlr) Zlr
 have HB3:=Zhd hb13
 have hD3:=HD.out.on hb13
 have HG:=Zhd (fun w'=>Zci w' na nc HNC.out (.func (.func 154) #[] #[.pointer (some ⟨w2.heap.size,0,none⟩)]))
 have HT:=Zhd (Zgg _ _ _ _ _ hD3.texts)
 rw[←hT] at HT
 clear hb2 hb3 hSb hA hb13 hD3 HSH HA HB1 HD hT
 by_cases hn0:nl=0
 case neg=>
  have gn:((nl:Int)!=0)=true:=by rw[bne_iff_ne];omega
  have gn2:decide (nl=0)=false:=Zdf hn0
  clear hn0
  go_wp2_with fail
  all_goals
   go_ret
   refine⟨Zaf ?_,HB3.out⟩
   have h2:=HE2.out
   clear HE2 HB3
   subst h2
   rw[gn2]
   simp
 subst hn0
 go_wp2_with (first|(go_at_call 153;refine(HG.out _).mono ?_;rintro e w' ⟨rfl,rfl⟩)|(go_at_call 142;refine HT.out.mono ?_;rintro e w' ⟨rfl,rfl⟩))
 all_goals
  go_ret
  refine⟨Zaf ?_,HB3.out⟩
  have h2:=HE2.out
  clear HE2 HB3 HG HNC HT
  subst h2
  simp_all
  all_goals first|(intros;omega)|(rw[Bool.eq_iff_iff];simp<;>omega)
theorem Zi5 (w:World) (k:Int) (k1:1≤k) (k2:k≤65535) (hk:k≠1∧k≠28∧k≠2∧k≠5∧k≠12∧k≠15∧k≠6∧k≠33∧k≠16) (h:ZaJ) (d:Zaq) (hd:IsData w h d):
  Calls Tryz.prog 106 #[.int .i64 k,.agg (Zae h)] w fun e w'=>e= .returned (.bool (ZaB k d))∧Below w.heap.size w w':=by
 have hlen:=hd.len
 have hB:Blk (w.alloc (.cells (Zae h) 35)) w.heap.size (Zae h) 35:=Zha w _
 have hb1:Below w.heap.size w (w.alloc (.cells (Zae h) 35)):=Zbr.alloc Zlr _
 obtain⟨ba,bl,bc,ha,hl,hc,ma,ml,mc,na,nl,nc,ta,tl,tc⟩:=h
 obtain⟨e0,e1,e2,e3,e4⟩:=hlen
 simp only[Zae] at*
 have HE:Hid (ZaB k d=(decide (bl≤65535)&&(decide (hl=0)&&(decide (ml=0)&&(decide (nl=0)&&decide (tl=0)))))):=by
  show ZaB k d=_
  rw[Zc7 k1 k2 hk]
  simp only[ZaD,e0,e1,e2,e3,e4,Bool.true_or,Bool.false_or,Bool.true_and]
 obtain⟨E,hE⟩:∃ E,E=ZaB k d:=⟨_,rfl⟩
 have HE2:=Zhd (hE.trans HE.out)
 rw[←hE]
 have HA:=Zhd hB
 have HB1:=Zhd hb1
 have HD:=Zhd hd
 have HSH:=Zhd (fun w'=>Zdr w' k hk)
 have d1:decide (k<1)=false:=by rw[decide_eq_false_iff_not];omega
 have d2:decide ((65535:Int)<k)=false:=by rw[decide_eq_false_iff_not];omega
 simp only[ZaF] at HSH
 have hnc:=hd.nums.hcap
 have HNC:=Zhd hnc
 clear hnc
 clear hb1 hB e0 e1 e2 e3 e4 hE HE k1 k2 hk hd
 go_enter Tryz.func106,Tryz.ntmps106
 go_wp2_with fail
 refine(HSH.out _).mono ?_
 rintro e w2 ⟨rfl,hb2⟩
 have hb3:Below w2.heap.size w2 (w2.alloc (.cells #[.int .i64 (-1),.bool false,.bool false,.bool false,.int .i64 0,.int .i64 0,.bool false,.bool false] 211)):=Zbr.alloc Zlr _
 have hSb:Blk (w2.alloc (.cells #[.int .i64 (-1),.bool false,.bool false,.bool false,.int .i64 0,.int .i64 0,.bool false,.bool false] 211)) w2.heap.size #[.int .i64 (-1),.bool false,.bool false,.bool false,.int .i64 0,.int .i64 0,.bool false,.bool false] 211:=Zha w2 _
 have hA:=(HA.out.on hb2).on hb3
 have a0':=hA.cell 0
 have a1:=hA.cell 1
 have a2:=hA.cell 2
 have a3:=hA.cell 3
 have a4:=hA.cell 4
 have s0:=hSb.cell 0
 have s1:=hSb.cell 1
 have s2:=hSb.cell 2
 have s3:=hSb.cell 3
 have s4:=hSb.cell 4
 have s5:=hSb.cell 5
 have s6:=hSb.cell 6
 have s7:=hSb.cell 7
 simp at a0' a1 a2 a3 a4 s0 s1 s2 s3 s4 s5 s6 s7
 have hb13:=Zaa HB1.out (Zaa hb2 hb3 Zlr) Zlr
 have HB3:=Zhd hb13
 have hD3:=HD.out.on hb13
 have HG:=Zhd (fun w'=>Zci w' na nc HNC.out (.func (.func 154) #[] #[.pointer (some ⟨w2.heap.size,0,none⟩)]))
 clear hb2 hb3 hSb hA hb13 hD3 HSH HA HB1 HD
 by_cases hn0:nl=0
 case neg=>
  have gn:((nl:Int)!=0)=true:=by rw[bne_iff_ne];omega
  have gn2:decide (nl=0)=false:=Zdf hn0
  clear hn0
  go_wp2_with fail
  all_goals
   go_ret
   refine⟨Zaf ?_,HB3.out⟩
   have h2:=HE2.out
   clear HE2 HB3
   subst h2
   rw[gn2]
   simp
 subst hn0
 go_wp2_with (first|(go_at_call 153;refine(HG.out _).mono ?_;rintro e w' ⟨rfl,rfl⟩))
 all_goals
  go_ret
  refine⟨Zaf ?_,HB3.out⟩
  have h2:=HE2.out
  clear HE2 HB3 HG HNC
  subst h2
  simp_all
  all_goals first|(intros;omega)|(rw[Bool.eq_iff_iff];simp<;>omega)
theorem ZfK (w:World) (k:Int) (h:ZaJ) (d:Zaq) (hd:IsData w h d):
  Calls Tryz.prog 106 #[.int .i64 k,.agg (Zae h)] w fun e w'=>e= .returned (.bool (ZaB k d))∧Below w.heap.size w w':=by
 rcases Zc2 k with hk|rfl|rfl|hk|rfl|rfl|rfl|rfl|⟨⟨k1,k2⟩,hk⟩
 ·have HSH:=Zhd (fun w'=>Zdr w' k (by omega))
  simp only[ZaF] at HSH
  rw[Zec hk]
  simp only[Zae]
  have hb1:Below w.heap.size w (w.alloc (.cells #[.slice h.ba h.bl h.bc,.slice h.ha h.hl h.hc,.slice h.ma h.ml h.mc,.slice h.na h.nl h.nc,.slice h.ta h.tl h.tc] 35)):=Zbr.alloc Zlr _
  have HB1:=Zhd hb1
  clear hb1 hd
  rcases hk with hk|hk
  all_goals
   go_enter Tryz.func106,Tryz.ntmps106
   go_wp2_with fail
   refine(HSH.out _).mono ?_
   rintro e w2 ⟨rfl,hb2⟩
   have HB2:=Zhd (Zaa (Zaa HB1.out hb2 Zlr) ((Below.refl w2.heap.size w2).alloc Zlr (.cells #[.int .i64 (-1),.bool false,.bool false,.bool false,.int .i64 0,.int .i64 0,.bool false,.bool false] 211)) Zlr)
   clear hb2
   go_wp2_with fail
   go_ret
   exact⟨rfl,HB2.out⟩
 ·exact Zo0 w h d hd
 ·exact Zkd w h d hd
 ·exact Zm8 w k hk h d hd
 ·exact Zm7 w h d hd
 ·exact ZlO w h d hd
 ·exact ZlP w h d hd
 ·exact ZlQ w h d hd
 ·exact Zi5 w k k1 k2 hk h d hd
def Za6 (t:Int):Bool:=decide (0≤t∧t≤36028797018963968)
theorem Zca {t:Int} (h:Za6 t=true):0≤t∧t≤36028797018963968:=by simpa [Za6] using h
theorem ZcI (t:Int) (w:World):
  Calls Tryz.prog 42 #[.int .i64 t] w fun e w'=>e= .returned (.bool (Za6 t))∧w=w':=by
 go_enter Tryz.func42,Tryz.ntmps42
 go_wp2
 all_goals
  go_ret
  exact⟨Zaf (by simp[Za6];omega),rfl⟩
theorem Zoc (t:Int) (w:World):
  Calls Tryz.prog 73 #[.int .i64 t] w fun e w'=>e= .returned (.bool (Za6 t))∧w=w':=by
 go_enter Tryz.func73,Tryz.ntmps73
 go_wp2
 all_goals
  go_ret
  exact⟨Zaf (by simp[Za6];omega),rfl⟩
def Zik (got ttl now:Int):Int:=if Za6 got&&(Za6 ttl&&Za6 now) then max (ttl-max (now-got) 0) 0 else 0
theorem ZnA {got ttl now:Int} (h0:Za6 got=true) (h1:Za6 ttl=true) (h2:Za6 now=true):Zik got ttl now=max (ttl-max (now-got) 0) 0:=by simp[Zik,h0,h1,h2]
theorem Zpf (got ttl now:Int) (w:World):
  Calls Tryz.prog 158 #[.int .i64 got,.int .i64 ttl,.int .i64 now] w fun e w'=>e= .returned (.int .i64 (Zik got ttl now))∧w=w':=by
 cases hg:Za6 got
 ·go_enter Tryz.func158,Tryz.ntmps158
  go_wp2_with (go_at_call 42;refine(ZcI _ _).mono ?_;rintro e w' ⟨rfl,rfl⟩)
  go_ret
  exact⟨Zbh (by simp[Zik,hg]),rfl⟩
 cases ht:Za6 ttl
 ·go_enter Tryz.func158,Tryz.ntmps158
  go_wp2_with (go_at_call 42;refine(ZcI _ _).mono ?_;rintro e w' ⟨rfl,rfl⟩)
  go_ret
  exact⟨Zbh (by simp[Zik,ht]),rfl⟩
 cases hn:Za6 now
 ·go_enter Tryz.func158,Tryz.ntmps158
  go_wp2_with (go_at_call 42;refine(ZcI _ _).mono ?_;rintro e w' ⟨rfl,rfl⟩)
  go_ret
  exact⟨Zbh (by simp[Zik,hn]),rfl⟩
 have ⟨g0,g1⟩:=Zca hg
 have ⟨t0,t1⟩:=Zca ht
 have ⟨n0,n1⟩:=Zca hn
 go_enter Tryz.func158,Tryz.ntmps158
 go_wp2_with (go_at_call 42;refine(ZcI _ _).mono ?_;rintro e w' ⟨rfl,rfl⟩)
 all_goals
  go_ret
  exact⟨Zbh (by rw[ZnA hg ht hn]<;>omega),rfl⟩
theorem Znp (got ttl now:Int) (w:World):
  Calls Tryz.prog 112 #[.int .i64 got,.int .i64 ttl,.int .i64 now] w fun e w'=>e= .returned (.bool (decide (0<Zik got ttl now)))∧w=w':=by
 go_enter Tryz.func112,Tryz.ntmps112
 go_wp2_with (go_at_call 158;refine(Zpf _ _ _ _).mono ?_;rintro e w' ⟨rfl,rfl⟩)
 go_ret
 exact⟨Zaf rfl,rfl⟩
open Go.RowKit
def ZbW (k:Int):Bool:=decide (1≤k)&&(decide (k≤65534)&&(decide (k≠41)&&decide (k≠255)))
theorem Zf2 {k:Int}:ZbW k=true↔(1≤k∧k≤65534∧k≠41∧k≠255):=by simp[ZbW]
def Zir (d:Zaq):Bool:=decide (d.bytes.length+d.host.length+d.mail.length+d.nums.length+d.texts.length=0)
def Zb5 (l:List Zaq) (d:Zaq):Bool:=l.any fun x=>Zd6 x d
def Zbc (k:Int):List Zaq→List Zaq→Bool
 |_,[]=>true
 |seen,d::r=>ZaB k d&&(!Zb5 seen d&&Zbc k (seen++[d]) r)
theorem ZgH {k:Int} {ds:List Zaq} {i:Nat} (h:i<ds.length):
  Zbc k (ds.take i) (ds.drop i)=(ZaB k ds[i]&&(!Zb5 (ds.take i) ds[i]&&Zbc k (ds.take (i+1)) (ds.drop (i+1)))):=by
 rw[List.drop_eq_getElem_cons h,Zbc,List.take_succ_eq_append_getElem h]
def Zie (f:Zas):Bool:=ZaG f.name&&(decide (1≤f.rank)&&(decide (f.rank≤4)&&(Za6 f.got&&(decide (0≤f.ttl)&&decide (f.ttl≤604800)))))
def ZqL (f:Zas):Bool:=ZbW f.typ&&(decide (1≤f.set.length)&&(decide (f.set.length≤64)&&(Zbc f.typ [] f.set&&(decide (f.zone.length=0)&&Zir f.soa))))
def ZrS (f:Zas):Bool:=decide (f.ttl≤10800)&&(decide (f.set.length=0)&&(ZaG f.zone&&(ZhX f.name f.zone&&ZaB 6 f.soa)))
def Zbl (f:Zas):Bool:=Zie f&&(if f.kind=1 then ZqL f else ZrS f&&((decide (f.kind=2)&&ZbW f.typ)||(decide (f.kind=3)&&decide (f.typ=0))))
def Zdk (a b:List Zaq):Bool:=a.all fun x=>Zb5 b x
def ZqX (a b:List Zaq):Bool:=Zdk a b&&Zdk b a
def Zod (a b:Zas):Bool:=
 Zbl a&&(Zbl b&&(decide (a.typ=b.typ)&&(eqB a.name b.name&&(decide (a.kind=b.kind)&&(decide (a.rank=b.rank)&&(decide (a.got=b.got)&&(decide (a.ttl=b.ttl)&&(ZqX a.set b.set&&(eqB a.zone b.zone&&Zd6 a.soa b.soa)))))))))
theorem ZkQ (a:List ByteArray):eqB a a=true:=by simp[eqB]
theorem ZhV (d:Zaq):Zd6 d d=true:=by simp[Zd6,ZkQ]
theorem Zkw {l:List Zaq} {d:Zaq} (h:d∈l):Zb5 l d=true:=List.any_eq_true.2 ⟨d,h,ZhV d⟩
theorem ZjX (a:List Zaq):Zdk a a=true:=List.all_eq_true.2 fun _ h=>Zkw h
theorem Zml {f:Zas} (h:Zbl f=true):Zod f f=true:=by simp[Zod,h,ZkQ,ZhV,ZqX,ZjX]
def ZlE (n:Int):UInt8:=UInt8.ofNat (n%256).toNat
def Zk0 (s:ByteArray):List UInt8:=UInt8.ofNat (s.size%256)::(small s).data.toList
def ZgV (n:List ByteArray):List UInt8:=n.flatMap Zk0
def Zkn (n:List ByteArray) (t:Int):List UInt8:=ZgV n++[0,ZlE (t/256),ZlE t]
def Zax (f:Zas):List UInt8:=Zkn f.name f.typ
theorem ZkY (n:List ByteArray) (t:Int):3≤(Zkn n t).length:=by simp[Zkn]
def fT:List TypeId:=[5,9,3,35]
structure DLen (d:Zaq):Prop where
 host:d.host.length≤1048576
 mail:d.mail.length≤1048576
 nums:d.nums.length≤1048576
 texts:d.texts.length≤8796093022208
theorem DLen.fit {w:World} {k:ZaJ} {d:Zaq} (h:DLen d) (hd:IsData w k d):ZrH k:=by
 have hl:=hd.len
 exact⟨by rw[←hl.host];exact h.host,by rw[←hl.mail];exact h.mail,by rw[←hl.nums];exact h.nums,by rw[←hl.texts];exact h.texts⟩
structure Zmy (f:Zas):Prop where
 name:f.name.length≤1048576
 zone:f.zone.length≤1048576
 set:f.set.length≤1000000
 soa:DLen f.soa
 all:∀ d∈f.set,DLen d
abbrev OwnF (B:Nat) (w:World) (k:ZaU) (f:Zas):Prop:=IsFact (fun b=>Zak fT w b∧B≤b) w k f
theorem OwnF.step {B:Nat} {w w':World} {k:ZaU} {f:Zas} (h:OwnF B w k f) (hs:Same (fun b=>Zak fT w b∧B≤b) w w'):OwnF B w' k f:=by
 have i2:IsFact (fun b=>(Zak fT w b∧B≤b)∧b<w.heap.size) w k f:=h.mono (fun b hb ht=>⟨ht,hb⟩)
 exact(i2.keep (hs.mono (fun b _ ht=>ht.1))).mono (fun b _ ht=>⟨Zbt ht.1.1 (hs b ht.2 ht.1),ht.1.2⟩)
theorem OwnF.on {B:Nat} {w w':World} {k:ZaU} {f:Zas} (h:OwnF B w k f) (hb:Below w.heap.size w w'):OwnF B w' k f:=h.step (Same.below hb _)
def noF:Array Value:=#[.slice none 0 0,.int .i64 0,.int .i64 0,.int .i64 0,.int .i64 0,.int .i64 0,.slice none 0 0,.slice none 0 0,.slice none 0 0,.slice none 0 0,.slice none 0 0,.slice none 0 0,.slice none 0 0]
theorem Zjb {tmps:Array Value} {w:World} {R:Nat} {k:ZaU} {f:Zas} (h2:tmps[2]?=some (.pointer (some ⟨R,0,none⟩))) (hB:Blk w R (Zaj k f) 37):
  (results Tryz.f34 tmps).run Tryz.prog w= .ok (.agg (Zaj k f)) w:=by
 have c0:=hB.cell 0
 have c1:=hB.cell 1
 have c2:=hB.cell 2
 have c3:=hB.cell 3
 have c4:=hB.cell 4
 have c5:=hB.cell 5
 have c6:=hB.cell 6
 have c7:=hB.cell 7
 have c8:=hB.cell 8
 have c9:=hB.cell 9
 have c10:=hB.cell 10
 have c11:=hB.cell 11
 have c12:=hB.cell 12
 simp[Zaj] at c0 c1 c2 c3 c4 c5 c6 c7 c8 c9 c10 c11 c12
 simp[results,go_sem,h2,c0,c1,c2,c3,c4,c5,c6,c7,c8,c9,c10,c11,c12,Zaj]
def ZrE (cur:Array Value) (j:Nat) (k:ZaJ):Array Value:=(((((cur.setIfInBounds (j*5) (.slice k.ba k.bl k.bc)).setIfInBounds (j*5+1) (.slice k.ha k.hl k.hc)).setIfInBounds (j*5+2) (.slice k.ma k.ml k.mc)).setIfInBounds (j*5+3) (.slice k.na k.nl k.nc)).setIfInBounds (j*5+4) (.slice k.ta k.tl k.tc))
theorem Zok {cur:Array Value} {j:Nat} {k:ZaJ} (h:j*5+4<cur.size) (q:Nat) (hq:q<5):(ZrE cur j k)[j*5+q]?=(Zae k)[q]?:=by
 have:q=0∨q=1∨q=2∨q=3∨q=4:=by omega
 rcases this with rfl|rfl|rfl|rfl|rfl<;>simp[ZrE,Zae,Array.getElem?_setIfInBounds]<;>omega
theorem Zmm {cur:Array Value} {i j:Nat} {k:ZaJ} (h:i≠j) (q:Nat) (hq:q<5):(ZrE cur j k)[i*5+q]?=cur[i*5+q]?:=by
 simp only[ZrE,Array.getElem?_setIfInBounds]
 rw[if_neg (by omega),if_neg (by omega),if_neg (by omega),if_neg (by omega),if_neg (by omega)]
structure OwnSt (w wr:World) (g:Nat) (ds:List Zaq) (j:Nat) (cur:Array Value):Prop where
 blk:Blk wr g cur 35
 els:∀ i (hi:i<ds.length),∃ k,(∀ q,q<5→cur[i*5+q]?=(Zae k)[q]?)∧(if i<j then OwnD (w.heap.size+2) wr k ds[i] else IsData wr k ds[i]∧DataIn (fun b=>b<w.heap.size) k)
theorem OwnSt.on {w wr w':World} {g:Nat} {ds:List Zaq} {j:Nat} {cur:Array Value} (h:OwnSt w wr g ds j cur) (hb:Below wr.heap.size wr w'):OwnSt w w' g ds j cur:=
 ⟨h.blk.on hb,fun i hi=>by
  obtain⟨k,h1,h2⟩:=h.els i hi
  refine⟨k,h1,?_⟩
  split
  ·rename_i hij;rw[if_pos hij] at h2;exact h2.on hb
  ·rename_i hij;rw[if_neg hij] at h2;exact⟨h2.1.on hb,h2.2⟩⟩
theorem OwnSt.big {w wr:World} {g:Nat} {ds:List Zaq} {j i:Nat} {cur:Array Value} (h:OwnSt w wr g ds j cur) (hi:i<ds.length):i*5+4<cur.size:=by
 obtain⟨k,h1,_⟩:=h.els i hi
 have h4:=h1 4 (by decide)
 rcases Nat.lt_or_ge (i*5+4) cur.size with h|h
 ·exact h
 ·rw[Array.getElem?_eq_none h] at h4
  simp[Zae] at h4
def Zq5 (W:World) (g j:Nat) (k:ZaJ):World:=((((W.setCell ⟨g,j*5,none⟩ (.slice k.ba k.bl k.bc)).setCell ⟨g,j*5+1,none⟩ (.slice k.ha k.hl k.hc)).setCell ⟨g,j*5+2,none⟩ (.slice k.ma k.ml k.mc)).setCell ⟨g,j*5+3,none⟩ (.slice k.na k.nl k.nc)).setCell ⟨g,j*5+4,none⟩ (.slice k.ta k.tl k.tc)
theorem Zlg (W:World) (g j:Nat) (k:ZaJ):W.grownBy (Zq5 W g j k) (some g):=Zah (Zah (Zah (Zah (Zag _ _ _ _) (Zag _ _ _ _)) (Zag _ _ _ _)) (Zag _ _ _ _)) (Zag _ _ _ _)
theorem OwnSt.put {w wr W:World} {g:Nat} {ds:List Zaq} {j:Nat} {cur:Array Value} (h:OwnSt w wr g ds j cur) (hb:Below wr.heap.size wr W) (hg:w.heap.size≤g) (hj:j<ds.length) {k:ZaJ} (hk:OwnD (w.heap.size+2) W k (ds[j]'hj)):
  OwnSt w (Zq5 W g j k) g ds (j+1) (ZrE cur j k):=by
 have h1:=h.on hb
 have hbut:=Zlg W g j k
 have hD:35∉dT:=by decide
 have keep:∀ {q:ZaJ} {d:Zaq},OwnD (w.heap.size+2) W q d→OwnD (w.heap.size+2) (Zq5 W g j k) q d:=fun hq=>hq.step ((Same.but hbut h1.blk hD).mono (fun b _ ht=>ht.1))
 refine⟨((((h1.blk.set (j*5) _).set (j*5+1) _).set (j*5+2) _).set (j*5+3) _).set (j*5+4) _,fun i hi=>?_⟩
 by_cases hij:i=j
 ·subst hij
  exact⟨k,Zok (h1.big hi),by rw[if_pos (by omega)];exact keep hk⟩
 ·obtain⟨q,q1,q2⟩:=h1.els i hi
  refine⟨q,fun r hr=>by rw[Zmm hij r hr];exact q1 r hr,?_⟩
  by_cases hlt:i<j
  ·rw[if_pos (by omega)]
   rw[if_pos hlt] at q2
   exact keep q2
  ·rw[if_neg (by omega)]
   rw[if_neg hlt] at q2
   exact⟨q2.1.keep q2.2 (Same.grown hbut (fun b hb e=>by have:=Zsi e;omega)),q2.2⟩
theorem Zcj:(Tryz.prog.info? 37).map (·.size)=some 13:=by kernel_rfl
theorem Zeg (k:ZaU) (f:Zas):(Zaj k f).all (·.oneCell')=true:=Array.all_eq_true_iff_forall_mem.2 (fun v hv=>Zht.one k f v (by simpa [Zht] using hv))
theorem ZaA {w:World} {g:Nat} {cs:Array Value} {T:TypeId} (h:Blk w g cs T) (cs':Array Value):Blk (w.setRow g cs') g cs' T:=setRow_heap w g cs cs' T _ h
theorem Zav (w:World) (g:Nat) (cs:Array Value):w.grownBy (w.setRow g cs) (some g):=
 ⟨rfl,rfl,rfl,by simp[World.setRow],fun k _ hne=>by
  simp only[World.setRow,Array.getElem?_modify]
  rw[if_neg (fun e=>hne (by rw[e]))]⟩
structure FoSt (w wr:World) (kk:ZaJ) (f:Zas) (a0:Option Addr) (nl c0:Nat) (a1:Option Addr) (zl c1:Nat) (vo:Option Addr) (sl vc:Nat) (A:Array Value) (j:Nat):Prop where
 bel:Below w.heap.size w wr
 blkA:Blk wr w.heap.size A 37
 blkR:Blk wr (w.heap.size+1) noF 37
 name:Own1 [9] (w.heap.size+2) wr a0 nl c0 (f.name.map .string)
 zone:Own1 [9] (w.heap.size+2) wr a1 zl c1 (f.zone.map .string)
 soa:OwnD (w.heap.size+2) wr kk f.soa
 set:0<sl→∃ g cur,vo=some ⟨g,0,none⟩∧w.heap.size+2≤g∧OwnSt w wr g f.set j cur
theorem FoSt.on {w wr w':World} {kk:ZaJ} {f:Zas} {a0:Option Addr} {nl c0:Nat} {a1:Option Addr} {zl c1:Nat} {vo:Option Addr} {sl vc:Nat} {A:Array Value} {j:Nat} (h:FoSt w wr kk f a0 nl c0 a1 zl c1 vo sl vc A j) (hb:Below wr.heap.size wr w'):FoSt w w' kk f a0 nl c0 a1 zl c1 vo sl vc A j:=
 ⟨Zaa h.bel hb Zlr,h.blkA.on hb,h.blkR.on hb,h.name.on hb,h.zone.on hb,h.soa.on hb,fun h0=>by
  obtain⟨g,cur,e,hg,hs⟩:=h.set h0
  exact⟨g,cur,e,hg,hs.on hb⟩⟩
theorem FoSt.put {w wr W:World} {kk:ZaJ} {f:Zas} {a0:Option Addr} {nl c0:Nat} {a1:Option Addr} {zl c1:Nat} {g sl vc:Nat} {A:Array Value} {j:Nat} (h:FoSt w wr kk f a0 nl c0 a1 zl c1 (some ⟨g,0,none⟩) sl vc A j) (hb:Below wr.heap.size wr W) (h0:0<sl) (hj:j<f.set.length)
  {k:ZaJ} (hk:OwnD (w.heap.size+2) W k (f.set[j]'hj)):FoSt w (Zq5 W g j k) kk f a0 nl c0 a1 zl c1 (some ⟨g,0,none⟩) sl vc A (j+1):=by
 have h1:=h.on hb
 obtain⟨g',cur,e,hg,hs⟩:=h.set h0
 cases e
 have hbut:=Zlg W g j k
 have hw:=h1.blkR.lt
 have hB:=(hs.on hb).blk
 have hst:∀ {T:List TypeId},35∉T→Same (fun b=>Zak T W b∧w.heap.size+2≤b) W (Zq5 W g j k):=fun hT=>(Same.but hbut hB hT).mono (fun b _ ht=>ht.1)
 exact⟨h1.bel.trans (Zam hbut (by omega) (by omega)),h1.blkA.but hbut (by omega),h1.blkR.but hbut (by omega),h1.name.step (hst (by decide)),h1.zone.step (hst (by decide)),h1.soa.step (hst (by decide)),fun _=>⟨g,_,rfl,hg,hs.put hb (by omega) hj hk⟩⟩
theorem FoSt.fact {w wr:World} {kk:ZaJ} {f:Zas} {a0:Option Addr} {nl c0:Nat} {a1:Option Addr} {zl c1:Nat} {vo:Option Addr} {sl vc:Nat} {A:Array Value} (h:FoSt w wr kk f a0 nl c0 a1 zl c1 vo sl vc A sl) (hl:f.set.length=sl) (hle:sl≤vc) (hmx:vc≤9223372036854775807) (hnil:vo=none→vc=0)
  (hsn:∀ s∈f.name,s.size≤9223372036854775807) (hsz:∀ s∈f.zone,s.size≤9223372036854775807) (hi:wfi f.typ∧wfi f.kind∧wfi f.rank∧wfi f.got∧wfi f.ttl) {W:World} (hb:wr.grownBy W (some (w.heap.size+1))):
  OwnF w.heap.size W ⟨a0,nl,c0,vo,sl,vc,a1,zl,c1,kk⟩ f:=by
 have key:IsFact (fun b=>Zak fT wr b∧w.heap.size+2≤b) wr ⟨a0,nl,c0,vo,sl,vc,a1,zl,c1,kk⟩ f:=by
  refine⟨⟨h.name.row,hsn⟩,Ze1 h.name (by decide),hi.1,hi.2.1,hi.2.2.1,hi.2.2.2.1,hi.2.2.2.2,⟨hl,hle,hmx,hnil,fun h0=>?_⟩,⟨h.zone.row,hsz⟩,Ze1 h.zone (by decide),h.soa.is,h.soa.mem.mono h.soa.is (fun b _ ht=>⟨Za4 ht.1 (by decide),ht.2⟩)⟩
  obtain⟨g,cur,e,hg,hs⟩:=h.set h0
  refine⟨g,0,e,⟨⟨_,_,hs.blk,by decide⟩,hg⟩,fun i hi=>?_⟩
  obtain⟨k,k1,k2⟩:=hs.els i hi
  rw[if_pos (by omega)] at k2
  refine⟨k,fun q hq=>?_,k2.is,?_⟩
  ·rw[Nat.zero_add,hs.blk.cell];exact k1 q hq
  ·exact k2.mem.mono k2.is (fun b _ ht=>⟨Za4 ht.1 (by decide),ht.2⟩)
 exact((OwnF.step (B:=w.heap.size+2) key (Same.grown hb (fun b ht e=>by have:=Zsi e;omega))).mono (fun b _ ht=>⟨ht.1,by omega⟩))
theorem Zgp (w:World) (S:Nat→Prop) (h:ZaU) (f:Zas) (hf:IsFact S w h f) (hl:Zmy f):
  Calls Tryz.prog 34 #[.agg (Zaj h f)] w fun e w'=>(∃ k,e= .returned (.agg (Zaj k f))∧OwnF w.heap.size w' k f)∧Below w.heap.size w w':=by
 have hA0:Blk (w.alloc (.cells (Zaj h f) 37)) w.heap.size (Zaj h f) 37:=Zha w _
 have hA:Blk ((w.alloc (.cells (Zaj h f) 37)).alloc (.cells noF 37)) w.heap.size (Zaj h f) 37:=hA0.on (Zbr.alloc Zlr _)
 have hN:Blk ((w.alloc (.cells (Zaj h f) 37)).alloc (.cells noF 37)) (w.heap.size+1) noF 37:=by
  have:=Zha (w.alloc (.cells (Zaj h f) 37)) (.cells noF 37)
  simpa [Blk] using this
 have hsz:((w.alloc (.cells (Zaj h f) 37)).alloc (.cells noF 37)).heap.size=w.heap.size+2:=by simp
 have hb2:Below w.heap.size w ((w.alloc (.cells (Zaj h f) 37)).alloc (.cells noF 37)):=(Zbr.alloc Zlr _).alloc (by simp) _
 have HB:=Zhd hb2
 have HF:=Zhd ((hf.mono (S':=fun b=>b<w.heap.size) (fun b hb _=>hb)).on hb2)
 have HN:=Zhd hN
 have HA:=Zhd hA
 have HSZ:=Zhd hsz
 have HLE:=Zhd hl
 have hsl:=hf.set.hlen
 have hsle:=hf.set.hle
 have hsmx:=hf.set.hmax
 have hnl:=hf.name.len
 have hzl:=hf.zone.len
 have h1:=hl.set
 have h2:=hl.name
 have h3:=hl.zone
 have HLN:=Zhd (show h.nl*16≤140737488355328 by omega)
 have HLZ:=Zhd (show h.zl*16≤140737488355328 by omega)
 have HLS:=Zhd (Zan hsl (show h.sl≤1048576 by omega))
 have HSD:=Zhd (hl.soa.fit hf.soa)
 have HSN:=Zhd (Zan hf.name.small hf.zone.small)
 have HI5:=Zhd (Zan hf.typ (Zan hf.kind (Zan hf.rank (Zan hf.got hf.ttl))))
 clear hA0 hA hN hsz hb2 hf hl hsl hnl hzl h1 h2 h3
 obtain⟨na,nl,nc,sa,sl,sc,za,zl,zc,⟨ba,bl,bc,ha,hl,hc,ma,ml,mc,xa,xl,xc,ta,tl,tc⟩⟩:=h
 simp only[Zaj] at HB HF HN HA HSZ
 simp only at hsle hsmx HLN HLZ HLS HSD
 have HC0:=Zhd (show((w.alloc (.cells #[.slice na nl nc,.int .i64 f.typ,.int .i64 f.kind,.int .i64 f.rank,.int .i64 f.got,.int .i64 f.ttl,.slice sa sl sc,.slice za zl zc,.slice ba bl bc,.slice ha hl hc,.slice ma ml mc,.slice xa xl xc,.slice ta tl tc] 37)).alloc (.cells noF 37)).drew.cell? ⟨w.heap.size,0,none⟩=some (.slice na nl nc) from HA.out.cell 0)
 have HC1:=Zhd (show((w.alloc (.cells #[.slice na nl nc,.int .i64 f.typ,.int .i64 f.kind,.int .i64 f.rank,.int .i64 f.got,.int .i64 f.ttl,.slice sa sl sc,.slice za zl zc,.slice ba bl bc,.slice ha hl hc,.slice ma ml mc,.slice xa xl xc,.slice ta tl tc] 37)).alloc (.cells noF 37)).drew.cell? ⟨w.heap.size,1,none⟩=some (.int .i64 f.typ) from HA.out.cell 1)
 have HC2:=Zhd (show((w.alloc (.cells #[.slice na nl nc,.int .i64 f.typ,.int .i64 f.kind,.int .i64 f.rank,.int .i64 f.got,.int .i64 f.ttl,.slice sa sl sc,.slice za zl zc,.slice ba bl bc,.slice ha hl hc,.slice ma ml mc,.slice xa xl xc,.slice ta tl tc] 37)).alloc (.cells noF 37)).drew.cell? ⟨w.heap.size,2,none⟩=some (.int .i64 f.kind) from HA.out.cell 2)
 have HC3:=Zhd (show((w.alloc (.cells #[.slice na nl nc,.int .i64 f.typ,.int .i64 f.kind,.int .i64 f.rank,.int .i64 f.got,.int .i64 f.ttl,.slice sa sl sc,.slice za zl zc,.slice ba bl bc,.slice ha hl hc,.slice ma ml mc,.slice xa xl xc,.slice ta tl tc] 37)).alloc (.cells noF 37)).drew.cell? ⟨w.heap.size,3,none⟩=some (.int .i64 f.rank) from HA.out.cell 3)
 have HC4:=Zhd (show((w.alloc (.cells #[.slice na nl nc,.int .i64 f.typ,.int .i64 f.kind,.int .i64 f.rank,.int .i64 f.got,.int .i64 f.ttl,.slice sa sl sc,.slice za zl zc,.slice ba bl bc,.slice ha hl hc,.slice ma ml mc,.slice xa xl xc,.slice ta tl tc] 37)).alloc (.cells noF 37)).drew.cell? ⟨w.heap.size,4,none⟩=some (.int .i64 f.got) from HA.out.cell 4)
 have HC5:=Zhd (show((w.alloc (.cells #[.slice na nl nc,.int .i64 f.typ,.int .i64 f.kind,.int .i64 f.rank,.int .i64 f.got,.int .i64 f.ttl,.slice sa sl sc,.slice za zl zc,.slice ba bl bc,.slice ha hl hc,.slice ma ml mc,.slice xa xl xc,.slice ta tl tc] 37)).alloc (.cells noF 37)).drew.cell? ⟨w.heap.size,5,none⟩=some (.int .i64 f.ttl) from HA.out.cell 5)
 have HC6:=Zhd (show((w.alloc (.cells #[.slice na nl nc,.int .i64 f.typ,.int .i64 f.kind,.int .i64 f.rank,.int .i64 f.got,.int .i64 f.ttl,.slice sa sl sc,.slice za zl zc,.slice ba bl bc,.slice ha hl hc,.slice ma ml mc,.slice xa xl xc,.slice ta tl tc] 37)).alloc (.cells noF 37)).drew.cell? ⟨w.heap.size,6,none⟩=some (.slice sa sl sc) from HA.out.cell 6)
 have HC7:=Zhd (show((w.alloc (.cells #[.slice na nl nc,.int .i64 f.typ,.int .i64 f.kind,.int .i64 f.rank,.int .i64 f.got,.int .i64 f.ttl,.slice sa sl sc,.slice za zl zc,.slice ba bl bc,.slice ha hl hc,.slice ma ml mc,.slice xa xl xc,.slice ta tl tc] 37)).alloc (.cells noF 37)).drew.cell? ⟨w.heap.size,7,none⟩=some (.slice za zl zc) from HA.out.cell 7)
 have HC8:=Zhd (show((w.alloc (.cells #[.slice na nl nc,.int .i64 f.typ,.int .i64 f.kind,.int .i64 f.rank,.int .i64 f.got,.int .i64 f.ttl,.slice sa sl sc,.slice za zl zc,.slice ba bl bc,.slice ha hl hc,.slice ma ml mc,.slice xa xl xc,.slice ta tl tc] 37)).alloc (.cells noF 37)).drew.cell? ⟨w.heap.size,8,none⟩=some (.slice ba bl bc) from HA.out.cell 8)
 have HC9:=Zhd (show((w.alloc (.cells #[.slice na nl nc,.int .i64 f.typ,.int .i64 f.kind,.int .i64 f.rank,.int .i64 f.got,.int .i64 f.ttl,.slice sa sl sc,.slice za zl zc,.slice ba bl bc,.slice ha hl hc,.slice ma ml mc,.slice xa xl xc,.slice ta tl tc] 37)).alloc (.cells noF 37)).drew.cell? ⟨w.heap.size,9,none⟩=some (.slice ha hl hc) from HA.out.cell 9)
 have HC10:=Zhd (show((w.alloc (.cells #[.slice na nl nc,.int .i64 f.typ,.int .i64 f.kind,.int .i64 f.rank,.int .i64 f.got,.int .i64 f.ttl,.slice sa sl sc,.slice za zl zc,.slice ba bl bc,.slice ha hl hc,.slice ma ml mc,.slice xa xl xc,.slice ta tl tc] 37)).alloc (.cells noF 37)).drew.cell? ⟨w.heap.size,10,none⟩=some (.slice ma ml mc) from HA.out.cell 10)
 have HC11:=Zhd (show((w.alloc (.cells #[.slice na nl nc,.int .i64 f.typ,.int .i64 f.kind,.int .i64 f.rank,.int .i64 f.got,.int .i64 f.ttl,.slice sa sl sc,.slice za zl zc,.slice ba bl bc,.slice ha hl hc,.slice ma ml mc,.slice xa xl xc,.slice ta tl tc] 37)).alloc (.cells noF 37)).drew.cell? ⟨w.heap.size,11,none⟩=some (.slice xa xl xc) from HA.out.cell 11)
 have HC12:=Zhd (show((w.alloc (.cells #[.slice na nl nc,.int .i64 f.typ,.int .i64 f.kind,.int .i64 f.rank,.int .i64 f.got,.int .i64 f.ttl,.slice sa sl sc,.slice za zl zc,.slice ba bl bc,.slice ha hl hc,.slice ma ml mc,.slice xa xl xc,.slice ta tl tc] 37)).alloc (.cells noF 37)).drew.cell? ⟨w.heap.size,12,none⟩=some (.slice ta tl tc) from HA.out.cell 12)
 go_enter Tryz.func34,Tryz.ntmps34
 go_wp2_with fail
 (try change Code.wp _ (Code.region _ _ _) _ _ ((w.alloc (.cells #[.slice na nl nc,.int .i64 f.typ,.int .i64 f.kind,.int .i64 f.rank,.int .i64 f.got,.int .i64 f.ttl,.slice sa sl sc,.slice za zl zc,.slice ba bl bc,.slice ha hl hc,.slice ma ml mc,.slice xa xl xc,.slice ta tl tc] 37)).alloc (.cells noF 37)))
 rename_i K0 hK0
 have HK0:=Zhd hK0
 clear hK0
 refine Zcg (m:=38) 10 (by kernel_rfl) (fun x y=>Below x.heap.size x y) (fun i v xw=>match i with|0=>v= .pointer (some ⟨w.heap.size,0,none⟩)|1=>v= .slice na nl nc|2=>∃ a c,v= .slice a nl c∧Own1 [9] (w.heap.size+2) xw a nl c (f.name.map .string)|3=>v= .pointer (some ⟨w.heap.size,7,none⟩)|4=>v= .slice za zl zc|5=>∃ a c,v= .slice a zl c∧Own1 [9] (w.heap.size+2) xw a zl c (f.zone.map .string)|6=>v= .pointer (some ⟨w.heap.size,8,none⟩)|7=>v= .agg #[.slice ba bl bc,.slice ha hl hc,.slice ma ml mc,.slice xa xl xc,.slice ta tl tc]|8=>∃ k,v= .agg (Zae k)∧OwnD (w.heap.size+2) xw k f.soa|9=>v= .pointer (some ⟨w.heap.size,0,none⟩)|_=>True) rfl (by kernel_rfl) (by kernel_rfl) (fun _ _ _ h1 h2=>Zaa h1 h2 Zlr) Zbr (by intro i v x y h hxy;match i,h with|0,h=>exact h|1,h=>exact h|2,⟨a,c,e,hr⟩=>exact⟨a,c,e,hr.on hxy⟩|3,h=>exact h|4,h=>exact h|5,⟨a,c,e,hr⟩=>exact⟨a,c,e,hr.on hxy⟩|6,h=>exact h|7,h=>exact h|8,⟨k,e,hr⟩=>exact⟨k,e,hr.on hxy⟩|9,h=>exact h|_+10,_=>trivial) (ZdS (by kernel_rfl)) ?_ ?_
 rotate_left
 ·intro a W hR hS hdep
  have e1:a.tmps.getD 1 undef= .pointer (some ⟨w.heap.size,0,none⟩):=hS.keep 1 (by kernel_rfl)
  have e2:a.tmps.getD 2 undef= .pointer (some ⟨(w.heap.size+1),0,none⟩):=hS.keep 2 (by kernel_rfl)
  obtain⟨a0,c0,q,r0⟩:=hdep 2 (by decide+kernel)
  have e6:a.tmps.getD 6 undef= .slice a0 nl c0:=q
  clear q
  obtain⟨a1,c1,q,r1⟩:=hdep 5 (by decide+kernel)
  have e9:a.tmps.getD 9 undef= .slice a1 zl c1:=q
  clear q
  obtain⟨kk,q,hk⟩:=hdep 8 (by decide+kernel)
  have e12:a.tmps.getD 12 undef= .agg (Zae kk):=q
  clear q
  have e13:a.tmps.getD 13 undef= .pointer (some ⟨w.heap.size,0,none⟩):=hdep 9 (by decide+kernel)
  obtain⟨T,df⟩:=a
  obtain rfl:df=[]:=hS.defers
  have hT:=Zcy T 38 hS.size;simp only[List.range,List.range.loop,List.map_cons,List.map_nil] at hT
  have k1:T.getD 1 undef= .pointer (some ⟨w.heap.size,0,none⟩):=e1
  have k2:T.getD 2 undef= .pointer (some ⟨(w.heap.size+1),0,none⟩):=e2
  have k6:T.getD 6 undef= .slice a0 nl c0:=e6
  have k9:T.getD 9 undef= .slice a1 zl c1:=e9
  have k12:T.getD 12 undef= .agg (Zae kk):=e12
  have k13:T.getD 13 undef= .pointer (some ⟨w.heap.size,0,none⟩):=e13
  clear hS hdep
  rw[hT]
  rw[k1]
  clear k1 e1
  rw[k2]
  clear k2 e2
  rw[k6]
  clear k6 e6
  rw[k9]
  clear k9 e9
  rw[k12]
  clear k12 e12
  rw[k13]
  clear k13 e13
  clear hT
  generalize T.getD 0 undef=u0
  generalize T.getD 3 undef=u3
  generalize T.getD 4 undef=u4
  generalize T.getD 5 undef=u5
  generalize T.getD 7 undef=u7
  generalize T.getD 8 undef=u8
  generalize T.getD 10 undef=u10
  generalize T.getD 11 undef=u11
  generalize T.getD 14 undef=u14
  generalize T.getD 15 undef=u15
  generalize T.getD 16 undef=u16
  generalize T.getD 17 undef=u17
  generalize T.getD 18 undef=u18
  generalize T.getD 19 undef=u19
  generalize T.getD 20 undef=u20
  generalize T.getD 21 undef=u21
  generalize T.getD 22 undef=u22
  generalize T.getD 23 undef=u23
  generalize T.getD 24 undef=u24
  generalize T.getD 25 undef=u25
  generalize T.getD 26 undef=u26
  generalize T.getD 27 undef=u27
  generalize T.getD 28 undef=u28
  generalize T.getD 29 undef=u29
  generalize T.getD 30 undef=u30
  generalize T.getD 31 undef=u31
  generalize T.getD 32 undef=u32
  generalize T.getD 33 undef=u33
  generalize T.getD 34 undef=u34
  generalize T.getD 35 undef=u35
  generalize T.getD 36 undef=u36
  generalize T.getD 37 undef=u37
  simp only[List.drop_succ_cons,List.drop_zero]
  have hbx:=Zaa (B:=((w.alloc (.cells #[.slice na nl nc,.int .i64 f.typ,.int .i64 f.kind,.int .i64 f.rank,.int .i64 f.got,.int .i64 f.ttl,.slice sa sl sc,.slice za zl zc,.slice ba bl bc,.slice ha hl hc,.slice ma ml mc,.slice xa xl xc,.slice ta tl tc] 37)).alloc (.cells noF 37)).heap.size) (Below.drew Zbr) hR Zlr
  have hAW:=HA.out.on hbx
  have n0:=hAW.cell 0
  have n7:=hAW.cell 7
  have n8:=hAW.cell 8
  have n9:=hAW.cell 9
  have n10:=hAW.cell 10
  have n11:=hAW.cell 11
  have n12:=hAW.cell 12
  simp at n0 n7 n8 n9 n10 n11 n12
  have f0:=hAW.free 0
  have f7:=hAW.free 7
  have f8:=hAW.free 8
  have f9:=hAW.free 9
  have f10:=hAW.free 10
  have f11:=hAW.free 11
  have f12:=hAW.free 12
  simp only[Zae]
  go_wp2_with fail
  refine HK0.out _ _ ?_
  have hA7:Blk (((((((W.setCell ⟨w.heap.size,0,none⟩ (.slice a0 nl c0)).setCell ⟨w.heap.size,7,none⟩ (.slice a1 zl c1)).setCell ⟨w.heap.size,8,none⟩ (.slice kk.ba kk.bl kk.bc)).setCell ⟨w.heap.size,9,none⟩ (.slice kk.ha kk.hl kk.hc)).setCell ⟨w.heap.size,10,none⟩ (.slice kk.ma kk.ml kk.mc)).setCell ⟨w.heap.size,11,none⟩ (.slice kk.na kk.nl kk.nc)).setCell ⟨w.heap.size,12,none⟩ (.slice kk.ta kk.tl kk.tc)) w.heap.size #[.slice a0 nl c0,.int .i64 f.typ,.int .i64 f.kind,.int .i64 f.rank,.int .i64 f.got,.int .i64 f.ttl,.slice sa sl sc,.slice a1 zl c1,.slice kk.ba kk.bl kk.bc,.slice kk.ha kk.hl kk.hc,.slice kk.ma kk.ml kk.mc,.slice kk.na kk.nl kk.nc,.slice kk.ta kk.tl kk.tc] 37:=((((((hAW.set 0 _).set 7 _).set 8 _).set 9 _).set 10 _).set 11 _).set 12 _
  have hG7:W.grownBy (((((((W.setCell ⟨w.heap.size,0,none⟩ (.slice a0 nl c0)).setCell ⟨w.heap.size,7,none⟩ (.slice a1 zl c1)).setCell ⟨w.heap.size,8,none⟩ (.slice kk.ba kk.bl kk.bc)).setCell ⟨w.heap.size,9,none⟩ (.slice kk.ha kk.hl kk.hc)).setCell ⟨w.heap.size,10,none⟩ (.slice kk.ma kk.ml kk.mc)).setCell ⟨w.heap.size,11,none⟩ (.slice kk.na kk.nl kk.nc)).setCell ⟨w.heap.size,12,none⟩ (.slice kk.ta kk.tl kk.tc)) (some w.heap.size):=Zah (Zah (Zah (Zah (Zah (Zah (Zag _ _ _ _) (Zag _ _ _ _)) (Zag _ _ _ _)) (Zag _ _ _ _)) (Zag _ _ _ _)) (Zag _ _ _ _)) (Zag _ _ _ _)
  generalize (((((((W.setCell ⟨w.heap.size,0,none⟩ (.slice a0 nl c0)).setCell ⟨w.heap.size,7,none⟩ (.slice a1 zl c1)).setCell ⟨w.heap.size,8,none⟩ (.slice kk.ba kk.bl kk.bc)).setCell ⟨w.heap.size,9,none⟩ (.slice kk.ha kk.hl kk.hc)).setCell ⟨w.heap.size,10,none⟩ (.slice kk.ma kk.ml kk.mc)).setCell ⟨w.heap.size,11,none⟩ (.slice kk.na kk.nl kk.nc)).setCell ⟨w.heap.size,12,none⟩ (.slice kk.ta kk.tl kk.tc))=X at hA7 hG7⊢
  have hsx:w.heap.size+2≤W.heap.size:=Nat.le_trans (Nat.le_of_eq HSZ.out.symm) hbx.size
  have hbe:Below w.heap.size w X:=(Zaa HB.out hbx Zlr).trans (Zam hG7 (B:=w.heap.size) (by omega) (by omega))
  have hs7:W.heap.size≤X.heap.size:=hG7.size
  have HR0:=Zhd (r0.step (Same.grown hG7 (fun b hb e=>by have:=Zsi e;omega)))
  have HR1:=Zhd (r1.step (Same.grown hG7 (fun b hb e=>by have:=Zsi e;omega)))
  have HKK:=Zhd (hk.but hG7 (by omega))
  have HNR:=Zhd ((HN.out.on hbx).but hG7 (by omega))
  have HST:=Zhd ((HF.out.set.on hbx).keep (Same.grown hG7 (fun b hb e=>by have:=Zsi e;omega)))
  have HBE:=Zhd hbe
  have HA7:=Zhd hA7
  have HS7:=Zhd (show w.heap.size+2≤X.heap.size by omega)
  clear hAW hA7 hG7 hsx hbe hs7 hbx r0 r1 hk hR n0 n7 n8 n9 n10 n11 n12 f0 f7 f8 f9 f10 f11 f12 HC0 HC1 HC2 HC3 HC4 HC5 HC6 HC7 HC8 HC9 HC10 HC11 HC12
  have n6:=HA7.out.cell 6
  simp at n6
  go_wp2_with fail
  refine(Zkb X (fun b=>b<w.heap.size) sa sl sc f.set HST.out HLS.out.2).mono ?_
  rintro e X2 ⟨⟨v,ks,rfl,hown,hkl,hks⟩,hb⟩
  obtain⟨vo,vc,rfl,hvle,hvmx,hvnil,hvg⟩:∃ vo vc,v= .slice vo sl vc∧sl≤vc∧vc≤9223372036854775807∧(vo=none→vc=0)∧(0<sl→∃ g cur,vo=some ⟨g,0,none⟩∧w.heap.size+2≤g∧OwnSt w X2 g f.set 0 cur):=by
   rcases hown.2 with⟨hv,hn⟩|⟨g,cap,cur,hv,hg,hh,hn,hm,hs,ht⟩
   ·subst hn
    exact⟨none,0,hv,Nat.le_refl _,by omega,fun _=>rfl,fun h=>absurd h (by omega)⟩
   ·refine⟨_,cap,hv,hn,by unfold maxLen at hm;exact hm,fun e=>(by cases e),fun h0=>⟨g,cur,rfl,by have:=HS7.out;omega,hh,fun i hi=>?_⟩⟩
    have hik:i<ks.length:=by have:=HLS.out.1;omega
    refine⟨ks[i],fun q hq=>?_,?_⟩
    ·have h5:=Zed ks i q hik hq
     rw[←h5,←ht,List.getElem?_take,if_pos (by omega)]
     simp
    ·rw[if_neg (by omega)]
     have h6:=hks i hik hi
     exact⟨h6.1,h6.2.mono h6.1 (fun b _ ht=>ht.1)⟩
  have HV:=Zhd (Zan hvle (Zan hvmx hvnil))
  have hA8:=HA7.out.on hb
  have n6':=hA8.cell 6
  have f6:=hA8.free 6
  simp at n6'
  have HFO:=Zhd (show FoSt w (X2.setCell ⟨w.heap.size,6,none⟩ (.slice vo sl vc)) kk f a0 nl c0 a1 zl c1 vo sl vc #[.slice a0 nl c0,.int .i64 f.typ,.int .i64 f.kind,.int .i64 f.rank,.int .i64 f.got,.int .i64 f.ttl,.slice vo sl vc,.slice a1 zl c1,.slice kk.ba kk.bl kk.bc,.slice kk.ha kk.hl kk.hc,.slice kk.ma kk.ml kk.mc,.slice kk.na kk.nl kk.nc,.slice kk.ta kk.tl kk.tc] 0 by
   have hG:X2.grownBy (X2.setCell ⟨w.heap.size,6,none⟩ (.slice vo sl vc)) (some w.heap.size):=Zag _ _ _ _
   have hz:=HS7.out
   have hz2:=hb.size
   have hB2:=Zaa HBE.out hb Zlr
   refine⟨hB2.trans (Zam hG Zlr (by omega)),hA8.set 6 _,(HNR.out.on hb).but hG (by omega),(HR0.out.on hb).step (Same.grown hG (fun b ht e=>by have:=Zsi e;omega)),(HR1.out.on hb).step (Same.grown hG (fun b ht e=>by have:=Zsi e;omega)),(HKK.out.on hb).but hG (by omega),fun h0=>?_⟩
   obtain⟨g,cur,e,hg,hs⟩:=hvg h0
   refine⟨g,cur,e,hg,hs.blk.but hG (by omega),fun i hi=>?_⟩
   obtain⟨k,k1,k2⟩:=hs.els i hi
   rw[if_neg (by omega)] at k2
   exact⟨k,k1,by rw[if_neg (by omega)];exact⟨k2.1.keep k2.2 (Same.grown hG (fun b hb e=>by have:=Zsi e;omega)),k2.2⟩⟩)
  clear n6 hown hkl hks hb hvg hA8 HST HNR HR0 HR1 HKK HBE HA7
  go_wp2_with fail
  clear n6' f6
  go_loopw [23,3] (fun i _ wr=>∃ j:Nat,j≤sl∧i= .int .i64 j∧Hid (FoSt w wr kk f a0 nl c0 a1 zl c1 vo sl vc #[.slice a0 nl c0,.int .i64 f.typ,.int .i64 f.kind,.int .i64 f.rank,.int .i64 f.got,.int .i64 f.ttl,.slice vo sl vc,.slice a1 zl c1,.slice kk.ba kk.bl kk.bc,.slice kk.ha kk.hl kk.hc,.slice kk.ma kk.ml kk.mc,.slice kk.na kk.nl kk.nc,.slice kk.ta kk.tl kk.tc] j)) (fun i _ _=>sl-(intOf i).toNat)
  case atStart=>exact⟨0,Nat.zero_le _,rfl,HFO.out⟩
  case round=>
   obtain⟨j,hj,rfl,hinv⟩:=hrel
   clear HFO
   by_cases hlt:j<sl
   ·have hjs:j<f.set.length:=by have:=HLS.out.1;omega
    obtain⟨g,cur,rfl,hg,hst⟩:=hinv.out.set (by omega)
    obtain⟨k,k1,k2⟩:=hst.els j hjs
    rw[if_neg (by omega)] at k2
    have hfk:=(HLE.out.all _ (List.getElem_mem hjs)).fit k2.1
    have HBG:=Zhd hst.blk
    have HRO:=Zhd (fun w' (p:IsData w' k f.set[j])=>ZjC w' k _ p hfk)
    have HK2:=Zhd k2.1
    have HGG:=Zhd hg
    have HM6:=Zhd (show wr.drew.cell? ⟨w.heap.size,6,none⟩=some (.slice (some ⟨g,0,none⟩) sl vc) from hinv.out.blkA.cell 6)
    obtain⟨ba',bl',bc',ha',hl',hc',ma',ml',mc',xa',xl',xc',ta',tl',tc'⟩:=k
    have HN0:=Zhd (show wr.drew.cell? ⟨g,j*5,none⟩=some (.slice ba' bl' bc') from(HBG.out.cell _).trans (k1 0 (by omega)))
    have HN1:=Zhd (show wr.drew.cell? ⟨g,j*5+1,none⟩=some (.slice ha' hl' hc') from(HBG.out.cell _).trans (k1 1 (by omega)))
    have HN2:=Zhd (show wr.drew.cell? ⟨g,j*5+2,none⟩=some (.slice ma' ml' mc') from(HBG.out.cell _).trans (k1 2 (by omega)))
    have HN3:=Zhd (show wr.drew.cell? ⟨g,j*5+3,none⟩=some (.slice xa' xl' xc') from(HBG.out.cell _).trans (k1 3 (by omega)))
    have HN4:=Zhd (show wr.drew.cell? ⟨g,j*5+4,none⟩=some (.slice ta' tl' tc') from(HBG.out.cell _).trans (k1 4 (by omega)))
    simp only[Zae] at HRO
    have hjv:j<vc:=by have:=HV.out.1;omega
    have hsx:sl≤1048576:=HLS.out.2
    clear hst k1 k2 hfk hg
    go_wp2_with fail
    rename_i K1 hK1
    have HK1:=Zhd hK1
    clear hK1
    refine Zcg (m:=38) 10 (by kernel_rfl) (fun x y=>Below x.heap.size x y) (fun i v xw=>match i with|0=>v= .pointer (some ⟨w.heap.size,6,none⟩)|1=>v= .slice ((some ⟨g,0,none⟩)) sl vc|2=>v= .int .i64 ((j:Int))|3=>v= .pointer (some ⟨w.heap.size,6,none⟩)|4=>v= .slice ((some ⟨g,0,none⟩)) sl vc|5=>v= .int .i64 ((j:Int))|6=>v= .pointer (some ⟨g,j*5,none⟩)|7=>v= .agg #[.slice ba' bl' bc',.slice ha' hl' hc',.slice ma' ml' mc',.slice xa' xl' xc',.slice ta' tl' tc']|8=>∃ k,v= .agg (Zae k)∧OwnD (w.heap.size+2) xw k (f.set[j]'hjs)|9=>v= .pointer (some ⟨g,j*5,none⟩)|_=>True) rfl (by kernel_rfl) (by kernel_rfl) (fun _ _ _ h1 h2=>Zaa h1 h2 Zlr) Zbr (by intro i v x y h hxy;match i,h with|0,h=>exact h|1,h=>exact h|2,h=>exact h|3,h=>exact h|4,h=>exact h|5,h=>exact h|6,h=>exact h|7,h=>exact h|8,⟨k,e,hr⟩=>exact⟨k,e,hr.on hxy⟩|9,h=>exact h|_+10,_=>trivial) (ZdS (by kernel_rfl)) ?_ ?_
    rotate_left
    ·intro a W hR hS hdep
     obtain⟨kn,q,hkn⟩:=hdep 8 (by decide+kernel)
     have e34:a.tmps.getD 34 undef= .agg (Zae kn):=q
     clear q
     have e35:a.tmps.getD 35 undef= .pointer (some ⟨g,j*5,none⟩):=hdep 9 (by decide+kernel)
     obtain⟨T,df⟩:=a
     obtain rfl:df=[]:=hS.defers
     have hT:=ZdJ hS 38 rfl [26,27,28,29,30,31,32,33,34,35] (by kernel_rfl)
     simp only[List.foldl_cons,List.foldl_nil,List.setIfInBounds_toArray,List.set_cons_succ,List.set_cons_zero] at hT
     have k34:T.getD 34 undef= .agg (Zae kn):=e34
     have k35:T.getD 35 undef= .pointer (some ⟨g,j*5,none⟩):=e35
     clear hS hdep
     rw[hT]
     rw[k34]
     clear k34 e34
     rw[k35]
     clear k35 e35
     clear hT
     generalize T.getD 26 undef=u26
     generalize T.getD 27 undef=u27
     generalize T.getD 28 undef=u28
     generalize T.getD 29 undef=u29
     generalize T.getD 30 undef=u30
     generalize T.getD 31 undef=u31
     generalize T.getD 32 undef=u32
     generalize T.getD 33 undef=u33
     simp only[List.drop_succ_cons,List.drop_zero]
     have hbx:=Zaa (B:=wr.heap.size) (Below.drew Zbr) hR Zlr
     have hBW:=HBG.out.on hbx
     obtain⟨_,hcur,hgst⟩:∃ cur2,cur2=cur∧True:=⟨_,rfl,trivial⟩
     have n0:=Zab hbx HN0.out
     have f0:=hBW.free (j*5)
     have n1:=Zab hbx HN1.out
     have f1:=hBW.free (j*5+1)
     have n2:=Zab hbx HN2.out
     have f2:=hBW.free (j*5+2)
     have n3:=Zab hbx HN3.out
     have f3:=hBW.free (j*5+3)
     have n4:=Zab hbx HN4.out
     have f4:=hBW.free (j*5+4)
     have hput:=Zhd (hinv.out.put hbx (by omega) hjs hkn)
     clear hcur hgst hBW
     simp only[Zae]
     go_wp2_with fail
     refine HK1.out _ _ ?_
     clear n0 n1 n2 n3 n4 f0 f1 f2 f3 f4 hR hkn HM6 HN0 HN1 HN2 HN3 HN4
     have hput2:=hput.out
     unfold Zq5 at hput2
     have HP:=Zhd hput2
     clear hput2 hput
     go_wp2_with fail
     go_roundw
     case rel=>exact⟨j+1,by omega,by go_num,HP.out⟩
     case measure=>simp[intOf];omega
    refine Zac rfl rfl (fun a W hR hS hdep K hK=>?_) ?_
    ·have e1:a.tmps[1]?.getD undef= .pointer (some ⟨w.heap.size,0,none⟩):=Zad (hS.keep 1 (by kernel_rfl))
     go_simp
     exact hK _ _ Zbr (by first|rfl|simp)
    refine Zac rfl rfl (fun a W hR hS hdep K hK=>?_) ?_
    ·have e26:a.tmps[26]?.getD undef= .pointer (some ⟨w.heap.size,6,none⟩):=Zad (hdep 0 (by decide+kernel))
     have m0:=Zab hR HM6.out
     go_simp
     exact hK _ _ Zbr (by first|rfl|simp)
    refine Zac rfl rfl (fun a W hR hS hdep K hK=>?_) ?_
    ·have e3:a.tmps[3]?.getD undef= .int .i64 ((j:Int)):=Zad (hS.keep 3 (by kernel_rfl))
     go_simp
     exact hK _ _ Zbr (by first|rfl|simp)
    refine Zac rfl rfl (fun a W hR hS hdep K hK=>?_) ?_
    ·have e1:a.tmps[1]?.getD undef= .pointer (some ⟨w.heap.size,0,none⟩):=Zad (hS.keep 1 (by kernel_rfl))
     go_simp
     exact hK _ _ Zbr (by first|rfl|simp)
    refine Zac rfl rfl (fun a W hR hS hdep K hK=>?_) ?_
    ·have e29:a.tmps[29]?.getD undef= .pointer (some ⟨w.heap.size,6,none⟩):=Zad (hdep 3 (by decide+kernel))
     have m0:=Zab hR HM6.out
     go_simp
     exact hK _ _ Zbr (by first|rfl|simp)
    refine Zac rfl rfl (fun a W hR hS hdep K hK=>?_) ?_
    ·have e3:a.tmps[3]?.getD undef= .int .i64 ((j:Int)):=Zad (hS.keep 3 (by kernel_rfl))
     go_simp
     exact hK _ _ Zbr (by first|rfl|simp)
    refine Zac rfl rfl (fun a W hR hS hdep K hK=>?_) ?_
    ·have e30:a.tmps[30]?.getD undef= .slice ((some ⟨g,0,none⟩)) sl vc:=Zad (hdep 4 (by decide+kernel))
     have e31:a.tmps[31]?.getD undef= .int .i64 ((j:Int)):=Zad (hdep 5 (by decide+kernel))
     go_simp
     exact hK _ _ Zbr (by first|rfl|simp)
    refine Zac rfl rfl (fun a W hR hS hdep K hK=>?_) ?_
    ·have e32:a.tmps[32]?.getD undef= .pointer (some ⟨g,j*5,none⟩):=Zad (hdep 6 (by decide+kernel))
     have m0:=Zab hR HN0.out
     have m1:=Zab hR HN1.out
     have m2:=Zab hR HN2.out
     have m3:=Zab hR HN3.out
     have m4:=Zab hR HN4.out
     go_simp
     exact hK _ _ Zbr (by first|rfl|simp)
    refine Zac rfl rfl (fun a W hR hS hdep K hK=>?_) ?_
    ·have e33:a.tmps[33]?.getD undef= .agg #[.slice ba' bl' bc',.slice ha' hl' hc',.slice ma' ml' mc',.slice xa' xl' xc',.slice ta' tl' tc']:=Zad (hdep 7 (by decide+kernel))
     go_simp
     have hbx:=Zaa (B:=wr.heap.size) (Below.drew Zbr) hR Zlr
     refine(HRO.out _ (HK2.out.on hbx)).mono ?_
     rintro e W' ⟨⟨k,rfl,hk,_⟩,hb⟩
     exact hK _ _ hb ⟨k,rfl,hk.mono (by have:=hbx.size;have:=hinv.out.blkR.lt;omega)⟩
    refine Zac rfl rfl (fun a W hR hS hdep K hK=>?_) ?_
    ·have e27:a.tmps[27]?.getD undef= .slice ((some ⟨g,0,none⟩)) sl vc:=Zad (hdep 1 (by decide+kernel))
     have e28:a.tmps[28]?.getD undef= .int .i64 ((j:Int)):=Zad (hdep 2 (by decide+kernel))
     go_simp
     exact hK _ _ Zbr (by first|rfl|simp)
    exact fun j h1 h2=>absurd h1 (by omega)
   ·obtain rfl:j=sl:=by omega
    have hAe:=hinv.out.blkA
    have hRe:=hinv.out.blkR
    have n0:=hAe.cell 0
    have n1:=hAe.cell 1
    have n2:=hAe.cell 2
    have n3:=hAe.cell 3
    have n4:=hAe.cell 4
    have n5:=hAe.cell 5
    have n6:=hAe.cell 6
    have n7:=hAe.cell 7
    have n8:=hAe.cell 8
    have n9:=hAe.cell 9
    have n10:=hAe.cell 10
    have n11:=hAe.cell 11
    have n12:=hAe.cell 12
    simp at n0 n1 n2 n3 n4 n5 n6 n7 n8 n9 n10 n11 n12
    have HRE:=Zhd hRe
    have hR13:Blk (wr.setRow (w.heap.size+1) (Zaj ⟨a0,nl,c0,vo,j,vc,a1,zl,c1,kk⟩ f)) (w.heap.size+1) (Zaj ⟨a0,nl,c0,vo,j,vc,a1,zl,c1,kk⟩ f) 37:=ZaA hRe _
    have hG13:wr.grownBy (wr.setRow (w.heap.size+1) (Zaj ⟨a0,nl,c0,vo,j,vc,a1,zl,c1,kk⟩ f)) (some (w.heap.size+1)):=Zav _ _ _
    have HR13:=Zhd hR13
    have HG13:=Zhd hG13
    clear hR13 hG13 hRe hAe
    go_wp2_with (refine wpList_store_row rfl 37 _ _ rfl (w.heap.size+1) (Zaj ⟨a0,nl,c0,vo,j,vc,a1,zl,c1,kk⟩ f) rfl rfl 37 noF HRE.out Zcj rfl (Zeg _ _) ?_)
    have hR13:=HR13.out
    have hG13:=HG13.out
    have hi:=HI5.out
    have hout:=hinv.out.fact HLS.out.1 HV.out.1 HV.out.2.1 HV.out.2.2 HSN.out.1 HSN.out.2 hi hG13
    have hbo:=hinv.out.bel.trans (Zam hG13 (B:=w.heap.size) (by omega) (by have:=hinv.out.blkR.lt;omega))
    clear HR13 HG13 HRE
    generalize wr.setRow (w.heap.size+1) (Zaj ⟨a0,nl,c0,vo,j,vc,a1,zl,c1,kk⟩ f)=Y at hR13 hG13 hout hbo⊢
    have HH:=Zhd (Zan hR13 (Zan hout hbo))
    clear hR13 hG13 hout hbo n0 n1 n2 n3 n4 n5 n6 n7 n8 n9 n10 n11 n12
    go_wp2_with fail
    refine bodyPost_ret (v:= .agg (Zaj ⟨a0,nl,c0,vo,j,vc,a1,zl,c1,kk⟩ f)) (Zjb rfl HH.out.1) rfl ?_
    exact⟨⟨_,rfl,HH.out.2.1⟩,HH.out.2.2⟩
 refine Zac rfl rfl (fun a W hR hS hdep K hK=>?_) ?_
 ·have e1:a.tmps[1]?.getD undef= .pointer (some ⟨w.heap.size,0,none⟩):=Zad (hS.keep 1 (by kernel_rfl))
  go_simp
  exact hK _ _ Zbr (by first|rfl|simp)
 refine Zac rfl rfl (fun a W hR hS hdep K hK=>?_) ?_
 ·have e4:a.tmps[4]?.getD undef= .pointer (some ⟨w.heap.size,0,none⟩):=Zad (hdep 0 (by decide+kernel))
  have m0:=Zab hR HC0.out
  go_simp
  exact hK _ _ Zbr (by first|rfl|simp)
 refine Zac rfl rfl (fun a W hR hS hdep K hK=>?_) ?_
 ·have e5:a.tmps[5]?.getD undef= .slice na nl nc:=Zad (hdep 1 (by decide+kernel))
  go_simp
  have hbx:=Zaa (B:=((w.alloc (.cells #[.slice na nl nc,.int .i64 f.typ,.int .i64 f.kind,.int .i64 f.rank,.int .i64 f.got,.int .i64 f.ttl,.slice sa sl sc,.slice za zl zc,.slice ba bl bc,.slice ha hl hc,.slice ma ml mc,.slice xa xl xc,.slice ta tl tc] 37)).alloc (.cells noF 37)).heap.size) (Below.drew Zbr) hR Zlr
  have hsx:w.heap.size+2≤W.heap.size:=Nat.le_trans (Nat.le_of_eq HSZ.out.symm) hbx.size
  refine(ZdC _ na nl nc _ (HF.out.name.row.below hbx Zlr) (Zcc _ (fun _=>rfl) _) HLN.out).mono ?_
  rintro e W' ⟨⟨a',c',rfl,hr⟩,hb⟩
  exact hK _ _ hb ⟨a',c',rfl,hr.mono hsx⟩
 refine Zac rfl rfl (fun a W hR hS hdep K hK=>?_) ?_
 ·have e1:a.tmps[1]?.getD undef= .pointer (some ⟨w.heap.size,0,none⟩):=Zad (hS.keep 1 (by kernel_rfl))
  go_simp
  exact hK _ _ Zbr (by first|rfl|simp)
 refine Zac rfl rfl (fun a W hR hS hdep K hK=>?_) ?_
 ·have e7:a.tmps[7]?.getD undef= .pointer (some ⟨w.heap.size,7,none⟩):=Zad (hdep 3 (by decide+kernel))
  have m0:=Zab hR HC7.out
  go_simp
  exact hK _ _ Zbr (by first|rfl|simp)
 refine Zac rfl rfl (fun a W hR hS hdep K hK=>?_) ?_
 ·have e8:a.tmps[8]?.getD undef= .slice za zl zc:=Zad (hdep 4 (by decide+kernel))
  go_simp
  have hbx:=Zaa (B:=((w.alloc (.cells #[.slice na nl nc,.int .i64 f.typ,.int .i64 f.kind,.int .i64 f.rank,.int .i64 f.got,.int .i64 f.ttl,.slice sa sl sc,.slice za zl zc,.slice ba bl bc,.slice ha hl hc,.slice ma ml mc,.slice xa xl xc,.slice ta tl tc] 37)).alloc (.cells noF 37)).heap.size) (Below.drew Zbr) hR Zlr
  have hsx:w.heap.size+2≤W.heap.size:=Nat.le_trans (Nat.le_of_eq HSZ.out.symm) hbx.size
  refine(ZdC _ za zl zc _ (HF.out.zone.row.below hbx Zlr) (Zcc _ (fun _=>rfl) _) HLZ.out).mono ?_
  rintro e W' ⟨⟨a',c',rfl,hr⟩,hb⟩
  exact hK _ _ hb ⟨a',c',rfl,hr.mono hsx⟩
 refine Zac rfl rfl (fun a W hR hS hdep K hK=>?_) ?_
 ·have e1:a.tmps[1]?.getD undef= .pointer (some ⟨w.heap.size,0,none⟩):=Zad (hS.keep 1 (by kernel_rfl))
  go_simp
  exact hK _ _ Zbr (by first|rfl|simp)
 refine Zac rfl rfl (fun a W hR hS hdep K hK=>?_) ?_
 ·have e10:a.tmps[10]?.getD undef= .pointer (some ⟨w.heap.size,8,none⟩):=Zad (hdep 6 (by decide+kernel))
  have m0:=Zab hR HC8.out
  have m1:=Zab hR HC9.out
  have m2:=Zab hR HC10.out
  have m3:=Zab hR HC11.out
  have m4:=Zab hR HC12.out
  go_simp
  exact hK _ _ Zbr (by first|rfl|simp)
 refine Zac rfl rfl (fun a W hR hS hdep K hK=>?_) ?_
 ·have e11:a.tmps[11]?.getD undef= .agg #[.slice ba bl bc,.slice ha hl hc,.slice ma ml mc,.slice xa xl xc,.slice ta tl tc]:=Zad (hdep 7 (by decide+kernel))
  go_simp
  have hbx:=Zaa (B:=((w.alloc (.cells #[.slice na nl nc,.int .i64 f.typ,.int .i64 f.kind,.int .i64 f.rank,.int .i64 f.got,.int .i64 f.ttl,.slice sa sl sc,.slice za zl zc,.slice ba bl bc,.slice ha hl hc,.slice ma ml mc,.slice xa xl xc,.slice ta tl tc] 37)).alloc (.cells noF 37)).heap.size) (Below.drew Zbr) hR Zlr
  have hsx:w.heap.size+2≤W.heap.size:=Nat.le_trans (Nat.le_of_eq HSZ.out.symm) hbx.size
  refine(ZjC _ _ f.soa (HF.out.soa.on hbx) HSD.out).mono ?_
  rintro e W' ⟨⟨k,rfl,hk,_⟩,hb⟩
  exact hK _ _ hb ⟨k,rfl,hk.mono hsx⟩
 refine Zac rfl rfl (fun a W hR hS hdep K hK=>?_) ?_
 ·have e1:a.tmps[1]?.getD undef= .pointer (some ⟨w.heap.size,0,none⟩):=Zad (hS.keep 1 (by kernel_rfl))
  go_simp
  exact hK _ _ Zbr (by first|rfl|simp)
 exact fun j h1 h2=>absurd h1 (by omega)
def Ziu:Nat→Nat
 |0=>0
 |1=>1
 |2=>5
 |3=>12
 |4=>13
 |5=>14
 |_=>16
theorem Zl8 {t:Nat} (h:t<6):Ziu (t+1)=Ziu t+Zby t∧Ziu t+Zby t≤16:=by
 match t,h with
 |0,_|1,_|2,_|3,_|4,_|5,_=>decide
def Zdx (b:List UInt8) (t:Nat):Int:=(beN ((b.drop (Ziu t)).take (Zby t)):Int)
def ZbR (b:List UInt8):Zb7:=⟨Zdx b 0,Zdx b 1,Zdx b 2,Zdx b 3,Zdx b 4⟩
def ZbE (b:List UInt8):List UInt8:=(b.drop 16).take (Zdx b 5).toNat
def Zb8 (b:List UInt8):Int:=if b.length≠512 then 3 else if 496<Zdx b 5 then 14 else if Zb9 (ZbR b) (ZbE b)≠0∨ZcZ (ZbR b) (ZbE b)≠b then 14 else 0
def ZaO:Zb7:=⟨0,0,0,0,0⟩
def ZdN (b:List UInt8) (t:Nat):Array Value:=#[.int .i64 (if 0<t then Zdx b 0 else 0),.int .i64 (if 1<t then Zdx b 1 else 0),.int .i64 (if 2<t then Zdx b 2 else 0),.int .i64 (if 3<t then Zdx b 3 else 0),.int .i64 (if 4<t then Zdx b 4 else 0),.int .i64 (if 5<t then Zdx b 5 else 0)]
theorem Zqr (b:List UInt8) {t:Nat} (h:t<6):(ZdN b t).setIfInBounds t (.int .i64 (Zdx b t))=ZdN b (t+1):=by
 match t,h with
 |0,_|1,_|2,_|3,_|4,_|5,_=>simp[ZdN]
theorem Zqq (b:List UInt8) {t:Nat} (h:t<6):(ZdN b t)[t]?=some (.int .i64 0):=by
 match t,h with
 |0,_|1,_|2,_|3,_|4,_|5,_=>simp[ZdN]
structure ZmD (w:World) (b:List UInt8) (e:Ending) (w':World):Prop where
 ok:Zb8 b=0→∃ ao c,e= .returned (.tuple #[.agg (Zat (ZbR b)),.slice ao (ZbE b).length c,.int .i64 0])∧Own1 [5] w.heap.size w' ao (ZbE b).length c ((ZbE b).map u8V)
 bad:Zb8 b≠0→e= .returned (.tuple #[.agg (Zat ZaO),.slice none 0 0,.int .i64 (Zb8 b)])
 bel:Below w.heap.size w w'
theorem Zfs {w w':World} {b:List UInt8} {k:Int} {e:Ending} (hE:Zb8 b=k) (hk:k≠0) (he:e= .returned (.tuple #[.agg (Zat ZaO),.slice none 0 0,.int .i64 k])) (hb:Below w.heap.size w w'):ZmD w b e w':=
 ⟨fun e0=>absurd (hE.symm.trans e0) hk,fun _=>by rw[hE];exact he,hb⟩
theorem ZbD:(Tryz.prog.info? 108).map (·.size)=some 5:=by kernel_rfl
theorem Zbs (h:Zb7):(Zat h).all (·.oneCell')=true:=by simp[Zat,Value.oneCell']
theorem Zgu {w W:World} {h:Zb7} (hB:Blk W w.heap.size (Zat h) 108) (hb:Below w.heap.size w W) (H:Zb7):Blk (W.setRow w.heap.size (Zat H)) w.heap.size (Zat H) 108∧Below w.heap.size w (W.setRow w.heap.size (Zat H)):=
 ⟨ZaA hB (Zat H),hb.trans (Zam (Zav W w.heap.size (Zat H)) Zlr hb.size)⟩
theorem Row.part {w:World} {b off len cap:Nat} {vs:List Value} (h:Row w (some ⟨b,off,none⟩) len cap vs) {lo m:Nat} (hm:lo+m≤len):Row w (some ⟨b,off+lo,none⟩) m (cap-lo) ((vs.drop lo).take m):=by
 have hl:=h.hlen
 have hle:=h.hle
 refine⟨by simp;omega,by omega,by have:=h.hcap;omega,by have:=h.hmax;omega,fun e=>(by cases e),fun h0=>⟨b,off+lo,rfl,fun i hi=>?_⟩⟩
 have hi':i<m:=by simp at hi;omega
 have:=h.at (i:=lo+i) (by omega)
 rw[show off+lo+i=off+(lo+i) from by omega,this]
 simp
theorem Zcp {tmps:Array Value} {w:World} {R:Nat} {h:Zb7} {v:Value} {k:Int} (h2:tmps[2]?=some (.pointer (some ⟨R,0,none⟩))) (h3:tmps[3]?=some v) (h4:tmps[4]?=some (.int .i64 k)) (hB:Blk w R (Zat h) 108):
  (results Tryz.f91 tmps).run Tryz.prog w= .ok (.tuple #[.agg (Zat h),v,.int .i64 k]) w:=by
 have c0:=hB.cell 0
 have c1:=hB.cell 1
 have c2:=hB.cell 2
 have c3:=hB.cell 3
 have c4:=hB.cell 4
 simp[Zat] at c0 c1 c2 c3 c4
 simp[results,go_sem,h2,h3,h4,c0,c1,c2,c3,c4,Zat]
theorem Zes (w:World) (bo:Option Addr) (bl bc:Nat) (b:List UInt8) (hb:ZbP w bo bl bc b):
  Calls Tryz.prog 91 #[.slice bo bl bc] w fun e w'=>ZmD w b e w':=by
 have hlen:=hb.hlen
 rw[List.length_map] at hlen
 have hle:=hb.hle
 have hcap:=hb.hcap
 have HL:=Zhd (Zan hb hlen)
 have hz:Blk (w.alloc (.cells (Zat ZaO) 108)) w.heap.size (Zat ZaO) 108:=Zha w _
 by_cases h512:bl=512
 ·subst h512
  have HB:=Zhd hlen
  clear hlen hb
  have hz2:Blk ((w.alloc (.cells (Zat ZaO) 108)).alloc (.cells (ZdN b 0) 196)) w.heap.size (Zat ZaO) 108:=hz.on (Zbr.alloc Zlr _)
  have hA:Blk ((w.alloc (.cells (Zat ZaO) 108)).alloc (.cells (ZdN b 0) 196)) (w.heap.size+1) (ZdN b 0) 196:=by
   have:=Zha (w.alloc (.cells (Zat ZaO) 108)) (.cells (ZdN b 0) 196)
   simpa [Blk] using this
  have hb2:Below w.heap.size w ((w.alloc (.cells (Zat ZaO) 108)).alloc (.cells (ZdN b 0) 196)):=(Zbr.alloc Zlr _).alloc (by simp) _
  have HST:=Zhd (Zan hb2 (Zan hz2 hA))
  clear hz hz2 hA hb2
  go_enter Tryz.func91,Tryz.ntmps91
  go_wp2_with fail
  (try change Calls _ _ _ ((w.alloc (.cells (Zat ZaO) 108)).alloc (.cells (ZdN b 0) 196)) _)
  refine(ZfA _).mono ?_
  rintro e W0 ⟨⟨g,rfl,hg,hgB⟩,hb0⟩
  have HG:=Zhd (Zan hg hgB)
  have HS0:=Zhd (Zan (Zaa HST.out.1 hb0 Zlr) (Zan (HST.out.2.1.on hb0) (HST.out.2.2.on hb0)))
  have HB0:=Zhd hb0
  have hgn:w.heap.size+2≤g:=by have:=hgB;simp at this;omega
  clear hg hgB hb0
  go_wp2_with fail
  go_loopw [6,16] (fun pos i wr=>∃ t:Nat,t≤6∧i= .int .i64 t∧pos= .int .i64 (Ziu t:Int)∧Hid (Below w.heap.size w wr∧Blk wr w.heap.size (Zat ZaO) 108∧Blk wr (w.heap.size+1) (ZdN b t) 196∧∀ s,s<6→wr.cell? ⟨g,s,none⟩=some (.int .i64 (Zby s:Int)))) (fun _ i _=>6-(intOf i).toNat)
  case atStart=>exact⟨0,Nat.zero_le _,rfl,rfl,Zhd ⟨HS0.out.1,HS0.out.2.1,HS0.out.2.2,HG.out.1⟩⟩
  case round=>
   obtain⟨t,ht,rfl,rfl,hinv⟩:=hrel
   by_cases hlt:t<6
   ·obtain⟨zt,hzt⟩:∃ zt,zt=Zby t:=⟨_,rfl⟩
    obtain⟨po,hpo⟩:∃ po,po=Ziu t:=⟨_,rfl⟩
    obtain⟨nt,hnt⟩:∃ nt,nt=Zdx b t:=⟨_,rfl⟩
    have hz:=Zhe t
    have hst:=Zl8 hlt
    rw[←hzt] at hz hst
    rw[←hpo] at hst⊢
    have c0:wr.cell? ⟨g,t,none⟩=some (.int .i64 (zt:Int)):=by rw[hzt];exact hinv.out.2.2.2 t hlt
    have a0:wr.cell? ⟨w.heap.size+1,t,none⟩=some (.int .i64 0):=by rw[hinv.out.2.2.1.cell t];exact Zqq b hlt
    have f0:=hinv.out.2.2.1.free t
    have hg0:=ZeC wr bo 512 bc b (HL.out.1.below hinv.out.1 Zlr) po zt (by omega) hz.1 hz.2
    have hgp:Zdl b po zt=(nt,0):=by
     rw[Zdl,if_pos (by have:=HB.out;omega),hnt,Zdx,←hpo,←hzt]
    rw[hgp] at hg0
    have HGT:=Zhd hg0
    have HI:=Zhd hinv.out
    have HQ:=Zhd (Zan hzt (Zan hpo (Zan hnt hst)))
    have hpo16:po+zt≤16:=hst.2
    clear hinv hzt hpo hnt hz hst hg0 hgp
    go_wp2_with (go_at_call 135;refine HGT.out.mono ?_;rintro e W ⟨rfl,rfl⟩)
    go_roundw
    case rel=>
     have hgr:W.grownBy (W.setCell ⟨w.heap.size+1,t,none⟩ (.int .i64 nt)) (some (w.heap.size+1)):=Zag _ _ _ _
     have hset:=HI.out.2.2.1.set t (.int .i64 nt)
     rw[HQ.out.2.2.1,Zqr b hlt,←HQ.out.2.2.1] at hset
     refine⟨t+1,by omega,by go_num,congrArg (Value.int .i64) (by rw[HQ.out.2.2.2.1];push_cast;rfl),Zhd ⟨HI.out.1.trans (Zam hgr (by omega) (by have:=HI.out.1.size;omega)),HI.out.2.1.but hgr (by omega),hset,fun s hs=>?_⟩⟩
     rw[←HI.out.2.2.2 s hs]
     simp only[World.cell?]
     rw[hgr.block g ?_ (by intro e;have:=Zsi e;omega)]
     have:=World.block_lt_of_cell? W _ (HI.out.2.2.2 s hs)
     simpa using this
    case measure=>simp[intOf];omega
   ·obtain rfl:t=6:=by omega
    have HI:=Zhd hinv.out
    obtain⟨m,hm⟩:∃ m:Nat,Zdx b 5=(m:Int):=⟨_,rfl⟩
    have a5:wr.cell? ⟨w.heap.size+1,5,none⟩=some (.int .i64 (m:Int)):=by rw[hinv.out.2.2.1.cell 5,←hm];simp[ZdN]
    have HM:=Zhd hm
    clear hm hinv
    by_cases hbig:496<m
    ·have HE:=Zhd (show Zb8 b=14 by rw[Zb8,if_neg (by have:=HB.out;omega),if_pos (by have:=HM.out;omega)])
     have hz:=HI.out.2.1
     have HZ:=Zhd hz
     have HZ2:=Zhd (Zan (ZaA hz (Zat ZaO)) (HI.out.1.trans (Zam (Zav wr w.heap.size (Zat ZaO)) Zlr HI.out.1.size)))
     clear hz
     go_wp2_with (refine wpList_store_row rfl 108 _ _ rfl w.heap.size (Zat ZaO) rfl rfl 108 (Zat ZaO) HZ.out ZbD rfl (Zbs _) ?_)
     exact bodyPost_ret (v:= .tuple #[.agg (Zat ZaO),.slice none 0 0,.int .i64 14]) (Zcp rfl rfl rfl HZ2.out.1) rfl (Zfs HE.out (by decide) rfl HZ2.out.2)
    ·obtain⟨bb,off,rfl⟩:=HL.out.1.addr (k:=0) (by omega)
     have a0:wr.cell? ⟨w.heap.size+1,0,none⟩=some (.int .i64 (ZbR b).kind):=by rw[HI.out.2.2.1.cell 0];simp[ZdN,ZbR]
     have a1:wr.cell? ⟨w.heap.size+1,1,none⟩=some (.int .i64 (ZbR b).epoch):=by rw[HI.out.2.2.1.cell 1];simp[ZdN,ZbR]
     have a2:wr.cell? ⟨w.heap.size+1,2,none⟩=some (.int .i64 (ZbR b).seq):=by rw[HI.out.2.2.1.cell 2];simp[ZdN,ZbR]
     have a3:wr.cell? ⟨w.heap.size+1,3,none⟩=some (.int .i64 (ZbR b).part):=by rw[HI.out.2.2.1.cell 3];simp[ZdN,ZbR]
     have a4:wr.cell? ⟨w.heap.size+1,4,none⟩=some (.int .i64 (ZbR b).parts):=by rw[HI.out.2.2.1.cell 4];simp[ZdN,ZbR]
     obtain⟨H,hH⟩:∃ H,H=ZbR b:=⟨_,rfl⟩
     rw[←hH] at a0 a1 a2 a3 a4
     have HH:=Zhd hH
     clear hH
     have hz:=HI.out.2.1
     have HZ:=Zhd hz
     have hgr:=Zav wr w.heap.size (Zat H)
     have hnew:Blk (wr.setRow w.heap.size (Zat H)) w.heap.size (Zat H) 108:=ZaA hz (Zat H)
     have hbn:Below w.heap.size w (wr.setRow w.heap.size (Zat H)):=HI.out.1.trans (Zam hgr Zlr HI.out.1.size)
     have ha5:(wr.setRow w.heap.size (Zat H)).cell? ⟨w.heap.size+1,5,none⟩=some (.int .i64 (m:Int)):=by
      rw[(HI.out.2.2.1.but hgr (by omega)).cell 5,←HM.out];simp[ZdN]
     have hpart:=(HL.out.1.below hbn Zlr).part (lo:=16) (m:=m) (by omega)
     have hvs:((b.map fun c=>Value.int .u8 (c.toNat:Int)).drop 16).take m=(ZbE b).map u8V:=by
      rw[ZbE,HM.out,Int.toNat_natCast,List.map_take,List.map_drop];rfl
     rw[hvs] at hpart
     have HCL:=Zhd (ZlC (wr.setRow w.heap.size (Zat H)) _ m (bc-16) _ hpart (Zdu _) (by omega))
     have HNW:=Zhd (Zan hnew hbn)
     have HDL:=Zhd (show(ZbE b).length=m by rw[ZbE,HM.out,Int.toNat_natCast,List.length_take,List.length_drop,HB.out];omega)
     have hcp: ¬bc=16:=by omega
     clear hz hgr hnew hbn hpart hvs
     go_wp2_with (refine wpList_store_row rfl 108 _ _ rfl w.heap.size (Zat H) rfl rfl 108 (Zat ZaO) HZ.out ZbD rfl (Zbs _) ?_)
     clear a0 a1 a2 a3 a4 a5 ha5
     refine HCL.out.mono ?_
     rintro e W1 ⟨⟨da,dc,rfl,hd⟩,hb1⟩
     have hB1:=HNW.out.1.on hb1
     have hbw1:=Zaa HNW.out.2 hb1 Zlr
     have c0:=hB1.cell 0
     have c1:=hB1.cell 1
     have c2:=hB1.cell 2
     have c3:=hB1.cell 3
     have c4:=hB1.cell 4
     simp only[Zat] at c0 c1 c2 c3 c4
     have HD:=Zhd (Zan hd (Zan hB1 hbw1))
     have hsl:=ZiG W1 H da m dc (ZbE b) hd.row (by omega)
     simp only[Zat] at hsl
     have HSL:=Zhd hsl
     clear hd hb1 hB1 hbw1 hsl HCL
     go_wp2_with fail
     refine HSL.out.mono ?_
     rintro e W2 hres
     have hB2:=HD.out.2.1.on hres.bel
     have hw2:=Zaa HD.out.2.2 hres.bel Zlr
     have hd2:=HD.out.1.on hres.bel
     have hlt2:w.heap.size<(wr.setRow w.heap.size (Zat H)).heap.size:=HNW.out.1.lt
     have HW2:=Zhd (Zan hB2 (Zan hw2 (Zan hd2 hlt2)))
     have q0:=hB2.cell 0
     have q1:=hB2.cell 1
     have q2:=hB2.cell 2
     have q3:=hB2.cell 3
     have q4:=hB2.cell 4
     simp only[Zat] at q0 q1 q2 q3 q4
     have hEt:=HH.out
     have h512:Zb8 b=if Zb9 H (ZbE b)≠0∨ZcZ H (ZbE b)≠b then 14 else 0:=by
      rw[Zb8,if_neg (by have:=HB.out;omega),if_neg (by have:=HM.out;omega),←hEt]
     have H512:=Zhd h512
     have HRS:=Zhd hres
     clear hB2 hw2 hd2 hlt2 hEt h512 hres c0 c1 c2 c3 c4 HSL
     have HOUT:=Zhd (Zgu HW2.out.1 HW2.out.2.1)
     by_cases hse:Zb9 H (ZbE b)=0
     ·obtain⟨v,he,hown⟩:=HRS.out.ok hse
      obtain⟨sa,sc,hv,hrow⟩:=ZbG hown (by omega)
      subst hv
      subst he
      have HEQ:=Zhd (ZfH W2 sa 512 sc (ZcZ H (ZbE b)) hrow (some ⟨bb,off,none⟩) 512 bc b (HL.out.1.below HW2.out.2.1 Zlr))
      clear hown hrow
      by_cases hsame:ZcZ H (ZbE b)=b
      ·have HE:=Zhd (show Zb8 b=0 by rw[H512.out,if_neg (by rw[hse,hsame];simp)])
       have hdec:decide (ZcZ H (ZbE b)=b)=true:=by simpa using hsame
       rw[hdec] at HEQ
       clear hse hsame hdec
       go_wp2_with (first|(go_at_call 54;refine HEQ.out.mono ?_;rintro e W3 ⟨rfl,rfl⟩)|(refine wpList_store_row rfl 108 _ _ rfl w.heap.size (Zat H) rfl rfl 108 (Zat H) HW2.out.1 ZbD rfl (Zbs _) ?_))
       have HO:=HOUT.out H
       refine bodyPost_ret (v:= .tuple #[.agg (Zat H),.slice da m dc,.int .i64 0]) (Zcp rfl rfl rfl HO.1) rfl ⟨fun _=>?_,fun e=>absurd HE.out e,HO.2⟩
       refine⟨da,dc,by rw[HH.out,HDL.out],?_⟩
       rw[HDL.out]
       exact(HW2.out.2.2.1.step (Same.grown (Zav W3 _ _) (fun k hk e=>by have:=Zsi e;have:=hk.2;have:=HW2.out.2.2.2;omega))).mono (by have:=HW2.out.2.2.2;omega)
      ·have HE:=Zhd (show Zb8 b=14 by rw[H512.out,if_pos (.inr hsame)])
       have hdec:decide (ZcZ H (ZbE b)=b)=false:=by simpa using hsame
       rw[hdec] at HEQ
       clear hse hsame hdec
       go_wp2_with (first|(go_at_call 54;refine HEQ.out.mono ?_;rintro e W3 ⟨rfl,rfl⟩)|(refine wpList_store_row rfl 108 _ _ rfl w.heap.size (Zat ZaO) rfl rfl 108 (Zat H) HW2.out.1 ZbD rfl (Zbs _) ?_))
       have HO:=HOUT.out ZaO
       exact bodyPost_ret (v:= .tuple #[.agg (Zat ZaO),.slice none 0 0,.int .i64 14]) (Zcp rfl rfl rfl HO.1) rfl (Zfs HE.out (by decide) rfl HO.2)
     ·have HE:=Zhd (show Zb8 b=14 by rw[H512.out,if_pos (.inl hse)])
      have he:=HRS.out.bad hse
      obtain⟨k,hk⟩:∃ k,k=Zb9 H (ZbE b):=⟨_,rfl⟩
      rw[←hk] at he hse
      have hkb:(k !=0)=true:=by simpa using hse
      subst he
      clear hk hse
      go_wp2_with (refine wpList_store_row rfl 108 _ _ rfl w.heap.size (Zat ZaO) rfl rfl 108 (Zat H) HW2.out.1 ZbD rfl (Zbs _) ?_)
      have HO:=HOUT.out ZaO
      exact bodyPost_ret (v:= .tuple #[.agg (Zat ZaO),.slice none 0 0,.int .i64 14]) (Zcp rfl rfl rfl HO.1) rfl (Zfs HE.out (by decide) rfl HO.2)
 ·have HE:=Zhd (show Zb8 b=3 by rw[Zb8,if_pos (by omega)])
  have hne:((bl:Int)!=512)=true:=by simp;omega
  have HZ:=Zhd hz
  clear hb hlen hz
  go_enter Tryz.func91,Tryz.ntmps91
  go_wp2_with fail
  exact bodyPost_ret (v:= .tuple #[.agg (Zat ZaO),.slice none 0 0,.int .i64 3]) (Zcp rfl rfl rfl HZ.out) rfl (Zfs HE.out (by decide) rfl (Zbr.alloc Zlr _))
open Go.ChangeMaps Go.MapKept
open Go.Maps (Keyed)
def Zgj (v:Value):Option (DataW Unit×List MemPlace):=
 match v with
 | .pointer (some ⟨b,0,none⟩)=>some (.lit (.int .i64 b),[])
 | .pointer none=>some (.nil,[])
 |_=>none
theorem Zle {v:Value} {b:Nat} {ps:List MemPlace} (h:Zgj v=some (.lit (.int .i64 b),ps)):v= .pointer (some ⟨b,0,none⟩):=by
 unfold Zgj at h
 split at h
 ·rename_i b'
  simp at h
  obtain rfl:b'=b:=by have:=h.1;omega
  rfl
 ·simp at h
 ·cases h
theorem Zlf {v:Value} {ps:List MemPlace} (h:Zgj v=some (.nil,ps)):v= .pointer none:=by
 unfold Zgj at h
 split at h
 ·simp at h
 ·rfl
 ·cases h
structure ZaP where
 b:Nat
 h:ZaU
 f:Zas
 used:Nat
def Zdb (s:ZaP):Array Value:=#[.slice s.h.na s.h.nl s.h.nc,.int .i64 s.f.typ,.int .i64 s.f.kind,.int .i64 s.f.rank,.int .i64 s.f.got,.int .i64 s.f.ttl,.slice s.h.sa s.h.sl s.h.sc,.slice s.h.za s.h.zl s.h.zc,
 .slice s.h.d.ba s.h.d.bl s.h.d.bc,.slice s.h.d.ha s.h.d.hl s.h.d.hc,.slice s.h.d.ma s.h.d.ml s.h.d.mc,.slice s.h.d.na s.h.d.nl s.h.d.nc,.slice s.h.d.ta s.h.d.tl s.h.d.tc,.int .i64 s.used]
def atL (L:List ZaP) (key:List UInt8):Option ZaP:=L.find? fun s=>decide (Zax s.f=key)
abbrev Zj2:Keyed Tryz.prog 9:=Maps.string_keyed Tryz.underlying9
def MapL (w:World) (M:Nat) (L:List ZaP):Prop:=
 ∃ n D,w.ownsMap Tryz.prog 9 Zgj M n D∧n≤1000000∧Maps.size D=L.length∧∀ key z,D.atKey (.string key) z=(match atL L key with|some s=> .lit (.int .i64 s.b)|none=>z)
def gT:List TypeId:=[5,9,3,35,37,55,134,86,98,106,62,22,31,4,205,66,113,24,95,46,2,32,41]
structure IsCache (B:Nat) (w:World) (C:Nat) (most stale:Int) (clock:Nat) (L:List ZaP):Prop where
 ex:∃ M,Blk w C #[.int .i64 most,.int .i64 stale,.map (some M),.int .i64 clock] 78∧B≤M∧MapL w M L
 base:B≤C
 slot:∀ s∈L,B≤s.b∧Blk w s.b (Zdb s) 82∧IsFact (Zak fT w) w s.h s.f∧Zbl s.f=true∧Zmy s.f
 apart:L.Pairwise fun a b=>a.b≠b.b
 keys:L.Pairwise fun a b=>Zax a.f≠Zax b.f
 used:∀ s∈L,s.used≤clock
 order:L.Pairwise fun a b=>a.used<b.used
theorem MapL.on {w w':World} {M:Nat} {L:List ZaP} (h:MapL w M L) (hb:w'.heap[M]?=w.heap[M]?):MapL w' M L:=by
 obtain⟨n,D,⟨es,clock,h1,h2⟩,r⟩:=h
 exact⟨n,D,⟨es,clock,hb.trans h1,h2⟩,r⟩
theorem MapL.lt {w:World} {M:Nat} {L:List ZaP} (h:MapL w M L):M<w.heap.size:=by
 obtain⟨n,D,h1,_⟩:=h
 exact h1.lt
theorem IsCache.on {B:Nat} {w w':World} {C:Nat} {most stale:Int} {clock:Nat} {L:List ZaP} (h:IsCache B w C most stale clock L) (hb:Below w.heap.size w w'):IsCache B w' C most stale clock L:=by
 obtain⟨M,h1,h2,h3⟩:=h.ex
 exact⟨⟨M,h1.on hb,h2,h3.on (hb.block M h3.lt)⟩,h.base,fun s hs=>by
  obtain⟨a,b,c,d⟩:=h.slot s hs
  exact⟨a,b.on hb,c.step (Same.below hb _),d⟩,h.apart,h.keys,h.used,h.order⟩
theorem ZoH (w:World):(zeroValue 79).run Tryz.prog w= .ok (.pointer none) w:=by kernel_rfl
theorem Zga {key:List UInt8} (h:key.length≤4611686018427387904):keyOf Tryz.prog 9 (.string ⟨key.toArray⟩)=some (.string key):=by
 have:=Go.WideMaps.keyOf_string_mk (P:=Tryz.prog) Tryz.underlying9 (s:=⟨key.toArray⟩) (by unfold maxLen;show key.toArray.size≤_;simp;omega)
 simpa using this
theorem MapL.look {w:World} {M:Nat} {L:List ZaP} (h:MapL w M L) {key:List UInt8} (hk:key.length≤4611686018427387904):
  (Instr.lookup 76 (.map (some M)) (.string ⟨key.toArray⟩) false).run Tryz.prog w= .ok (match atL L key with|some s=> .pointer (some ⟨s.b,0,none⟩)|none=> .pointer none) w:=by
 obtain⟨n,D,h1,_,_,h4⟩:=h
 obtain⟨v,ps,hrun,hv⟩:=h1.lookup Zj2 Tryz.underlying76 (ZoH w) (zd:= .nil) (zp:=[]) rfl (Zga hk)
 rw[hrun]
 rw[h4] at hv
 cases hat:atL L key with
 |none=>rw[hat] at hv;rw[Zlf hv]
 |some s=>rw[hat] at hv;rw[Zle hv]
theorem MapL.look_ok {w:World} {M:Nat} {L:List ZaP} (h:MapL w M L) {key:List UInt8} (hk:key.length≤4611686018427387904):
  (Instr.lookup 76 (.map (some M)) (.string ⟨key.toArray⟩) true).run Tryz.prog w= .ok (match atL L key with|some s=> .tuple #[.pointer (some ⟨s.b,0,none⟩),.bool true]|none=> .tuple #[.pointer none,.bool false]) w:=by
 obtain⟨n,D,h1,_,_,h4⟩:=h
 obtain⟨v,ps,hrun,hv⟩:=h1.look_ok Zj2 Tryz.underlying76 (ZoH w) (zd:= .nil) (zp:=[]) rfl (Zga hk)
 rw[hrun]
 have h5:=h4 key
 rw[h4] at hv
 cases hat:atL L key with
 |none=>
  rw[hat] at hv h5
  rw[Zlf hv,Maps.has_false_of_atKey h5]
 |some s=>
  rw[hat] at hv h5
  rw[Zle hv,Maps.has_true_of_atKey h5]
theorem MapL.len {w:World} {M:Nat} {L:List ZaP} (h:MapL w M L) (ty:TypeId):(Builtin.len_ #[76] ty #[.map (some M)]).run Tryz.prog w= .ok (.int .i64 L.length) w:=by
 obtain⟨n,D,h1,_,h3,_⟩:=h
 rw[h1.len Tryz.underlying76 ty,h3]
theorem ZfG {L:List ZaP} {key:List UInt8} {s:ZaP} (h:atL L key=some s):s∈L∧Zax s.f=key:=by
 refine⟨List.mem_of_find?_eq_some h,?_⟩
 have:=List.find?_some h
 simpa using this
theorem ZkJ {L:List ZaP} {key:List UInt8} (h:atL L key=none):∀ s∈L,Zax s.f≠key:=fun s hs e=>by
 have:=List.find?_eq_none.1 h s hs
 simp[e] at this
def ZdH (L:List ZaP) (key:List UInt8):List ZaP:=L.filter fun s=>decide (Zax s.f≠key)
theorem ZmM (L:List ZaP) (key k:List UInt8):atL (ZdH L key) k=if k=key then none else atL L k:=by
 induction L with
 |nil=>simp[ZdH,atL]
 |cons s L ih=>
  simp only[ZdH,atL] at ih⊢
  by_cases h1:Zax s.f=key
  ·rw[List.filter_cons_of_neg (by simp[h1])]
   by_cases h2:k=key
   ·rw[ih,if_pos h2,if_pos h2]
   ·rw[ih,if_neg h2,if_neg h2,List.find?_cons_of_neg (by simp[h1];exact fun e=>h2 e.symm)]
  ·rw[List.filter_cons_of_pos (by simp[h1])]
   by_cases h3:Zax s.f=k
   ·rw[List.find?_cons_of_pos (by simp[h3]),List.find?_cons_of_pos (by simp[h3]),if_neg (by rw[←h3];exact h1)]
   ·rw[List.find?_cons_of_neg (by simp[h3]),List.find?_cons_of_neg (by simp[h3]),ih]
theorem ZkK (L:List ZaP) (s:ZaP) (k:List UInt8):atL (L++[s]) k=(match atL L k with|some x=>some x|none=>if Zax s.f=k then some s else none):=by
 simp only[atL,List.find?_append]
 cases h:List.find? (fun s=>decide (Zax s.f=k)) L with
 |some x=>simp
 |none=>
  by_cases h2:Zax s.f=k<;>simp[h2]
theorem Ziw {L:List ZaP} {key:List UInt8} (h:atL L key=none):ZdH L key=L:=by
 rw[ZdH,List.filter_eq_self]
 intro s hs
 simp[ZkJ h s hs]
theorem ZnT {L:List ZaP} {key:List UInt8} {s:ZaP} (hk:L.Pairwise fun a b=>Zax a.f≠Zax b.f) (h:atL L key=some s):(ZdH L key).length+1=L.length:=by
 induction L with
 |nil=>cases h
 |cons x L ih=>
  obtain⟨h1,h2⟩:=List.pairwise_cons.1 hk
  by_cases hx:Zax x.f=key
  ·have hn:atL L key=none:=List.find?_eq_none.2 fun y hy=>by simp;exact fun e=>h1 y hy (hx.trans e.symm)
   have:=Ziw hn
   simp only[ZdH] at this⊢
   rw[List.filter_cons_of_neg (by simp[hx]),this,List.length_cons]
  ·have h3:atL L key=some s:=by
    simp only[atL] at h⊢
    rwa [List.find?_cons_of_neg (by simp[hx])] at h
   have:=ih h2 h3
   simp only[ZdH] at this⊢
   rw[List.filter_cons_of_pos (by simp[hx]),List.length_cons,List.length_cons,this]
theorem MapL.store {w:World} {M:Nat} {L:List ZaP} (h:MapL w M L) (hk:L.Pairwise fun a b=>Zax a.f≠Zax b.f) (hL:L.length<100000) (s:ZaP) (hs:(Zax s.f).length≤4611686018427387904):
  ∃ w',(Instr.mapUpdate 76 (.map (some M)) (.string ⟨(Zax s.f).toArray⟩) (.pointer (some ⟨s.b,0,none⟩))).run Tryz.prog w= .ok () w'∧MapL w' M (ZdH L (Zax s.f)++[s])∧w.grownBy w' (some M)∧w'.heap.size=w.heap.size:=by
 obtain⟨n,D,h1,h2,h3,h4⟩:=h
 have hsz:w.ownsMap Tryz.prog 9 Zgj M L.length D:=by
  obtain⟨es,clock,hb,F,_,hD⟩:=h1
  refine⟨es,clock,hb,F,?_,hD⟩
  rw[hD] at h3
  simp[Maps.size,length_sorted] at h3
  omega
 obtain⟨w',hrun,hown,hturn⟩:=hsz.store Zj2 Tryz.underlying76 (by unfold maxLen;omega) (Zga hs) (val:= .pointer (some ⟨s.b,0,none⟩)) (d:= .lit (.int .i64 s.b)) (ps:=[]) rfl
 have hg:=hturn.grown
 have hat:∀ key z,(D.put (.string (Zax s.f)) (.lit (.int .i64 s.b))).atKey (.string key) z=(match atL (ZdH L (Zax s.f)++[s]) key with|some s=> .lit (.int .i64 s.b)|none=>z):=by
  intro key z
  rw[ZkK,ZmM]
  by_cases hkk:key=Zax s.f
  ·subst hkk
   rw[if_pos rfl,Maps.atKey_put_same h1.isMap (Zj2.key (Zga hs))]
   simp
  ·rw[if_neg hkk,Maps.atKey_put_other (by intro e;cases e;exact hkk rfl),h4]
   cases atL L key with
   |some x=>rfl
   |none=>rw[if_neg (fun e=>hkk e.symm)]
 refine⟨w',hrun,⟨_,_,hown,by omega,?_,hat⟩,hg,?_⟩
 ·rw[Maps.size_put (h1.tidy Zj2),h3,Zla,List.length_singleton]
  have h5:=h4 (Zax s.f)
  cases hh:atL L (Zax s.f) with
  |none=>rw[hh] at h5;rw[Maps.has_false_of_atKey h5,Ziw hh];simp
  |some x=>
   rw[hh] at h5
   rw[Maps.has_true_of_atKey h5,if_pos rfl]
   exact(ZnT hk hh).symm
 ·obtain⟨es,clock,es',clock',hb,rfl⟩:=hturn
  simp[Go.ChangeMaps.setBlock]
structure Zaz where
 sure:List (List UInt8×Bool)
 unsure:List (Nat×List UInt8)
 limit:Nat
 down:Bool
def Zlm (s:List UInt8×Bool):List Value:=s.1.map u8V++[.bool s.2]
def Zct (l:List (List UInt8×Bool)):List Value:=l.flatMap Zlm
theorem Zfz {s:List UInt8×Bool} (h:s.1.length=512):(Zlm s).length=513:=by simp[Zlm,h]
theorem ZgA:∀ {l:List (List UInt8×Bool)},(∀ s∈l,s.1.length=512)→(Zct l).length=l.length*513
 |[],_=>rfl
 |s::l,h=>by
  have ih:=ZgA (l:=l) (fun x hx=>h x (List.mem_cons_of_mem _ hx))
  have hs:=Zfz (h s List.mem_cons_self)
  simp only[Zct,List.flatMap_cons,Zla,List.length_cons] at ih⊢
  omega
theorem Zgz:∀ {l:List (List UInt8×Bool)},(∀ s∈l,s.1.length=512)→∀ (k:Nat) (hk:k<l.length) (j:Nat),j<513→(Zct l)[k*513+j]?=(Zlm l[k])[j]?
 |[],_,k,hk,_,_=>absurd hk (by simp)
 |s::l,h,0,_,j,hj=>by
  have hs:=Zfz (h s List.mem_cons_self)
  simp only[Zct,List.flatMap_cons,Nat.zero_mul,Nat.zero_add,List.getElem_cons_zero]
  rw[List.getElem?_append_left (by omega)]
 |s::l,h,k+1,hk,j,hj=>by
  have hs:=Zfz (h s List.mem_cons_self)
  have ih:=Zgz (l:=l) (fun x hx=>h x (List.mem_cons_of_mem _ hx)) k (by simpa using hk) j hj
  simp only[Zct,List.flatMap_cons,List.getElem_cons_succ] at ih⊢
  rw[List.getElem?_append_right (by omega),hs,show(k+1)*513+j-513=k*513+j from by omega,ih]
theorem Zln:∀ {l:List (List UInt8×Bool)},(∀ s∈l,s.1.length=512)→∀ (k:Nat),k<l.length→∀ (x:List UInt8×Bool),Zct (l.set k x)=(Zct l).take (k*513)++(Zlm x++(Zct l).drop (k*513+513))
 |[],_,k,hk,_=>absurd hk (by simp)
 |s::l,h,0,_,x=>by
  have hs:=Zfz (h s List.mem_cons_self)
  simp only[Zct,List.set_cons_zero,List.flatMap_cons,Nat.zero_mul,List.take_zero,List.nil_append,Nat.zero_add]
  rw[List.drop_append,hs,Nat.sub_self,List.drop_zero,List.drop_of_length_le (by omega),List.nil_append]
 |s::l,h,k+1,hk,x=>by
  have hs:=Zfz (h s List.mem_cons_self)
  have ih:=Zln (l:=l) (fun x hx=>h x (List.mem_cons_of_mem _ hx)) k (by simpa using hk) x
  simp only[Zct,List.set_cons_succ,List.flatMap_cons] at ih⊢
  rw[ih,List.take_append,List.drop_append,hs,List.take_of_length_le (l:=Zlm s) (by omega),List.drop_of_length_le (l:=Zlm s) (by omega),show(k+1)*513-513=k*513 from by omega,show(k+1)*513+513-513=k*513+513 from by omega,List.nil_append,List.append_assoc]
def ZfD:Kind (Nat×List UInt8) where
 H:=Option Addr×Nat
 size:=2
 cells:=fun h x=>#[.int .i64 (x.1:Int),.slice h.1 512 h.2]
 is:=fun S w h x=>ZbP w h.1 512 h.2 x.2∧rowIn S h.1 512
 hsize:=fun _ _=>rfl
 pos:=by decide
 one:=fun h x u hu=>by
  simp at hu
  rcases hu with rfl|rfl<;>rfl
 mono:=fun h hS=>⟨h.1,h.2.mono h.1 hS⟩
 keep:=fun h hs=>⟨h.1.keep h.2 hs,h.2⟩
structure IsDev (B:Nat) (w:World) (D:Nat) (d:Zaz):Prop where
 ex:∃ SU v,Blk w D #[.slice (some ⟨SU,0,none⟩) d.sure.length d.sure.length,v,.int .i64 (d.limit:Int),.bool d.down] 55∧Blk w SU (Zct d.sure).toArray 134∧B≤SU∧Gath ZfD [5] 86 B w v d.unsure
 base:B≤D
 pos:0<d.sure.length
 le:d.sure.length≤4096
 lens:∀ s∈d.sure,s.1.length=512
 ulens:∀ u∈d.unsure,u.2.length=512∧u.1<d.sure.length
 lim:d.limit≤1000000000
 cnt:d.unsure.length≤900000
theorem IsDev.on {B:Nat} {w w':World} {D:Nat} {d:Zaz} (h:IsDev B w D d) (hb:Below w.heap.size w w'):IsDev B w' D d:=by
 obtain⟨SU,v,h1,h2,h3,h4⟩:=h.ex
 exact⟨⟨SU,v,h1.on hb,h2.on hb,h3,h4.on hb⟩,h.base,h.pos,h.le,h.lens,h.ulens,h.lim,h.cnt⟩
def lastW (u:List (Nat×List UInt8)) (pos:Nat):Option (List UInt8):=(u.reverse.find? fun x=>x.1==pos).map (·.2)
theorem ZhO {u:List (Nat×List UInt8)} {pos r:Nat} (h:r<u.length):lastW (u.take (r+1)) pos=if (u[r]).1=pos then some u[r].2 else lastW (u.take r) pos:=by
 unfold lastW
 rw[List.take_succ_eq_append_getElem h,List.reverse_append,List.reverse_singleton,List.singleton_append]
 by_cases he:(u[r]).1=pos
 ·rw[if_pos he,List.find?_cons_of_pos (by simpa using he)];rfl
 ·rw[if_neg he,List.find?_cons_of_neg (by simpa using he)]
def Zbg (d:Zaz) (pos:Nat):Option (List UInt8):=match lastW d.unsure pos with
 |some b=>some b
 |none=>match d.sure[pos]? with
  |some s=>if s.2=true then none else some s.1
  |none=>none
theorem ZdQ (w:World) (B D:Nat) (d:Zaz) (hd:IsDev B w D d):Calls Tryz.prog 19 #[.pointer (some ⟨D,0,none⟩)] w fun e w'=>e= .returned (.int .i64 (d.sure.length:Int))∧w'=w:=by
 obtain⟨SU,v,h1,_⟩:=hd.ex
 have c0:w.cell? ⟨D,0,none⟩=some (.slice (some ⟨SU,0,none⟩) d.sure.length d.sure.length):=h1.cell 0
 clear h1 hd
 go_enter Tryz.func19,Tryz.ntmps19
 go_wp2_with fail
 go_ret
 exact⟨rfl,rfl⟩
theorem Zfd (w:World) (B D:Nat) (d:Zaz) (hd:IsDev B w D d):Calls Tryz.prog 43 #[.pointer (some ⟨D,0,none⟩)] w fun e w'=>e= .returned (.bool d.down)∧w'=w:=by
 obtain⟨SU,v,h1,_⟩:=hd.ex
 have c3:w.cell? ⟨D,3,none⟩=some (.bool d.down):=h1.cell 3
 clear h1 hd
 go_enter Tryz.func43,Tryz.ntmps43
 go_wp2_with fail
 go_ret
 exact⟨rfl,rfl⟩
def Zc6 (d:Zaz) (pos:Nat):Int:=if d.down=true then 8 else if d.sure.length≤pos then 1 else 0
theorem ZhK (w:World) (B D:Nat) (d:Zaz) (hd:IsDev B w D d) (pos:Nat):Calls Tryz.prog 136 #[.pointer (some ⟨D,0,none⟩),.int .i64 (pos:Int)] w fun e w'=>e= .returned (.int .i64 (Zc6 d pos))∧w'=w:=by
 obtain⟨SU,v,h1,_⟩:=hd.ex
 have c0:w.cell? ⟨D,0,none⟩=some (.slice (some ⟨SU,0,none⟩) d.sure.length d.sure.length):=h1.cell 0
 have c3:w.cell? ⟨D,3,none⟩=some (.bool d.down):=h1.cell 3
 clear h1 hd
 cases hdn:d.down with
 |true=>
  have HE:=Zhd (show Zc6 d pos=8 by simp[Zc6,hdn])
  rw[hdn] at c3
  clear hdn
  go_enter Tryz.func136,Tryz.ntmps136
  go_wp2_with fail
  go_ret
  exact⟨Zbh HE.out.symm,rfl⟩
 |false=>
  rw[hdn] at c3
  obtain⟨n,hn⟩:∃ n,n=d.sure.length:=⟨_,rfl⟩
  rw[←hn] at c0
  by_cases hp:n≤pos
  ·have HE:=Zhd (show Zc6 d pos=1 by simp[Zc6,hdn,←hn,hp])
   clear hdn hn
   have hp2:decide ((n:Int)≤(pos:Int))=true:=by simp;omega
   go_enter Tryz.func136,Tryz.ntmps136
   go_wp2_with fail
   go_ret
   exact⟨Zbh HE.out.symm,rfl⟩
  ·have HE:=Zhd (show Zc6 d pos=0 by simp[Zc6,hdn,←hn,hp])
   clear hdn hn
   have hp2:decide ((n:Int)≤(pos:Int))=false:=by simp;omega
   go_enter Tryz.func136,Tryz.ntmps136
   go_wp2_with fail
   go_ret
   exact⟨Zbh HE.out.symm,rfl⟩
structure Zqm (w:World) (d:Zaz) (pos:Nat) (e:Ending) (w':World):Prop where
 down:d.down=true→e= .returned (.tuple #[.slice none 0 0,.int .i64 8])
 ok:d.down=false→∀ b,Zbg d pos=some b→∃ ao c,e= .returned (.tuple #[.slice ao 512 c,.int .i64 0])∧Own1 [5] w.heap.size w' ao 512 c (b.map u8V)∧b.length=512
 torn:d.down=false→Zbg d pos=none→e= .returned (.tuple #[.slice none 0 0,.int .i64 9])
 bel:Below w.heap.size w w'
theorem ZgI (w:World) (B D:Nat) (d:Zaz) (hd:IsDev B w D d) (pos:Nat) (hp:pos<d.sure.length):Calls Tryz.prog 83 #[.pointer (some ⟨D,0,none⟩),.int .i64 (pos:Int)] w fun e w'=>Zqm w d pos e w':=by
 have hck:=ZhK w B D d hd pos
 obtain⟨SU,v,h1,h2,h3,h4⟩:=hd.ex
 obtain⟨ao,c,hv,hsq,hab⟩:=h4.seq
 subst hv
 have c0:w.cell? ⟨D,0,none⟩=some (.slice (some ⟨SU,0,none⟩) d.sure.length d.sure.length):=h1.cell 0
 have c1:w.cell? ⟨D,1,none⟩=some (.slice ao d.unsure.length c):=h1.cell 1
 have hle:=hsq.hle
 have hcnt:=hd.cnt
 have hle2:=hd.le
 cases hdn:d.down with
 |true=>
  have HE:=Zhd (show Zc6 d pos=8 by simp[Zc6,hdn])
  rw[HE.out] at hck
  have HCK:=Zhd hck
  have HDN:=Zhd hdn
  clear hck hdn h1 h2 h4 hsq hab hd
  go_enter Tryz.func83,Tryz.ntmps83
  go_wp2_with (go_at_call 136;refine HCK.out.mono ?_;rintro e W ⟨rfl,rfl⟩)
  go_ret2
  exact⟨fun _=>rfl,fun e=>absurd (HDN.out.symm.trans e) (by decide),fun e=>absurd (HDN.out.symm.trans e) (by decide),Below.refl _ _⟩
 |false=>
  have HE:=Zhd (show Zc6 d pos=0 by simp[Zc6,hdn];omega)
  rw[HE.out] at hck
  have HCK:=Zhd hck
  have HDN:=Zhd hdn
  have HD:=Zhd hd
  have HSQ:=Zhd hsq
  have HSU:=Zhd h2
  have HPP:=Zhd hp
  clear hck hdn h1 h2 h4 hsq hab hd hp
  obtain⟨n,hn⟩:∃ n,n=d.unsure.length:=⟨_,rfl⟩
  obtain⟨ns,hns⟩:∃ ns,ns=d.sure.length:=⟨_,rfl⟩
  rw[←hn] at c1 hle hcnt
  rw[←hns] at c0 hle2
  have HN:=Zhd (Zan hn hns)
  clear hn hns
  go_enter Tryz.func83,Tryz.ntmps83
  go_wp2_with (go_at_call 136;refine HCK.out.mono ?_;rintro e W ⟨rfl,rfl⟩)
  go_loopw [7] (fun i wr=>∃ t:Nat,t≤n∧i= .int .i64 ((t:Int)-1)∧wr=W∧Hid (lastW d.unsure pos=lastW (d.unsure.take t) pos)) (fun i _=>(intOf i+1).toNat)
  case atStart=>exact⟨n,Nat.le_refl _,rfl,rfl,Zhd (by rw[HN.out.1,List.take_length])⟩
  case round=>
   obtain⟨t,ht,rfl,rfl,hinv⟩:=hrel
   by_cases h0:t=0
   ·subst h0
    have hlast:lastW d.unsure pos=none:=by rw[hinv.out];rfl
    have HLS:=Zhd hlast
    clear hinv hlast
    have hm1:((0:Nat):Int)-1= -1:=by decide
    rw[hm1]
    clear hm1
    have hps:pos<d.sure.length:=HPP.out
    obtain⟨s,hs⟩:∃ s,s=d.sure[pos]:=⟨_,rfl⟩
    have hsl:=HD.out.lens s (by rw[hs];exact List.getElem_mem _)
    have hcell:∀ j,j<513→wr.cell? ⟨SU,pos*513+j,none⟩=(Zlm s)[j]?:=fun j hj=>by
     rw[HSU.out.cell (pos*513+j),hs,←Zgz HD.out.lens pos hps j hj,List.getElem?_toArray]
    have q1:wr.cell? ⟨SU,pos*513+512,none⟩=some (.bool s.2):=by
     rw[hcell 512 (by omega),Zlm,List.getElem?_append_right (by simp[hsl])]
     simp[hsl]
    have hrow:Row wr (some ⟨SU,pos*513,none⟩) 512 512 (s.1.map u8V):=by
     refine⟨by simp[hsl],Nat.le_refl _,by omega,by omega,fun e=>(by cases e),fun _=>⟨SU,pos*513,rfl,fun i hi=>?_⟩⟩
     have hi':i<512:=by simpa [hsl] using hi
     rw[hcell i (by omega),Zlm,List.getElem?_append_left (by simp[hsl];exact hi'),List.getElem?_eq_getElem]
    have HRP:=Zhd (show Zbg d pos=if s.2=true then none else some s.1 by rw[Zbg,HLS.out,List.getElem?_eq_getElem hps,←hs])
    have HCL:=Zhd (Zc0 wr _ 512 512 _ hrow (Zdu s.1) (by omega))
    have HSL:=Zhd hsl
    have hpn:pos<ns:=by rw[HN.out.2];exact hps
    have hp4:pos*513≤2101248:=by omega
    clear hs hsl hcell hrow hps
    cases htn:s.2 with
    |true=>
     rw[htn] at q1
     have HTN:=Zhd htn
     clear htn
     go_wp2_with fail
     go_ret2
     exact⟨fun e=>absurd (HDN.out.symm.trans e) (by decide),fun _ b hb=>(by rw[HRP.out,if_pos HTN.out] at hb;cases hb),fun _ _=>rfl,Below.refl _ _⟩
    |false=>
     rw[htn] at q1
     have HTN:=Zhd htn
     clear htn
     go_wp2_with (go_at_call 129;refine HCL.out.mono ?_;rintro e W2 ⟨⟨ao',c',rfl,ho⟩,hb⟩;have HO:=Zhd (Zan ho hb);clear ho hb)
     go_ret2
     exact⟨fun e=>absurd (HDN.out.symm.trans e) (by decide),fun _ b hb=>by
      rw[HRP.out,if_neg (by rw[HTN.out];decide)] at hb
      cases hb
      exact⟨_,_,rfl,HO.out.1,HSL.out⟩,fun _ hn=>(by rw[HRP.out,if_neg (by rw[HTN.out];decide)] at hn;cases hn),HO.out.2⟩
   ·obtain⟨r,rfl⟩:∃ r,t=r+1:=⟨t-1,by omega⟩
    have hr1:((r+1:Nat):Int)-1=(r:Int):=by omega
    rw[hr1]
    clear hr1 h0
    have hrn:r<n:=by omega
    have hru:r<d.unsure.length:=by rw[←HN.out.1];exact hrn
    obtain⟨b0,off,rfl⟩:=HSQ.out.addr hru
    obtain⟨k,hk1,hk2,hk3⟩:=HSQ.out.at hru
    have e0:=hk1 0 (by decide)
    have e1:=hk1 1 (by decide)
    simp[ZfD] at e0 e1
    obtain⟨u,hu⟩:∃ u,u=d.unsure[r]:=⟨_,rfl⟩
    have hst:=ZhO (pos:=pos) hru
    rw[←hu] at e0 hk2 hst
    have hul:=HD.out.ulens u (by rw[hu];exact List.getElem_mem _)
    rw[←hinv.out] at hst
    have HK2:=Zhd hk2
    have HUL:=Zhd hul.1
    by_cases hat:u.1=pos
    ·rw[if_pos hat] at hst
     have hatb:((u.1:Int)==(pos:Int))=true:=by simp;omega
     have HRP:=Zhd (show Zbg d pos=some u.2 by rw[Zbg,hst])
     have HCL:=Zhd (Zc0 wr k.1 512 k.2 _ hk2 (Zdu u.2) (by omega))
     clear hk1 hk2 hk3 hu hst hul hat hinv hru
     go_wp2_with (go_at_call 129;refine HCL.out.mono ?_;rintro e W2 ⟨⟨ao',c',rfl,ho⟩,hb⟩;have HO:=Zhd (Zan ho hb);clear ho hb)
     go_ret2
     exact⟨fun e=>absurd (HDN.out.symm.trans e) (by decide),fun _ b hb=>by
      rw[HRP.out] at hb
      cases hb
      exact⟨_,_,rfl,HO.out.1,HUL.out⟩,fun _ hn=>(by rw[HRP.out] at hn;cases hn),HO.out.2⟩
    ·rw[if_neg hat] at hst
     have hatb:((u.1:Int)==(pos:Int))=false:=by simp;omega
     have HST:=Zhd hst
     clear hk1 hk2 hk3 hu hst hul hat hinv hru
     go_wp2_with fail
     go_roundw
     case rel=>exact⟨r,by omega,rfl,trivial,HST⟩
     case measure=>simp[intOf]
structure Only (S:List TypeId) (B:Nat) (w w':World):Prop where
 bel:Below B w w'
 keep:∀ b,b<w.heap.size→¬Zak S w b→w'.heap[b]?=w.heap[b]?
theorem Only.refl (S:List TypeId) (B:Nat) (w:World):Only S B w w:=⟨Below.refl _ _,fun _ _ _=>rfl⟩
theorem Only.below {S:List TypeId} {B:Nat} {w w':World} (h:Below w.heap.size w w') (hB:B≤w.heap.size):Only S B w w':=⟨h.mono hB,fun b hb _=>h.block b hb⟩
theorem Only.trans {S:List TypeId} {B:Nat} {a b c:World} (h:Only S B a b) (k:Only S B b c):Only S B a c:=
 ⟨h.bel.trans k.bel,fun x hx hn=>by
  have e:=h.keep x hx hn
  have hl:x<b.heap.size:=by have:=h.bel.size;omega
  rw[k.keep x hl (fun ht=>hn (by obtain⟨cs,t,h1,h2⟩:=ht;exact⟨cs,t,e▸h1,h2⟩)),e]⟩
theorem Only.mono {S S':List TypeId} {B:Nat} {w w':World} (h:Only S B w w') (hs:∀ t∈S,t∈S'):Only S' B w w':=⟨h.bel,fun b hb hn=>h.keep b hb (fun ht=>hn (Za4 ht hs))⟩
theorem Only.blk {S:List TypeId} {B:Nat} {w w':World} {g:Nat} {cs:Array Value} {T:TypeId} (h:Only S B w w') (hb:Blk w g cs T) (hT:T∉S):Blk w' g cs T:=by
 unfold Blk at hb⊢
 rw[h.keep g (Array.getElem?_eq_some_iff.1 hb).1 (fun ⟨cs',t,h1,h2⟩=>by rw[hb] at h1;cases h1;exact hT h2),hb]
theorem Only.same {S T:List TypeId} {B:Nat} {w w':World} (h:Only S B w w') (hd:∀ t∈T,t∉S):Same (Zak T w) w w':=fun b hb ht=>h.keep b hb (fun hs=>by
 obtain⟨c1,t1,h1,k1⟩:=ht
 obtain⟨c2,t2,h2,k2⟩:=hs
 rw[h1] at h2
 cases h2
 exact hd _ k1 k2)
theorem Only.but {S:List TypeId} {B:Nat} {w w':World} {g:Nat} {cs:Array Value} {T:TypeId} (hg:w.grownBy w' (some g)) (hb:Blk w g cs T) (hT:T∈S) (hB:B≤g):Only S B w w':=by
 have hl:=(Array.getElem?_eq_some_iff.1 (show w.heap[g]?=_ from hb)).1
 exact⟨Zam hg hB (by omega),fun b hb' hn=>hg.block b hb' (fun e=>hn (by cases e;exact⟨cs,T,hb,hT⟩))⟩
def dvT:List TypeId:=[55,134,86]
theorem ZoX {B:Nat} {w w':World} {D SU l':Nat} {d:Zaz} {v:Value} {dn':Bool} (hd:IsDev B w D d) (h2:Blk w SU (Zct d.sure).toArray 134) (h3:B≤SU) (h1:Blk w D #[.slice (some ⟨SU,0,none⟩) d.sure.length d.sure.length,v,.int .i64 (d.limit:Int),.bool d.down] 55) (hg:w.grownBy w' (some D))
  (h4:Gath ZfD [5] 86 B w v d.unsure) (hB:Blk w' D #[.slice (some ⟨SU,0,none⟩) d.sure.length d.sure.length,v,.int .i64 (l':Int),.bool dn'] 55) (hl:l'≤1000000000):IsDev B w' D {d with limit:=l',down:=dn'}:=by
 have hne:SU≠D:=Zbe (T:=[134]) h1 (by decide) ⟨_,_,h2,List.mem_cons_self⟩
 exact⟨⟨SU,v,hB,h2.but hg hne,h3,h4.step (Same.grown hg (fun b ht e=>by
  have e:=Zsi e
  subst e
  exact Zbe h1 (by decide) ht rfl))⟩,hd.base,hd.pos,hd.le,hd.lens,hd.ulens,hl,hd.cnt⟩
def spendP (d:Zaz):Zaz:=if d.limit=0 then d else{d with limit:=d.limit-1,down:=decide (d.limit=1)}
def Zbu (d:Zaz):Bool:=decide (d.limit≠1)
theorem ZhL (w:World) (B D:Nat) (d:Zaz) (hd:IsDev B w D d):Calls Tryz.prog 118 #[.pointer (some ⟨D,0,none⟩)] w fun e w'=>e= .returned (.bool (Zbu d))∧IsDev B w' D (spendP d)∧Only dvT B w w':=by
 obtain⟨SU,v,h1,h2,h3,h4⟩:=hd.ex
 have c2:w.cell? ⟨D,2,none⟩=some (.int .i64 (d.limit:Int)):=h1.cell 2
 have hlim:=hd.lim
 have hbase:=hd.base
 by_cases h0:d.limit=0
 ·have HP:=Zhd (show spendP d=d∧Zbu d=true by simp[spendP,Zbu,h0])
  rw[h0] at c2
  have HD:=Zhd hd
  clear h1 h2 h4 hd h0 hlim
  go_enter Tryz.func118,Tryz.ntmps118
  go_wp2_with fail
  go_ret
  exact⟨Zaf HP.out.2.symm,by rw[HP.out.1];exact HD.out,Only.refl _ _ _⟩
 ·obtain⟨m,hm⟩:∃ m,d.limit=m+1:=⟨d.limit-1,by omega⟩
  have c0:=h1.cell 0
  have HP:=Zhd (show spendP d={d with limit:=m,down:=decide (m=0)}∧Zbu d= !decide (m=0) by
   constructor
   ·rw[spendP,if_neg h0,hm];simp
   ·rw[Zbu,hm];simp)
  have hg1:=Zag w D 2 (.int .i64 (m:Int))
  have hB1:=h1.set 2 (.int .i64 (m:Int))
  have hg2:=Zag (w.setCell ⟨D,2,none⟩ (.int .i64 (m:Int))) D 3 (.bool (decide (m=0)))
  have hB2:=hB1.set 3 (.bool (decide (m=0)))
  have hgg:=Zah hg1 hg2
  have hfin:=ZoX (l':=m) (dn':=decide (m=0)) hd h2 h3 h1 hgg h4 (by simpa using hB2) (by omega)
  have hon:Only dvT B w ((w.setCell ⟨D,2,none⟩ (.int .i64 (m:Int))).setCell ⟨D,3,none⟩ (.bool (decide (m=0)))):=Only.but hgg h1 (by decide) hbase
  have HF:=Zhd (Zan hfin hon)
  have f2:=h1.free 2
  have k2:=hB1.cell 2
  have k3:=hB1.cell 3
  have f3:=hB1.free 3
  have j3:=hB2.cell 3
  simp at k2 k3 j3
  rw[hm] at c2
  have hmb:m≤1000000000:=by omega
  have hcast:((m+1:Nat):Int)-1=(m:Int):=by omega
  have hdec:((m:Int)==0)=decide (m=0):=by rw[Bool.eq_iff_iff];simp
  clear h1 h2 h4 hd hm h0 hg1 hB1 hg2 hB2 hgg hfin hon hlim c0
  go_enter Tryz.func118,Tryz.ntmps118
  go_wp2_with fail
  go_ret
  exact⟨Zaf HP.out.2.symm,by rw[HP.out.1];exact HF.out.1,HF.out.2⟩
theorem Zda {w w':World} {row:Option Nat} {B g:Nat} {cs:Array Value} {T T':TypeId} (hg:w.grownBy w' row) (hr:∀ b,row=some b→∃ cs,Blk w b cs T∧B≤b) (hb:Blk w g cs T') (hT:T'≠T):Blk w' g cs T':=by
 have hl:=hb.lt
 unfold Blk
 rw[hg.block g hl (fun e=>by
  obtain⟨cs2,h2,_⟩:=hr g e.symm
  unfold Blk at hb h2
  rw[hb] at h2
  simp at h2
  exact hT h2.2)]
 exact hb
theorem ZcB {S:List TypeId} {w w':World} {row:Option Nat} {B:Nat} {T:TypeId} (hg:w.grownBy w' row) (hr:∀ b,row=some b→∃ cs,Blk w b cs T∧B≤b) (hT:T∈S) (hB:B≤w.heap.size):Only S B w w':=
 ⟨(Below.refl B w).grown hg hB (fun b e=>(hr b e).elim fun _ h=>h.2),fun b hb hn=>hg.block b hb (fun e=>hn (by
   obtain⟨cs2,h2,_⟩:=hr b e.symm
   exact⟨cs2,T,h2,hT⟩))⟩
theorem Zmu:∃ (i0:TypeInfo) (z:Value),Tryz.prog.info? 86=some i0∧i0.zero=some z∧i0.size=2∧z.cells.size=2∧i0.bytes≤1000:=by
 have h:(Tryz.prog.info? 86).map (fun i=>(i.zero.map (·.cells.size),i.size,decide (i.bytes≤1000)))=some (some 2,2,true):=by kernel_rfl
 obtain⟨i0,hi,hii⟩:=Option.map_eq_some_iff.1 h
 simp only[Prod.mk.injEq,Zde] at hii
 obtain⟨z,hz,hzs⟩:=Option.map_eq_some_iff.1 hii.1
 exact⟨i0,z,hi,hz,hii.2.1,hzs,hii.2.2⟩
structure ZoM (W:World) (zz:Array Value) (bo:Option Addr) (b:List UInt8):Prop where
 blk:(W.alloc (.cells zz 5)).heap[W.heap.size]?=some (.cells (List.replicate 512 (Value.int .u8 0)).toArray 5 (0,0))
 src:0<(b.map u8V).length→(some (⟨W.heap.size,0,none⟩:Addr)=some ⟨W.heap.size,0,none⟩)∧∃ ad,bo=some ad∧∀ j v,(b.map u8V)[j]?=some v→(W.alloc (.cells zz 5)).cell? (ad.add j)=some v
 bel:Below W.heap.size W (W.alloc (.cells zz 5))
 len:(b.map u8V).length=Nat.min 512 512
 fit:0+(b.map u8V).length≤(List.replicate 512 (Value.int .u8 0)).length
theorem Zm0 (W:World) {zz:Array Value} (hz:zz=(List.replicate 512 (Value.int .u8 0)).toArray) {bo:Option Addr} {bc:Nat} {b:List UInt8} (hb:ZbP W bo 512 bc b) (hl:b.length=512):Hid (ZoM W zz bo b):=Zhd (by
 have hal:Below W.heap.size W (W.alloc (.cells zz 5)):=Zbr.alloc Zlr _
 exact⟨by rw[←hz];exact Zha W _,Zh2 (hb.below hal Zlr) W.heap.size,hal,by rw[List.length_map,hl];rfl,by rw[List.length_map,hl,List.length_replicate];omega⟩)
structure ZmF (B:Nat) (W:World) (g pos:Nat) (b:List UInt8) (v:Value) (u:List (Nat×List UInt8)) (v':Value) (W':World):Prop where
 run:(Builtin.append_ #[53,53] 53 #[v,.slice (some ⟨W.heap.size,0,none⟩) 1 1]).run Tryz.prog (W.alloc (.cells #[.int .i64 (pos:Int),.slice (some ⟨g,0,none⟩) 512 512] 86))= .ok v' W'
 gath:Gath ZfD [5] 86 B W' v' (u++[(pos,b)])
 grown:(W.alloc (.cells #[.int .i64 (pos:Int),.slice (some ⟨g,0,none⟩) 512 512] 86)).grownBy W' v.ownBlock
 row:∀ k,v.ownBlock=some k→∃ cs,Blk (W.alloc (.cells #[.int .i64 (pos:Int),.slice (some ⟨g,0,none⟩) 512 512] 86)) k cs 86∧B≤k
theorem ZrX {B:Nat} {W:World} {g:Nat} {b:List UInt8} {v:Value} {u:List (Nat×List UInt8)} (hB:B≤W.heap.size) (hu:u.length≤900000) (hW:Hid (W.heap[g]?=some (.cells (splice (List.replicate 512 (Value.int .u8 0)) 0 (b.map u8V)).toArray 5 (0,0)))) (hG:Gath ZfD [5] 86 B W v u) (hl:b.length=512) (pos:Nat):∃ v' W',ZmF B W g pos b v u v' W':=by
 have hsp:splice (List.replicate 512 (Value.int .u8 0)) 0 (b.map u8V)=b.map u8V:=by
  rw[splice,List.take_zero,List.nil_append,List.length_map,hl,List.drop_replicate]
  simp
 have hblk:Blk W g (b.map u8V).toArray 5:=by have:=hW.out;rw[hsp] at this;exact this
 have hal:Below W.heap.size W (W.alloc (.cells #[.int .i64 (pos:Int),.slice (some ⟨g,0,none⟩) 512 512] 86)):=Zbr.alloc Zlr _
 have hb2:=hblk.on hal
 have hrow:ZbP (W.alloc (.cells #[.int .i64 (pos:Int),.slice (some ⟨g,0,none⟩) 512 512] 86)) (some ⟨g,0,none⟩) 512 512 b:=by
  refine⟨by simp[hl],Nat.le_refl _,by omega,by omega,fun e=>(by cases e),fun _=>⟨g,0,rfl,fun i hi=>?_⟩⟩
  rw[Nat.zero_add,hb2.cell i,List.getElem?_toArray,List.getElem?_eq_getElem (by simpa using hi)]
  rfl
 obtain⟨i0,z,hi,hz,hs0,hzs,hby⟩:=Zmu
 obtain⟨v',W',hrun,hgath,hgr,hr,_⟩:=(hG.on hal).push (ts:=53) (by decide) i0 z Tryz.underlying53 hi hz hs0 hzs hby (by omega) (by have:=hal.size;omega) (some ⟨g,0,none⟩,512) (pos,b) ⟨hrow,fun _ a ha=>by cases ha;exact⟨_,_,hb2,List.mem_cons_self⟩⟩ ⟨W.heap.size,0,none⟩ 1 (fun j _=>by rw[ZbB,Nat.zero_add];exact World.cell?_alloc_new W _ _ j) 53
 exact⟨v',W',hrun,hgath,hgr,hr⟩
theorem ZrQ {B:Nat} {W2 W W':World} {g pos D:Nat} {b:List UInt8} {v v':Value} {u:List (Nat×List UInt8)} {cs:Array Value} (h:Blk W2 D cs 55) (hb:Below W2.heap.size W2 W) (hp:ZmF B W g pos b v u v' W'):Blk W' D cs 55:=
 Zda hp.grown hp.row ((h.on hb).on (Zbr.alloc Zlr _)) (by decide)
theorem Zri {B:Nat} {W2 W W':World} {g pos D:Nat} {b:List UInt8} {v v' a0 a2 a3:Value} {u:List (Nat×List UInt8)} (h:Blk W2 D #[a0,v,a2,a3] 55) (hb:Below W2.heap.size W2 W) (hp:ZmF B W g pos b v u v' W'):W'.cell? ⟨D,1,none⟩=some v:=(ZrQ h hb hp).cell 1
theorem Zrj {B:Nat} {W2 W W':World} {g pos D:Nat} {b:List UInt8} {v v' a0 a2 a3:Value} {u:List (Nat×List UInt8)} (h:Blk W2 D #[a0,v,a2,a3] 55) (hb:Below W2.heap.size W2 W) (hp:ZmF B W g pos b v u v' W'):W'.frozen? ⟨D,1,none⟩=false:=(ZrQ h hb hp).free 1
def ZaL (d:Zaz) (pos:Nat) (b:List UInt8):Zaz:=if d.down=true then d else if Zbu d=true then{spendP d with unsure:=d.unsure++[(pos,b)]} else spendP d
def ZbM (d:Zaz):Int:=if d.down=true then 8 else if Zbu d=true then 0 else 8
theorem ZbO (d:Zaz):(spendP d).sure=d.sure∧(spendP d).unsure=d.unsure:=by
 unfold spendP;split<;>exact⟨rfl,rfl⟩
theorem ZlR {B:Nat} {W2 W3 W4:World} {D SU g pos:Nat} {d:Zaz} {b:List UInt8} {v v':Value} (hd:IsDev B W2 D d) (h1:Blk W2 D #[.slice (some ⟨SU,0,none⟩) d.sure.length d.sure.length,v,.int .i64 (d.limit:Int),.bool d.down] 55) (h2:Blk W2 SU (Zct d.sure).toArray 134) (h3:B≤SU)
  (hb:Below W2.heap.size W2 W3) (hp:ZmF B W3 g pos b v d.unsure v' W4) (hl:b.length=512) (hpos:pos<d.sure.length) (hcnt:d.unsure.length<900000):IsDev B (W4.setCell ⟨D,1,none⟩ v') D {d with unsure:=d.unsure++[(pos,b)]}∧Only dvT B W2 (W4.setCell ⟨D,1,none⟩ v'):=by
 have hD4:=ZrQ h1 hb hp
 have hal:Below W3.heap.size W3 (W3.alloc (.cells #[.int .i64 (pos:Int),.slice (some ⟨g,0,none⟩) 512 512] 86)):=Zbr.alloc Zlr _
 have hS4:Blk W4 SU (Zct d.sure).toArray 134:=Zda hp.grown hp.row ((h2.on hb).on hal) (by decide)
 have hg:=Zag W4 D 1 v'
 have hne:SU≠D:=Zbe (T:=[134]) h1 (by decide) ⟨_,_,h2,List.mem_cons_self⟩
 have hBW:B≤W2.heap.size:=by have:=hd.base;have:=h1.lt;omega
 refine⟨⟨⟨SU,v',by simpa using hD4.set 1 v',hS4.but hg hne,h3,hp.gath.step (Same.grown hg (fun x ht e=>by
  have e:=Zsi e
  subst e
  exact Zbe hD4 (by decide) ht rfl))⟩,hd.base,hd.pos,hd.le,hd.lens,fun u hu=>?_,hd.lim,by rw[Zla,List.length_singleton];exact hcnt⟩,?_⟩
 ·rcases List.mem_append.1 hu with h|h
  ·exact hd.ulens u h
  ·rw[List.mem_singleton.1 h];exact⟨hl,hpos⟩
 ·have o1:Only dvT B W2 (W3.alloc (.cells #[.int .i64 (pos:Int),.slice (some ⟨g,0,none⟩) 512 512] 86)):=Only.below (Zaa hb hal Zlr) hBW
  have o2:Only dvT B (W3.alloc (.cells #[.int .i64 (pos:Int),.slice (some ⟨g,0,none⟩) 512 512] 86)) W4:=ZcB hp.grown hp.row (by decide) (by have:=hb.size;have:=hal.size;omega)
  exact(o1.trans o2).trans (Only.but hg hD4 (by decide) hd.base)
theorem ZfL (w:World) (B D:Nat) (d:Zaz) (hd:IsDev B w D d) (pos:Nat) (hp:pos<d.sure.length) (bo:Option Addr) (bc:Nat) (b:List UInt8) (hb:ZbP w bo 512 bc b) (hbB:rowIn (Zak [5] w) bo 512) (hcnt:d.unsure.length<900000):
  Calls Tryz.prog 89 #[.pointer (some ⟨D,0,none⟩),.int .i64 (pos:Int),.slice bo 512 bc] w fun e w'=>e= .returned (.int .i64 (ZbM d))∧IsDev B w' D (ZaL d pos b)∧Only dvT B w w':=by
 have hck:=ZhK w B D d hd pos
 cases hdn:d.down with
 |true=>
  have HE:=Zhd (show Zc6 d pos=8∧ZbM d=8∧ZaL d pos b=d by simp[Zc6,ZbM,ZaL,hdn])
  rw[HE.out.1] at hck
  have HCK:=Zhd hck
  have HD:=Zhd hd
  clear hck hdn hd hb
  go_enter Tryz.func89,Tryz.ntmps89
  go_wp2_with (go_at_call 136;refine HCK.out.mono ?_;rintro e W ⟨rfl,rfl⟩)
  go_ret
  exact⟨Zbh HE.out.2.1.symm,by rw[HE.out.2.2];exact HD.out,Only.refl _ _ _⟩
 |false=>
  have HE0:=Zhd (show Zc6 d pos=0 by simp[Zc6,hdn];omega)
  rw[HE0.out] at hck
  have HCK:=Zhd hck
  have HSP:=Zhd (ZhL w B D d hd)
  have hlen:=hb.hlen
  rw[List.length_map] at hlen
  have HB:=Zhd (Zan hb (Zan hlen hbB))
  have HPP:=Zhd (Zan hp hcnt)
  clear hck hd hb hlen hp hcnt hbB
  cases hok:Zbu d with
  |false=>
   have HE:=Zhd (show ZbM d=8∧ZaL d pos b=spendP d by simp[ZbM,ZaL,hdn,hok])
   rw[hok] at HSP
   clear hdn hok
   go_enter Tryz.func89,Tryz.ntmps89
   go_wp2_with (first|(go_at_call 136;refine HCK.out.mono ?_;rintro e W ⟨rfl,rfl⟩)|(go_at_call 118;refine HSP.out.mono ?_;rintro e W2 ⟨rfl,hd2,ho2⟩;have HD2:=Zhd (Zan hd2 ho2);clear hd2 ho2))
   go_ret
   exact⟨Zbh HE.out.1.symm,by rw[HE.out.2];exact HD2.out.1,HD2.out.2⟩
  |true=>
   have HE:=Zhd (show ZbM d=0∧ZaL d pos b={spendP d with unsure:=d.unsure++[(pos,b)]} by simp[ZbM,ZaL,hdn,hok])
   rw[hok] at HSP
   clear hdn hok
   obtain⟨zz,hzz⟩:∃ zz,zz=(List.replicate 512 (Value.int .u8 0)).toArray:=⟨_,rfl⟩
   have hmk:∀ w:World,(Instr.makeSlice 22 (.int .i64 512) (.int .i64 512)).run Tryz.prog w= .ok (.slice (some ⟨w.heap.size,0,none⟩) 512 512) (w.alloc (.cells zz 5)):=fun w=>by
    obtain⟨i0,hi,hz0,hz1,hz2⟩:=info_parts Zho
    have:=run_make (P:=Tryz.prog) w 22 5 i0 _ Tryz.underlying22 hi hz0 .i64 .i64 512 512 (by omega) (by omega) (by rw[hz2];omega) (by omega)
    rw[this,hz1,hzz]
    show Result.ok _ (w.alloc (.cells (madeCells #[Value.int .u8 0] 512) _))=_
    rw[Zk3];rfl
   have HZZ:=Zhd hzz
   clear hzz
   go_enter Tryz.func89,Tryz.ntmps89
   go_wp2_with (first|(go_at_call 136;refine HCK.out.mono ?_;rintro e W ⟨rfl,rfl⟩)|(go_at_call 118;refine HSP.out.mono ?_;rintro e W2 ⟨rfl,hd2,ho2⟩;have HCP:=Zm0 W2 HZZ.out (HB.out.1.keep HB.out.2.2 (ho2.same (by decide))) HB.out.2.1;have HD2:=Zhd (Zan hd2 ho2);obtain⟨SU,v,h1,h2,h3,h4⟩:=hd2.ex;have HEX:=Zhd (Zan h1 (Zan h2 (Zan h3 h4)));clear hd2 ho2 h1 h2 h3 h4)|(refine wpList_copy_splice rfl _ _ 22 22 rfl 5 Tryz.underlying22 (by kernel_rfl) (some ⟨W2.heap.size,0,none⟩) bo 512 512 512 bc rfl rfl W2.heap.size 0 (List.replicate 512 (Value.int .u8 0)) 5 HCP.out.blk (b.map u8V) HCP.out.len HCP.out.src HCP.out.fit (Zdu b) W2.heap.size W2 HCP.out.bel Zlr ?_;intro W3 hW3 hbW3;have HW3:=Zhd hbW3;have d1:W3.cell? ⟨D,1,none⟩=some v:=(HEX.out.1.on hbW3).cell 1;obtain⟨v',W4,hwp⟩:=ZrX (B:=B) (by have:=HEX.out.1.lt;have:=HD2.out.1.base;have:=hbW3.size;omega) (by rw[(ZbO d).2];have:=HPP.out.2;omega) hW3 (HEX.out.2.2.2.on hbW3) HB.out.2.1 pos;obtain⟨ao',c',hv',-,-⟩:=hwp.gath.seq;subst hv';have HWP:=Zhd hwp;clear hbW3 hW3 hmk hwp)|(at_builtin;refine Zao rfl _ _ _ rfl _ _ rfl rfl HWP.out.run ?_;have d1':=Zri HEX.out.1 HW3.out HWP.out;have f1':=Zrj HEX.out.1 HW3.out HWP.out;clear d1))
   go_ret
   obtain⟨g1,g2⟩:=ZlR HD2.out.1 HEX.out.1 HEX.out.2.1 HEX.out.2.2.1 HW3.out HWP.out HB.out.2.1 (by rw[(ZbO d).1];exact HPP.out.1) (by rw[(ZbO d).2];exact HPP.out.2)
   rw[Zla,List.length_singleton] at g1 g2
   have g3:=HD2.out.2.trans g2
   refine⟨Zbh HE.out.1.symm,?_,g3⟩
   rw[HE.out.2,←(ZbO d).2]
   exact g1
theorem Zkz {l:List (List UInt8×Bool)} (hl:∀ s∈l,s.1.length=512) {k:Nat} (hk:k<l.length) (b:List UInt8) (hb:b.length=512) (torn:Bool):
  splice ((Zct l).set (k*513+512) (.bool torn)) (k*513) (b.map u8V)=Zct (l.set k (b,torn)):=by
 have hlen:=ZgA hl
 rw[Zln hl k hk,splice,List.length_map,hb,List.take_set_of_le (by omega),List.drop_eq_getElem_cons (by rw[List.length_set];omega),List.getElem_set_self,List.drop_set_of_lt (by omega)]
 simp[Zlm,List.append_assoc]
theorem ZiK {P:Program} {ops:Array Oper} {o:Oper} {a:Act} {w:World} {K:Act→World→Prop} {Q:Exit→Act→World→Prop} {E:Prop} (hgd:o.guard=none) (d s:Operand) (dT sT:TypeId)
  (ho:o.op= .call {callee:= .builtin .copy,args:=#[d,s],argTypes:=#[dT,sT]}) (elem:TypeId) (hu:P.underlying dT=some (.slice elem)) (hsz:(P.info? elem).map (·.size)=some 1)
  (ad:Addr) (dLen dCap sLen sCap g off:Nat) (hd:a.eval d= .slice (some ⟨g,off,none⟩) dLen dCap) (hs:a.eval s= .slice (some ad) sLen sCap)
  (cur:List Value) (t:TypeId) (hg:w.heap[g]?=some (.cells cur.toArray t (0,0))) (cs:List Value) (hn:cs.length=Nat.min sLen dLen)
  (hsrc:∀ j v,cs[j]?=some v→w.cell? (ad.add j)=some v) (hfit:off+cs.length≤cur.length) (h1:∀ v∈cs,v.oneCell'=true)
  (h:K (a.put o.dst (goInt cs.length)) (w.setRow g (splice cur off cs).toArray)):
  if Region.wanted o (yielded ops a.tmps)=true then Oper.wp P o a w K Q else E:=by
 have hw:Region.wanted o (yielded ops a.tmps)=true:=by simp[Region.wanted,hgd]
 rw[if_pos hw]
 have hrun:=run_copy_row (P:=P) w dT sT o.type elem g off dLen dCap ad sLen sCap cur.toArray t cs hu hsz hg hn hsrc (by simpa using hfit) h1
 unfold Oper.wp
 simp[execOp,ho,resolve,invoke,builtin,hd,hs,hrun,Result.andThen]
 exact h
theorem Zmo {B D:Nat} {w w1 w2:World} {d:Zaz} (hd:IsDev B w D d) {SU:Nat} {v:Value} {cs:List Value} (hB:B≤SU)
  (h1:Blk w1 D #[.slice (some ⟨SU,0,none⟩) d.sure.length d.sure.length,v,.int .i64 (d.limit:Int),.bool d.down] 55) (h2:Blk w1 SU cs.toArray 134) (h4:Gath ZfD [5] 86 B w1 v d.unsure)
  (g:w1.grownBy w2 (some SU)) {pos:Nat} {b:List UInt8} {torn:Bool} (h2':Blk w2 SU (Zct (d.sure.set pos (b,torn))).toArray 134) (hb:b.length=512):
  IsDev B w2 D {d with sure:=d.sure.set pos (b,torn)}∧Only [134] B w1 w2:=by
 have hD:=h1.but g (Zbe (T:=[55]) h2 (by decide) ⟨_,_,h1,List.mem_cons_self⟩)
 have hG:=h4.step (Same.grown g (fun x ht e=>by
  have e:=Zsi e
  subst e
  exact Zbe h2 (by decide) ht rfl))
 refine⟨⟨⟨SU,v,?_,h2',hB,hG⟩,hd.base,?_,?_,?_,?_,hd.lim,hd.cnt⟩,Only.but g h2 (by decide) hB⟩
 ·rw[List.length_set];exact hD
 ·rw[List.length_set];exact hd.pos
 ·rw[List.length_set];exact hd.le
 ·intro s hs
  rcases List.mem_or_eq_of_mem_set hs with h|h
  ·exact hd.lens s h
  ·rw[h];exact hb
 ·intro u hu
  rw[List.length_set]
  exact hd.ulens u hu
theorem ZgJ (w:World) (B D:Nat) (d:Zaz) (hd:IsDev B w D d) (pos:Nat) (hp:pos<d.sure.length) (ao:Option Addr) (c:Nat) (b:List UInt8) (hb:ZbP w ao 512 c b) (hbS:rowIn (Zak [86,5] w) ao 512) (torn:Bool):
  Calls Tryz.prog 35 #[.pointer (some ⟨D,0,none⟩),.agg #[.int .i64 (pos:Int),.slice ao 512 c],.bool torn] w fun e w'=>e= .returned (.tuple #[])∧IsDev B w' D {d with sure:=d.sure.set pos (b,torn)}∧Only [134] B w w':=by
 obtain⟨SU,v,h1,h2,h3,h4⟩:=hd.ex
 have hal:Below w.heap.size w (w.alloc (.cells #[.int .i64 (pos:Int),.slice ao 512 c] 86)):=Zbr.alloc Zlr _
 have hA:Blk (w.alloc (.cells #[.int .i64 (pos:Int),.slice ao 512 c] 86)) w.heap.size #[.int .i64 (pos:Int),.slice ao 512 c] 86:=Zha w _
 obtain⟨n,hn⟩:∃ n,n=d.sure.length:=⟨_,rfl⟩
 have HD:=Zhd (Zan hd (Zan h1 (Zan h2 (Zan h3 h4))))
 have c0:(w.alloc (.cells #[.int .i64 (pos:Int),.slice ao 512 c] 86)).drew.cell? ⟨D,0,none⟩=some (.slice (some ⟨SU,0,none⟩) n n):=by rw[hn];exact(h1.on hal).cell 0
 have a0:(w.alloc (.cells #[.int .i64 (pos:Int),.slice ao 512 c] 86)).drew.cell? ⟨w.heap.size,0,none⟩=some (.int .i64 (pos:Int)):=hA.cell 0
 have hsl:=hd.lens _ (List.getElem_mem hp)
 have b1:(w.alloc (.cells #[.int .i64 (pos:Int),.slice ao 512 c] 86)).drew.cell? ⟨SU,pos*513+512,none⟩=some (.bool (d.sure[pos]).2):=by
  show(w.alloc (.cells #[.int .i64 (pos:Int),.slice ao 512 c] 86)).cell? _=_
  rw[(h2.on hal).cell,List.getElem?_toArray,Zgz hd.lens pos hp 512 (by omega),Zlm,List.getElem?_append_right (by simp[hsl])]
  simp[hsl]
 have b2:(w.alloc (.cells #[.int .i64 (pos:Int),.slice ao 512 c] 86)).drew.frozen? ⟨SU,pos*513+512,none⟩=false:=(h2.on hal).free _
 obtain⟨t0,ht0⟩:∃ t0,t0=(d.sure[pos]).2:=⟨_,rfl⟩
 rw[←ht0] at b1
 have hpn:pos<n:=by omega
 have hn4:n≤4096:=by have:=hd.le;omega
 have HN:=Zhd hn
 have HB:=Zhd (Zan hb hbS)
 clear hd h1 h2 h4 hb hbS hp hn hsl ht0
 obtain⟨ad,rfl⟩:∃ ad,ao=some ad:=by
  obtain⟨b0,off,e⟩:=HB.out.1.addr (k:=0) (by omega)
  exact⟨_,e⟩
 have hg1:=Zag (w.alloc (.cells #[.int .i64 (pos:Int),.slice (some ad) 512 c] 86)) SU (pos*513+512) (.bool torn)
 have h2a:=HD.out.2.2.1.on hal
 have hdr:∀ Z:World,Below Z.heap.size Z Z.drew:=fun Z=>Below.drew Zbr
 have hS0:=h2a.set (pos*513+512) (.bool torn)
 have hS:=hS0.on (hdr _)
 rw[List.setIfInBounds_toArray] at hS
 have hDev:=((HD.out.2.1.on hal).but hg1 (Zbe (T:=[55]) h2a (by decide) ⟨_,_,HD.out.2.1.on hal,List.mem_cons_self⟩)).on (hdr _)
 have hBox:=(hA.but hg1 (Zbe (T:=[86]) h2a (by decide) ⟨_,_,hA,List.mem_cons_self⟩)).on (hdr _)
 have hBW:B≤w.heap.size:=by have:=HD.out.1.base;have:=HD.out.2.1.lt;omega
 have hOn:Only [134] B w ((w.alloc (.cells #[.int .i64 (pos:Int),.slice (some ad) 512 c] 86)).setCell ⟨SU,pos*513+512,none⟩ (.bool torn)).drew:=((Only.below hal hBW).trans (Only.but hg1 h2a (by decide) h3)).trans (Only.below (Below.drew Zbr) (by have:=hal.size;have:=hg1.size;omega))
 have hGa:Gath ZfD [5] 86 B ((w.alloc (.cells #[.int .i64 (pos:Int),.slice (some ad) 512 c] 86)).setCell ⟨SU,pos*513+512,none⟩ (.bool torn)).drew v d.unsure:=((HD.out.2.2.2.2.on hal).step (Same.grown hg1 (fun x ht e=>by
  have e:=Zsi e
  subst e
  exact Zbe h2a (by decide) ht rfl))).on (Below.drew Zbr)
 have hBy:ZbP ((w.alloc (.cells #[.int .i64 (pos:Int),.slice (some ad) 512 c] 86)).setCell ⟨SU,pos*513+512,none⟩ (.bool torn)).drew (some ad) 512 c b:=HB.out.1.keep HB.out.2 (hOn.same (by decide))
 have HZ:=Zhd (Zan hS (Zan hDev (Zan hBox (Zan hOn (Zan hGa hBy)))))
 clear hg1 h2a hS hDev hBox hBW hOn hGa hBy hal hA
 go_enter Tryz.func35,Tryz.ntmps35
 go_wp2_with fail
 go_region
 go_wp2_with fail
 clear c0 a0 b1 b2
 generalize ((w.alloc (.cells #[.int .i64 (pos:Int),.slice (some ad) 512 c] 86)).setCell ⟨SU,pos*513+512,none⟩ (.bool torn)).drew=Z at HZ⊢
 have z1:Z.drew.cell? ⟨w.heap.size,1,none⟩=some (.slice (some ad) 512 c):=HZ.out.2.2.1.cell 1
 have hlen:=HZ.out.2.2.2.2.2.hlen
 rw[List.length_map] at hlen
 have hsl:=ZgA HD.out.1.lens
 have hc1:(b.map u8V).length=Nat.min 512 512:=by rw[List.length_map,hlen];rfl
 have hc2:∀ j v,(b.map u8V)[j]?=some v→Z.drew.cell? (ad.add j)=some v:=fun j v hj=>by
  obtain⟨_,ad',e,h⟩:=Zh2 HZ.out.2.2.2.2.2 0 (by rw[List.length_map,hlen];omega)
  cases e
  exact h j v hj
 have hc3:pos*513+(b.map u8V).length≤((Zct d.sure).set (pos*513+512) (Value.bool torn)).length:=by rw[List.length_map,hlen,List.length_set,hsl,←HN.out];omega
 have HC:=Zhd (Zan hc1 (Zan hc2 (Zan hc3 hlen)))
 clear hlen hsl hc1 hc2 hc3
 go_region_law (refine ZiK rfl (.tmp 21) (.tmp 23) 22 22 rfl 5 Tryz.underlying22 (by kernel_rfl) ad 512 512 512 c SU (pos*513) rfl rfl ((Zct d.sure).set (pos*513+512) (Value.bool torn)) 134 HZ.out.1 (b.map u8V) HC.out.1 HC.out.2.1 HC.out.2.2.1 (Zdu b) ?_)
 have HL:=Zhd (Zkz HD.out.1.lens (show pos<d.sure.length by have:=HN.out;omega) b HC.out.2.2.2 torn)
 have hZ:Below Z.heap.size Z Z.drew:=hdr Z
 generalize hZZ:Z.drew=Y at hZ⊢
 have s1:=HZ.out.1.on hZ
 rw[HL.out]
 have g:=Zav Y SU (Zct (d.sure.set pos (b,torn))).toArray
 have HF:=Zhd (Zmo HD.out.1 h3 (HZ.out.2.1.on hZ) s1 (HZ.out.2.2.2.2.1.on hZ) g (ZaA s1 _) HC.out.2.2.2)
 go_wp2_with fail
 go_end0
 refine⟨rfl,HF.out.1,(HZ.out.2.2.2.1.trans (Only.below hZ ?_)).trans HF.out.2⟩
 have:=HZ.out.2.2.2.1.bel.size
 have:=HD.out.1.base
 have:=HD.out.2.1.lt
 omega
def ZdB (f:Nat→Option Bool) (us:List (Nat×List UInt8)) (s:List (List UInt8×Bool)):Nat→List (List UInt8×Bool)
 |0=>s
 |t+1=>match us[t]?,f t with
  |some u,some b=>(ZdB f us s t).set u.1 (u.2,b)
  |_,_=>ZdB f us s t
theorem ZeL (f:Nat→Option Bool) (us:List (Nat×List UInt8)) (s:List (List UInt8×Bool)) (t:Nat):(ZdB f us s t).length=s.length:=by
 induction t with
 |zero=>rfl
 |succ t ih=>
  rw[ZdB]
  split
  ·rw[List.length_set,ih]
  ·exact ih
def ZaE (d:Zaz):Zaz:=if d.down=true then d else if Zbu d=true then{spendP d with sure:=ZdB (fun _=>some false) d.unsure d.sure d.unsure.length,unsure:=[]} else spendP d
def Zcr (d:Zaz):Int:=if d.down=true then 8 else if Zbu d=true then 0 else 8
theorem ZiX {B:Nat} {w w':World} {D SU l':Nat} {d:Zaz} {dn':Bool} (hd:IsDev B w D d) (h2:Blk w SU (Zct d.sure).toArray 134) (h3:B≤SU) {cs:Array Value} (h1:Blk w D cs 55)
  (hg:w.grownBy w' (some D)) (hB:Blk w' D #[.slice (some ⟨SU,0,none⟩) d.sure.length d.sure.length,.slice none 0 0,.int .i64 (l':Int),.bool dn'] 55) (hl:l'≤1000000000):IsDev B w' D {d with unsure:=[],limit:=l',down:=dn'}∧Only dvT B w w':=by
 have hne:SU≠D:=Zbe (T:=[134]) h1 (by decide) ⟨_,_,h2,List.mem_cons_self⟩
 exact⟨⟨⟨SU,_,hB,h2.but hg hne,h3,Gath.nil _ _ _ _ _⟩,hd.base,hd.pos,hd.le,hd.lens,fun u hu=>absurd hu List.not_mem_nil,hl,Nat.zero_le _⟩,Only.but hg h1 (by decide) hd.base⟩
theorem Zee (w:World) (B D:Nat) (d:Zaz) (hd:IsDev B w D d):
  Calls Tryz.prog 66 #[.pointer (some ⟨D,0,none⟩)] w fun e w'=>e= .returned (.int .i64 (Zcr d))∧IsDev B w' D (ZaE d)∧Only dvT B w w':=by
 have c3:w.cell? ⟨D,3,none⟩=some (.bool d.down):=by obtain⟨SU,v,h1,_⟩:=hd.ex;exact h1.cell 3
 cases hdn:d.down with
 |true=>
  have HE:=Zhd (show Zcr d=8∧ZaE d=d by simp[Zcr,ZaE,hdn])
  rw[hdn] at c3
  have HD:=Zhd hd
  clear hd hdn
  go_enter Tryz.func66,Tryz.ntmps66
  go_wp2_with fail
  go_ret
  exact⟨Zbh HE.out.1.symm,by rw[HE.out.2];exact HD.out,Only.refl _ _ _⟩
 |false=>
  rw[hdn] at c3
  have HSP:=Zhd (ZhL w B D d hd)
  cases hok:Zbu d with
  |false=>
   have HE:=Zhd (show Zcr d=8∧ZaE d=spendP d by simp[Zcr,ZaE,hdn,hok])
   rw[hok] at HSP
   clear hd hdn hok
   go_enter Tryz.func66,Tryz.ntmps66
   go_wp2_with (go_at_call 118;refine HSP.out.mono ?_;rintro e W2 ⟨rfl,hd2,ho2⟩;have HD2:=Zhd (Zan hd2 ho2);clear hd2 ho2)
   go_ret
   exact⟨Zbh HE.out.1.symm,by rw[HE.out.2];exact HD2.out.1,HD2.out.2⟩
  |true=>
   have HE:=Zhd (show Zcr d=0∧ZaE d={spendP d with sure:=ZdB (fun _=>some false) (spendP d).unsure (spendP d).sure (spendP d).unsure.length,unsure:=[]} by simp[Zcr,ZaE,hdn,hok,(ZbO d).1,(ZbO d).2])
   rw[hok] at HSP
   clear hd hdn hok
   go_enter Tryz.func66,Tryz.ntmps66
   go_wp2_with (go_at_call 118;refine HSP.out.mono ?_;rintro e W2 ⟨rfl,hd2,ho2⟩;generalize spendP d=q at hd2 HE;obtain⟨SU,v,h1,h2,h3,h4⟩:=hd2.ex;obtain⟨ao,c,hv,hsq,hab⟩:=h4.seq;subst hv;have c1:W2.cell? ⟨D,1,none⟩=some (.slice ao q.unsure.length c):=h1.cell 1;have hle:=hsq.hle;have hcnt:=hd2.cnt;obtain⟨n,hn⟩:∃ n,n=q.unsure.length:=⟨_,rfl⟩;rw[←hn] at c1 hle hcnt;have HN:=Zhd hn;have HD2:=Zhd (Zan hd2 (Zan ho2 (Zan h1 hsq)));clear hd2 ho2 h1 h2 h3 h4 hsq hab hn)
   go_loopw [23] (fun i wr=>∃ t:Nat,t≤n∧i= .int .i64 (t:Int)∧Hid (IsDev B wr D {q with sure:=ZdB (fun _=>some false) q.unsure q.sure t}∧Only [134] B W2 wr)) (fun i _=>(n-intOf i).toNat)
   case atStart=>exact⟨0,Nat.zero_le _,rfl,Zhd ⟨HD2.out.1,Only.refl _ _ _⟩⟩
   case round=>
    obtain⟨t,ht,rfl,hinv⟩:=hrel
    by_cases h0:t=n
    ·obtain⟨SU2,v2,k1,k2,k3,k4⟩:=hinv.out.1.ex
     have f1:=k1.free 1
     have m1:=k1.cell 1
     simp at m1
     have HF:=Zhd (ZiX hinv.out.1 k2 k3 k1 (Zag wr D 1 (.slice none 0 0)) (by simpa using k1.set 1 (.slice none 0 0)) hinv.out.1.lim)
     have HT:=Zhd h0
     subst h0
     clear k1 k2 k4
     go_wp2_with fail
     go_ret
     refine⟨Zbh HE.out.1.symm,?_,?_⟩
     ·rw[HE.out.2,←HN.out]
      exact HF.out.1
     ·have h1:=HD2.out.2.1.bel.size
      exact(HD2.out.2.1.trans (hinv.out.2.mono (by decide))).trans HF.out.2
    ·have hlt:t<n:=by omega
     have hru:t<q.unsure.length:=by rw[←HN.out];exact hlt
     have hsq:=HD2.out.2.2.2.step (hinv.out.2.same (by decide))
     obtain⟨b0,off,rfl⟩:=hsq.addr hru
     obtain⟨k,hk1,hk2,hk3⟩:=hsq.at hru
     have e0:=hk1 0 (by decide)
     have e1:=hk1 1 (by decide)
     simp[ZfD] at e0 e1
     obtain⟨u,hu⟩:∃ u,u=q.unsure[t]:=⟨_,rfl⟩
     rw[←hu] at e0 hk2
     have hul:=HD2.out.1.ulens u (by rw[hu];exact List.getElem_mem _)
     have hu2:q.unsure[t]?=some u:=by rw[hu];exact List.getElem?_eq_getElem hru
     have HU:=Zhd (Zan hu2 (Zan hul (Zan hk2 hk3)))
     clear hk1 hk2 hk3 hu hu2 hul hru hsq h0
     have hset:=fun (Z:World) (hZ:Below wr.heap.size wr Z)=>ZgJ Z B D _ (hinv.out.1.on hZ) u.1 (by show u.1<(ZdB _ _ _ _).length;rw[ZeL];exact HU.out.2.1.2) k.1 k.2 u.2 (HU.out.2.2.1.below hZ Zlr) (rowIn.mono HU.out.2.2.2 HU.out.2.2.1 (fun b hb ht=>Zbt ht (hZ.block b hb))) false
     have HSET:=Zhd hset
     clear hset
     go_wp2_with (go_at_call 35;refine(HSET.out _ (Zbr.alloc Zlr _)).mono ?_;rintro e W3 ⟨rfl,hd3,ho3⟩;have H3:=Zhd (Zan hd3 ho3);clear hd3 ho3)
     have hnx:Hid (IsDev B W3 D {q with sure:=ZdB (fun _=>some false) q.unsure q.sure (t+1)}∧Only [134] B W2 W3):=Zhd (by
      have hs:ZdB (fun _=>some false) q.unsure q.sure (t+1)=(ZdB (fun _=>some false) q.unsure q.sure t).set u.1 (u.2,false):=by rw[ZdB,HU.out.1]
      rw[hs]
      have h1:=hinv.out.1.base
      obtain⟨_,_,h2,_⟩:=hinv.out.1.ex
      have h3:=h2.lt
      exact⟨H3.out.1,(hinv.out.2.trans (Only.below (Zbr.alloc Zlr _) (by omega))).trans H3.out.2⟩)
     have hcast:(t:Int)+1=((t+1:Nat):Int):=by omega
     go_roundw
     case rel=>exact⟨t+1,hlt,by simp,hnx⟩
     case measure=>simp[intOf];omega
def Zq4 (m t:Nat):Bool:=decide (m/2^(t%64)%2=1)
def Zdp (m tn t:Nat):Option Bool:=if Zq4 tn t=true then some true else if Zq4 m t=true then some false else none
def ZaN (d:Zaz) (m tn:Nat):Zaz:={sure:=ZdB (Zdp m tn) d.unsure d.sure d.unsure.length,unsure:=[],limit:=0,down:=false}
theorem Zqg {m:Nat} (hm:m<18446744073709551616) (t:Nat):(bits BinOp.and IntKind.u64 ((m:Int)/2^(t%64)) 1==1)=Zq4 m t:=by
 have h1:(m:Int)/2^(t%64)=((m/2^(t%64):Nat):Int):=by push_cast;rfl
 have h2:m/2^(t%64)<18446744073709551616:=Nat.lt_of_le_of_lt (Nat.div_le_self _ _) hm
 rw[h1,show(1:Int)=((1:Nat):Int) from rfl,u64_and_nat _ 1 h2 (by omega),Nat.and_one_is_mod,Zq4,Bool.eq_iff_iff]
 simp
 omega
theorem ZlK (w:World) (B D:Nat) (q:Zaz) (hd2:IsDev B w D q) (m tn:Nat) (hm:m<18446744073709551616) (htn:tn<18446744073709551616):
  Calls Tryz.prog 13 #[.pointer (some ⟨D,0,none⟩),.int .u64 (m:Int),.int .u64 (tn:Int)] w fun e w'=>e= .returned (.int .i64 0)∧IsDev B w' D (ZaN q m tn)∧Only dvT B w w':=by
 obtain⟨SU,v,h1,h2,h3,h4⟩:=hd2.ex
 obtain⟨ao,c,hv,hsq,hab⟩:=h4.seq
 subst hv
 have c1:w.cell? ⟨D,1,none⟩=some (.slice ao q.unsure.length c):=h1.cell 1
 have hle:=hsq.hle
 have hcnt:=hd2.cnt
 obtain⟨n,hn⟩:∃ n,n=q.unsure.length:=⟨_,rfl⟩
 rw[←hn] at c1 hle hcnt
 have HN:=Zhd hn
 have HD2:=Zhd (Zan hd2 (Zan h1 hsq))
 clear hd2 h1 h2 h3 h4 hsq hab hn
 go_enter Tryz.func13,Tryz.ntmps13
 go_wp2_with fail
 go_loopw [17] (fun i wr=>∃ t:Nat,t≤n∧i= .int .i64 (t:Int)∧Hid (IsDev B wr D {q with sure:=ZdB (Zdp m tn) q.unsure q.sure t}∧Only [134] B w wr)) (fun i _=>(n-intOf i).toNat)
 case atStart=>exact⟨0,Nat.zero_le _,rfl,Zhd ⟨HD2.out.1,Only.refl _ _ _⟩⟩
 case round=>
  obtain⟨t,ht,rfl,hinv⟩:=hrel
  by_cases h0:t=n
  ·obtain⟨SU2,v2,k1,k2,k3,k4⟩:=hinv.out.1.ex
   have f1:=k1.free 1
   have f2:=k1.free 2
   have f3:=k1.free 3
   have m1:=k1.cell 1
   have m2:=k1.cell 2
   have m3:=k1.cell 3
   simp at m1 m2 m3
   have s1:=k1.set 1 (.slice none 0 0)
   have s2:=s1.set 2 (.int .i64 0)
   have s3:=s2.set 3 (.bool false)
   have HF:=Zhd (ZiX (l':=0) (dn':=false) hinv.out.1 k2 k3 k1 (Zah (Zag wr D 1 (.slice none 0 0)) (Zah (Zag (wr.setCell ⟨D,1,none⟩ (.slice none 0 0)) D 2 (.int .i64 0)) (Zag ((wr.setCell ⟨D,1,none⟩ (.slice none 0 0)).setCell ⟨D,2,none⟩ (.int .i64 0)) D 3 (.bool false)))) (by simpa using s3) (by omega))
   subst h0
   clear k1 k2 k4 s1 s2 s3
   go_wp2_with fail
   go_ret
   refine⟨rfl,?_,(hinv.out.2.mono (by decide)).trans HF.out.2⟩
   rw[ZaN,←HN.out]
   exact HF.out.1
  ·have hlt:t<n:=by omega
   have hru:t<q.unsure.length:=by rw[←HN.out];exact hlt
   have hsq:=HD2.out.2.2.step (hinv.out.2.same (by decide))
   obtain⟨b0,off,rfl⟩:=hsq.addr hru
   obtain⟨k,hk1,hk2,hk3⟩:=hsq.at hru
   have e0:=hk1 0 (by decide)
   have e1:=hk1 1 (by decide)
   simp[ZfD] at e0 e1
   obtain⟨u,hu⟩:∃ u,u=q.unsure[t]:=⟨_,rfl⟩
   rw[←hu] at e0 hk2
   have hul:=HD2.out.1.ulens u (by rw[hu];exact List.getElem_mem _)
   have hu2:q.unsure[t]?=some u:=by rw[hu];exact List.getElem?_eq_getElem hru
   have HU:=Zhd (Zan hu2 (Zan hul (Zan hk2 hk3)))
   clear hk1 hk2 hk3 hu hu2 hul hru hsq h0
   have hset:=fun (Z:World) (hZ:Below wr.heap.size wr Z)=>ZgJ Z B D _ (hinv.out.1.on hZ) u.1 (by show u.1<(ZdB _ _ _ _).length;rw[ZeL];exact HU.out.2.1.2) k.1 k.2 u.2 (HU.out.2.2.1.below hZ Zlr) (rowIn.mono HU.out.2.2.2 HU.out.2.2.1 (fun b hb ht=>Zbt ht (hZ.block b hb)))
   have HSET:=Zhd hset
   have hal:Below wr.heap.size wr (wr.alloc (.cells #[.int .i64 (u.1:Int),.slice k.1 512 k.2] 86)):=Zbr.alloc Zlr _
   have HAL:=Zhd hal
   clear hset hal
   have hBW:Hid (B≤wr.heap.size):=Zhd (by
    have h1:=hinv.out.1.base
    obtain⟨_,_,h2,_⟩:=hinv.out.1.ex
    have h3:=h2.lt
    omega)
   have hbt:=Zqg htn t
   have hbm:=Zqg hm t
   cases htb:Zq4 tn t with
   |true=>
    rw[htb] at hbt
    have HS:=Zhd (show ZdB (Zdp m tn) q.unsure q.sure (t+1)=(ZdB (Zdp m tn) q.unsure q.sure t).set u.1 (u.2,true) by rw[ZdB,HU.out.1,Zdp,if_pos htb])
    clear htb
    go_wp2_with (go_at_call 35;refine(HSET.out _ HAL.out true).mono ?_;rintro e W3 ⟨rfl,hd3,ho3⟩;have hnx:Hid (IsDev B W3 D {q with sure:=ZdB (Zdp m tn) q.unsure q.sure (t+1)}∧Only [134] B w W3):=Zhd (by rw[HS.out];exact⟨hd3,(hinv.out.2.trans (Only.below HAL.out hBW.out)).trans ho3⟩);clear hd3 ho3 hbt hbm)
    go_roundw
    case rel=>exact⟨t+1,hlt,by simp,hnx⟩
    case measure=>simp[intOf];omega
   |false=>
    rw[htb] at hbt
    cases hmb:Zq4 m t with
    |true=>
     rw[hmb] at hbm
     have HS:=Zhd (show ZdB (Zdp m tn) q.unsure q.sure (t+1)=(ZdB (Zdp m tn) q.unsure q.sure t).set u.1 (u.2,false) by rw[ZdB,HU.out.1,Zdp,if_neg (by rw[htb];decide),if_pos hmb])
     clear htb hmb
     go_wp2_with (go_at_call 35;refine(HSET.out _ HAL.out false).mono ?_;rintro e W3 ⟨rfl,hd3,ho3⟩;have hnx:Hid (IsDev B W3 D {q with sure:=ZdB (Zdp m tn) q.unsure q.sure (t+1)}∧Only [134] B w W3):=Zhd (by rw[HS.out];exact⟨hd3,(hinv.out.2.trans (Only.below HAL.out hBW.out)).trans ho3⟩);clear hd3 ho3 hbt hbm)
     go_roundw
     case rel=>exact⟨t+1,hlt,by simp,hnx⟩
     case measure=>simp[intOf];omega
    |false=>
     rw[hmb] at hbm
     have hnx:Hid (IsDev B (wr.alloc (.cells #[.int .i64 (u.1:Int),.slice k.1 512 k.2] 86)) D {q with sure:=ZdB (Zdp m tn) q.unsure q.sure (t+1)}∧Only [134] B w (wr.alloc (.cells #[.int .i64 (u.1:Int),.slice k.1 512 k.2] 86))):=Zhd (by
      rw[show ZdB (Zdp m tn) q.unsure q.sure (t+1)=ZdB (Zdp m tn) q.unsure q.sure t by rw[ZdB,HU.out.1,Zdp,if_neg (by rw[htb];decide),if_neg (by rw[hmb];decide)]]
      exact⟨hinv.out.1.on HAL.out,hinv.out.2.trans (Only.below HAL.out hBW.out)⟩)
     clear htb hmb
     go_wp2_with fail
     go_roundw
     case rel=>exact⟨t+1,hlt,by simp,hnx⟩
     case measure=>simp[intOf];omega
def ZfF:List UInt8×Bool:=(List.replicate 512 0,false)
def Zem (n:Nat):Zaz:={sure:=List.replicate n ZfF,unsure:=[],limit:=0,down:=false}
theorem ZqW:∃ (i0:TypeInfo),Tryz.prog.info? 134=some i0∧i0.size=513∧i0.bytes≤1000∧i0.zero.map (·.cells.toList)=some ((List.replicate 512 (Value.int .u8 0))++[.bool false]):=by
 have h:(Tryz.prog.info? 134).map (fun i=>(i.size,decide (i.bytes≤1000),i.zero.map (·.cells.toList)))=some (513,true,some ((List.replicate 512 (Value.int .u8 0))++[.bool false])):=by kernel_rfl
 obtain⟨i0,h1,h2⟩:=Option.map_eq_some_iff.1 h
 simp only[Prod.mk.injEq,Zde] at h2
 exact⟨i0,h1,h2.1,h2.2.1,h2.2.2⟩
theorem Zhq (n:Nat):∀ s∈List.replicate n ZfF,s.1.length=512:=fun s hs=>by rw[List.eq_of_mem_replicate hs];exact List.length_replicate
theorem ZnQ {z:Array Value} (hz:z.toList=(List.replicate 512 (Value.int .u8 0))++[.bool false]) (n:Nat):madeCells z (n*513)=(Zct (List.replicate n ZfF)).toArray:=by
 have hzz:z.toList=Zlm ZfF:=by
  have h0:u8V 0= .int .u8 0:=rfl
  rw[hz,Zlm,ZfF,List.map_replicate,h0]
 have hzs:z.size=513:=by rw[←Array.length_toList,hz,Zla,List.length_replicate];rfl
 have hl:=ZgA (Zhq n)
 rw[List.length_replicate] at hl
 apply Array.ext
 ·simp[madeCells,hl]
 ·intro i h1 h2
  have hi:i<n*513:=by simpa [madeCells] using h1
  have hk:i/513<n:=by omega
  have hj:i%513<513:=Nat.mod_lt _ (by omega)
  have h3:=Zgz (Zhq n) (i/513) (by simpa using hk) (i%513) hj
  rw[show i/513*513+i%513=i from by omega,List.getElem_replicate,←hzz] at h3
  have h4:(madeCells z (n*513))[i]?=z.toList[i%513]?:=by
   rw[madeCells,Array.getElem?_map]
   simp[hi,hzs,hj,getElem!_pos]
  apply Zsi
  rw[←Array.getElem?_eq_getElem h1,←Array.getElem?_eq_getElem h2,h4,List.getElem?_toArray,h3]
theorem ZkO (w:World) (n:Nat) (hn:1≤n) (hn4:n≤4096):
  Calls Tryz.prog 4 #[.int .i64 (n:Int)] w fun e w'=>(∃ D,e= .returned (.tuple #[.pointer (some ⟨D,0,none⟩),.int .i64 0])∧IsDev w.heap.size w' D (Zem n))∧Below w.heap.size w w':=by
 obtain⟨i0,hi,hz0,hz1,hz2⟩:=ZqW
 obtain⟨z,hz,hzc⟩:=Option.map_eq_some_iff.1 hz2
 have hmk:=run_make (P:=Tryz.prog) w 52 134 i0 z Tryz.underlying52 hi hz .i64 .i64 (n:Int) (n:Int) (by omega) (by omega) (by have h:=Nat.mul_le_mul hz1 hn4;have h2:((i0.bytes*n:Nat):Int)=(i0.bytes:Int)*(n:Int):=Int.natCast_mul _ _;omega) (by omega)
 rw[hz0,Int.toNat_natCast,ZnQ hzc n] at hmk
 obtain⟨zz,hzz⟩:∃ zz,zz=(Zct (List.replicate n ZfF)).toArray:=⟨_,rfl⟩
 rw[←hzz] at hmk
 have HZ:=Zhd hzz
 clear hz2 hz hzc hi hz0 hz1 hzz
 go_enter Tryz.func4,Tryz.ntmps4
 go_wp2_with fail
 go_ret2
 have hZ:=HZ.out
 subst hZ
 have ha1:Below w.heap.size w (w.alloc (.cells (Zct (List.replicate n ZfF)).toArray 134)):=Zbr.alloc Zlr _
 have hb1:Blk (w.alloc (.cells (Zct (List.replicate n ZfF)).toArray 134)) w.heap.size (Zct (List.replicate n ZfF)).toArray 134:=Zha w _
 have hs1:(w.alloc (.cells (Zct (List.replicate n ZfF)).toArray 134)).heap.size=w.heap.size+1:=Array.size_push _
 generalize w.alloc (.cells (Zct (List.replicate n ZfF)).toArray 134)=W1 at ha1 hb1 hs1⊢
 rw[←hs1]
 have ha2:Below W1.heap.size W1 (W1.alloc (.cells #[.slice (some ⟨w.heap.size,0,none⟩) n n,.slice none 0 0,.int .i64 0,.bool false] 55)):=Zbr.alloc Zlr _
 have hb2:Blk (W1.alloc (.cells #[.slice (some ⟨w.heap.size,0,none⟩) n n,.slice none 0 0,.int .i64 0,.bool false] 55)) W1.heap.size #[.slice (some ⟨w.heap.size,0,none⟩) n n,.slice none 0 0,.int .i64 0,.bool false] 55:=Zha W1 _
 refine⟨⟨_,rfl,⟨⟨w.heap.size,_,?_,hb1.on ha2,Nat.le_refl _,Gath.nil _ _ _ _ _⟩,by omega,?_,?_,Zhq n,fun u hu=>absurd hu List.not_mem_nil,Nat.zero_le _,Nat.zero_le _⟩⟩,ha1.trans (ha2.mono (by omega))⟩
 ·rw[show(Zem n).sure.length=n from List.length_replicate];exact hb2
 ·rw[show(Zem n).sure.length=n from List.length_replicate];omega
 ·rw[show(Zem n).sure.length=n from List.length_replicate];omega
structure ZcS where
 gen:Int
 epoch:Int
 first:Int
 from':Int
 count:Int
def ZaM (s:ZcS):Array Value:=#[.int .i64 s.gen,.int .i64 s.epoch,.int .i64 s.first,.int .i64 s.from',.int .i64 s.count]
def Zis (b:Nat):Array Value:=#[.pointer (some ⟨b,0,none⟩),.pointer (some ⟨b,1,none⟩),.pointer (some ⟨b,2,none⟩),.pointer (some ⟨b,3,none⟩),.pointer (some ⟨b,4,none⟩)]
theorem Zjr {tmps:Array Value} {w:World} {R b:Nat} (h2:tmps[2]?=some (.pointer (some ⟨R,0,none⟩))) (hB:Blk w R (Zis b) 145):
  (results Tryz.f85 tmps).run Tryz.prog w= .ok (.agg (Zis b)) w:=by
 have c0:=hB.cell 0
 have c1:=hB.cell 1
 have c2:=hB.cell 2
 have c3:=hB.cell 3
 have c4:=hB.cell 4
 simp[Zis] at c0 c1 c2 c3 c4
 have hlen:R<w.heap.size:=hB.lt
 simp[results,go_sem,h2,c0,c1,c2,c3,c4,Zis]
theorem ZgX (w:World) (b:Nat):
  Calls Tryz.prog 85 #[.pointer (some ⟨b,0,none⟩)] w fun e w'=>e= .returned (.agg (Zis b))∧Below w.heap.size w w':=by
 go_enter Tryz.func85,Tryz.ntmps85
 have hA:Blk (w.alloc (.cells #[.pointer none,.pointer none,.pointer none,.pointer none,.pointer none] 145)) w.heap.size #[.pointer none,.pointer none,.pointer none,.pointer none,.pointer none] 145:=Zha w _
 have hal:Below w.heap.size w (w.alloc (.cells #[.pointer none,.pointer none,.pointer none,.pointer none,.pointer none] 145)):=Zbr.alloc Zlr _
 have HA:=Zhd (Zan hA hal)
 clear hA hal
 go_wp2_with fail
 generalize (w.alloc (.cells #[.pointer none,.pointer none,.pointer none,.pointer none,.pointer none] 145))=Z at HA⊢
 have c0:=HA.out.1.cell 0
 have c1:=HA.out.1.cell 1
 have c2:=HA.out.1.cell 2
 have c3:=HA.out.1.cell 3
 have c4:=HA.out.1.cell 4
 simp at c0 c1 c2 c3 c4
 have f0:=HA.out.1.free 0
 have f1:=HA.out.1.free 1
 have f2:=HA.out.1.free 2
 have f3:=HA.out.1.free 3
 have f4:=HA.out.1.free 4
 go_region
 clear c0 c1 c2 c3 c4 f0 f1 f2 f3 f4
 go_wp2_with fail
 have s1:=HA.out.1.set 0 (.pointer (some ⟨b,0,none⟩))
 have s2:=s1.set 1 (.pointer (some ⟨b,1,none⟩))
 have s3:=s2.set 2 (.pointer (some ⟨b,2,none⟩))
 have s4:=s3.set 3 (.pointer (some ⟨b,3,none⟩))
 have s5:=s4.set 4 (.pointer (some ⟨b,4,none⟩))
 have g1:=Zag Z w.heap.size 0 (.pointer (some ⟨b,0,none⟩))
 have g2:=Zah g1 (Zag _ w.heap.size 1 (.pointer (some ⟨b,1,none⟩)))
 have g3:=Zah g2 (Zag _ w.heap.size 2 (.pointer (some ⟨b,2,none⟩)))
 have g4:=Zah g3 (Zag _ w.heap.size 3 (.pointer (some ⟨b,3,none⟩)))
 have g5:=Zah g4 (Zag _ w.heap.size 4 (.pointer (some ⟨b,4,none⟩)))
 have hb:=HA.out.2.trans (Zam g5 Zlr HA.out.2.size)
 refine bodyPost_ret (v:= .agg (Zis b)) (Zjr rfl (Blk.on (by simpa [Zis] using s5) (Below.drew Zbr))) rfl ⟨rfl,hb.trans (Below.drew Zbr)⟩
def Zdm (l:List UInt8) (t:Nat):Int:=(beN ((l.drop (t*7)).take 7):Int)
def ZeR (l:List UInt8):ZcS:=⟨Zdm l 0,Zdm l 1,Zdm l 2,Zdm l 3,Zdm l 4⟩
def Zal:ZcS:=⟨0,0,0,0,0⟩
def ZiN (h:Zb7):Bool:=h.kind==1&&h.epoch==0&&h.seq==0&&h.part==0&&h.parts==1
def ZhC (raw:List UInt8):Bool:=decide (Zb8 raw=0)&&ZiN (ZbR raw)&&decide ((ZbE raw).length=35)
def ZaW (d:Zaz) (pos:Nat):ZcS×Bool×Int:=if d.down=true then(Zal,false,8) else match Zbg d pos with
 |none=>(Zal,false,0)
 |some raw=>if ZhC raw=true then(ZeR (ZbE raw),decide ((ZeR (ZbE raw)).gen%2=(pos:Int)),0) else(Zal,false,0)
theorem ZbJ:(Tryz.prog.info? 95).map (·.size)=some 5:=by kernel_rfl
theorem Zbm (s:ZcS):(ZaM s).all (·.oneCell')=true:=by simp[ZaM,Value.oneCell']
theorem ZbV {tmps:Array Value} {w:World} {R:Nat} {s:ZcS} {b:Bool} {k:Int} (h4:tmps[4]?=some (.pointer (some ⟨R,0,none⟩))) (h5:tmps[5]?=some (.bool b)) (h6:tmps[6]?=some (.int .i64 k)) (hB:Blk w R (ZaM s) 95):
  (results Tryz.f82 tmps).run Tryz.prog w= .ok (.tuple #[.agg (ZaM s),.bool b,.int .i64 k]) w:=by
 have c0:=hB.cell 0
 have c1:=hB.cell 1
 have c2:=hB.cell 2
 have c3:=hB.cell 3
 have c4:=hB.cell 4
 simp[ZaM] at c0 c1 c2 c3 c4
 simp[results,go_sem,h4,h5,h6,c0,c1,c2,c3,c4,ZaM]
def ZjQ (l:List UInt8) (t:Nat):Array Value:=#[.int .i64 (if 0<t then Zdm l 0 else 0),.int .i64 (if 1<t then Zdm l 1 else 0),.int .i64 (if 2<t then Zdm l 2 else 0),.int .i64 (if 3<t then Zdm l 3 else 0),.int .i64 (if 4<t then Zdm l 4 else 0)]
theorem Zou (l:List UInt8) {t:Nat} (h:t<5):(ZjQ l t).setIfInBounds t (.int .i64 (Zdm l t))=ZjQ l (t+1):=by
 match t,h with
 |0,_|1,_|2,_|3,_|4,_=>simp[ZjQ]
theorem Zot (l:List UInt8) {t:Nat} (h:t<5):(ZjQ l t)[t]?=some (.int .i64 0):=by
 match t,h with
 |0,_|1,_|2,_|3,_|4,_=>simp[ZjQ]
theorem Zk6 (w:World) (b:Nat) {t:Nat} (h:t<5):(Instr.index 145 (.agg (Zis b)) (.int .i64 (t:Int))).run Tryz.prog w= .ok (.pointer (some ⟨b,t,none⟩)) w:=by
 match t,h with
 |0,_|1,_|2,_|3,_|4,_=>simp[Instr.index,run_underlying Tryz.underlying145,asIntOf,go_sem,Zis]
theorem ZdU (W:World) (h:Zb7):Blk ((W.alloc (.cells (Zat ZaO) 108)).setRow W.heap.size (Zat h)) W.heap.size (Zat h) 108∧Below W.heap.size W ((W.alloc (.cells (Zat ZaO) 108)).setRow W.heap.size (Zat h)):=by
 have hal:Below W.heap.size W (W.alloc (.cells (Zat ZaO) 108)):=Zbr.alloc Zlr _
 have hA:Blk (W.alloc (.cells (Zat ZaO) 108)) W.heap.size (Zat ZaO) 108:=Zha W _
 exact⟨ZaA hA _,hal.trans (Zam (Zav _ W.heap.size (Zat h)) Zlr hal.size)⟩
theorem Zev {w W:World} {s:ZcS} (hB:Blk W w.heap.size (ZaM s) 95) (hb:Below w.heap.size w W) (H:ZcS):Blk (W.setRow w.heap.size (ZaM H)) w.heap.size (ZaM H) 95∧Below w.heap.size w (W.setRow w.heap.size (ZaM H)):=
 ⟨ZaA hB (ZaM H),hb.trans (Zam (Zav W w.heap.size (ZaM H)) Zlr hb.size)⟩
theorem ZkE (w:World) (B D:Nat) (d:Zaz) (hd:IsDev B w D d) (pos:Nat) (hp:pos<d.sure.length):
  Calls Tryz.prog 82 #[.pointer (some ⟨D,0,none⟩),.int .i64 (pos:Int)] w fun e w'=>e= .returned (.tuple #[.agg (ZaM (ZaW d pos).1),.bool (ZaW d pos).2.1,.int .i64 (ZaW d pos).2.2])∧Below w.heap.size w w':=by
 have hal:Below w.heap.size w (w.alloc (.cells (ZaM Zal) 95)):=Zbr.alloc Zlr _
 have hA:Blk (w.alloc (.cells (ZaM Zal) 95)) w.heap.size (ZaM Zal) 95:=Zha w _
 have hRD:=ZgI (w.alloc (.cells (ZaM Zal) 95)) B D d (hd.on hal) pos hp
 have HR:=Zhd hRD
 have HA:=Zhd (Zan hA hal)
 clear hRD hA hal hd
 cases hdn:d.down with
 |true=>
  have HE:=Zhd (show ZaW d pos=(Zal,false,8) by rw[ZaW,if_pos hdn])
  have HDN:=Zhd hdn
  clear hdn
  go_enter Tryz.func82,Tryz.ntmps82
  go_wp2_with (first|(go_at_call 83;refine HR.out.mono ?_;rintro e W hR;obtain rfl:=hR.down HDN.out;have HB:=Zhd (HA.out.2.trans (hR.bel.mono HA.out.2.size));have HBK:=Zhd (HA.out.1.on hR.bel);clear hR)|(refine wpList_store_row rfl 95 _ _ rfl w.heap.size (ZaM Zal) rfl rfl 95 (ZaM Zal) HBK.out ZbJ rfl (Zbm _) ?_))
  have HF:=Zhd (Zev HBK.out HB.out Zal)
  exact bodyPost_ret (ZbV rfl rfl rfl HF.out.1) rfl ⟨by rw[HE.out],HF.out.2⟩
 |false=>
  have HDN:=Zhd hdn
  cases hrp:Zbg d pos with
  |none=>
   have HE:=Zhd (show ZaW d pos=(Zal,false,0) by rw[ZaW,if_neg (by rw[hdn];decide),hrp])
   have HRP:=Zhd hrp
   clear hdn hrp
   go_enter Tryz.func82,Tryz.ntmps82
   go_wp2_with (first|(go_at_call 83;refine HR.out.mono ?_;rintro e W hR;obtain rfl:=hR.torn HDN.out HRP.out;have HB:=Zhd (HA.out.2.trans (hR.bel.mono HA.out.2.size));have HBK:=Zhd (HA.out.1.on hR.bel);clear hR)|(refine wpList_store_row rfl 95 _ _ rfl w.heap.size (ZaM Zal) rfl rfl 95 (ZaM Zal) HBK.out ZbJ rfl (Zbm _) ?_))
   have HF:=Zhd (Zev HBK.out HB.out Zal)
   exact bodyPost_ret (ZbV rfl rfl rfl HF.out.1) rfl ⟨by rw[HE.out],HF.out.2⟩
  |some raw=>
   have hsr:ZaW d pos=if ZhC raw=true then(ZeR (ZbE raw),decide ((ZeR (ZbE raw)).gen%2=(pos:Int)),0) else(Zal,false,0):=by rw[ZaW,if_neg (by rw[hdn];decide),hrp]
   have HRP:=Zhd hrp
   clear hdn hrp
   by_cases hoe:Zb8 raw=0
   ·obtain⟨hh0,hh⟩:∃ h,h=ZbR raw:=⟨_,rfl⟩
    obtain⟨n,hn⟩:∃ n,n=(ZbE raw).length:=⟨_,rfl⟩
    by_cases hgd:ZiN hh0=true∧n=35
    ·have hh1:hh0=⟨1,0,0,0,1⟩:=by
      obtain⟨a,b,c,d,e⟩:=hh0
      have h1:=hgd.1
      simp[ZiN] at h1
      obtain⟨⟨⟨⟨rfl,rfl⟩,rfl⟩,rfl⟩,rfl⟩:=h1
      rfl
     have hn1:=hgd.2
     subst hh1
     subst hn1
     obtain⟨l,hl⟩:∃ l,l=ZbE raw:=⟨_,rfl⟩
     have HE:=Zhd (show ZaW d pos=(ZeR l,decide (Zdm l 0%2=(pos:Int)),0) by
      rw[hsr,if_pos (by simp only[ZhC,Zae2,Zde];exact⟨⟨hoe,by rw[←hh];decide⟩,hn.symm⟩),←hl];rfl)
     have HX:=Zhd (Zan hsr (Zan hoe (Zan hh (Zan hn hl))))
     clear hsr hoe hh hn hgd hl
     go_enter Tryz.func82,Tryz.ntmps82
     go_wp2_with (first|(go_at_call 83;refine HR.out.mono ?_;rintro e W hR;obtain⟨ao,c,rfl,ho,h512⟩:=hR.ok HDN.out raw HRP.out;have HB:=Zhd (HA.out.2.trans (hR.bel.mono HA.out.2.size));have HBK:=Zhd (HA.out.1.on hR.bel);have HOP:=Zhd (Zes W ao 512 c raw ho.row);clear hR ho h512)|(go_at_call 91;refine HOP.out.mono ?_;rintro e W2 hO;obtain⟨ao2,c2,rfl,ho2⟩:=hO.ok HX.out.2.1;rw[←HX.out.2.2.1,←HX.out.2.2.2.1];have HO:=Zhd (Zan (Zaa HB.out hO.bel Zlr) (Zan (HBK.out.on hO.bel) (Zan ho2 HBK.out.lt)));clear hO ho2)|(refine wpList_store_row rfl 108 _ _ rfl W2.heap.size (Zat ⟨1,0,0,0,1⟩) rfl rfl 108 (Zat ZaO) (Zha W2 _) ZbD rfl (Zbs _) ?_;have hq:=ZdU W2 ⟨1,0,0,0,1⟩;(try change wpList _ _ _ _ _ ((W2.alloc (.cells (Zat ZaO) 108)).setRow W2.heap.size (Zat ⟨1,0,0,0,1⟩)));generalize (W2.alloc (.cells (Zat ZaO) 108)).setRow W2.heap.size (Zat ⟨1,0,0,0,1⟩)=W3 at hq⊢;have q0:=hq.1.cell 0;have q1:=hq.1.cell 1;have q2:=hq.1.cell 2;have q3:=hq.1.cell 3;have q4:=hq.1.cell 4;simp[Zat] at q0 q1 q2 q3 q4;have HQ:=Zhd (Zan (Zaa HO.out.1 hq.2 Zlr) (Zan (HO.out.2.1.on hq.2) (Zan (HO.out.2.2.1.on hq.2) HO.out.2.2.2)));clear hq)|(go_at_call 85;refine(ZgX W3 w.heap.size).mono ?_;rintro e W4 ⟨rfl,hb4⟩;have HS:=Zhd (Zan (Zaa HQ.out.1 hb4 Zlr) (Zan (HQ.out.2.1.on hb4) (Zan (HQ.out.2.2.1.on hb4) HQ.out.2.2.2)));clear hb4 q0 q1 q2 q3 q4))
     have hs0:=HS.out.2.2.1
     rw[←HX.out.2.2.2.2,show l.length=35 by rw[HX.out.2.2.2.2];exact HX.out.2.2.2.1.symm] at hs0
     have hu0:ZjQ l 0=ZaM Zal:=by simp[ZjQ,ZaM,Zal]
     have HL:=Zhd (Zan (Zan HS.out.1 (Zan (hu0▸HS.out.2.1) hs0)) HS.out.2.2.2)
     have HLL:=Zhd (show l.length=35 by rw[HX.out.2.2.2.2];exact HX.out.2.2.2.1.symm)
     clear hs0 hu0
     go_loopw [47] (fun i wr=>∃ t:Nat,t≤5∧i= .int .i64 (t:Int)∧Hid (Below w.heap.size w wr∧Blk wr w.heap.size (ZjQ l t) 95∧Own1 [5] W.heap.size wr ao2 35 c2 (l.map u8V))) (fun i _=>(5-intOf i).toNat)
     case atStart=>exact⟨0,Nat.zero_le _,rfl,Zhd HL.out.1⟩
     case round=>
      obtain⟨t,ht,rfl,hinv⟩:=hrel
      by_cases hlt:t<5
      ·have hg:=ZeC wr ao2 35 c2 l hinv.out.2.2.row (t*7) 7 (by omega) (by omega) (by omega)
       have hgp:Zdl l (t*7) 7=(Zdm l t,0):=by rw[Zdl,if_pos (by rw[HLL.out];omega)];rfl
       rw[hgp,show((t*7:Nat):Int)=(t:Int)*7 from Int.natCast_mul _ _] at hg
       have HG:=Zhd hg
       have hix:=Zk6 wr w.heap.size hlt
       have c0:wr.cell? ⟨w.heap.size,t,none⟩=some (.int .i64 0):=by rw[hinv.out.2.1.cell t];exact Zot l hlt
       have f0:=hinv.out.2.1.free t
       clear hg hgp
       go_wp2_with (go_at_call 135;refine HG.out.mono ?_;rintro e W5 ⟨rfl,rfl⟩)
       have hbs:=Zag W5 w.heap.size t (.int .i64 (Zdm l t))
       have hnb:=hinv.out.2.1.set t (.int .i64 (Zdm l t))
       rw[Zou l hlt] at hnb
       have hbw:=HL.out.2
       exact⟨⟨t+1,hlt,by simp,Zhd ⟨hinv.out.1.trans (Zam hbs Zlr hinv.out.1.size),hnb,hinv.out.2.2.step (Same.grown hbs (fun b ht e=>by
        have e:=Zsi e
        have:=ht.2
        omega))⟩⟩,by simp[intOf];omega⟩
      ·obtain rfl:t=5:=by omega
       have hB:Blk wr w.heap.size (ZaM (ZeR l)) 95:=hinv.out.2.1
       have c0:=hB.cell 0
       have c1:=hB.cell 1
       have c2':=hB.cell 2
       have c3:=hB.cell 3
       have c4:=hB.cell 4
       simp[ZaM,ZeR] at c0 c1 c2' c3 c4
       obtain⟨g,hg⟩:∃ g:Nat,Zdm l 0=(g:Int):=⟨_,rfl⟩
       rw[hg] at c0
       have hs:ZaM (ZeR l)=#[.int .i64 (g:Int),.int .i64 (Zdm l 1),.int .i64 (Zdm l 2),.int .i64 (Zdm l 3),.int .i64 (Zdm l 4)]:=by rw[ZaM,ZeR,←hg]
       have HSC:=Zhd hs
       have HBK2:=Zhd hB
       have HF:=Zhd (Zev hB hinv.out.1 (ZeR l))
       have HGG:=Zhd hg
       have hm2:(g:Int).tmod 2=((g%2:Nat):Int):=rfl
       clear hB hg hs
       go_wp2_with (refine wpList_store_row rfl 95 _ _ rfl w.heap.size (ZaM (ZeR l)) rfl (by rw[HSC.out];rfl) 95 (ZaM (ZeR l)) HBK2.out ZbJ rfl (Zbm _) ?_)
       refine bodyPost_ret (ZbV rfl rfl rfl HF.out.1) rfl ⟨?_,HF.out.2⟩
       rw[HE.out,HGG.out,show((g:Int)%2==(pos:Int))=decide ((g:Int)%2=(pos:Int)) by rw[Bool.eq_iff_iff];simp]
    ·have HE:=Zhd (show ZaW d pos=(Zal,false,0) by
      rw[hsr,if_neg]
      intro hk
      simp only[ZhC,Zae2,Zde] at hk
      rw[←hh,←hn] at hk
      exact hgd ⟨hk.1.2,hk.2⟩)
     have hng: ¬(hh0.kind=1∧hh0.epoch=0∧hh0.seq=0∧hh0.part=0∧hh0.parts=1∧n=35):=fun hk=>hgd ⟨by simp[ZiN,hk.1,hk.2.1,hk.2.2.1,hk.2.2.2.1,hk.2.2.2.2.1],hk.2.2.2.2.2⟩
     have HX:=Zhd (Zan hsr (Zan hoe (Zan hh hn)))
     have HNG:=Zhd hng
     clear hsr hoe hh hn hgd hng
     go_enter Tryz.func82,Tryz.ntmps82
     go_wp2_with (first|(go_at_call 83;refine HR.out.mono ?_;rintro e W hR;obtain⟨ao,c,rfl,ho,h512⟩:=hR.ok HDN.out raw HRP.out;have HB:=Zhd (HA.out.2.trans (hR.bel.mono HA.out.2.size));have HBK:=Zhd (HA.out.1.on hR.bel);have HOP:=Zhd (Zes W ao 512 c raw ho.row);clear hR ho h512)|(go_at_call 91;refine HOP.out.mono ?_;rintro e W2 hO;obtain⟨ao2,c2,rfl,ho2⟩:=hO.ok HX.out.2.1;rw[←HX.out.2.2.1,←HX.out.2.2.2];have HO:=Zhd (Zan ho2 (Zan (Zaa HB.out hO.bel Zlr) (HBK.out.on hO.bel)));clear hO ho2)|(refine wpList_store_row rfl 108 _ _ rfl W2.heap.size (Zat hh0) rfl rfl 108 (Zat ZaO) (Zha W2 _) ZbD rfl (Zbs _) ?_;have hq:=ZdU W2 hh0;(try change wpList _ _ _ _ _ ((W2.alloc (.cells (Zat ZaO) 108)).setRow W2.heap.size (Zat hh0)));generalize (W2.alloc (.cells (Zat ZaO) 108)).setRow W2.heap.size (Zat hh0)=W3 at hq⊢;have q0:=hq.1.cell 0;have q1:=hq.1.cell 1;have q2:=hq.1.cell 2;have q3:=hq.1.cell 3;have q4:=hq.1.cell 4;simp[Zat] at q0 q1 q2 q3 q4;have HQ:=Zhd (Zan (Zaa HO.out.2.1 hq.2 Zlr) (HO.out.2.2.on hq.2));clear hq)|(refine wpList_store_row rfl 95 _ _ rfl w.heap.size (ZaM Zal) rfl rfl 95 (ZaM Zal) HQ.out.2 ZbJ rfl (Zbm _) ?_))
     all_goals first
      |(have HF:=Zev HQ.out.2 HQ.out.1 Zal
        exact bodyPost_ret (ZbV rfl rfl rfl HF.1) rfl ⟨by rw[HE.out],HF.2⟩)
      |(exfalso
        have hN:=HNG.out
        have h35:=‹((n:Int)!=35)=false›
        simp at h35
        omega)
   ·have HE:=Zhd (show ZaW d pos=(Zal,false,0) by
     rw[hsr,if_neg]
     intro hk
     simp only[ZhC,Zae2,Zde] at hk
     exact hoe hk.1.1)
    obtain⟨k,hk⟩:∃ k,k=Zb8 raw:=⟨_,rfl⟩
    rw[←hk] at hoe
    have hk0:(k==0)=false:=by simp[hoe]
    have HK:=Zhd (Zan hk hoe)
    clear hsr hk
    go_enter Tryz.func82,Tryz.ntmps82
    go_wp2_with (first|(go_at_call 83;refine HR.out.mono ?_;rintro e W hR;obtain⟨ao,c,rfl,ho,h512⟩:=hR.ok HDN.out raw HRP.out;have HB:=Zhd (HA.out.2.trans (hR.bel.mono HA.out.2.size));have HBK:=Zhd (HA.out.1.on hR.bel);have HOP:=Zhd (Zes W ao 512 c raw ho.row);clear hR ho h512)|(go_at_call 91;refine HOP.out.mono ?_;rintro e W2 hO;obtain rfl:=hO.bad (by rw[←HK.out.1];exact HK.out.2);rw[←HK.out.1];have HO:=Zhd (Zan (Zaa HB.out hO.bel Zlr) (HBK.out.on hO.bel));clear hO)|(refine wpList_store_row rfl 108 _ _ rfl W2.heap.size (Zat ZaO) rfl rfl 108 (Zat ZaO) (Zha W2 _) ZbD rfl (Zbs _) ?_;have hq:=ZdU W2 ZaO;(try change wpList _ _ _ _ _ ((W2.alloc (.cells (Zat ZaO) 108)).setRow W2.heap.size (Zat ZaO)));generalize (W2.alloc (.cells (Zat ZaO) 108)).setRow W2.heap.size (Zat ZaO)=W3 at hq⊢;have HQ:=Zhd (Zan (Zaa HO.out.1 hq.2 Zlr) (HO.out.2.on hq.2));clear hq)|(refine wpList_store_row rfl 95 _ _ rfl w.heap.size (ZaM Zal) rfl rfl 95 (ZaM Zal) HQ.out.2 ZbJ rfl (Zbm _) ?_))
    have HF:=Zev HQ.out.2 HQ.out.1 Zal
    exact bodyPost_ret (ZbV rfl rfl rfl HF.1) rfl ⟨by rw[HE.out],HF.2⟩
end Go.Proofs.YtjpefpclmndgeaaGreat

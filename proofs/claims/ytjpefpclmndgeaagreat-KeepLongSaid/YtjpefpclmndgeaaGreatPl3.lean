/- Contracts of the given program's functions, in the order in which they are proved. -/
import Derived.Laws.Tables
import Derived.Test.YtjpefpclmndgeaaGreatShelf
import Derived.BigQuiet
import Derived.Deep.RegionHeld3
import Derived.Lib.AppendStr
import Derived.Test.YtjpefpclmndgeaaGreatPl2
namespace Go.Proofs.YtjpefpclmndgeaaGreat
set_option maxHeartbeats 64000000
set_option maxRecDepth 100000
open Go.ChangeShapes Go.WideShapes Go.ChangeAt Go.RowKit
def Zb1 (d:Zaz):Nat→Option ZcS
 |0=>none
 |t+1=>if (ZaW d t).2.1=true∧∀ b,Zb1 d t=some b→b.gen<(ZaW d t).1.gen then some (ZaW d t).1 else Zb1 d t
def ZeO (d:Zaz):Int:=if d.down=true then 8 else if (Zb1 d 2).isSome=true then 0 else 11
def Zfm (d:Zaz):ZcS:=if d.down=true then Zal else(Zb1 d 2).getD Zal
theorem Zos {d:Zaz} (h:d.down=false) (t:Nat):(ZaW d t).2.2=0:=by
 rw[ZaW,if_neg (by rw[h];decide)]
 split
 ·rfl
 ·split<;>rfl
theorem Zei {tmps:Array Value} {w:World} {R:Nat} {s:ZcS} {k:Int} (h2:tmps[2]?=some (.pointer (some ⟨R,0,none⟩))) (h3:tmps[3]?=some (.int .i64 k)) (hB:Blk w R (ZaM s) 95):
  (results Tryz.f44 tmps).run Tryz.prog w= .ok (.tuple #[.agg (ZaM s),.int .i64 k]) w:=by
 have c0:=hB.cell 0
 have c1:=hB.cell 1
 have c2:=hB.cell 2
 have c3:=hB.cell 3
 have c4:=hB.cell 4
 simp[ZaM] at c0 c1 c2 c3 c4
 simp[results,go_sem,h2,h3,c0,c1,c2,c3,c4,ZaM]
theorem Zeu (W:World) (s:ZcS):Blk ((W.alloc (.cells (ZaM Zal) 95)).setRow W.heap.size (ZaM s)) W.heap.size (ZaM s) 95∧Below W.heap.size W ((W.alloc (.cells (ZaM Zal) 95)).setRow W.heap.size (ZaM s)):=by
 have hal:Below W.heap.size W (W.alloc (.cells (ZaM Zal) 95)):=Zbr.alloc Zlr _
 have hA:Blk (W.alloc (.cells (ZaM Zal) 95)) W.heap.size (ZaM Zal) 95:=Zha W _
 exact⟨ZaA hA _,hal.trans (Zam (Zav _ W.heap.size (ZaM s)) Zlr hal.size)⟩
theorem Zim (w:World) (B D:Nat) (d:Zaz) (hd:IsDev B w D d) (h2:2≤d.sure.length):
  Calls Tryz.prog 44 #[.pointer (some ⟨D,0,none⟩)] w fun e w'=>e= .returned (.tuple #[.agg (ZaM (Zfm d)),.int .i64 (ZeO d)])∧Below w.heap.size w w':=by
 have hal:Below w.heap.size w (w.alloc (.cells (ZaM Zal) 95)):=Zbr.alloc Zlr _
 have hA:Blk (w.alloc (.cells (ZaM Zal) 95)) w.heap.size (ZaM Zal) 95:=Zha w _
 have HLN:=Zhd (ZdQ (w.alloc (.cells (ZaM Zal) 95)) B D d (hd.on hal))
 have HDW:=Zhd (Zfd (w.alloc (.cells (ZaM Zal) 95)) B D d (hd.on hal))
 have HA:=Zhd (Zan hal hA)
 have HD:=Zhd hd
 have h2i: ¬((d.sure.length:Int)<2):=by omega
 have hle:=hd.le
 obtain⟨n,hn⟩:∃ n,n=d.sure.length:=⟨_,rfl⟩
 rw[←hn] at h2i hle h2
 have HN:=Zhd hn
 clear hal hA hd hn
 cases hdn:d.down with
 |true=>
  have HE:=Zhd (show ZeO d=8∧Zfm d=Zal by simp[ZeO,Zfm,hdn])
  rw[hdn] at HDW
  clear hdn
  go_enter Tryz.func44,Tryz.ntmps44
  go_wp2_with (first|(go_at_call 19;refine HLN.out.mono ?_;rintro e W ⟨rfl,rfl⟩;rw[←HN.out])|(go_at_call 43;refine HDW.out.mono ?_;rintro e W ⟨rfl,rfl⟩)|(refine wpList_store_row rfl 95 _ _ rfl w.heap.size (ZaM Zal) rfl rfl 95 (ZaM Zal) HA.out.2 ZbJ rfl (Zbm _) ?_))
  have HF:=Zhd (Zev HA.out.2 HA.out.1 Zal)
  exact bodyPost_ret (Zei rfl rfl HF.out.1) rfl ⟨by rw[HE.out.1,HE.out.2],HF.out.2⟩
 |false=>
  have HDN:=Zhd hdn
  rw[hdn] at HDW
  clear hdn
  go_enter Tryz.func44,Tryz.ntmps44
  go_wp2_with (first|(go_at_call 19;refine HLN.out.mono ?_;rintro e W ⟨rfl,rfl⟩;rw[←HN.out])|(go_at_call 43;refine HDW.out.mono ?_;rintro e W ⟨rfl,rfl⟩))
  go_loopw [5,19] (fun f i wr=>∃ t:Nat,t≤2∧i= .int .i64 (t:Int)∧f= .bool (Zb1 d t).isSome∧Hid (Below w.heap.size w wr∧Blk wr w.heap.size (ZaM Zal) 95∧Blk wr (w.heap.size+1) (ZaM ((Zb1 d t).getD Zal)) 95)) (fun _ i _=>(2-intOf i).toNat)
  case atStart=>
   refine⟨0,Nat.zero_le _,rfl,rfl,Zhd ?_⟩
   have h1:=HA.out.1.alloc HA.out.1.size (.cells (ZaM Zal) 95)
   have h3:=Zha (w.alloc (.cells (ZaM Zal) 95)) (.cells (ZaM Zal) 95)
   rw[show(w.alloc (.cells (ZaM Zal) 95)).heap.size=w.heap.size+1 from Array.size_push _] at h3
   exact⟨h1,HA.out.2.on (Zbr.alloc Zlr _),h3⟩
  case round=>
   obtain⟨t,ht,rfl,rfl,hinv⟩:=hrel
   by_cases hlt:t<2
   ·have hr:=ZkE wr B D d (HD.out.on hinv.out.1) t (by rw[←HN.out];omega)
    rw[Zos HDN.out t] at hr
    obtain⟨rs,hrs⟩:∃ rs,rs=(ZaW d t).1:=⟨_,rfl⟩
    obtain⟨rb,hrb⟩:∃ rb,rb=(ZaW d t).2.1:=⟨_,rfl⟩
    obtain⟨lo,hlo⟩:∃ lo,lo=Zb1 d t:=⟨_,rfl⟩
    have hst:Zb1 d (t+1)=if rb=true∧∀ b,lo=some b→b.gen<rs.gen then some rs else lo:=by rw[Zb1,hrs,hrb,hlo]
    rw[←hrs,←hrb] at hr
    rw[←hlo] at hinv⊢
    have HR:=Zhd hr
    have HS:=Zhd hst
    clear hr hst hrs hrb hlo
    cases rb with
    |false=>
     have HNX:=Zhd (show Zb1 d (t+1)=lo by rw[HS.out,if_neg (by simp)])
     go_wp2_with (first|(go_at_call 82;refine HR.out.mono ?_;rintro e W ⟨rfl,hb⟩;have HW:=Zhd (Zan (Zaa hinv.out.1 hb Zlr) (Zan (hinv.out.2.1.on hb) (hinv.out.2.2.on hb)));clear hb)|(refine wpList_store_row rfl 95 _ _ rfl W.heap.size (ZaM rs) rfl rfl 95 (ZaM Zal) (Zha W _) ZbJ rfl (Zbm _) ?_;have hq:=Zeu W rs;(try change wpList _ _ _ _ _ ((W.alloc (.cells (ZaM Zal) 95)).setRow W.heap.size (ZaM rs)));generalize (W.alloc (.cells (ZaM Zal) 95)).setRow W.heap.size (ZaM rs)=W3 at hq⊢;have q0:=hq.1.cell 0;simp[ZaM] at q0;have HQ:=Zhd (Zan (Zaa HW.out.1 hq.2 Zlr) (Zan (HW.out.2.1.on hq.2) (HW.out.2.2.on hq.2)));clear hq))
     go_roundw
     case rel=>exact⟨t+1,hlt,by simp,by rw[HNX.out],Zhd (by rw[HNX.out];exact HQ.out)⟩
     case measure=>simp[intOf];omega
    |true=>
     cases lo with
     |none=>
      have HNX:=Zhd (show Zb1 d (t+1)=some rs by rw[HS.out,if_pos ⟨rfl,fun b hb=>by cases hb⟩])
      go_wp2_with (first|(go_at_call 82;refine HR.out.mono ?_;rintro e W ⟨rfl,hb⟩;have HW:=Zhd (Zan (Zaa hinv.out.1 hb Zlr) (Zan (hinv.out.2.1.on hb) (hinv.out.2.2.on hb)));clear hb)|(refine wpList_store_row rfl 95 _ _ rfl W.heap.size (ZaM rs) rfl rfl 95 (ZaM Zal) (Zha W _) ZbJ rfl (Zbm _) ?_;have hq:=Zeu W rs;(try change wpList _ _ _ _ _ ((W.alloc (.cells (ZaM Zal) 95)).setRow W.heap.size (ZaM rs)));generalize (W.alloc (.cells (ZaM Zal) 95)).setRow W.heap.size (ZaM rs)=W3 at hq⊢;have q0:=hq.1.cell 0;have q1:=hq.1.cell 1;have q2:=hq.1.cell 2;have q3:=hq.1.cell 3;have q4:=hq.1.cell 4;simp[ZaM] at q0 q1 q2 q3 q4;have HQ:=Zhd (Zan (Zaa HW.out.1 hq.2 Zlr) (Zan (HW.out.2.1.on hq.2) (HW.out.2.2.on hq.2)));clear hq)|(refine wpList_store_row rfl 95 _ _ rfl (w.heap.size+1) (ZaM rs) rfl rfl 95 (ZaM ((none:Option ZcS).getD Zal)) HQ.out.2.2 ZbJ rfl (Zbm _) ?_))
      have hsr:=Zav W3 (w.heap.size+1) (ZaM rs)
      have HZ:=Zhd (Zan (HQ.out.1.trans (Zam hsr (Nat.le_succ _) HQ.out.1.size)) (Zan (HQ.out.2.1.but hsr (by omega)) (ZaA HQ.out.2.2 (ZaM rs))))
      clear hsr
      go_roundw
      case rel=>exact⟨t+1,hlt,by simp,by rw[HNX.out];rfl,Zhd (by rw[HNX.out];exact HZ.out)⟩
      case measure=>simp[intOf];omega
     |some b=>
      by_cases hgt:b.gen<rs.gen
      ·have HNX:=Zhd (show Zb1 d (t+1)=some rs by rw[HS.out,if_pos ⟨rfl,fun b' hb=>by cases hb;exact hgt⟩])
       go_wp2_with (first|(go_at_call 82;refine HR.out.mono ?_;rintro e W ⟨rfl,hb⟩;have HW:=Zhd (Zan (Zaa hinv.out.1 hb Zlr) (Zan (hinv.out.2.1.on hb) (hinv.out.2.2.on hb)));clear hb)|(refine wpList_store_row rfl 95 _ _ rfl W.heap.size (ZaM rs) rfl rfl 95 (ZaM Zal) (Zha W _) ZbJ rfl (Zbm _) ?_;have hq:=Zeu W rs;(try change wpList _ _ _ _ _ ((W.alloc (.cells (ZaM Zal) 95)).setRow W.heap.size (ZaM rs)));generalize (W.alloc (.cells (ZaM Zal) 95)).setRow W.heap.size (ZaM rs)=W3 at hq⊢;have q0:=hq.1.cell 0;have q1:=hq.1.cell 1;have q2:=hq.1.cell 2;have q3:=hq.1.cell 3;have q4:=hq.1.cell 4;simp[ZaM] at q0 q1 q2 q3 q4;have HQ:=Zhd (Zan (Zaa HW.out.1 hq.2 Zlr) (Zan (HW.out.2.1.on hq.2) (HW.out.2.2.on hq.2)));have qb:=HQ.out.2.2.cell 0;simp[ZaM] at qb;clear hq)|(refine wpList_store_row rfl 95 _ _ rfl (w.heap.size+1) (ZaM rs) rfl rfl 95 (ZaM ((some b).getD Zal)) HQ.out.2.2 ZbJ rfl (Zbm _) ?_))
       have hsr:=Zav W3 (w.heap.size+1) (ZaM rs)
       have HZ:=Zhd (Zan (HQ.out.1.trans (Zam hsr (Nat.le_succ _) HQ.out.1.size)) (Zan (HQ.out.2.1.but hsr (by omega)) (ZaA HQ.out.2.2 (ZaM rs))))
       clear hsr
       go_roundw
       case rel=>exact⟨t+1,hlt,by simp,by rw[HNX.out];rfl,Zhd (by rw[HNX.out];exact HZ.out)⟩
       case measure=>simp[intOf];omega
      ·have HNX:=Zhd (show Zb1 d (t+1)=some b by rw[HS.out,if_neg (fun h=>hgt (h.2 b rfl))])
       go_wp2_with (first|(go_at_call 82;refine HR.out.mono ?_;rintro e W ⟨rfl,hb⟩;have HW:=Zhd (Zan (Zaa hinv.out.1 hb Zlr) (Zan (hinv.out.2.1.on hb) (hinv.out.2.2.on hb)));clear hb)|(refine wpList_store_row rfl 95 _ _ rfl W.heap.size (ZaM rs) rfl rfl 95 (ZaM Zal) (Zha W _) ZbJ rfl (Zbm _) ?_;have hq:=Zeu W rs;(try change wpList _ _ _ _ _ ((W.alloc (.cells (ZaM Zal) 95)).setRow W.heap.size (ZaM rs)));generalize (W.alloc (.cells (ZaM Zal) 95)).setRow W.heap.size (ZaM rs)=W3 at hq⊢;have q0:=hq.1.cell 0;have q1:=hq.1.cell 1;have q2:=hq.1.cell 2;have q3:=hq.1.cell 3;have q4:=hq.1.cell 4;simp[ZaM] at q0 q1 q2 q3 q4;have HQ:=Zhd (Zan (Zaa HW.out.1 hq.2 Zlr) (Zan (HW.out.2.1.on hq.2) (HW.out.2.2.on hq.2)));have qb:=HQ.out.2.2.cell 0;simp[ZaM] at qb;clear hq))
       go_roundw
       case rel=>exact⟨t+1,hlt,by simp,by rw[HNX.out];rfl,Zhd (by rw[HNX.out];exact HQ.out)⟩
       case measure=>simp[intOf];omega
   ·obtain rfl:t=2:=by omega
    cases hlo:Zb1 d 2 with
    |none=>
     have HE:=Zhd (show ZeO d=11∧Zfm d=Zal by simp[ZeO,Zfm,HDN.out,hlo])
     have HF:=Zhd (Zev hinv.out.2.1 hinv.out.1 Zal)
     clear hlo
     go_wp2_with (refine wpList_store_row rfl 95 _ _ rfl w.heap.size (ZaM Zal) rfl rfl 95 (ZaM Zal) hinv.out.2.1 ZbJ rfl (Zbm _) ?_)
     exact bodyPost_ret (Zei rfl rfl HF.out.1) rfl ⟨by rw[HE.out.1,HE.out.2],HF.out.2⟩
    |some s=>
     have HE:=Zhd (show ZeO d=0∧Zfm d=s by simp[ZeO,Zfm,HDN.out,hlo])
     have HF:=Zhd (Zev hinv.out.2.1 hinv.out.1 s)
     have hb:=hinv.out.2.2
     rw[hlo] at hb
     have q0:=hb.cell 0
     have q1:=hb.cell 1
     have q2:=hb.cell 2
     have q3:=hb.cell 3
     have q4:=hb.cell 4
     simp[ZaM] at q0 q1 q2 q3 q4
     clear hb hlo
     go_wp2_with (refine wpList_store_row rfl 95 _ _ rfl w.heap.size (ZaM s) rfl rfl 95 (ZaM Zal) hinv.out.2.1 ZbJ rfl (Zbm _) ?_)
     exact bodyPost_ret (Zei rfl rfl HF.out.1) rfl ⟨by rw[HE.out.1,HE.out.2],HF.out.2⟩
def ZbZ (s:ZcS):Nat→Int
 |0=>s.gen
 |1=>s.epoch
 |2=>s.first
 |3=>s.from'
 |_=>s.count
def Zb6 (s:ZcS):Nat→List UInt8
 |0=>[]
 |t+1=>Zb6 s t++Za1 (ZbZ s t) 7
theorem Zdi (s:ZcS) (t:Nat):(Zb6 s t).length=t*7:=by
 induction t with
 |zero=>rfl
 |succ t ih=>rw[Zb6,Zla,ih,Zap];omega
def ZaT (s:ZcS):Bool:=Za2 s.gen 7&&Za2 s.epoch 7&&Za2 s.first 7&&Za2 s.from' 7&&Za2 s.count 7
def ZbI (d:Zaz) (b:ZcS):Bool:=match Zb1 d 2 with
 |some old=>b.gen==old.gen+1
 |none=>b.gen==0
def ZaY (b:ZcS):List UInt8:=ZcZ ⟨1,0,0,0,1⟩ (Zb6 b 5)
def ZbH (d:Zaz) (b:ZcS):Zaz×Int:=
 if d.down=true then(d,8) else if ZaT b=false then(d,15) else if ZbI d b=false then(d,15)
 else if Zcr d≠0 then(ZaE d,Zcr d)
 else if ZbM (ZaE d)≠0 then(ZaL (ZaE d) (b.gen%2).toNat (ZaY b),ZbM (ZaE d))
 else(ZaE (ZaL (ZaE d) (b.gen%2).toNat (ZaY b)),Zcr (ZaL (ZaE d) (b.gen%2).toNat (ZaY b)))
theorem ZgC (s:ZcS) {t:Nat} (h:t<5):(ZaM s)[t]?=some (.int .i64 (ZbZ s t)):=by
 match t,h with
 |0,_|1,_|2,_|3,_|4,_=>simp[ZaM,ZbZ]
theorem ZaR {s:ZcS} (h:ZaT s=true) {t:Nat} (ht:t<5):Za2 (ZbZ s t) 7=true:=by
 simp only[ZaT,Zae2] at h
 obtain⟨⟨⟨⟨h0,h1⟩,h2⟩,h3⟩,h4⟩:=h
 match t,ht with
 |0,_=>exact h0
 |1,_=>exact h1
 |2,_=>exact h2
 |3,_=>exact h3
 |4,_=>exact h4
theorem Zhu {n:Int} (h:Za2 n 7=true):0≤n∧n<72057594037927936:=by
 simp only[Za2,Zae2,Zde] at h
 exact⟨h.1,by have:=h.2;have h256:(256:Int)^7=72057594037927936:=by decide
              omega⟩
theorem Zll (l:List UInt8) (hl:l.length=35):Zb9 ⟨1,0,0,0,1⟩ l=0:=by
 rw[Zb9,if_neg (by decide),if_neg (by decide),if_neg (by omega)]
theorem Zlv (d:Zaz):(ZaE d).sure.length=d.sure.length:=by
 unfold ZaE
 split
 ·rfl
 ·split
  ·exact ZeL _ _ _ _
  ·rw[(ZbO d).1]
theorem Zms {d:Zaz} (h:d.down=false) (hs:Zbu d=true):(ZaE d).unsure=[]∧(ZaE d).down=false:=by
 have hne:d.limit≠1:=by simpa [Zbu] using hs
 rw[ZaE,if_neg (by rw[h];decide),if_pos hs]
 refine⟨rfl,?_⟩
 show(spendP d).down=false
 rw[spendP]
 split
 ·exact h
 ·simpa using hne
theorem ZpO {d:Zaz} {b:ZcS} (h:ZbI d b=true):∃ old k,old=Zfm d∧k=ZeO d∧((k=0∧b.gen=old.gen+1)∨(k=11∧b.gen=0))∨d.down=true:=by
 cases hdn:d.down with
 |true=>exact⟨Zal,0,.inr rfl⟩
 |false=>
  refine⟨Zfm d,ZeO d,.inl ⟨rfl,rfl,?_⟩⟩
  unfold ZbI at h
  cases hl:Zb1 d 2 with
  |none=>rw[hl] at h;right;simp[ZeO,hdn,hl];simpa using h
  |some old=>rw[hl] at h;left;simp[ZeO,Zfm,hdn,hl];simpa using h
theorem Zk8 {B:Nat} {w w':World} {ao:Option Addr} {n c:Nat} {vs:List Value} {N:Nat} (h:Own1 [5] N w ao n c vs) (ho:Only dvT B w w'):Own1 [5] N w' ao n c vs:=
 h.step ((ho.same (T:=[5]) (by decide)).mono (fun _ _ h=>h.1))
theorem Zp6 {w:World} {g:Nat} {cs:Array Value} {T:TypeId} (h:Blk w g cs T):∃ cs,Blk w g cs T:=⟨_,h⟩
theorem Zjs {B:Nat} {w w':World} {g:Nat} {v:Value} (ho:Only dvT B w w') (h:w.cell? ⟨g,0,none⟩=some v∧∃ cs,Blk w g cs 95) (hT:95∉dvT):w'.cell? ⟨g,0,none⟩=some v:=by
 obtain⟨hc,cs,hb⟩:=h
 have h2:=ho.blk hb hT
 rw[h2.cell 0,←hc,hb.cell 0]
theorem IsDev.Ble {B:Nat} {w:World} {D:Nat} {d:Zaz} (h:IsDev B w D d):B≤w.heap.size:=by
 obtain⟨SU,v,h1,_⟩:=h.ex
 have:=h1.lt
 have:=h.base
 omega
theorem ZiF (w:World) (B D:Nat) (d:Zaz) (hd:IsDev B w D d) (h2:2≤d.sure.length) (hdn:d.down=false) (b:ZcS) (hfit:ZaT b=true) (hnx:ZbI d b=true):
  Calls Tryz.prog 47 #[.pointer (some ⟨D,0,none⟩),.agg (ZaM b)] w fun e w'=>e= .returned (.int .i64 (ZbH d b).2)∧IsDev B w' D (ZbH d b).1∧Only dvT B w w':=by
 have hal:Below w.heap.size w (w.alloc (.cells (ZaM b) 95)):=Zbr.alloc Zlr _
 have hA:Blk (w.alloc (.cells (ZaM b) 95)) w.heap.size (ZaM b) 95:=Zha w _
 have HLD:=Zhd (Zim (w.alloc (.cells (ZaM b) 95)) B D d (hd.on hal) h2)
 have HA:=Zhd (Zan hal hA)
 obtain⟨old,k,hk0⟩:=ZpO hnx
 obtain⟨hold,hke,hk⟩:=hk0.resolve_right (by rw[hdn];decide)
 clear hk0
 rw[←hold,←hke] at HLD
 have HD:=Zhd (Zan hd (Zan h2 hdn))
 have hg0:=Zhu (ZaR hfit (t:=0) (by omega))
 simp only[ZbZ] at hg0
 obtain⟨g,hg⟩:∃ g:Nat,b.gen=(g:Int):=⟨b.gen.toNat,by omega⟩
 rw[hg] at hk hg0
 have HF:=Zhd (Zan hfit hg)
 have HS:=Zhd (show ZbH d b=if Zcr d≠0 then(ZaE d,Zcr d) else if ZbM (ZaE d)≠0 then(ZaL (ZaE d) (g%2) (ZaY b),ZbM (ZaE d)) else(ZaE (ZaL (ZaE d) (g%2) (ZaY b)),Zcr (ZaL (ZaE d) (g%2) (ZaY b))) by
  rw[ZbH,if_neg (by rw[hdn];decide),if_neg (by rw[hfit];decide),if_neg (by rw[hnx];decide),hg,show((g:Int)%2).toNat=g%2 by omega])
 obtain⟨og,hog⟩:∃ og,og=old.gen:=⟨_,rfl⟩
 rw[←hog] at hk
 have HOG:=Zhd hog
 clear hal hA hd h2 hdn hfit hnx hold hke hg hog
 rcases hk with⟨rfl,hgo⟩|⟨rfl,hg1⟩
 all_goals (
  first
   |(have ho:og=(g:Int)-1:=by omega
     subst ho)
   |(have hg2:((g:Int)!=0)=false:=by(rw[bne_eq_false_iff_eq];omega)
     have hg3:((g:Int)==0)=true:=by(rw[beq_iff_eq];omega))
  (try clear hgo)
  (try clear hg1)
  go_enter Tryz.func47,Tryz.ntmps47
  go_wp2_with (first|(go_at_call 44;refine HLD.out.mono ?_;rintro e W ⟨rfl,hb⟩;have HW:=Zhd (Zan (Zaa HA.out.1 hb Zlr) (HA.out.2.on hb));clear hb)|(refine wpList_store_row rfl 95 _ _ rfl W.heap.size (ZaM old) rfl rfl 95 (ZaM Zal) (Zha W _) ZbJ rfl (Zbm _) ?_;have hq:=Zeu W old;(try change wpList _ _ _ _ _ ((W.alloc (.cells (ZaM Zal) 95)).setRow W.heap.size (ZaM old)));generalize (W.alloc (.cells (ZaM Zal) 95)).setRow W.heap.size (ZaM old)=W3 at hq⊢;have HQ:=Zhd (Zan (Zaa HW.out.1 hq.2 Zlr) (Zan (HW.out.2.on hq.2) hq.1));clear hq)|(go_at_call 85;refine(ZgX W3 w.heap.size).mono ?_;rintro e W4 ⟨rfl,hb4⟩;have HN:=Zhd (Zan (Zaa HQ.out.1 hb4 Zlr) (Zan (HQ.out.2.1.on hb4) (HQ.out.2.2.on hb4)));clear hb4))
  go_loopw [7,27] (fun v i wr=>∃ t:Nat,t≤5∧i= .int .i64 (t:Int)∧Hid (Below w.heap.size w wr∧Blk wr w.heap.size (ZaM b) 95∧Blk wr W.heap.size (ZaM old) 95∧wr.ownsRow w.heap.size 5 1 v (t*7) ((Zb6 b t).map u8V))) (fun _ i _=>(5-intOf i).toNat)
  case atStart=>exact⟨0,Nat.zero_le _,rfl,Zhd ⟨HN.out.1,HN.out.2.1,HN.out.2.2,World.ownsRow_nil _ _ _ _⟩⟩
  case round=>
   obtain⟨t,ht,rfl,hinv⟩:=hrel
   by_cases hlt:t<5
   ·obtain⟨nt,hnt⟩:∃ nt,nt=ZbZ b t:=⟨_,rfl⟩
    have hix:=Zk6 wr w.heap.size hlt
    have c0:wr.cell? ⟨w.heap.size,t,none⟩=some (.int .i64 nt):=by rw[hinv.out.2.1.cell t,hnt];exact ZgC b hlt
    have hft:=ZaR HF.out.1 hlt
    rw[←hnt] at hft
    have HFK:=Zhd (fun w=>Zfh w nt 7 (by omega) (by omega))
    rw[hft] at HFK
    obtain⟨ao,cap,hv,hrow⟩:=ZbG hinv.out.2.2.2 (by omega)
    have HRW:=Zhd hrow
    have HPU:=Zhd (show Zlh (Zb6 b t) nt 7=Zb6 b (t+1) by rw[Zlh,if_pos hft,hnt];rfl)
    have HI:=Zhd hinv.out
    have hw2:=hinv.out.1.size
    have hdl:=Zdi b t
    have HPT:=Zhd (fun (W:World) (h:Below wr.heap.size wr W)=>Zgx W ao (t*7) cap (Zb6 b t) (hrow.below h Zlr) (by omega) nt 7 (by omega) (by omega))
    clear hinv hnt hft hrow hdl
    subst hv
    go_wp2_with (first|(go_at_call 86;refine(HFK.out _).mono ?_;rintro e W5 ⟨rfl,rfl⟩)|(go_at_call 87;refine(HPT.out W5 Zbr).mono ?_;rintro e W6 ⟨⟨v2,rfl,hown2⟩,hb2⟩;have HO2:=Zhd (Zan hown2 hb2);clear hown2 hb2))
    go_roundw
    case rel=>
     have ho:=HO2.out.1
     rw[HPU.out,show(Zb6 b (t+1)).length=(t+1)*7 from Zdi _ _] at ho
     exact⟨t+1,hlt,by go_num,Zhd ⟨Zaa HI.out.1 HO2.out.2 Zlr,HI.out.2.1.on HO2.out.2,HI.out.2.2.1.on HO2.out.2,ZfQ ho hw2⟩⟩
    case measure=>simp[intOf];omega
   ·obtain rfl:t=5:=by omega
    obtain⟨ao,cap,hv,hown⟩:=Zai hinv.out.2.2.2 (by omega)
    subst hv
    have c3:wr.cell? ⟨w.heap.size,0,none⟩=some (.int .i64 (g:Int)):=by rw[hinv.out.2.1.cell 0,ZgC b (by omega),ZbZ,HF.out.2]
    first
     |(have c5:wr.cell? ⟨W.heap.size,0,none⟩=some (.int .i64 ((g:Int)-1)):=by rw[hinv.out.2.2.1.cell 0,ZgC old (by omega),ZbZ,←HOG.out])
     |(have c5:wr.cell? ⟨W.heap.size,0,none⟩=some (.int .i64 og):=by rw[hinv.out.2.2.1.cell 0,ZgC old (by omega),ZbZ,←HOG.out])
    have HI:=Zhd (Zan hinv.out.1 (Zan hown hinv.out.2.1))
    have h35:=Zdi b 5
    have HSE:=Zhd (Zll (Zb6 b 5) h35)
    have HSL:=Zhd (ZiG wr ⟨1,0,0,0,1⟩ ao 35 cap (Zb6 b 5) hown.row (by omega))
    have HBL:=Zhd (HD.out.1.Ble)
    have hm2:(g:Int).tmod 2=((g%2:Nat):Int):=rfl
    have HP2:=Zhd (show g%2<d.sure.length by have:=HD.out.2.1;have:=Nat.mod_lt g (show 0<2 by omega);omega)
    clear hinv hown h35
    cases hs1:Zbu d with
    |false=>
     have HE:=Zhd (Zan (show Zcr d=8 by rw[Zcr,if_neg (by rw[HD.out.2.2];decide),hs1];rfl) (show ZbH d b=(ZaE d,8) by rw[HS.out,if_pos (by rw[Zcr,if_neg (by rw[HD.out.2.2];decide),hs1];decide),Zcr,if_neg (by rw[HD.out.2.2];decide),hs1];rfl))
     clear hs1
     go_wp2_with (first|(go_at_call 88;refine HSL.out.mono ?_;rintro e W7 hS;obtain⟨v7,rfl,hv7⟩:=hS.ok HSE.out;obtain⟨ro,rc,rfl,hro⟩:=Zai hv7 (by omega);have H7:=Zhd (Zan (Zaa HI.out.1 hS.bel Zlr) hro);clear hS hv7 hro c3 c5)|(go_at_call 66;refine(Zee W7 B D d (HD.out.1.on H7.out.1)).mono ?_;rintro e W8 ⟨rfl,hd8,ho8⟩;rw[HE.out.1];have H8:=Zhd (Zan hd8 ((Only.below H7.out.1 HBL.out).trans ho8));clear hd8 ho8))
     go_ret
     exact⟨by rw[HE.out.2];rfl,by rw[HE.out.2];exact H8.out.1,H8.out.2⟩
    |true=>
     have hc:=Zms HD.out.2.2 hs1
     have HE:=Zhd (Zan (show Zcr d=0 by rw[Zcr,if_neg (by rw[HD.out.2.2];decide),hs1];rfl) hc)
     clear hs1 hc
     cases hs2:Zbu (ZaE d) with
     |false=>
      have HE2:=Zhd (Zan (show ZbM (ZaE d)=8 by rw[ZbM,if_neg (by rw[HE.out.2.2];decide),hs2];rfl) (show ZbH d b=(ZaL (ZaE d) (g%2) (ZaY b),8) by rw[HS.out,if_neg (by rw[HE.out.1];decide),if_pos (by rw[ZbM,if_neg (by rw[HE.out.2.2];decide),hs2];decide),ZbM,if_neg (by rw[HE.out.2.2];decide),hs2];rfl))
      clear hs2
      go_wp2_with (first|(go_at_call 88;refine HSL.out.mono ?_;rintro e W7 hS;obtain⟨v7,rfl,hv7⟩:=hS.ok HSE.out;obtain⟨ro,rc,rfl,hro⟩:=Zai hv7 (by omega);have H7:=Zhd (Zan (Zaa HI.out.1 hS.bel Zlr) (Zan hro (Zan (Zab hS.bel c3) (Zp6 (HI.out.2.2.on hS.bel)))));clear hS hv7 hro c3 c5)|(go_at_call 66;refine(Zee W7 B D d (HD.out.1.on H7.out.1)).mono ?_;rintro e W8 ⟨rfl,hd8,ho8⟩;rw[HE.out.1];have H8:=Zhd (Zan hd8 (Zan ((Only.below H7.out.1 HBL.out).trans ho8) (Zk8 H7.out.2.1 ho8)));have c8:=Zjs ho8 H7.out.2.2 (by decide);clear hd8 ho8)|(go_at_call 89;(try rw[show(g:Int).tmod 2=((g%2:Nat):Int) from rfl]);(try rw[show(g:Int)%2=((g%2:Nat):Int) from rfl]);refine(ZfL W8 B D _ H8.out.1 (g%2) (by rw[Zlv];exact HP2.out) ro rc (ZaY b) H8.out.2.2.row (fun h0 a ha=>(H8.out.2.2.mem h0 a ha).1) (by rw[HE.out.2.1];simp)).mono ?_;rintro e W9 ⟨rfl,hd9,ho9⟩;rw[HE2.out.1];have H9:=Zhd (Zan hd9 (H8.out.2.1.trans ho9));clear hd9 ho9))
      go_ret
      exact⟨by rw[HE2.out.2];rfl,by rw[HE2.out.2];exact H9.out.1,H9.out.2⟩
     |true=>
      have HE2:=Zhd (Zan (show ZbM (ZaE d)=0 by rw[ZbM,if_neg (by rw[HE.out.2.2];decide),hs2];rfl) (show ZbH d b=(ZaE (ZaL (ZaE d) (g%2) (ZaY b)),Zcr (ZaL (ZaE d) (g%2) (ZaY b))) by rw[HS.out,if_neg (by rw[HE.out.1];decide),if_neg (by rw[ZbM,if_neg (by rw[HE.out.2.2];decide),hs2];decide)]))
      clear hs2
      go_wp2_with (first|(go_at_call 88;refine HSL.out.mono ?_;rintro e W7 hS;obtain⟨v7,rfl,hv7⟩:=hS.ok HSE.out;obtain⟨ro,rc,rfl,hro⟩:=Zai hv7 (by omega);have H7:=Zhd (Zan (Zaa HI.out.1 hS.bel Zlr) (Zan hro (Zan (Zab hS.bel c3) (Zp6 (HI.out.2.2.on hS.bel)))));clear hS hv7 hro c3 c5)|(go_at_call 66;refine(Zee W7 B D d (HD.out.1.on H7.out.1)).mono ?_;rintro e W8 ⟨rfl,hd8,ho8⟩;rw[HE.out.1];have H8:=Zhd (Zan hd8 (Zan ((Only.below H7.out.1 HBL.out).trans ho8) (Zk8 H7.out.2.1 ho8)));have c8:=Zjs ho8 H7.out.2.2 (by decide);clear hd8 ho8)|(go_at_call 89;(try rw[show(g:Int).tmod 2=((g%2:Nat):Int) from rfl]);(try rw[show(g:Int)%2=((g%2:Nat):Int) from rfl]);refine(ZfL W8 B D _ H8.out.1 (g%2) (by rw[Zlv];exact HP2.out) ro rc (ZaY b) H8.out.2.2.row (fun h0 a ha=>(H8.out.2.2.mem h0 a ha).1) (by rw[HE.out.2.1];simp)).mono ?_;rintro e W9 ⟨rfl,hd9,ho9⟩;rw[HE2.out.1];have H9:=Zhd (Zan hd9 (H8.out.2.1.trans ho9));clear hd9 ho9)|(go_at_call 66;refine(Zee W9 B D _ H9.out.1).mono ?_;rintro e W10 ⟨rfl,hd10,ho10⟩;have H10:=Zhd (Zan hd10 (H9.out.2.trans ho10));clear hd10 ho10))
      go_ret
      exact⟨by rw[HE2.out.2];rfl,by rw[HE2.out.2];exact H10.out.1,H10.out.2⟩)
def Zgm (b:List UInt8):Bool:=b.all (fun x=>x==0)
def Zh1 (d:Zaz) (t:Nat):Bool:=match Zbg d t with
 |none=>true
 |some b=>Zgm b
def Zdo (d:Zaz):Nat→Bool
 |0=>true
 |t+1=>Zdo d t&&Zh1 d t
theorem ZlD (d:Zaz) {t:Nat} (h:Zdo d t=false) (k:Nat):Zdo d (t+k)=false:=by
 induction k with
 |zero=>exact h
 |succ k ih=>rw[←Nat.add_assoc,Zdo,ih];rfl
theorem ZmR (w:World) (B D:Nat) (d:Zaz) (hd:IsDev B w D d) (hdn:d.down=false):
  Calls Tryz.prog 45 #[.pointer (some ⟨D,0,none⟩)] w fun e w'=>e= .returned (.tuple #[.bool (Zdo d d.sure.length),.int .i64 0])∧Below w.heap.size w w':=by
 have HLN:=Zhd (ZdQ w B D d hd)
 have hle:=hd.le
 obtain⟨n,hn⟩:∃ n,n=d.sure.length:=⟨_,rfl⟩
 rw[←hn] at HLN hle⊢
 have HD:=Zhd (Zan hd (Zan hdn hn))
 clear hd hdn hn
 go_enter Tryz.func45,Tryz.ntmps45
 go_wp2_with (go_at_call 19;refine HLN.out.mono ?_;rintro e W ⟨rfl,rfl⟩)
 go_loopw [11] (fun i wr=>∃ t:Nat,t≤n∧i= .int .i64 (t:Int)∧Hid (Zdo d t=true∧Below W.heap.size W wr)) (fun i _=>(n-intOf i).toNat)
 case atStart=>exact⟨0,Nat.zero_le _,rfl,Zhd ⟨rfl,Below.refl _ _⟩⟩
 case round=>
  obtain⟨t,ht,rfl,hinv⟩:=hrel
  by_cases h0:t=n
  ·subst h0
   go_wp2_with fail
   go_ret2
   exact⟨by rw[hinv.out.1];rfl,hinv.out.2⟩
  ·have hlt:t<n:=by omega
   have HR:=Zhd (ZgI wr B D d (HD.out.1.on hinv.out.2) t (by rw[←HD.out.2.2];exact hlt))
   cases hrp:Zbg d t with
   |none=>
    have HNX:=Zhd (Zan hrp (show Zdo d (t+1)=true by rw[Zdo,hinv.out.1,Zh1,hrp];rfl))
    clear hrp
    go_wp2_with (go_at_call 83;refine HR.out.mono ?_;rintro e W2 hR;obtain rfl:=hR.torn HD.out.2.1 HNX.out.1;have HW:=Zhd (Zaa hinv.out.2 hR.bel Zlr);clear hR)
    go_roundw
    case rel=>exact⟨t+1,hlt,by simp,Zhd ⟨HNX.out.2,HW.out⟩⟩
    case measure=>simp[intOf];omega
   |some raw=>
    have HRP:=Zhd hrp
    have HBT:=Zhd (show Zdo d (t+1)=Zgm raw by rw[Zdo,hinv.out.1,Zh1,hrp];rfl)
    clear hrp
    go_wp2_with (go_at_call 83;refine HR.out.mono ?_;rintro e W2 hR;obtain⟨ao,c,rfl,ho,h512⟩:=hR.ok HD.out.2.1 raw HRP.out;have HW:=Zhd (Zan (Zaa hinv.out.2 hR.bel Zlr) (Zan ho.row h512));clear hR ho h512)
    go_loopw [27] (fun i wi=>∃ k:Nat,k≤512∧i= .int .i64 (k:Int)∧wi=W2∧Hid (Zgm (raw.take k)=true)) (fun i _=>(512-intOf i).toNat)
    case atStart=>exact⟨0,by omega,rfl,rfl,Zhd (by simp[Zgm])⟩
    case round=>
     rename World=>w3
     obtain⟨k,hk,rfl,rfl,hz⟩:=hrel
     by_cases hk5:k=512
     ·have HNX:=Zhd (show Zdo d (t+1)=true by rw[HBT.out,←hz.out,hk5,List.take_of_length_le (by have:=HW.out.2.2;omega)])
      subst hk5
      go_wp2_with fail
      go_roundw
      case rel=>exact⟨t+1,hlt,by simp,Zhd ⟨HNX.out,HW.out.1⟩⟩
      case measure=>simp[intOf];omega
     ·have hk2:k<512:=by omega
      have hkl:k<raw.length:=by have:=HW.out.2.2;omega
      obtain⟨b0,off,rfl⟩:=HW.out.2.1.addr (k:=0) (by omega)
      have c0:=HW.out.2.1.at (i:=k) hk2
      obtain⟨x,hx⟩:∃ x,x=raw[k]:=⟨_,rfl⟩
      simp[←hx] at c0
      have hst:Zgm (raw.take (k+1))=(Zgm (raw.take k)&&(x==0)):=by rw[List.take_succ_eq_append_getElem hkl,←hx];simp[Zgm]
      by_cases h0x:x=0
      ·subst h0x
       have HNX:=Zhd (show Zgm (raw.take (k+1))=true by rw[hst,hz.out];rfl)
       have c1:w3.cell? ⟨b0,off+k,none⟩=some (.int .u8 0):=c0
       clear hst hx hkl c0
       go_wp2_with fail
       go_roundw
       case rel=>exact⟨k+1,hk2,by simp,trivial,HNX⟩
       case measure=>simp[intOf];omega
      ·have hxn:((x.toNat:Int)==0)=false:=by
        rw[Bool.eq_false_iff]
        intro h
        exact h0x (UInt8.toNat_inj.1 (by simpa using h))
       have hzr:Zgm raw=false:=by
        rw[Bool.eq_false_iff]
        intro h
        rw[Zgm,List.all_eq_true] at h
        exact h0x (by simpa using h x (by rw[hx];exact List.getElem_mem _))
       have HNX:=Zhd (show Zdo d n=false by
        have h1:=ZlD d (HBT.out.trans hzr) (n-(t+1))
        rwa [show t+1+(n-(t+1))=n by omega] at h1)
       have c1:w3.cell? ⟨b0,off+k,none⟩=some (.int .u8 (x.toNat:Int)):=c0
       clear hst hx hkl c0 hzr
       go_wp2_with fail
       go_ret2
       exact⟨by rw[HNX.out];rfl,HW.out.1⟩
structure ZaZ where
 block:ZcS
 list:List (Nat×Nat)
 fin:Nat
 down:Bool
def Zn6:Kind (Nat×Nat) where
 H:=Unit
 size:=2
 cells:=fun _ x=>#[.int .i64 (x.1:Int),.int .i64 (x.2:Int)]
 is:=fun _ _ _ _=>True
 hsize:=fun _ _=>rfl
 pos:=by decide
 one:=fun h x u hu=>by
  simp at hu
  rcases hu with rfl|rfl<;>rfl
 mono:=fun h _=>trivial
 keep:=fun h _=>trivial
def Zej (D:Nat) (s:ZcS) (v:Value) (fin:Nat) (dn:Bool):Array Value:=#[.pointer (some ⟨D,0,none⟩),.int .i64 s.gen,.int .i64 s.epoch,.int .i64 s.first,.int .i64 s.from',.int .i64 s.count,v,.int .i64 (fin:Int),.bool dn]
structure IsLog (B:Nat) (w:World) (L D:Nat) (l:ZaZ):Prop where
 ex:∃ v,Blk w L (Zej D l.block v l.fin l.down) 98∧Gath Zn6 [] 106 B w v l.list
 base:B≤L
 fits:ZaT l.block=true
 cnt:l.list.length≤100000
theorem IsLog.on {B:Nat} {w w':World} {L D:Nat} {l:ZaZ} (h:IsLog B w L D l) (hb:Below w.heap.size w w'):IsLog B w' L D l:=by
 obtain⟨v,h1,h2⟩:=h.ex
 exact⟨⟨v,h1.on hb,h2.on hb⟩,h.base,h.fits,h.cnt⟩
theorem IsLog.only {S:List TypeId} {B B':Nat} {w w':World} {L D:Nat} {l:ZaZ} (h:IsLog B w L D l) (ho:Only S B' w w') (h1:98∉S) (h2:106∉S):IsLog B w' L D l:=by
 obtain⟨v,a,b⟩:=h.ex
 exact⟨⟨v,ho.blk a h1,b.step (ho.same (T:=[106]) (by intro t ht;rw[List.mem_singleton.1 ht];exact h2))⟩,h.base,h.fits,h.cnt⟩
theorem ZeH (w:World) (B L D:Nat) (l:ZaZ) (hl:IsLog B w L D l):Calls Tryz.prog 20 #[.pointer (some ⟨L,0,none⟩)] w fun e w'=>e= .returned (.int .i64 l.block.first)∧w'=w:=by
 obtain⟨v,h1,h2⟩:=hl.ex
 have c3:w.cell? ⟨L,3,none⟩=some (.int .i64 l.block.first):=h1.cell 3
 clear h1 h2 hl
 go_enter Tryz.func20,Tryz.ntmps20
 go_wp2_with fail
 go_ret
 exact⟨rfl,rfl⟩
theorem ZbT (w:World) (B L D:Nat) (l:ZaZ) (hl:IsLog B w L D l):Calls Tryz.prog 21 #[.pointer (some ⟨L,0,none⟩)] w fun e w'=>e= .returned (.int .i64 (l.block.first+(l.list.length:Int)))∧Below w.heap.size w w':=by
 obtain⟨v,h1,h2⟩:=hl.ex
 obtain⟨ao,c,rfl,hsq,_⟩:=h2.seq
 have c3:w.cell? ⟨L,3,none⟩=some (.int .i64 l.block.first):=h1.cell 3
 have c6:w.cell? ⟨L,6,none⟩=some (.slice ao l.list.length c):=h1.cell 6
 have hf:=Zhu (ZaR hl.fits (t:=2) (by omega))
 simp only[ZbZ] at hf
 have hn:=hl.cnt
 obtain⟨n,hnn⟩:∃ n,n=l.list.length:=⟨_,rfl⟩
 obtain⟨x,hx⟩:∃ x,x=l.block.first:=⟨_,rfl⟩
 rw[←hnn] at c6 hn⊢
 rw[←hx] at c3 hf⊢
 clear h1 h2 hl hsq hx hnn
 go_enter Tryz.func21,Tryz.ntmps21
 go_wp2_with fail
 go_region
 go_wp2_with fail
 go_ret
 exact⟨rfl,Below.drew Zbr⟩
def Zgh (old:Array Value) (off:Nat) (vs:List Value):Array Value:=(old.toList.take off++(vs++old.toList.drop (off+vs.length))).toArray
theorem Zdg {P:Program} (g off:Nat) (t:TypeId):∀ (vs:List Value) (i:Nat) (cur:Array Value) (w:World),w.heap[g]?=some (.cells cur t (0,0))→off+i+vs.length≤cur.size→(∀ v∈vs,v.oneCell'=true)→
  (storeCells ⟨g,off,none⟩ vs i).run P w= .ok () (w.setRow g (Zgh cur (off+i) vs))
 |[],i,cur,w,hg,hl,_=>by
  have hlt:g<w.heap.size:=(Array.getElem?_eq_some_iff.1 hg).1
  have hv:w.heap[g]= .cells cur t (0,0):=(Array.getElem?_eq_some_iff.1 hg).2
  have hp:Zgh cur (off+i) []=cur:=by
   rw[Zgh,List.nil_append,List.length_nil,Nat.add_zero,List.take_append_drop,Array.toArray_toList]
  rw[hp]
  simp only[storeCells]
  show Result.ok () w=_
  congr 1
  unfold World.setRow
  cases w with
  |mk heap tape drawn os output=>
   congr 1
   apply Array.ext
   ·simp
   ·intro k h1 h2
    simp only[Array.getElem_modify]
    split
    ·rename_i hk;subst hk;simp at hv;simp[hv]
    ·rfl
 |v::rest,i,cur,w,hg,hl,h1=>by
  have hi:off+i<cur.size:=by simp at hl;omega
  have hadd:(⟨g,off,none⟩:Addr).add i=⟨g,off+i,none⟩:=by unfold Addr.add;split<;>simp_all
  have hcell:w.cell? ⟨g,off+i,none⟩=some cur[off+i]:=by simp[World.cell?,hg,hi]
  have hfro:w.frozen? ⟨g,off+i,none⟩=false:=by simp[World.frozen?,hg]
  have hst:(store ((⟨g,off,none⟩:Addr).add i) v).run P w= .ok () (w.setRow g (cur.setIfInBounds (off+i) v)):=by
   rw[hadd,run_store P w _ v _ (h1 v (by simp)),hcell]
   simp[hfro,setCell_eq_setRow w g (off+i) cur t (0,0) v hg]
  have ih:=Zdg (P:=P) g off t rest (i+1) (cur.setIfInBounds (off+i) v) (w.setRow g (cur.setIfInBounds (off+i) v)) (setRow_heap w g cur _ t _ hg) (by simp at hl⊢;omega) (fun x hx=>h1 x (by simp[hx]))
  simp only[storeCells,Sem.run_bind,hst,Result.andThen_ok,ih,setRow_setRow]
  congr 2
  rw[Zgh,Zgh,Array.toList_setIfInBounds]
  congr 1
  have hl2:off+i<cur.toList.length:=by rw[Array.length_toList];exact hi
  rw[show off+(i+1)=off+i+1 from rfl,List.take_succ_eq_append_getElem (by rw[List.length_set];exact hl2),List.getElem_set_self,List.take_set_of_le Zlr,List.drop_set_of_lt (by omega),List.length_cons,show off+i+(rest.length+1)=off+i+1+rest.length by omega,List.append_assoc]
  rfl
theorem ZfU {P:Program} (w:World) (g off:Nat) (t ty:TypeId) (old cells:Array Value) (hg:w.heap[g]?=some (.cells old t (0,0))) (hi:(P.info? ty).map (·.size)=some cells.size)
  (ho:off+cells.size≤old.size) (h1:cells.all (·.oneCell')=true):
  (storeVar ty ⟨g,off,none⟩ (.agg cells)).run P w= .ok () (w.setRow g (Zgh old off cells.toList)):=by
 have:=Zdg (P:=P) g off t cells.toList 0 old w hg (by simp;omega) (fun v hv=>(Array.all_eq_true_iff_forall_mem.1 h1) v (by simpa using hv))
 cases hq:P.info? ty with
 |none=>simp[hq] at hi
 |some i=>
  have hs:cells.size=i.size:=by simp[hq] at hi;omega
  simp[storeVar,sizeOf,typeInfo,hq,Value.cells,hs,this]
theorem Zf4 {P:Program} {ops:Array Oper} {rest:List Oper} {o:Oper} {a:Act} {w:World} {Q:Exit→Act→World→Prop} (hgd:o.guard=none) (ty:TypeId) (x y:Operand) (ho:o.op= .store ty x y)
  (g off:Nat) (cells:Array Value) (hx:a.eval x= .pointer (some ⟨g,off,none⟩)) (hy:a.eval y= .agg cells)
  (t:TypeId) (old:Array Value) (hg:w.heap[g]?=some (.cells old t (0,0))) (hi:(P.info? ty).map (·.size)=some cells.size)
  (hold:off+cells.size≤old.size) (h1:cells.all (·.oneCell')=true)
  (h:wpList P ops Q rest (a.put o.dst undef) (w.setRow g (Zgh old off cells.toList))):wpList P ops Q (o::rest) a w:=by
 refine wpList_plain hgd fun K hK=>?_
 unfold Oper.wp execOp
 simp only[ho,hx,hy,Instr.storeAt,Instr.sureAddr,Sem.run_bind,Sem.run_pure,Result.andThen_ok,ZfU w g off t ty old cells hg hi hold h1]
 exact hK _ _ h
def b0:ZcS:=⟨0,1,0,0,0⟩
theorem Zj0 {n t:Nat} (h:t<n):Zbg (Zem n) t=some (List.replicate 512 0):=by
 have h1:lastW (Zem n).unsure t=none:=rfl
 have h2:(Zem n).sure[t]?=some ZfF:=by simp[Zem,h]
 rw[Zbg,h1,h2]
 rfl
theorem Zlz (t:Nat):Zdx (List.replicate 512 0) t=0:=by
 have hz:∀ k:Nat,beN (List.replicate k (0:UInt8))=0:=by
  intro k
  induction k with
  |zero=>rfl
  |succ k ih=>rw[List.replicate_succ',Zgn,ih];rfl
 rw[Zdx,List.drop_replicate,List.take_replicate,hz]
 rfl
theorem ZjZ:Zb8 (List.replicate 512 0)=14:=by
 have hs:Zb9 (ZbR (List.replicate 512 0)) (ZbE (List.replicate 512 0))=15:=by
  have hk:(ZbR (List.replicate 512 0)).kind=0:=Zlz 0
  rw[Zb9]
  split
  ·rfl
  ·rw[if_pos (.inl hk)]
 rw[Zb8,if_neg (by rw[List.length_replicate];exact fun h=>h rfl),if_neg (by rw[Zlz];decide),if_pos (.inl (by rw[hs];decide))]
theorem ZlA {n t:Nat} (h:t<n):ZaW (Zem n) t=(Zal,false,0):=by
 rw[ZaW,if_neg (by simp[Zem]),Zj0 h]
 show(if ZhC (List.replicate 512 0)=true then _ else _)=_
 rw[if_neg]
 rw[ZhC,ZjZ]
 decide
theorem Zmw {n:Nat} (h:2≤n):Zb1 (Zem n) 2=none:=by
 simp[Zb1,ZlA (show 1<n by omega),ZlA (show 0<n by omega)]
theorem Zew {n:Nat} (h:2≤n):ZeO (Zem n)=11∧Zfm (Zem n)=Zal∧ZbI (Zem n) b0=true:=by
 have h1:=Zmw h
 refine⟨by rw[ZeO,if_neg (by simp[Zem]),h1];rfl,by rw[Zfm,if_neg (by simp[Zem]),h1];rfl,by rw[ZbI,h1];rfl⟩
theorem ZhY (n:Nat):∀ t,t≤n→Zdo (Zem n) t=true
 |0,_=>rfl
 |t+1,h=>by
  rw[Zdo,ZhY n t (by omega),Zh1,Zj0 (by omega)]
  have hz:Zgm (List.replicate 512 0)=true:=by
   rw[Zgm,List.all_eq_true]
   intro x hx
   rw[List.eq_of_mem_replicate hx]
   rfl
  rw[Bool.true_and]
  exact hz
def Zdv (n:Nat):Zaz:={sure:=(List.replicate n ZfF).set 0 (ZaY b0,false),unsure:=[],limit:=0,down:=false}
theorem Zj1 {n:Nat} (h:2≤n):ZbH (Zem n) b0=(Zdv n,0):=by
 have h1:ZaE (Zem n)=Zem n:=rfl
 have h2:ZaL (Zem n) 0 (ZaY b0)={Zem n with unsure:=[(0,ZaY b0)]}:=rfl
 have h3:ZaE {Zem n with unsure:=[(0,ZaY b0)]}=Zdv n:=rfl
 rw[ZbH,if_neg (by simp[Zem]),if_neg (by decide),if_neg (by rw[(Zew h).2.2];decide),if_neg (by simp[Zcr,Zem,Zbu]),if_neg (by rw[h1];simp[ZbM,Zem,Zbu]),h1]
 show(ZaE (ZaL (Zem n) 0 (ZaY b0)),Zcr (ZaL (Zem n) 0 (ZaY b0)))=_
 rw[h2,h3]
 rfl
theorem ZnD {W:World} {g D fin:Nat} {s:ZcS} {v:Value} {dn:Bool} (h:Blk W g (Zej D s v fin dn) 98) (b:ZcS):Blk (W.setRow g (Zgh (Zej D s v fin dn) 1 (ZaM b).toList)) g (Zej D b v fin dn) 98∧W.grownBy (W.setRow g (Zgh (Zej D s v fin dn) 1 (ZaM b).toList)) (some g):=by
 have hp:Zgh (Zej D s v fin dn) 1 (ZaM b).toList=Zej D b v fin dn:=by simp[Zgh,Zej,ZaM]
 rw[hp]
 exact⟨ZaA h _,Zav W g _⟩
theorem ZnK (w:World) (D n:Nat) (B:Nat) (h4:4≤n) (hd:IsDev B w D (Zem n)):
  Calls Tryz.prog 18 #[.pointer (some ⟨D,0,none⟩)] w fun e w'=>(∃ L,e= .returned (.tuple #[.pointer (some ⟨L,0,none⟩),.int .i64 0])∧IsLog w.heap.size w' L D ⟨b0,[],0,false⟩)∧IsDev B w' D (Zdv n)∧Only dvT B w w':=by
 have hlen:(Zem n).sure.length=n:=List.length_replicate
 have HLN:=Zhd (ZdQ w B D _ hd)
 have HDW:=Zhd (Zfd w B D _ hd)
 rw[hlen] at HLN
 rw[show(Zem n).down=false from rfl] at HDW
 have h4i: ¬((n:Int)<4):=by omega
 have HD:=Zhd (Zan hd (Zan h4 hlen))
 have HBL:=Zhd hd.Ble
 have hA:Blk (w.alloc (.cells (Zej D Zal (.slice none 0 0) 0 false) 98)) w.heap.size (Zej D Zal (.slice none 0 0) 0 false) 98:=Zha w _
 have hal:Below w.heap.size w (w.alloc (.cells (Zej D Zal (.slice none 0 0) 0 false) 98)):=Zbr.alloc Zlr _
 have HA:=Zhd (Zan hal hA)
 have HLD:=Zhd (Zim (w.alloc (.cells (Zej D Zal (.slice none 0 0) 0 false) 98)) B D _ (hd.on hal) (by rw[hlen];omega))
 rw[(Zew (n:=n) (by omega)).1,(Zew (n:=n) (by omega)).2.1] at HLD
 clear hd h4 hlen hA hal
 go_enter Tryz.func18,Tryz.ntmps18
 go_wp2_with (first|(go_at_call 19;refine HLN.out.mono ?_;rintro e w ⟨rfl,rfl⟩)|(go_at_call 43;refine HDW.out.mono ?_;rintro e w ⟨rfl,rfl⟩)|(go_at_call 44;refine HLD.out.mono ?_;rintro e W2 ⟨rfl,hb⟩;have HW:=Zhd (Zan (Zaa HA.out.1 hb Zlr) (HA.out.2.on hb));clear hb)|(refine wpList_store_row rfl 95 _ _ rfl W2.heap.size (ZaM Zal) rfl rfl 95 (ZaM Zal) (Zha W2 _) ZbJ rfl (Zbm _) ?_;have hq:=Zeu W2 Zal;(try change wpList _ _ _ _ _ ((W2.alloc (.cells (ZaM Zal) 95)).setRow W2.heap.size (ZaM Zal)));generalize (W2.alloc (.cells (ZaM Zal) 95)).setRow W2.heap.size (ZaM Zal)=W3 at hq⊢;have HQ:=Zhd (Zan (Zaa HW.out.1 hq.2 Zlr) (HW.out.2.on hq.2));clear hq)|(go_at_call 45;refine(ZmR W3 B D _ (HD.out.1.on HQ.out.1) rfl).mono ?_;rintro e W4 ⟨rfl,hb⟩;rw[HD.out.2.2,ZhY n n Zlr];have HR:=Zhd (Zan (Zaa HQ.out.1 hb Zlr) (HQ.out.2.on hb));clear hb)|(refine Zf4 rfl 95 _ _ rfl w.heap.size 1 (ZaM b0) rfl rfl 98 (Zej D Zal (.slice none 0 0) 0 false) HR.out.2 ZbJ (by simp[ZaM,Zej]) (Zbm _) ?_;have hq:=ZnD HR.out.2 b0;generalize W4.setRow w.heap.size (Zgh (Zej D Zal (.slice none 0 0) 0 false) 1 (ZaM b0).toList)=W5 at hq⊢;have HZ:=Zhd (Zan (HR.out.1.trans (Zam hq.2 Zlr HR.out.1.size)) hq.1);clear hq;have q1:=HZ.out.2.cell 1;have q2:=HZ.out.2.cell 2;have q3:=HZ.out.2.cell 3;have q4:=HZ.out.2.cell 4;have q5:=HZ.out.2.cell 5;simp[Zej,b0] at q1 q2 q3 q4 q5)|(go_at_call 47;refine(ZiF W5 B D _ (HD.out.1.on HZ.out.1) (by rw[HD.out.2.2];have:=HD.out.2.1;omega) rfl b0 (by decide) (Zew (by have:=HD.out.2.1;omega)).2.2).mono ?_;rintro e W6 ⟨rfl,hd6,ho6⟩;rw[Zj1 (by have:=HD.out.2.1;omega)] at hd6⊢;have H6:=Zhd (Zan hd6 ho6);clear hd6 ho6))
 go_ret2
 refine⟨⟨_,rfl,⟨_,H6.out.2.blk HZ.out.2 (by decide),Gath.nil _ _ _ _ _⟩,Nat.le_refl _,by decide,Nat.zero_le _⟩,H6.out.1,(Only.below HZ.out.1 HBL.out).trans H6.out.2⟩
def Zf6 (most stale:Int) (M k:Nat):Array Value:=#[.int .i64 most,.int .i64 stale,.map (some M),.int .i64 k]
theorem Zq1 (w:World) (C b M k:Nat) (most stale:Int) (cs:Array Value) (hC:Blk w C (Zf6 most stale M k) 78) (hb:Blk w b cs 82) (hn:cs.size=14) (hne:C≠b) (hk:k<4000000000000000000):
  Calls Tryz.prog 113 #[.pointer (some ⟨C,0,none⟩),.pointer (some ⟨b,0,none⟩)] w fun e w'=>e= .returned (.tuple #[])∧Blk w' C (Zf6 most stale M (k+1)) 78∧Blk w' b (cs.setIfInBounds 13 (.int .i64 (k+1:Nat))) 82∧
   w'.heap.size=w.heap.size∧(∀ j,j≠C→j≠b→w'.heap[j]?=w.heap[j]?)∧∀ B,B≤C→B≤b→Below B w w':=by
 have HC:=Zhd hC
 have HB:=Zhd hb
 have h3:w.cell? ⟨C,3,none⟩=some (.int .i64 k):=hC.cell 3
 have g3:=hC.free 3
 have g13:=hb.free 13
 have hne':b≠C:=fun e=>hne e.symm
 have HC2:=Zhd (hC.set 3 (.int .i64 ((k:Int)+1)))
 have h3':(w.setCell ⟨C,3,none⟩ (.int .i64 ((k:Int)+1))).cell? ⟨C,3,none⟩=some (.int .i64 ((k:Int)+1)):=HC2.out.cell 3
 obtain⟨v13,h13⟩:∃ v,w.cell? ⟨b,13,none⟩=some v:=by
  rw[hb.cell 13]
  exact⟨_,Array.getElem?_eq_getElem (by omega)⟩
 clear hC hb
 go_enter Tryz.func113,Tryz.ntmps113
 go_wp2_with fail
 go_end0
 have hC2:=HC2.out
 have hB2:Blk (w.setCell ⟨C,3,none⟩ (.int .i64 ((k:Int)+1))) b cs 82:=HB.out.but (Zag w C 3 _) hne'
 refine⟨rfl,?_,?_,by simp,fun j h1 h2=>?_,fun B h1 h2=>(Zbr.setCell h1 _).setCell h2 _⟩
 ·exact hC2.but (Zag _ b 13 _) hne
 ·have:=hB2.set 13 (.int .i64 ((k:Int)+1))
  simpa using this
 ·rw[Below.heap_setCell _ _ _ _ h2,Below.heap_setCell _ _ _ _ h1]
theorem ZnM (w:World) (ao:Option Addr) (len cap:Nat) (ss:List ByteArray) (hs:Strs w ao len cap ss) (hb:len*16≤140737488355328):
  Calls Tryz.prog 107 #[.slice ao len cap] w (Zqn w (ss.map small)):=by
 have hl:=hs.len
 have hcap:=hs.row.hcap
 have hle:=hs.row.hle
 obtain⟨i0,hi,hz0,hz1,hz2⟩:=info_parts ZiL
 obtain⟨w1,hmk,hown0,hgr0⟩:=run_make_own (P:=Tryz.prog) (w:=w) w.heap.size 31 9 i0 _ 1 Tryz.underlying31 hi hz0 hz1 .i64 .i64 len (by rw[hz2];omega) (by unfold maxLen;omega) Zlr
 have hb1:Below w.heap.size w w1:=Zbr.grown hgr0 Zlr (by intro k hk;cases hk)
 clear hgr0
 have HI:=Zhd (Zan hi (Zan hz0 (Zan hz1 hz2)))
 clear hi hz0 hz1 hz2
 have HB:=Zhd hb
 have hb':len≤8796093022208:=by omega
 clear hb
 have HO:=Zhd hown0;clear hown0
 go_enter Tryz.func107,Tryz.ntmps107
 go_wp2
 clear hmk
 go_loopw [3,11,5] (fun v i _ wr=>∃ k:Nat,k≤len∧i= .int .i64 k∧Below w.heap.size w wr∧Hid (wr.ownsRow w.heap.size 9 1 v k ((ss.take k).map fun s=> .string (small s)))) (fun _ i _ _=>len-(intOf i).toNat)
 case atStart=>exact⟨0,Nat.zero_le _,rfl,hb1,by simpa [Hid] using HO.out⟩
 case round=>
  obtain⟨k,hk,rfl,hbr,hown⟩:=hrel
  clear HO hb1
  by_cases hlt:k<len
  ·obtain⟨b,off,rfl⟩:=hs.row.addr hlt
   have hc:=(hs.below hbr Zlr).at hlt
   have h3:=hs.get_small (i:=k) (by omega)
   have h8:=List.take_succ_eq_append_getElem (l:=ss) (i:=k) (by omega)
   obtain⟨s,hsk⟩:∃ s,s=ss[k]:=⟨_,rfl⟩
   rw[←hsk] at hc h3 h8
   have H8:=Zhd h8
   clear hsk h8
   go_wp2_with fail
   refine(Zhh _ _ h3).mono ?_
   rintro e w2 ⟨rfl,hb2⟩
   have hown2:=Zhd (Zft hown.out hb2)
   have hb3:=Zaa hbr hb2 Zlr
   clear hown hbr hb2 hc
   have hz:w.heap.size≤w2.heap.size:=hb3.size
   obtain⟨i1,g1,g2,g3⟩:=(⟨i0,HI.out.1,HI.out.2.1,HI.out.2.2⟩:∃ i,Tryz.prog.info? 9=some i∧i.zero=some (.string ByteArray.empty)∧i.size=1∧i.bytes=16)
   obtain⟨v',w3,hrun,hown3,hgr3⟩:=Zba (P:=Tryz.prog) (w2.alloc (.cells #[.string (small s)] 9)) w.heap.size 31 31 9 i1 _ 16 Tryz.underlying31 g1 g2 g3.1 g3.2 rfl _ k _ (hown2.out.alloc _) (some ⟨w2.heap.size,0,none⟩) 1 1 [.string (small s)] (ZfS w2 _ _) (by intro u hu;simp at hu;subst hu;rfl) (by omega) (by have:=HB.out;omega) (by simp;omega)
   have hb4:Below w.heap.size w w3:=(hb3.alloc hz _).grown hgr3 (by simp;omega) (fun j hj=>(hown2.out.lt j hj).1)
   have HR:=Zhd hrun
   have HO3:=Zhd hown3
   clear hrun hown3 hgr3 g1 g2 g3 hown2 hb3 hz
   go_wp2_with (at_builtin;refine Zao rfl _ _ _ rfl _ _ rfl rfl HR.out ?_)
   go_roundw
   case rel=>exact⟨k+1,by omega,by go_num,hb4,by rw[H8.out];simpa [Hid] using HO3.out⟩
   case measure=>simp[intOf];omega
  ·have hke:k=len:=by omega
   subst hke
   have hall:(ss.take k).map (fun s=>Value.string (small s))=(ss.map small).map .string:=by rw[List.take_of_length_le (by omega)];simp
   have ho:=hown.out
   rw[hall] at ho
   obtain⟨ao',cap',rfl,hst⟩:=ZjM ho hs.row.hmax (by
    intro s hs'
    obtain⟨x,hx,rfl⟩:=List.mem_map.1 hs'
    rw[ZfY];exact hs.small x hx)
   have HH:=Zhd hst
   clear ho hall hst hown
   go_wp2
   go_ret
   exact⟨ao',cap',by rw[List.length_map,hl];rfl,by rw[List.length_map,hl];exact HH.out,hbr⟩
theorem Zjt {w:World} {B C:Nat} {e:TypeId} {s:Nat} {v:Value} {n:Nat} {xs:List Value} (h:w.ownsRow C e s v n xs) (hBC:B≤C):w.ownsRow B e s v n xs:=by
 obtain⟨h1,h2⟩:=h
 rcases h2 with h2|⟨g,cap,cur,e,hge,h3⟩
 ·exact⟨h1,.inl h2⟩
 ·exact⟨h1,.inr ⟨g,cap,cur,e,Nat.le_trans hBC hge,h3⟩⟩
theorem ZcD {w:World} {C:Nat} {e:TypeId} {s:Nat} {v:Value} {n:Nat} {xs:List Value} (h:w.ownsRow C e s v n xs) {b:Nat} (hb:b<C):v.ownBlock≠some b:=by
 intro h2
 have:=(h.lt b h2).1
 omega
structure SideB (C b:Nat) (bs:List Value) (w:World):Prop where
 lt:b<C
 le:C≤w.heap.size
 row:∃ p v,(p= .pointer none∨p= .pointer (some ⟨b,0,none⟩))∧w.heap[b]?=some (.cells #[p,v] 164 (0,0))∧w.ownsRow C 5 1 v bs.length bs
theorem SideB.is {C b:Nat} {bs:List Value} {w:World} (h:SideB C b bs w):IsB b b bs w:=by
 obtain⟨p,v,hp,h1,h2⟩:=h.row
 rcases hp with rfl|rfl
 ·exact .inl ⟨Nat.le_refl _,v,h1,Zjt h2 (Nat.le_of_lt h.lt),ZcD h2 h.lt⟩
 ·exact .inr ⟨Nat.le_refl _,v,h1,Zjt h2 (Nat.le_of_lt h.lt),ZcD h2 h.lt⟩
structure Besd (C b:Nat) (w w':World):Prop where
 bel:Below b w w'
 kept:∀ k,k<C→k≠b→w'.heap[k]?=w.heap[k]?
theorem Besd.refl (C b:Nat) (w:World):Besd C b w w:=⟨Below.refl _ _,fun _ _ _=>rfl⟩
theorem Besd.trans {C b:Nat} {w w1 w2:World} (h1:Besd C b w w1) (h2:Besd C b w1 w2):Besd C b w w2:=⟨h1.bel.trans h2.bel,fun k hk hb=>(h2.kept k hk hb).trans (h1.kept k hk hb)⟩
theorem Besd.on {C b:Nat} {w w1 w2:World} (h1:Besd C b w w1) (h2:Below w1.heap.size w1 w2) (hC:C≤w1.heap.size) (hb:b≤C):Besd C b w w2:=⟨h1.bel.trans (h2.mono (by omega)),fun k hk hne=>(h2.block k (by omega)).trans (h1.kept k hk hne)⟩
theorem SideB.on {C b:Nat} {bs:List Value} {w w':World} (h:SideB C b bs w) (hb:Below w.heap.size w w'):SideB C b bs w':=by
 obtain⟨p,v,hp,h1,h2⟩:=h.row
 have hlt:=h.lt
 have hle:=h.le
 exact⟨h.lt,Nat.le_trans h.le hb.size,p,v,hp,by rw[hb.block b (by omega)];exact h1,Zft h2 hb⟩
theorem ZeS (C b:Nat) (bs:List Value) (w:World) (h:SideB C b bs w):
  Calls Tryz.prog 157 #[.pointer (some ⟨b,0,none⟩)] w fun e w'=>e= .returned (.tuple #[])∧∃ v,w'.heap[b]?=some (.cells #[.pointer (some ⟨b,0,none⟩),v] 164 (0,0))∧w'.ownsRow C 5 1 v bs.length bs∧Besd C b w w':=by
 obtain⟨p,v,hp,h1,h2⟩:=h.row
 have hlt:=h.lt
 rcases hp with rfl|rfl
 ·refine(Zeb b w (by simp[World.cell?,h1]) (by simp[World.shape?,h1]) (Lib.frozen_of_heap h1 0)).mono ?_
  rintro e w' ⟨rfl,rfl⟩
  refine⟨rfl,v,heap_setCell_same w b 0 _ _ _ h1,h2.kept (Zag w b 0 _) (Or.inr (ZcD h2 hlt)),(Below.refl b w).setCell (p:=⟨b,0,none⟩) Zlr _,fun k hk hne=>?_⟩
  exact(Zag w b 0 _).block k (by have:=h.le;omega) (fun h=>hne (Zsi h))
 ·refine(ZeT b w (by simp[World.cell?,h1])).mono ?_
  rintro e w' ⟨rfl,rfl⟩
  exact⟨rfl,v,h1,h2,Besd.refl _ _ _⟩
theorem ZhF (C b:Nat) (bs:List Value) (c:Int) (w:World) (h:SideB C b bs w) (hlen:bs.length+1≤140737488355328):
  Calls Tryz.prog 108 #[.pointer (some ⟨b,0,none⟩),.int .u8 c] w fun e w'=>e= .returned .nilIface∧(SideB C b (bs++[.int .u8 c]) w'∧Besd C b w w'):=by
 obtain⟨i0,hi,hz0,hz1,hz2⟩:=info_parts ZeD
 have hCC:=Zhd (ZeS C b bs w h)
 have hle:=h.le
 have hbC:=h.lt
 clear h
 go_enter Tryz.func108,Tryz.ntmps108
 go_wp2_with (go_at_call 157;refine hCC.out.mono ?_)
 rintro e w1 ⟨rfl,v,hbk,hown,hb1⟩
 have hle1:=hb1.bel.size
 have c0:w1.cell? ⟨b,0,none⟩=some (.pointer (some ⟨b,0,none⟩)):=by rw[Lib.cell_of_heap hbk];rfl
 have c1:w1.cell? ⟨b,1,none⟩=some v:=by rw[Lib.cell_of_heap hbk];rfl
 go_wp2_with (at_builtin;refine wpList_append_own _ rfl _ _ 22 rfl C 5 i0 (.int .u8 0) 1 1 Tryz.underlying22 hi hz0 hz1 hz2 rfl (by decide) _ _ _ rfl (hown.alloc _) ⟨w1.heap.size,0,none⟩ 1 1 [.int .u8 c] rfl rfl ?c1 ?c2 ?c3 ?c4 ?c5 ?_)
 case c1=>
  intro j u hj
  match j,hj with
  |0,hj=>simp at hj;subst hj;simp[Addr.add]
 case c2=>intro u hu;simp at hu;subst hu;rfl
 case c3=>unfold maxLen;omega
 case c4=>omega
 case c5=>simp;omega
 intro v' w2 hown' hgrow _
 have hne:=ZcD hown hbC
 have hlt:b<w1.heap.size:=by omega
 have hb2:w2.heap[b]?=some (.cells #[.pointer (some ⟨b,0,none⟩),v] 164 (0,0)):=by
  rw[hgrow.block b (by simp;omega) (fun e=>hne e.symm),Lib.alloc_old w1 _ b hlt]
  exact hbk
 have d0:w2.cell? ⟨b,0,none⟩=some (.pointer (some ⟨b,0,none⟩)):=by rw[Lib.cell_of_heap hb2];rfl
 have d1:w2.cell? ⟨b,1,none⟩=some v:=by rw[Lib.cell_of_heap hb2];rfl
 have f1:w2.frozen? ⟨b,1,none⟩=false:=Lib.frozen_of_heap hb2 1
 obtain⟨g,cap,rfl⟩:∃ g cap,v'= .slice (some ⟨g,0,none⟩) (bs.length+1) cap:=by
  rcases hown'.2 with⟨_,h0⟩|⟨g,cap,cur,hv,_⟩
  ·omega
  ·exact⟨g,cap,hv⟩
 have hgz:=hgrow.size
 have HO:=Zhd hown
 have HO':=Zhd hown'
 have HG:=Zhd hgrow
 have HB1:=Zhd hb1
 clear hown hown' hgrow hb1 hne
 go_wp2
 go_ret
 have hown':=HO'.out
 have hgrow:=HG.out
 refine⟨rfl,⟨hbC,by simp at hgz⊢;omega,_,_,.inr rfl,heap_setCell_same w2 b 1 _ _ _ hb2,?_⟩,?_,?_⟩
 ·have h:=hown'.kept (Zag w2 b 1 (.slice (some ⟨g,0,none⟩) (bs.length+1) cap)) (Or.inr (ZcD hown' hbC))
  simpa using h
 ·refine(((HB1.out.bel.alloc (by omega) _).grown hgrow (by simp;omega) (fun k hk=>?_))).setCell (p:=⟨b,1,none⟩) Zlr _
  have:=(HO.out.lt k hk).1
  omega
 ·intro k hk hkb
  rw[(Zag w2 b 1 _).block k (by simp at hgz;omega) (fun h=>hkb (Zsi h)),hgrow.block k (by simp;omega) (fun e=>ZcD HO.out hk e.symm),Lib.alloc_old w1 _ k (by omega)]
  exact HB1.out.kept k hk hkb
theorem Zgl (C b:Nat) (bs:List Value) (s:ByteArray) (w:World) (h:SideB C b bs w) (hlen:bs.length+s.size≤140737488355328):
  Calls Tryz.prog 109 #[.pointer (some ⟨b,0,none⟩),.string s] w fun e w'=>e= .returned (.tuple #[.int .i64 s.size,.nilIface])∧(SideB C b (bs++Lib.strCells s) w'∧Besd C b w w'):=by
 obtain⟨i0,hi,hz0,hz1,hz2⟩:=info_parts ZeD
 have hCC:=Zhd (ZeS C b bs w h)
 have hle:=h.le
 have hbC:=h.lt
 clear h
 go_enter Tryz.func109,Tryz.ntmps109
 go_wp2_with (go_at_call 157;refine hCC.out.mono ?_)
 rintro e w1 ⟨rfl,v,hbk,hown,hb1⟩
 have hle1:=hb1.bel.size
 have c0:w1.cell? ⟨b,0,none⟩=some (.pointer (some ⟨b,0,none⟩)):=by rw[Lib.cell_of_heap hbk];rfl
 have c1:w1.cell? ⟨b,1,none⟩=some v:=by rw[Lib.cell_of_heap hbk];rfl
 go_wp2_with (at_builtin;refine Lib.wpList_append_own_string _ rfl _ _ 22 9 rfl C 5 i0 Tryz.underlying22 Tryz.underlying9 hi hz0 hz1 hz2 _ _ _ rfl hown s rfl ?c3 ?c4 ?c5 ?_)
 case c3=>unfold maxLen;omega
 case c4=>omega
 case c5=>omega
 intro v' w2 hown' hgrow _
 have hne:=ZcD hown hbC
 have hlt:b<w1.heap.size:=by omega
 have hb2:w2.heap[b]?=some (.cells #[.pointer (some ⟨b,0,none⟩),v] 164 (0,0)):=by
  rw[hgrow.block b hlt (fun e=>hne e.symm)]
  exact hbk
 have d0:w2.cell? ⟨b,0,none⟩=some (.pointer (some ⟨b,0,none⟩)):=by rw[Lib.cell_of_heap hb2];rfl
 have d1:w2.cell? ⟨b,1,none⟩=some v:=by rw[Lib.cell_of_heap hb2];rfl
 have f1:w2.frozen? ⟨b,1,none⟩=false:=Lib.frozen_of_heap hb2 1
 obtain⟨ao,n',cap,rfl⟩:∃ ao n' cap,v'= .slice ao n' cap:=by
  rcases hown'.2 with⟨hv,_⟩|⟨g,cap,cur,hv,_⟩
  ·exact⟨_,_,_,hv⟩
  ·exact⟨_,_,_,hv⟩
 have hgz:=hgrow.size
 have HO:=Zhd hown
 have HO':=Zhd hown'
 have HG:=Zhd hgrow
 have HB1:=Zhd hb1
 clear hown hown' hgrow hb1 hne
 go_wp2
 go_ret2
 have hown':=HO'.out
 have hgrow:=HG.out
 refine⟨rfl,⟨hbC,by simp at hgz⊢;omega,_,_,.inr rfl,heap_setCell_same w2 b 1 _ _ _ hb2,?_⟩,?_,?_⟩
 ·have h:=hown'.kept (Zag w2 b 1 (.slice ao n' cap)) (Or.inr (ZcD hown' hbC))
  simpa [Lib.strCells_length] using h
 ·refine((HB1.out.bel.grown hgrow (by omega) (fun k hk=>?_))).setCell (p:=⟨b,1,none⟩) Zlr _
  have:=(HO.out.lt k hk).1
  omega
 ·intro k hk hkb
  rw[(Zag w2 b 1 _).block k (by omega) (fun h=>hkb (Zsi h)),hgrow.block k (by omega) (fun e=>ZcD HO.out hk e.symm)]
  exact HB1.out.kept k hk hkb
theorem Zh4 (C b:Nat) (bs:List Value) (w:World) (h:SideB C b bs w):
  Calls Tryz.prog 157 #[.pointer (some ⟨b,0,none⟩)] w fun e w'=>e= .returned (.tuple #[])∧∃ v,w'.heap[b]?=some (.cells #[.pointer (some ⟨b,0,none⟩),v] 164 (0,0))∧w'.ownsRow C 5 1 v bs.length bs∧w.grownBy w' (some b):=by
 obtain⟨p,v,hp,h1,h2⟩:=h.row
 have hlt:=h.lt
 rcases hp with rfl|rfl
 ·refine(Zeb b w (by simp[World.cell?,h1]) (by simp[World.shape?,h1]) (Lib.frozen_of_heap h1 0)).mono ?_
  rintro e w' ⟨rfl,rfl⟩
  exact⟨rfl,v,heap_setCell_same w b 0 _ _ _ h1,h2.kept (Zag w b 0 _) (Or.inr (ZcD h2 hlt)),Zag _ _ _ _⟩
 ·refine(ZeT b w (by simp[World.cell?,h1])).mono ?_
  rintro e w' ⟨rfl,rfl⟩
  exact⟨rfl,v,h1,h2,World.grownBy.refl _ _⟩
theorem Zj8 (C b:Nat) (bs:List Value) (ao:Option Addr) (n c:Nat) (l:List UInt8) (w:World) (h:SideB C b bs w) (hr:ZbP w ao n c l) (hao:∀ a,ao=some a→a.block≠b) (hlen:bs.length+n≤140737488355328):
  Calls Tryz.prog 110 #[.pointer (some ⟨b,0,none⟩),.slice ao n c] w fun e w'=>e= .returned (.tuple #[.int .i64 n,.nilIface])∧(SideB C b (bs++Lib.byteCells l) w'∧Besd C b w w'):=by
 obtain⟨i0,hi,hz0,hz1,hz2⟩:=info_parts ZeD
 have hCC:=Zhd (Zh4 C b bs w h)
 have hle:=h.le
 have hbC:=h.lt
 have HR:=Zhd (Zan hr hao)
 clear h hr hao
 go_enter Tryz.func110,Tryz.ntmps110
 go_wp2_with (go_at_call 157;refine hCC.out.mono ?_)
 rintro e w1 ⟨rfl,v,hbk,hown,hb1⟩
 have hle1:=hb1.size
 have c0:w1.cell? ⟨b,0,none⟩=some (.pointer (some ⟨b,0,none⟩)):=by rw[Lib.cell_of_heap hbk];rfl
 have c1:w1.cell? ⟨b,1,none⟩=some v:=by rw[Lib.cell_of_heap hbk];rfl
 have hr1:=HR.out.1.grown hb1 (fun a ha e=>HR.out.2 a ha (Zsi e))
 obtain⟨v',w2,hrun,hown',hgrow⟩:=Zba (P:=Tryz.prog) w1 C 22 22 5 i0 _ 1 Tryz.underlying22 hi hz0 hz1 hz2 rfl v bs.length bs hown ao n c _ hr1 (by
  intro u hu
  obtain⟨x,_,rfl⟩:=List.mem_map.1 hu
  rfl) (by omega) (by omega) (by omega)
 have hne:=ZcD hown hbC
 have hlt:b<w1.heap.size:=by omega
 have hb2:w2.heap[b]?=some (.cells #[.pointer (some ⟨b,0,none⟩),v] 164 (0,0)):=by
  rw[hgrow.block b hlt (fun e=>hne e.symm)]
  exact hbk
 have d0:w2.cell? ⟨b,0,none⟩=some (.pointer (some ⟨b,0,none⟩)):=by rw[Lib.cell_of_heap hb2];rfl
 have d1:w2.cell? ⟨b,1,none⟩=some v:=by rw[Lib.cell_of_heap hb2];rfl
 have f1:w2.frozen? ⟨b,1,none⟩=false:=Lib.frozen_of_heap hb2 1
 obtain⟨ao',n',cap,rfl⟩:∃ ao n' cap,v'= .slice ao n' cap:=by
  rcases hown'.2 with⟨hv,_⟩|⟨g,cap,cur,hv,_⟩
  ·exact⟨_,_,_,hv⟩
  ·exact⟨_,_,_,hv⟩
 have HRUN:=Zhd hrun
 clear hrun hr1 hi hz0 hz1 hz2
 go_wp2_with (at_builtin;refine Zao rfl _ _ _ rfl _ _ rfl rfl HRUN.out ?_)
 have hgz:=hgrow.size
 have hln:l.length=n:=by simpa using HR.out.1.hlen
 have HLN:=Zhd hln
 have HO:=Zhd hown
 have HO':=Zhd hown'
 have HG:=Zhd hgrow
 have HB1:=Zhd hb1
 clear hown hown' hgrow hb1 hne hln
 go_wp2
 go_ret2
 have hown':=HO'.out
 have hgrow:=HG.out
 refine⟨rfl,⟨hbC,by simp at hgz⊢;omega,_,_,.inr rfl,heap_setCell_same w2 b 1 _ _ _ hb2,?_⟩,?_,?_⟩
 ·have h:=hown'.kept (Zag w2 b 1 (.slice ao' n' cap)) (Or.inr (ZcD hown' hbC))
  simpa [Lib.byteCells,HLN.out] using h
 ·refine(((Zam HB1.out Zlr (by omega)).grown hgrow (by omega) (fun k hk=>?_))).setCell (p:=⟨b,1,none⟩) Zlr _
  have:=(HO.out.lt k hk).1
  omega
 ·intro k hk hkb
  rw[(Zag w2 b 1 _).block k (by omega) (fun h=>hkb (Zsi h)),hgrow.block k (by omega) (fun e=>ZcD HO.out hk e.symm)]
  exact HB1.out.block k (by omega) (fun e=>hkb (Zsi e))
theorem Zl5 (n:List ByteArray) (k:Nat) (h:k<n.length):ZgV (n.take (k+1))=ZgV (n.take k)++Zk0 n[k]:=by
 rw[ZgV,List.take_succ_eq_append_getElem h,List.flatMap_append];simp[ZgV]
theorem ZgW (n:List ByteArray):(ZgV n).length=Za0 n:=by
 induction n with
 |nil=>rfl
 |cons a n ih=>
  simp only[ZgV,List.flatMap_cons,Zla] at ih⊢
  rw[ih,Za0]
  have h1:(small a).data.toList.length=a.size:=(by simpa using (show(small a).data.size=a.size from ZfY a))
  simp only[Zk0,List.length_cons,h1]
theorem ZdZ (a b:List UInt8):Lib.byteCells a++Lib.byteCells b=Lib.byteCells (a++b):=by simp[Lib.byteCells]
theorem Zj9 (n:Nat):IntKind.u8.wrap (n:Int)=((UInt8.ofNat (n%256)).toNat:Int):=by
 rw[UInt8.toNat_ofNat']
 simp[IntKind.wrap,IntKind.bits,IntKind.signed]
theorem ZmV (n:Int):((ZlE n).toNat:Int)=n%256:=by
 rw[ZlE,UInt8.toNat_ofNat']
 have h1:=Int.emod_nonneg n (show(256:Int)≠0 by decide)
 have h2:=Int.emod_lt_of_pos n (show(0:Int)<256 by decide)
 omega
theorem ZqU (w:World) (cs:Array Value) (e:TypeId) (h:cs.size≤140737488355328):Row (w.alloc (.cells cs e)) (some ⟨w.heap.size,0,none⟩) cs.size cs.size cs.toList:=by
 refine⟨by simp,Nat.le_refl _,by omega,h,fun e=>(by cases e),fun h0=>⟨w.heap.size,0,rfl,fun i hi=>?_⟩⟩
 rw[Nat.zero_add,World.cell?_alloc_new w cs e i]
 simp at hi
 simp[hi]
theorem ZqV {w:World} {a:Addr} {n c:Nat} {vs:List Value} {g:Nat} {cs:Array Value} {T:TypeId} (h:Row w (some a) n c vs) (hB:Blk w g cs T) (h0:0<n) (hne:∀ (v:Value),v∈vs→∀ j:Nat,cs[j]?≠some v):a.block≠g:=by
 rintro rfl
 obtain⟨b,off,e,hc⟩:=h.hcells h0
 cases e
 have hl:0<vs.length:=by have:=h.hlen;omega
 have h1:=hc 0 hl
 rw[hB.cell] at h1
 exact hne _ (List.getElem_mem hl) _ h1
theorem ZhB (s:ByteArray):Lib.strCells s=Lib.byteCells s.data.toList:=rfl
theorem ZhA {n:List ByteArray} {s:ByteArray} (h:s∈n):s.size+1≤Za0 n:=by
 induction n with
 |nil=>cases h
 |cons a n ih=>
  rw[Za0]
  rcases List.mem_cons.1 h with rfl|h
  ·omega
  ·have:=ih h;omega
theorem Zbk (n:List ByteArray):n.length≤Za0 n:=by
 induction n with
 |nil=>exact Nat.zero_le _
 |cons a n ih=>rw[Za0,List.length_cons];omega
theorem ZeB (w:World) (h:ZaU) (f:Zas) (hn:Strs w h.na h.nl h.nc f.name) (hz:Za0 f.name≤1099511627776):
  Calls Tryz.prog 59 #[.agg (Zaj h f)] w fun e w'=>e= .returned (.string ⟨(Zax f).toArray⟩)∧Below w.heap.size w w':=by
 have hb1:Below w.heap.size w (w.alloc (.cells (Zaj h f) 37)):=Zbr.alloc Zlr _
 have hs1:(w.alloc (.cells (Zaj h f) 37)).heap.size=w.heap.size+1:=by simp
 have hb2:Below w.heap.size w ((w.alloc (.cells (Zaj h f) 37)).alloc (.cells #[.pointer none,.slice none 0 0] 164)):=hb1.alloc (by omega) _
 have hA0:Blk (w.alloc (.cells (Zaj h f) 37)) w.heap.size (Zaj h f) 37:=Zha w _
 have hA:Blk ((w.alloc (.cells (Zaj h f) 37)).alloc (.cells #[.pointer none,.slice none 0 0] 164)) w.heap.size (Zaj h f) 37:=hA0.on (Zbr.alloc Zlr _)
 have hN:Blk ((w.alloc (.cells (Zaj h f) 37)).alloc (.cells #[.pointer none,.slice none 0 0] 164)) (w.heap.size+1) #[.pointer none,.slice none 0 0] 164:=by
  have:=Zha (w.alloc (.cells (Zaj h f) 37)) (.cells #[.pointer none,.slice none 0 0] 164)
  simpa [Blk] using this
 have HB2:=Zhd hb2
 have HA:=Zhd hA
 have HN:=Zhd hN
 have HNM:=Zhd (hn.below hb2 Zlr)
 have hl:=hn.len
 have hz2:=Zbk f.name
 have HLW:=Zhd (ZnM _ _ _ _ _ (hn.below hb2 Zlr) (by omega))
 have HZ:=Zhd hz
 have HL:=Zhd hl
 have hnl:h.nl≤1099511627776:=by omega
 have hsz2:((w.alloc (.cells (Zaj h f) 37)).alloc (.cells #[.pointer none,.slice none 0 0] 164)).heap.size=w.heap.size+2:=by simp
 have HSZ2:=Zhd hsz2
 clear hb1 hs1 hb2 hA0 hA hN hn hl hz hz2 hsz2
 obtain⟨na,nl,nc,sa,sl,sc,za,zl,zc,⟨ba,bl,bc,ha,hl,hc,ma,ml,mc,xa,xl,xc,ta,tl,tc⟩⟩:=h
 simp only[Zaj] at HB2 HA HN HNM HLW HL hnl HSZ2
 go_enter Tryz.func59,Tryz.ntmps59
 simp only[Zaj]
 have a0:=HA.out.cell 0
 simp at a0
 go_wp2_with fail
 clear a0
 refine HLW.out.mono ?_
 rintro e w3 ⟨lo,lc,rfl,hlow,hb3⟩
 rw[List.length_map,HL.out] at hlow
 have hsz3:w.heap.size+2≤w3.heap.size:=by have:=hb3.size;have:=HSZ2.out;omega
 have hN3:=HN.out.on hb3
 have hAB:∀ a,lo=some a→0<nl→a.block≠w.heap.size+1:=by
  intro a ha h0
  subst ha
  exact ZqV hlow.row hN3 h0 (fun v hv j=>by
   obtain⟨s,_,rfl⟩:=List.mem_map.1 hv
   match j with
   |0=>simp
   |1=>simp
   |j+2=>simp)
 have HS:=Zhd (show SideB w3.heap.size (w.heap.size+1) (Lib.byteCells (ZgV (f.name.take 0))) w3 from⟨by omega,Nat.le_refl _,_,_,.inl rfl,hN3,by simpa [ZgV,Lib.byteCells] using World.ownsRow_nil _ _ _ _⟩)
 have HA3:=Zhd (HA.out.on hb3)
 have HB3:=Zhd (Zaa HB2.out hb3 Zlr)
 have HLO:=Zhd hlow
 have HAB:=Zhd hAB
 have HS3:=Zhd hsz3
 have hlc:=hlow.row.hle
 have hlm:=hlow.row.hcap
 clear hb3 hlow hAB hN3 hsz3 HLW HA HN HB2 HSZ2
 rw[List.length_map,HL.out]
 go_wp2_with fail
 go_loopw [10,5] (fun i _ wr=>∃ k:Nat,k≤nl∧i= .int .i64 k∧Hid (SideB w3.heap.size (w.heap.size+1) (Lib.byteCells (ZgV (f.name.take k))) wr∧Besd w3.heap.size (w.heap.size+1) w3 wr)) (fun i _ _=>nl-(intOf i).toNat)
 case atStart=>exact⟨0,Nat.zero_le _,rfl,HS.out,Besd.refl _ _ _⟩
 case round=>
  obtain⟨k,hk,rfl,hinv⟩:=hrel
  clear HS
  by_cases hlt:k<nl
  ·obtain⟨b,off,rfl⟩:=HLO.out.row.addr hlt
   have hlow:=HLO.out.keep (S:=fun x=>x<w3.heap.size∧x≠w.heap.size+1) (w':=wr) (fun h0 a ha=>⟨HLO.out.row.mem_lt h0 a ha,HAB.out a ha h0⟩) (fun x hx hS=>hinv.out.2.kept x hS.1 hS.2)
   have hc:=hlow.at hlt
   rw[List.getElem_map] at hc
   have hkn:k<f.name.length:=by have:=HL.out;omega
   have hmem:f.name[k]∈f.name:=List.getElem_mem hkn
   have hsm:=ZhA hmem
   have hbl:(Lib.byteCells (ZgV (f.name.take k))).length≤1099511627776:=by
    rw[Lib.byteCells_length,ZgW]
    exact Nat.le_trans (Zcn _ _) HZ.out
   have hsn:=Zl5 f.name k hkn
   obtain⟨s,hsk⟩:∃ s,s=f.name[k]:=⟨_,rfl⟩
   rw[←hsk] at hc hsm hsn
   have hss:=ZfY s
   have hsmall:s.size≤1099511627776:=by have:=HZ.out;omega
   obtain⟨z,hzk⟩:∃ z,z=small s:=⟨_,rfl⟩
   rw[←hzk] at hc hss
   have HSN:=Zhd hsn
   have HZK:=Zhd hzk
   have HSS:=Zhd hss
   have hzs:z.size≤1099511627776:=by omega
   have HBL:=Zhd hbl
   have HWB:=Zhd (Zj9 z.size)
   clear hlow hmem hsm hsn hsk hss hzk hbl hkn
   obtain⟨Y,hY⟩:∃ Y,Y=(UInt8.ofNat (z.size%256)).toNat:=⟨_,rfl⟩
   have HY:=Zhd hY
   have hwr:IntKind.u8.wrap (z.size:Int)=(Y:Int):=by rw[HWB.out,hY]
   clear hY
   have HW1:=Zhd (ZhF w3.heap.size (w.heap.size+1) _ (Y:Int) wr hinv.out.1 (by have:=HBL.out;omega))
   go_wp2_with fail
   refine HW1.out.mono ?_
   rintro e w4 ⟨rfl,hS4,hB4⟩
   have HW2:=Zhd (Zgl w3.heap.size (w.heap.size+1) _ z w4 hS4 (by have:=HBL.out;simp;omega))
   have HB4:=Zhd (hinv.out.2.trans hB4)
   clear HW1 hS4 hB4
   go_wp2_with fail
   refine HW2.out.mono ?_
   rintro e w5 ⟨rfl,hS5,hB5⟩
   have HS5:=Zhd hS5
   have HB5:=Zhd (HB4.out.trans hB5)
   clear HW2 hS5 hB5 HB4 hc hwr
   go_wp2_with fail
   go_roundw
   case rel=>
    refine⟨k+1,by omega,by go_num,?_,HB5.out⟩
    have h5:=HS5.out
    rw[HSN.out,Zk0,←ZdZ]
    rw[show(Lib.byteCells (UInt8.ofNat (s.size%256)::(small s).data.toList))=[.int .u8 (Y:Int)]++Lib.strCells z by rw[HY.out,ZhB,HZK.out,←HSS.out];simp[Lib.byteCells];rw[←HZK.out],←List.append_assoc]
    exact h5
   case measure=>simp[intOf];omega
  ·obtain rfl:k=nl:=by omega
   have hkt:f.name.take k=f.name:=List.take_of_length_le (by have:=HL.out;omega)
   have hinv2:=hinv.out
   rw[hkt] at hinv2
   have HI:=Zhd hinv2
   have hA4:Blk wr w.heap.size _ _:=(hinv2.2.kept w.heap.size (by have:=HS3.out;omega) (by omega)).trans HA3.out
   have a1:=hA4.cell 1
   simp at a1
   have hrow:ZbP (wr.alloc (.cells #[.int .u8 0,.int .u8 (f.typ/256%256),.int .u8 (f.typ%256)] 5)) (some ⟨wr.heap.size,0,none⟩) 3 3 [0,ZlE (f.typ/256),ZlE f.typ]:=by
    have:=ZqU wr #[.int .u8 0,.int .u8 (f.typ/256%256),.int .u8 (f.typ%256)] 5 (by simp)
    simpa [ZbP,ZmV] using this
   have hba:Below wr.heap.size wr (wr.alloc (.cells #[.int .u8 0,.int .u8 (f.typ/256%256),.int .u8 (f.typ%256)] 5)):=Zbr.alloc Zlr _
   have HW:=Zhd (Zj8 _ _ _ _ _ _ _ _ (hinv2.1.on hba) hrow (fun a ha=>by
    cases ha
    have:=hinv2.1.lt
    have:=hinv2.1.le
    simp only
    omega) (by
    rw[Lib.byteCells_length,ZgW]
    have:=HZ.out
    omega))
   have HBA:=Zhd hba
   clear hinv hinv2 hA4 hrow hba
   go_wp2_with fail
   refine HW.out.mono ?_
   rintro e w5 ⟨rfl,hS5,hB5⟩
   rw[ZdZ] at hS5
   have hsz5:w.heap.size+1≤w5.heap.size:=by
    have:=hS5.le
    have:=hS5.lt
    omega
   have HST:=Zhd (Tryz.Builder_String_any (w.heap.size+1) (w.heap.size+1) _ w5 hS5.is hsz5)
   have HB5:=Zhd hB5
   clear hS5 hB5 HW hsz5
   go_wp2_with fail
   refine HST.out.mono ?_
   rintro e w6 ⟨rfl,hB6⟩
   go_wp2_with fail
   go_ret
   refine⟨rfl,?_⟩
   have h1:Below w.heap.size wr w5:=(((Below.refl w.heap.size wr).alloc (by have:=HI.out.1.le;have:=HI.out.1.lt;omega) _)).trans (HB5.out.bel.mono (by omega))
   exact((HB3.out.trans (HI.out.2.bel.mono (by omega))).trans h1).trans (hB6.mono (by omega))
def noP:Zaq:=⟨[],[],[],[],[]⟩
def ZrT:ZaJ:=⟨none,0,0,none,0,0,none,0,0,none,0,0,none,0,0⟩
def Zpa (o:Option ZaP):Value:=match o with|some s=> .pointer (some ⟨s.b,0,none⟩)|none=> .pointer none
theorem Zdc (n:List ByteArray) (t:Int):(Zkn n t).length=Za0 n+3:=by simp[Zkn,ZgW]
theorem Zrf (w:World) (B C:Nat) (most stale:Int) (k:Nat) (L:List ZaP) (hC:IsCache B w C most stale k L) (na:Option Addr) (nl nc:Nat) (nm:List ByteArray) (typ:Int) (hn:Strs w na nl nc nm) (hz:Za0 nm≤1099511627776):
  Calls Tryz.prog 36 #[.pointer (some ⟨C,0,none⟩),.slice na nl nc,.int .i64 typ] w fun e w'=>e= .returned (Zpa (atL L (Zkn nm typ)))∧Below w.heap.size w w':=by
 obtain⟨M,hB,_,hM⟩:=hC.ex
 obtain⟨KS,hKS⟩:∃ q:ByteArray,q=(⟨(Zkn nm typ).toArray⟩:ByteArray):=⟨_,rfl⟩
 obtain⟨P,hP⟩:∃ q:Value,q=Zpa (atL L (Zkn nm typ)):=⟨_,rfl⟩
 have HK:=Zhd (fun w' (p:Below w.heap.size w w')=>ZeB w' ⟨na,nl,nc,none,0,0,none,0,0,ZrT⟩ ⟨nm,typ,0,0,0,0,[],[],noP⟩ (hn.below p Zlr) hz)
 rw[show Zax ⟨nm,typ,0,0,0,0,[],[],noP⟩=Zkn nm typ from rfl,←hKS] at HK
 simp only[Zaj,ZrT] at HK
 have HL:=Zhd (fun w' (p:Below w.heap.size w w')=>(hM.on (p.block M hM.lt)).look (key:=Zkn nm typ) (by rw[Zdc];omega))
 rw[←hKS] at HL
 have HL2:=Zhd (fun w' (p:Below w.heap.size w w')=>show(Instr.lookup 76 (.map (some M)) (.string KS) false).run Tryz.prog w'= .ok P w' by rw[hP];exact HL.out w' p)
 rw[←hP]
 have HM2:=Zhd (show w.drew.cell? ⟨C,2,none⟩=some (.map (some M)) from hB.cell 2)
 clear hC hB hM hKS hP HL hn
 go_enter Tryz.func36,Tryz.ntmps36
 go_wp2_with fail
 refine Zcs (m:=18) (by kernel_rfl) (fun x y=>Below x.heap.size x y) (fun i v xw=>match i with|0=>v= .pointer (some ⟨C,0,none⟩)|1=>v= .pointer (some ⟨C,0,none⟩)|2=>v= .pointer (some ⟨C,2,none⟩)|3=>v= .map (some M)|4=>v= .slice na nl nc|5=>v= .int .i64 typ|6=>v= .agg #[.slice na nl nc,.int .i64 typ,.int .i64 0,.int .i64 0,.int .i64 0,.int .i64 0,.slice none 0 0,.slice none 0 0,.slice none 0 0,.slice none 0 0,.slice none 0 0,.slice none 0 0,.slice none 0 0]|7=>v= .string KS|8=>v=P|9=>v=P|_=>True) rfl (by kernel_rfl) (fun _ _ _ h1 h2=>Zaa h1 h2 Zlr) Zbr (fun _ _ _ _ h _=>h) (Zc8 10 (by kernel_rfl) (fun _ _ h=>h)) ?_ ?_
 rotate_left
 ·intro a W hR hS hdep
  have e6:a.tmps.getD 6 undef=P:=hdep 9 (by decide+kernel)
  obtain⟨T,df⟩:=a
  obtain rfl:df=[]:=hS.defers
  have hT:=Zcy T 18 hS.size;simp only[List.range,List.range.loop,List.map_cons,List.map_nil] at hT
  have k6:T.getD 6 undef=P:=e6
  clear hS hdep
  rw[hT]
  rw[k6]
  clear k6 e6
  clear hT
  generalize T.getD 0 undef=u0
  generalize T.getD 1 undef=u1
  generalize T.getD 2 undef=u2
  generalize T.getD 3 undef=u3
  generalize T.getD 4 undef=u4
  generalize T.getD 5 undef=u5
  generalize T.getD 7 undef=u7
  generalize T.getD 8 undef=u8
  generalize T.getD 9 undef=u9
  generalize T.getD 10 undef=u10
  generalize T.getD 11 undef=u11
  generalize T.getD 12 undef=u12
  generalize T.getD 13 undef=u13
  generalize T.getD 14 undef=u14
  generalize T.getD 15 undef=u15
  generalize T.getD 16 undef=u16
  generalize T.getD 17 undef=u17
  have HR:=Zhd (Zaa (B:=w.heap.size) (Below.drew Zbr) hR Zlr)
  clear hR
  go_wp2_with fail
  go_ret
  exact⟨rfl,HR.out⟩
 refine Zac rfl rfl (fun a W hR hS hdep K hK=>?_) ?_
 ·have e0:a.tmps[0]?.getD undef= .pointer (some ⟨C,0,none⟩):=Zad (hS.keep 0 (by kernel_rfl))
  go_simp
  exact hK _ _ Zbr (by first|rfl|simp)
 refine Zac rfl rfl (fun a W hR hS hdep K hK=>?_) ?_
 ·have e9:a.tmps[9]?.getD undef= .pointer (some ⟨C,0,none⟩):=Zad (hdep 0 (by decide+kernel))
  go_simp
  exact hK _ _ Zbr (by first|rfl|simp)
 refine Zac rfl rfl (fun a W hR hS hdep K hK=>?_) ?_
 ·have e10:a.tmps[10]?.getD undef= .pointer (some ⟨C,0,none⟩):=Zad (hdep 1 (by decide+kernel))
  go_simp
  exact hK _ _ Zbr (by first|rfl|simp)
 refine Zac rfl rfl (fun a W hR hS hdep K hK=>?_) ?_
 ·have e11:a.tmps[11]?.getD undef= .pointer (some ⟨C,2,none⟩):=Zad (hdep 2 (by decide+kernel))
  have m0:=Zab hR HM2.out
  go_simp
  exact hK _ _ Zbr (by first|rfl|simp)
 refine Zac rfl rfl (fun a W hR hS hdep K hK=>?_) ?_
 ·have e1:a.tmps[1]?.getD undef= .slice na nl nc:=Zad (hS.keep 1 (by kernel_rfl))
  go_simp
  exact hK _ _ Zbr (by first|rfl|simp)
 refine Zac rfl rfl (fun a W hR hS hdep K hK=>?_) ?_
 ·have e2:a.tmps[2]?.getD undef= .int .i64 typ:=Zad (hS.keep 2 (by kernel_rfl))
  go_simp
  exact hK _ _ Zbr (by first|rfl|simp)
 refine Zac rfl rfl (fun a W hR hS hdep K hK=>?_) ?_
 ·have e13:a.tmps[13]?.getD undef= .slice na nl nc:=Zad (hdep 4 (by decide+kernel))
  have e14:a.tmps[14]?.getD undef= .int .i64 typ:=Zad (hdep 5 (by decide+kernel))
  go_simp
  exact hK _ _ Zbr rfl
 refine Zac rfl rfl (fun a W hR hS hdep K hK=>?_) ?_
 ·have e15:a.tmps[15]?.getD undef= .agg #[.slice na nl nc,.int .i64 typ,.int .i64 0,.int .i64 0,.int .i64 0,.int .i64 0,.slice none 0 0,.slice none 0 0,.slice none 0 0,.slice none 0 0,.slice none 0 0,.slice none 0 0,.slice none 0 0]:=Zad (hdep 6 (by decide+kernel))
  go_simp
  have hbx:=Zaa (B:=w.heap.size) (Below.drew Zbr) hR Zlr
  refine(HK.out _ hbx).mono ?_
  rintro e W' ⟨rfl,hb⟩
  exact hK _ _ hb rfl
 refine Zac rfl rfl (fun a W hR hS hdep K hK=>?_) ?_
 ·have e12:a.tmps[12]?.getD undef= .map (some M):=Zad (hdep 3 (by decide+kernel))
  have e16:a.tmps[16]?.getD undef= .string KS:=Zad (hdep 7 (by decide+kernel))
  go_simp
  have hbx:=Zaa (B:=w.heap.size) (Below.drew Zbr) hR Zlr
  have hl:=HL2.out _ hbx
  rw[hl]
  exact hK _ _ Zbr rfl
 refine Zac rfl rfl (fun a W hR hS hdep K hK=>?_) ?_
 ·have e17:a.tmps[17]?.getD undef=P:=Zad (hdep 8 (by decide+kernel))
  go_simp
  exact hK _ _ Zbr (by first|rfl|simp)
 exact fun j h1 h2=>absurd h1 (by simp only[List.size_toArray,List.length_cons,List.length_nil];omega)
theorem ZjV (w:World) (k:Int):Calls Tryz.prog 103 #[.int .i64 k] w fun e w'=>e= .returned (.bool (ZbW k))∧w=w':=by
 by_cases h1:1≤k
 ·have d1:decide (1≤k)=true:=Zdt h1
  by_cases h2:k≤65534
  ·have d2:decide (k≤65534)=true:=Zdt h2
   by_cases h3:k=41
   ·subst h3
    go_enter Tryz.func103,Tryz.ntmps103
    go_wp2_with fail
    go_ret
    exact⟨rfl,rfl⟩
   ·have q3:(k !=41)=true:=by rw[bne_iff_ne];exact h3
    have H:=Zhd (show ZbW k=(k !=255) by
     rw[ZbW,d1,d2,Zdt h3]
     rw[Bool.eq_iff_iff,bne_iff_ne];simp)
    clear h1 h2 h3
    rw[H.out]
    go_enter Tryz.func103,Tryz.ntmps103
    go_wp2_with fail
    go_ret
    exact⟨rfl,rfl⟩
  ·have d2:decide (k≤65534)=false:=Zdf h2
   have H:=Zhd (show ZbW k=false by rw[ZbW,d1,d2];rfl)
   clear h1 h2
   rw[H.out]
   go_enter Tryz.func103,Tryz.ntmps103
   go_wp2_with fail
   go_ret
   exact⟨rfl,rfl⟩
 ·have d1:decide (1≤k)=false:=Zdf h1
  have H:=Zhd (show ZbW k=false by rw[ZbW,d1];rfl)
  clear h1
  rw[H.out]
  go_enter Tryz.func103,Tryz.ntmps103
  go_wp2_with fail
  go_ret
  exact⟨rfl,rfl⟩
theorem Zmk (w:World) (k:Int):Calls Tryz.prog 74 #[.int .i64 k] w fun e w'=>e= .returned (.bool (ZbW k))∧w=w':=by
 by_cases h1:1≤k
 ·have d1:decide (1≤k)=true:=Zdt h1
  by_cases h2:k≤65534
  ·have d2:decide (k≤65534)=true:=Zdt h2
   by_cases h3:k=41
   ·subst h3
    go_enter Tryz.func74,Tryz.ntmps74
    go_wp2_with fail
    go_ret
    exact⟨rfl,rfl⟩
   ·have q3:(k !=41)=true:=by rw[bne_iff_ne];exact h3
    have H:=Zhd (show ZbW k=(k !=255) by
     rw[ZbW,d1,d2,Zdt h3]
     rw[Bool.eq_iff_iff,bne_iff_ne];simp)
    clear h1 h2 h3
    rw[H.out]
    go_enter Tryz.func74,Tryz.ntmps74
    go_wp2_with fail
    go_ret
    exact⟨rfl,rfl⟩
  ·have d2:decide (k≤65534)=false:=Zdf h2
   have H:=Zhd (show ZbW k=false by rw[ZbW,d1,d2];rfl)
   clear h1 h2
   rw[H.out]
   go_enter Tryz.func74,Tryz.ntmps74
   go_wp2_with fail
   go_ret
   exact⟨rfl,rfl⟩
 ·have d1:decide (1≤k)=false:=Zdf h1
  have H:=Zhd (show ZbW k=false by rw[ZbW,d1];rfl)
  clear h1
  rw[H.out]
  go_enter Tryz.func74,Tryz.ntmps74
  go_wp2_with fail
  go_ret
  exact⟨rfl,rfl⟩
theorem Zpq (w:World) (h:ZaJ) (d:Zaq) (hd:IsData w h d):Calls Tryz.prog 105 #[.agg (Zae h)] w fun e w'=>e= .returned (.bool (Zir d))∧Below w.heap.size w w':=by
 have hb1:Below w.heap.size w (w.alloc (.cells (Zae h) 35)):=Zbr.alloc Zlr _
 have hA:Blk (w.alloc (.cells (Zae h) 35)) w.heap.size (Zae h) 35:=Zha w _
 have hl:=hd.len
 have hm0:=hd.bytes.hmax
 have hm1:=hd.host.row.hmax
 have hm2:=hd.mail.row.hmax
 have hm3:=hd.nums.hmax
 have hm4:=hd.texts.row.hmax
 have HB:=Zhd hb1
 have HN:=Zhd (show Zir d=(((((h.bl:Int)+(h.hl:Int))+(h.ml:Int))+(h.nl:Int))+(h.tl:Int)==0) by
  rw[Zir,Bool.eq_iff_iff,Zde,beq_iff_eq,hl.bytes,hl.host,hl.mail,hl.nums,hl.texts]
  omega)
 obtain⟨ba,bl,bc,ha,hl,hc,ma,ml,mc,xa,xl,xc,ta,tl,tc⟩:=h
 simp only[Zae] at*
 have c0:=hA.cell 0
 have c1:=hA.cell 1
 have c2:=hA.cell 2
 have c3:=hA.cell 3
 have c4:=hA.cell 4
 simp at c0 c1 c2 c3 c4
 rw[HN.out]
 clear hb1 hA hd hl HN
 go_enter Tryz.func105,Tryz.ntmps105
 go_wp2_with fail
 go_ret
 exact⟨rfl,HB.out⟩
theorem Zm5 (w:World) (h k:ZaJ) (x d:Zaq) (hx:IsData w h x) (hd:IsData w k d) (g:Nat) (hg:Blk w g (Zae k) 35):
  Calls Tryz.prog 150 #[.agg (Zae h),.pointer (some ⟨g,0,none⟩)] w fun e w'=>e= .returned (.bool (Zd6 x d))∧Below w.heap.size w w':=by
 have hb1:Below w.heap.size w (w.alloc (.cells (Zae h) 35)):=Zbr.alloc Zlr _
 have hA0:Blk (w.alloc (.cells (Zae h) 35)) w.heap.size (Zae h) 35:=Zha w _
 have HQ:=Zhd (Zm6 (w.alloc (.cells (Zae h) 35)) h k x d (hx.on hb1) (hd.on hb1))
 have HA:=Zhd hA0
 have HB:=Zhd (hg.on hb1)
 have HBE:=Zhd hb1
 clear hb1 hA0 hx hd hg
 obtain⟨ba,bl,bc,ha,hl,hc,ma,ml,mc,xa,xl,xc,ta,tl,tc⟩:=h
 obtain⟨ba',bl',bc',ha',hl',hc',ma',ml',mc',xa',xl',xc',ta',tl',tc'⟩:=k
 simp only[Zae] at HA HB HBE HQ
 go_enter Tryz.func150,Tryz.ntmps150
 simp only[Zae]
 have a0:=HA.out.cell 0
 have a1:=HA.out.cell 1
 have a2:=HA.out.cell 2
 have a3:=HA.out.cell 3
 have a4:=HA.out.cell 4
 have b0:=HB.out.cell 0
 have b1:=HB.out.cell 1
 have b2:=HB.out.cell 2
 have b3:=HB.out.cell 3
 have b4:=HB.out.cell 4
 simp at a0 a1 a2 a3 a4 b0 b1 b2 b3 b4
 go_wp2_with fail
 refine HQ.out.mono ?_
 rintro e w2 ⟨rfl,hb2⟩
 go_wp2_with fail
 go_ret
 exact⟨rfl,Zaa HBE.out hb2 Zlr⟩
abbrev Zrk (g:Nat):Value:= .func (.func 150) #[] #[.pointer (some ⟨g,0,none⟩)]
theorem ZjF {rs:List Zaq} {r:Zaq} (h:∀ j (hj:j<rs.length),Zd6 rs[j] r=false):Zb5 rs r=false:=by
 rw[Zb5,List.any_eq_false]
 intro x hx
 obtain⟨j,hj,rfl⟩:=List.getElem_of_mem hx
 simp[h j hj]
theorem ZjG {rs:List Zaq} {r:Zaq} {j:Nat} (hj:j<rs.length) (h:Zd6 rs[j] r=true):Zb5 rs r=true:=List.any_eq_true.2 ⟨_,List.getElem_mem hj,h⟩
theorem ZlZ (w:World) (S:Nat→Prop) (ao:Option Addr) (n c:Nat) (rs:List Zaq) (hrs:Ze9 S w ao n c rs) (k:ZaJ) (r:Zaq) (hr:IsData w k r) (g:Nat) (hg:Blk w g (Zae k) 35):
  Calls Tryz.prog 172 #[.slice ao n c,Zrk g] w fun e w'=>(∃ i:Int,e= .returned (.int .i64 i)∧decide (0≤i)=Zb5 rs r)∧Below w.heap.size w w':=by
 have hl:=hrs.hlen
 have hle:=hrs.hle
 have hmx:=hrs.hmax
 have HRS:=Zhd hrs
 have HR:=Zhd hr
 have HG:=Zhd hg
 have HL:=Zhd hl
 clear hrs hr hg hl
 go_enter Tryz.func172,Tryz.ntmps172
 go_wp2_with fail
 go_loopw [8,5] (fun i _ wr=>∃ j:Nat,j≤n∧i= .int .i64 j∧Hid (Below w.heap.size w wr∧∀ q (hq:q<rs.length),q<j→Zd6 rs[q] r=false)) (fun i _ _=>n-(intOf i).toNat)
 case atStart=>exact⟨0,Nat.zero_le _,rfl,Below.refl _ _,fun j hj h=>absurd h (by omega)⟩
 case round=>
  obtain⟨j,hj,rfl,hinv⟩:=hrel
  by_cases hlt:j<n
  ·obtain⟨b,off,rfl⟩:=HRS.out.addr hlt
   obtain⟨h,hc,ho,_⟩:=ZcL ((HRS.out.on hinv.out.1).at hlt)
   obtain⟨o,hox⟩:∃ o,o=rs[j]'(by have:=HL.out;omega):=⟨_,rfl⟩
   rw[←hox] at ho
   have HOX:=Zhd hox
   have hcall:=Zm5 wr h k o r ho (HR.out.on hinv.out.1) g (HG.out.on hinv.out.1)
   obtain⟨Z,hS⟩:∃ S,S=Zd6 o r:=⟨_,rfl⟩
   rw[←hS] at hcall
   have HS:=Zhd hS
   have HC:=Zhd hcall
   have e0:=hc 0 (by omega)
   have e1:=hc 1 (by omega)
   have e2:=hc 2 (by omega)
   have e3:=hc 3 (by omega)
   have e4:=hc 4 (by omega)
   clear hc ho hox hcall hS
   obtain⟨ba,bl,bc,ha,hl,hc,ma,ml,mc,xa,xl,xc,ta,tl,tc⟩:=h
   simp only[Zae] at HC
   simp[Zae,Zb0] at e0 e1 e2 e3 e4
   go_wp2_with fail
   refine HC.out.mono ?_
   rintro e w2 ⟨rfl,hb2⟩
   have HB2:=Zhd (Zaa hinv.out.1 hb2 Zlr)
   clear hb2 e0 e1 e2 e3 e4
   cases Z
   ·go_wp2_with fail
    go_roundw
    case rel=>
     refine⟨j+1,by omega,by go_num,HB2.out,fun q hq h=>?_⟩
     rcases Nat.lt_succ_iff_lt_or_eq.1 h with h|rfl
     ·exact hinv.out.2 q hq h
     ·rw[←HOX.out];exact HS.out.symm
    case measure=>simp[intOf];omega
   ·go_wp2_with fail
    go_ret
    exact⟨⟨_,rfl,by rw[ZjG (j:=j) (by have:=HL.out;omega) (by rw[←HOX.out];exact HS.out.symm)];simp⟩,HB2.out⟩
  ·go_wp2_with fail
   go_ret
   exact⟨⟨_,rfl,by rw[ZjF fun q hq=>hinv.out.2 q hq (by have:=HL.out;omega)];rfl⟩,hinv.out.1⟩
theorem Zh3 (w:World) (S:Nat→Prop) (ao:Option Addr) (n c:Nat) (rs:List Zaq) (hrs:Ze9 S w ao n c rs) (k:ZaJ) (r:Zaq) (hr:IsData w k r) (g:Nat) (hg:Blk w g (Zae k) 35):
  Calls Tryz.prog 149 #[.slice ao n c,Zrk g] w fun e w'=>e= .returned (.bool (Zb5 rs r))∧Below w.heap.size w w':=by
 have HC:=Zhd (ZlZ w S ao n c rs hrs k r hr g hg)
 clear hrs hr hg
 go_enter Tryz.func149,Tryz.ntmps149
 go_wp2_with fail
 refine HC.out.mono ?_
 rintro e w2 ⟨⟨i,rfl,hi⟩,hb2⟩
 go_wp2_with fail
 go_ret
 exact⟨rfl,hb2⟩
theorem Zkv (w:World) (S:Nat→Prop) (ao:Option Addr) (n c:Nat) (rs:List Zaq) (hrs:Ze9 S w ao n c rs) (k:ZaJ) (r:Zaq) (hr:IsData w k r):
  Calls Tryz.prog 76 #[.slice ao n c,.agg (Zae k)] w fun e w'=>e= .returned (.bool (Zb5 rs r))∧Below w.heap.size w w':=by
 have hb1:Below w.heap.size w (w.alloc (.cells (Zae k) 35)):=Zbr.alloc Zlr _
 have hA:Blk (w.alloc (.cells (Zae k) 35)) w.heap.size (Zae k) 35:=Zha w _
 have hl:=hrs.hlen
 have hle:=hrs.hle
 have hmx:=hrs.hmax
 have HRS:=Zhd hrs
 have HR:=Zhd hr
 have HG:=Zhd hA
 have HB:=Zhd hb1
 have HL:=Zhd hl
 clear hrs hr hA hl hb1
 obtain⟨ba',bl',bc',ha',hl',hc',ma',ml',mc',xa',xl',xc',ta',tl',tc'⟩:=k
 simp only[Zae] at HG HB
 go_enter Tryz.func76,Tryz.ntmps76
 simp only[Zae]
 go_wp2_with fail
 go_loopw [5] (fun i wr=>∃ j:Nat,j≤n∧i= .int .i64 j∧Hid (Below w.heap.size w wr∧(wr.cell? ⟨w.heap.size,0,none⟩=some (.slice ba' bl' bc')∧wr.cell? ⟨w.heap.size,1,none⟩=some (.slice ha' hl' hc')∧wr.cell? ⟨w.heap.size,2,none⟩=some (.slice ma' ml' mc')∧wr.cell? ⟨w.heap.size,3,none⟩=some (.slice xa' xl' xc')∧wr.cell? ⟨w.heap.size,4,none⟩=some (.slice ta' tl' tc'))∧∀ q (hq:q<rs.length),q<j→Zd6 rs[q] r=false)) (fun i _=>n-(intOf i).toNat)
 case atStart=>exact⟨0,Nat.zero_le _,rfl,HB.out,⟨HG.out.cell 0,HG.out.cell 1,HG.out.cell 2,HG.out.cell 3,HG.out.cell 4⟩,fun j hj h=>absurd h (by omega)⟩
 case round=>
  obtain⟨j,hj,rfl,hinv⟩:=hrel
  by_cases hlt:j<n
  ·obtain⟨b,off,rfl⟩:=HRS.out.addr hlt
   have hbd:Below w.heap.size w wr.drew:=Below.drew hinv.out.1
   obtain⟨h,hc,ho,_⟩:=ZcL (HRS.out.at hlt)
   obtain⟨o,hox⟩:∃ o,o=rs[j]'(by have:=HL.out;omega):=⟨_,rfl⟩
   rw[←hox] at ho
   have HOX:=Zhd hox
   obtain⟨g0,g1,g2,g3,g4⟩:=hinv.out.2.1
   obtain⟨Z,hS⟩:∃ S,S=Zd6 o r:=⟨_,rfl⟩
   have HS:=Zhd hS
   have HC:=Zhd (fun w' (hb:Below w.heap.size w w')=>ZhU w' h _ o r (ho.on hb) (HR.out.on hb))
   rw[←hS] at HC
   have e0:=hc 0 (by omega)
   have e1:=hc 1 (by omega)
   have e2:=hc 2 (by omega)
   have e3:=hc 3 (by omega)
   have e4:=hc 4 (by omega)
   clear hc ho hox hS
   obtain⟨ba,bl,bc,ha,hl,hc,ma,ml,mc,xa,xl,xc,ta,tl,tc⟩:=h
   simp only[Zae] at HC
   simp[Zae,Zb0] at e0 e1 e2 e3 e4
   replace e0:=Zab hinv.out.1 e0
   replace e1:=Zab hinv.out.1 e1
   replace e2:=Zab hinv.out.1 e2
   replace e3:=Zab hinv.out.1 e3
   replace e4:=Zab hinv.out.1 e4
   have hbw:=hinv.out.1
   go_wp2_with fail
   go_region_held3 (fun w'=>Below w.heap.size w w'∧w'.cell? ⟨b,off+j*5,none⟩=some (.slice ba bl bc)∧w'.cell? ⟨b,off+j*5+1,none⟩=some (.slice ha hl hc)∧w'.cell? ⟨b,off+j*5+2,none⟩=some (.slice ma ml mc)∧w'.cell? ⟨b,off+j*5+3,none⟩=some (.slice xa xl xc)∧w'.cell? ⟨b,off+j*5+4,none⟩=some (.slice ta tl tc)∧w'.cell? ⟨w.heap.size,0,none⟩=some (.slice ba' bl' bc')∧w'.cell? ⟨w.heap.size,1,none⟩=some (.slice ha' hl' hc')∧w'.cell? ⟨w.heap.size,2,none⟩=some (.slice ma' ml' mc')∧w'.cell? ⟨w.heap.size,3,none⟩=some (.slice xa' xl' xc')∧w'.cell? ⟨w.heap.size,4,none⟩=some (.slice ta' tl' tc'))
    (first|go_keep|(go_split_ands;exact⟨Zaa (by assumption) hb2 Zlr,Zab hb2 (by assumption),Zab hb2 (by assumption),Zab hb2 (by assumption),Zab hb2 (by assumption),Zab hb2 (by assumption),Zab hb2 (by assumption),Zab hb2 (by assumption),Zab hb2 (by assumption),Zab hb2 (by assumption),Zab hb2 (by assumption)⟩)|(refine⟨?_,?_,?_,?_,?_,?_,?_,?_,?_,?_,?_⟩<;>first|go_keep|exact Below.drew (by assumption)))
    (first|(go_at_call 41;refine(HC.out _ (by assumption)).mono ?_;rintro e w2 ⟨rfl,hb2⟩))
   go_split_ands
   cases Z
   ·go_wp2
    go_roundw
    case rel=>
     refine⟨j+1,by omega,by go_num,by assumption,⟨by assumption,by assumption,by assumption,by assumption,by assumption⟩,fun q hq h=>?_⟩
     rcases Nat.lt_succ_iff_lt_or_eq.1 h with h|rfl
     ·exact hinv.out.2.2 q hq h
     ·rw[←HOX.out];exact HS.out.symm
    case measure=>simp[intOf];omega
   ·go_wp2
    go_ret
    exact⟨Zaf (by rw[ZjG (j:=j) (by have:=HL.out;omega) (by rw[←HOX.out];exact HS.out.symm)]),by assumption⟩
  ·go_wp2_with fail
   go_ret
   exact⟨Zaf (by rw[ZjF fun q hq=>hinv.out.2.2 q hq (by have:=HL.out;omega)]),hinv.out.1⟩
theorem ZjE (w:World) (S:Nat→Prop) (ao bo:Option Addr) (n c m e:Nat) (xs ys:List Zaq) (ha:Ze9 S w ao n c xs) (hb:Ze9 S w bo m e ys):
  Calls Tryz.prog 39 #[.slice ao n c,.slice bo m e] w fun e w'=>e= .returned (.bool (ZqX xs ys))∧Below w.heap.size w w':=by
 have hl:=ha.hlen
 have hle:=ha.hle
 have hmx:=ha.hmax
 have hl2:=hb.hlen
 have hle2:=hb.hle
 have hmx2:=hb.hmax
 have HA:=Zhd ha
 have HB:=Zhd hb
 have HL:=Zhd hl
 have HL2:=Zhd hl2
 clear ha hb hl hl2
 go_enter Tryz.func39,Tryz.ntmps39
 go_wp2_with fail
 go_loopw [5] (fun i wr=>∃ j:Nat,j≤n∧i= .int .i64 j∧Hid (Below w.heap.size w wr∧∀ q (hq:q<xs.length),q<j→Zb5 ys xs[q]=true)) (fun i _=>n-(intOf i).toNat)
 case atStart=>exact⟨0,Nat.zero_le _,rfl,Below.refl _ _,fun j hj h=>absurd h (by omega)⟩
 case round=>
  obtain⟨j,hj,rfl,hinv⟩:=hrel
  by_cases hlt:j<n
  ·obtain⟨b,off,rfl⟩:=HA.out.addr hlt
   obtain⟨h,hc,ho,_⟩:=ZcL ((HA.out.on hinv.out.1).at hlt)
   obtain⟨o,hox⟩:∃ o,o=xs[j]'(by have:=HL.out;omega):=⟨_,rfl⟩
   rw[←hox] at ho
   have HOX:=Zhd hox
   obtain⟨Z,hS⟩:∃ S,S=Zb5 ys o:=⟨_,rfl⟩
   have HS:=Zhd hS
   have HC:=Zhd (Zkv wr S _ _ _ _ (HB.out.on hinv.out.1) h o ho)
   rw[←hS] at HC
   have e0:=hc 0 (by omega)
   have e1:=hc 1 (by omega)
   have e2:=hc 2 (by omega)
   have e3:=hc 3 (by omega)
   have e4:=hc 4 (by omega)
   clear hc ho hox hS
   obtain⟨ba,bl,bc,ha,hl,hc,ma,ml,mc,xa,xl,xc,ta,tl,tc⟩:=h
   simp only[Zae] at HC
   simp[Zae,Zb0] at e0 e1 e2 e3 e4
   go_wp2_with fail
   refine HC.out.mono ?_
   rintro e w2 ⟨rfl,hb2⟩
   have HB2:=Zhd (Zaa hinv.out.1 hb2 Zlr)
   clear hb2 HC e0 e1 e2 e3 e4
   cases Z
   ·go_wp2_with fail
    go_ret
    refine⟨Zaf ?_,HB2.out⟩
    have hn:Zdk xs ys=false:=by
     rw[Zdk,List.all_eq_false]
     exact⟨o,by rw[HOX.out];exact List.getElem_mem _,by rw[←HS.out];simp⟩
    rw[ZqX,hn];rfl
   ·go_wp2_with fail
    go_roundw
    case rel=>
     refine⟨j+1,by omega,by go_num,HB2.out,fun q hq h=>?_⟩
     rcases Nat.lt_succ_iff_lt_or_eq.1 h with h|rfl
     ·exact hinv.out.2 q hq h
     ·rw[←HOX.out];exact HS.out.symm
    case measure=>simp[intOf];omega
  ·have HW:=Zhd (show Zdk xs ys=true by
    rw[Zdk,List.all_eq_true]
    intro x hx
    obtain⟨q,hq,rfl⟩:=List.getElem_of_mem hx
    exact hinv.out.2 q hq (by have:=HL.out;omega))
   have HBR:=Zhd hinv.out.1
   clear hinv
   go_wp2_with fail
   rename World=>w3
   go_loopw [6] (fun i wr=>∃ j:Nat,j≤m∧i= .int .i64 j∧Hid (Below w.heap.size w wr∧∀ q (hq:q<ys.length),q<j→Zb5 xs ys[q]=true)) (fun i _=>m-(intOf i).toNat)
   case atStart=>exact⟨0,Nat.zero_le _,rfl,HBR.out,fun j hj h=>absurd h (by omega)⟩
   case round=>
    obtain⟨j,hj,rfl,hinv⟩:=hrel
    by_cases hlt:j<m
    ·obtain⟨b,off,rfl⟩:=HB.out.addr hlt
     obtain⟨h,hc,ho,_⟩:=ZcL ((HB.out.on hinv.out.1).at hlt)
     obtain⟨o,hox⟩:∃ o,o=ys[j]'(by have:=HL2.out;omega):=⟨_,rfl⟩
     rw[←hox] at ho
     have HOX:=Zhd hox
     obtain⟨Z,hS⟩:∃ S,S=Zb5 xs o:=⟨_,rfl⟩
     have HS:=Zhd hS
     have HC:=Zhd (Zkv _ S _ _ _ _ (HA.out.on hinv.out.1) h o ho)
     rw[←hS] at HC
     have e0:=hc 0 (by omega)
     have e1:=hc 1 (by omega)
     have e2:=hc 2 (by omega)
     have e3:=hc 3 (by omega)
     have e4:=hc 4 (by omega)
     clear hc ho hox hS
     obtain⟨ba,bl,bc,ha,hl,hc,ma,ml,mc,xa,xl,xc,ta,tl,tc⟩:=h
     simp only[Zae] at HC
     simp[Zae,Zb0] at e0 e1 e2 e3 e4
     go_wp2_with fail
     refine HC.out.mono ?_
     rintro e w2 ⟨rfl,hb2⟩
     have HB2:=Zhd (Zaa hinv.out.1 hb2 Zlr)
     clear hb2 HC e0 e1 e2 e3 e4
     cases Z
     ·go_wp2_with fail
      go_ret
      refine⟨Zaf ?_,HB2.out⟩
      have hn:Zdk ys xs=false:=by
       rw[Zdk,List.all_eq_false]
       exact⟨o,by rw[HOX.out];exact List.getElem_mem _,by rw[←HS.out];simp⟩
      rw[ZqX,hn,Bool.and_false]
     ·go_wp2_with fail
      go_roundw
      case rel=>
       refine⟨j+1,by omega,by go_num,HB2.out,fun q hq h=>?_⟩
       rcases Nat.lt_succ_iff_lt_or_eq.1 h with h|rfl
       ·exact hinv.out.2 q hq h
       ·rw[←HOX.out];exact HS.out.symm
      case measure=>simp[intOf];omega
    ·go_wp2_with fail
     go_ret
     refine⟨Zaf ?_,hinv.out.1⟩
     have hn:Zdk ys xs=true:=by
      rw[Zdk,List.all_eq_true]
      intro x hx
      obtain⟨q,hq,rfl⟩:=List.getElem_of_mem hx
      exact hinv.out.2 q hq (by have:=HL2.out;omega)
     rw[ZqX,hn,HW.out];rfl
theorem Zbo {w:World} {b M:Nat} {cs:Array Value} {T:TypeId} {L:List ZaP} (h:Blk w b cs T) (hM:MapL w M L):b≠M:=by
 intro e
 subst e
 obtain⟨n,D,⟨es,clock,h1,_⟩,_⟩:=hM
 rw[Blk,h1] at h
 cases h
theorem Zea {w:World} {b c:Nat} {cs cs':Array Value} {T T':TypeId} (h:Blk w b cs T) (h':Blk w c cs' T') (hT:T≠T'):b≠c:=by
 intro e
 subst e
 rw[Blk,h'] at h
 cases h
 exact hT rfl
theorem Zdj {T:List TypeId} {w:World} {b M:Nat} {L:List ZaP} (hM:MapL w M L) (h:Zak T w b):b≠M:=by
 obtain⟨n,D,⟨es,clock,h1,_⟩,_⟩:=hM
 exact Zmt h1 h
theorem Zfq {L:List ZaP} {key:List UInt8} {s:ZaP} (h:s∈ZdH L key):s∈L∧Zax s.f≠key:=by
 simpa [ZdH] using h
theorem Ziv (L:List ZaP) (key:List UInt8):(ZdH L key).Sublist L:=List.filter_sublist
theorem ZqB:∀ t∈fT,t∈gT:=by decide
structure Left (B:Nat) (w w':World):Prop where
 bel:Below B w w'
 same:Same (Zak gT w) w w'
theorem Left.trans {B:Nat} {a b c:World} (h:Left B a b) (k:Left B b c):Left B a c:=⟨h.bel.trans k.bel,h.same.step k.same⟩
theorem Left.below {B:Nat} {w w':World} (h:Below w.heap.size w w') (hB:B≤w.heap.size):Left B w w':=⟨h.mono hB,Same.below h _⟩
theorem ZqN {B:Nat} {w W0 W1 W2:World} {C M X k:Nat} {most stale:Int} {L:List ZaP} {kk:ZaU} {f:Zas} (hC:IsCache B w C most stale k L) (hCb:Blk w C (Zf6 most stale M k) 78) (hMB:B≤M) (hML:MapL w M L)
  (h0:Below w.heap.size w W0) (hX:w.heap.size≤X) (hXB:Blk W0 X (Zdb ⟨X,kk,f,0⟩) 82) (hF:IsFact (Zak fT W0) W0 kk f) (hfB:Zbl f=true) (hl:Zmy f)
  (hM1:MapL W1 M (ZdH L (Zax f)++[⟨X,kk,f,k+1⟩])) (g1:W0.grownBy W1 (some M)) (sz1:W1.heap.size=W0.heap.size)
  (hC2:Blk W2 C (Zf6 most stale M (k+1)) 78) (hX2:Blk W2 X ((Zdb ⟨X,kk,f,0⟩).setIfInBounds 13 (.int .i64 (k+1:Nat))) 82) (sz2:W2.heap.size=W1.heap.size) (hs2:∀ j,j≠C→j≠X→W2.heap[j]?=W1.heap[j]?)
  (hb2:∀ B,B≤C→B≤X→Below B W1 W2):IsCache B W2 C most stale (k+1) (ZdH L (Zax f)++[⟨X,kk,f,k+1⟩])∧Left B w W2:=by
 have hCw:=hCb.lt
 have hMw:=hML.lt
 have hBC:=hC.base
 have hCM:=Zbo hCb hML
 have hM0:MapL W0 M L:=hML.on (h0.block M hMw)
 have hXM:=Zbo hXB hM0
 have old:∀ j,j<w.heap.size→j≠M→j≠C→W2.heap[j]?=w.heap[j]?:=fun j h1 h2 h3=>by
  rw[hs2 j h3 (by omega),g1.block j (by have:=h0.size;omega) (by intro e;exact h2 (Zsi e)),h0.block j h1]
 have hXeq:(Zdb ⟨X,kk,f,0⟩).setIfInBounds 13 (.int .i64 (k+1:Nat))=Zdb ⟨X,kk,f,k+1⟩:=by simp[Zdb]
 rw[hXeq] at hX2
 have bel1:Below B w W1:=(h0.mono (by omega:B≤w.heap.size)).grown g1 (by have:=h0.size;omega) (fun j e=>by cases e;exact hMB)
 have bel2:Below B w W2:=bel1.trans (hb2 B hBC (by omega))
 have same:Same (Zak gT w) w W2:=fun b hb ht=>old b hb (Zdj hML ht) (Zbe hCb (by decide) ht)
 refine⟨⟨⟨M,hC2,hMB,?_⟩,hBC,?_,?_,?_,?_,?_⟩,bel2,same⟩
 ·exact hM1.on (hs2 M (fun e=>hCM e.symm) (fun e=>hXM e.symm))
 ·intro s hs
  rcases List.mem_append.1 hs with hs|hs
  ·obtain⟨h1,_⟩:=Zfq hs
   obtain⟨a,b,c,d,e⟩:=hC.slot s h1
   refine⟨a,?_,c.step (same.mono (fun b hb ht=>Za4 ht ZqB)),d,e⟩
   rw[Blk,old s.b b.lt (Zbo b hML) (Zea b hCb (by decide))]
   exact b
  ·rw[List.mem_singleton] at hs
   subst hs
   refine⟨show B≤X by omega,hX2,?_,hfB,hl⟩
   refine hF.step (fun b hb ht=>?_)
   rw[hs2 b ?_ ?_,g1.block b hb ?_]
   ·intro e
    exact Zdj hM0 ht (Zsi e)
   ·exact Zbe (hCb.on h0) (by decide) ht
   ·exact Zbe hXB (by decide) ht
 ·rw[List.pairwise_append]
  refine⟨hC.apart.sublist (Ziv _ _),List.pairwise_singleton _ _,fun a ha b hb=>?_⟩
  rw[List.mem_singleton] at hb
  subst hb
  have:=(hC.slot a (Zfq ha).1).2.1.lt
  show a.b≠X
  omega
 ·rw[List.pairwise_append]
  refine⟨hC.keys.sublist (Ziv _ _),List.pairwise_singleton _ _,fun a ha b hb=>?_⟩
  rw[List.mem_singleton] at hb
  subst hb
  exact(Zfq ha).2
 ·intro s hs
  rcases List.mem_append.1 hs with hs|hs
  ·have:=hC.used s (Zfq hs).1
   omega
  ·rw[List.mem_singleton] at hs
   subst hs
   exact Nat.le_refl _
 ·rw[List.pairwise_append]
  refine⟨hC.order.sublist (Ziv _ _),List.pairwise_singleton _ _,fun a ha b hb=>?_⟩
  rw[List.mem_singleton] at hb
  subst hb
  have:=hC.used a (Zfq ha).1
  show a.used<k+1
  omega
def zH:ZaU:=⟨none,0,0,none,0,0,none,0,0,ZrT⟩
def zF:Zas:=⟨[],0,0,0,0,0,[],[],noP⟩
theorem ZrY (S:Nat→Prop) (w:World):IsFact S w zH zF:=by
 have hz:wfi 0:=by decide
 have hr:Row w none 0 0 []:=Row.empty (by decide) (fun _=>rfl)
 have hs:Strs w none 0 0 []:=⟨hr,by simp⟩
 have hi:rowIn S none 0:=fun h=>absurd h (by omega)
 exact⟨hs,hi,hz,hz,hz,hz,hz,⟨rfl,Nat.le_refl _,by decide,fun _=>rfl,fun h=>absurd h (by decide)⟩,hs,hi,⟨hr,hs,hs,hr,hs,by simp[zF,noP]⟩,⟨hi,hi,hi,hi,hi⟩⟩
theorem Zgb {tmps:Array Value} {w:World} {R:Nat} {k:ZaU} {f:Zas} {b:Bool} (h6:tmps[6]?=some (.pointer (some ⟨R,0,none⟩))) (h7:tmps[7]?=some (.bool b)) (hB:Blk w R (Zaj k f) 37):
  (results Tryz.f14 tmps).run Tryz.prog w= .ok (.tuple #[.agg (Zaj k f),.bool b]) w:=by
 have c0:=hB.cell 0
 have c1:=hB.cell 1
 have c2:=hB.cell 2
 have c3:=hB.cell 3
 have c4:=hB.cell 4
 have c5:=hB.cell 5
 have c6:=hB.cell 6
 have c7:=hB.cell 7
 have c8:=hB.cell 8
 have c9:=hB.cell 9
 have c10:=hB.cell 10
 have c11:=hB.cell 11
 have c12:=hB.cell 12
 simp[Zaj] at c0 c1 c2 c3 c4 c5 c6 c7 c8 c9 c10 c11 c12
 simp[results,go_sem,h6,h7,c0,c1,c2,c3,c4,c5,c6,c7,c8,c9,c10,c11,c12,Zaj]
theorem Zpo (w:World) (B C:Nat) (most stale:Int) (k:Nat) (L:List ZaP) (hC:IsCache B w C most stale k L) (na:Option Addr) (nl nc:Nat) (nm:List ByteArray) (typ:Int) (hn:Strs w na nl nc nm) (hz:Za0 nm≤1099511627776):
  Calls Tryz.prog 14 #[.pointer (some ⟨C,0,none⟩),.slice na nl nc,.int .i64 typ] w fun e w'=>(∃ h f b,e= .returned (.tuple #[.agg (Zaj h f),.bool b])∧OwnF w.heap.size w' h f∧b=(atL L (Zkn nm typ)).isSome∧f=((atL L (Zkn nm typ)).map (·.f)).getD zF)∧Below w.heap.size w w':=by
 have hN:Blk (w.alloc (.cells noF 37)) w.heap.size noF 37:=Zha w _
 have hb1:Below w.heap.size w (w.alloc (.cells noF 37)):=Zbr.alloc Zlr _
 have HN:=Zhd hN
 have HB:=Zhd hb1
 have HS:=Zhd (show(w.alloc (.cells noF 37)).heap.size=w.heap.size+1 by simp)
 have HAT:=Zhd (Zrf (w.alloc (.cells noF 37)) B C most stale k L (hC.on hb1) na nl nc nm typ (hn.below hb1 Zlr) hz)
 have HO:=Zhd (fun s (hs:atL L (Zkn nm typ)=some s)=>hC.slot s (ZfG hs).1)
 clear hN hb1 hn hC
 cases ho:atL L (Zkn nm typ) with
 |none=>
  rw[ho] at HAT
  go_enter Tryz.func14,Tryz.ntmps14
  go_wp2_with (first|(go_at_call 36;refine HAT.out.mono ?_;rintro e W ⟨rfl,hb2⟩;simp only[Zpa];have HN2:=Zhd (HN.out.on hb2);have HBE:=Zhd (Zaa HB.out hb2 Zlr);clear hb2)|(refine wpList_store_row rfl 37 _ _ rfl w.heap.size noF rfl rfl 37 noF HN2.out Zcj rfl (Zeg zH zF) ?_))
  refine bodyPost_ret (Zgb (k:=zH) (f:=zF) rfl rfl (ZaA HN2.out noF)) rfl ?_
  refine⟨⟨zH,zF,false,rfl,ZrY _ _,rfl,rfl⟩,?_⟩
  exact HBE.out.grown (Zav _ _ _) (HBE.out.size) (fun k e=>Nat.le_of_eq (Zsi e))
 |some s=>
  rw[ho] at HAT
  obtain⟨hsb,hsi,hsf,hsB,hsl⟩:=HO.out s ho
  have HSI:=Zhd (hsi.on HB.out)
  have HSF:=Zhd (hsf.on HB.out)
  clear hsi hsf hsb hsB
  go_enter Tryz.func14,Tryz.ntmps14
  go_wp2_with (first|(go_at_call 36;refine HAT.out.mono ?_;rintro e W ⟨rfl,hb2⟩;simp only[Zpa];have HN2:=Zhd (HN.out.on hb2);have HBE:=Zhd (Zaa HB.out hb2 Zlr);have hi:=HSI.out.on hb2;have HSF2:=Zhd (HSF.out.on hb2);clear hb2;have m0:W.cell? ⟨s.b,0,none⟩=some (.slice s.h.na s.h.nl s.h.nc):=hi.cell 0;have m1:W.cell? ⟨s.b,1,none⟩=some (.int .i64 s.f.typ):=hi.cell 1;have m2:W.cell? ⟨s.b,2,none⟩=some (.int .i64 s.f.kind):=hi.cell 2;have m3:W.cell? ⟨s.b,3,none⟩=some (.int .i64 s.f.rank):=hi.cell 3;have m4:W.cell? ⟨s.b,4,none⟩=some (.int .i64 s.f.got):=hi.cell 4;have m5:W.cell? ⟨s.b,5,none⟩=some (.int .i64 s.f.ttl):=hi.cell 5;have m6:W.cell? ⟨s.b,6,none⟩=some (.slice s.h.sa s.h.sl s.h.sc):=hi.cell 6;have m7:W.cell? ⟨s.b,7,none⟩=some (.slice s.h.za s.h.zl s.h.zc):=hi.cell 7;have m8:W.cell? ⟨s.b,8,none⟩=some (.slice s.h.d.ba s.h.d.bl s.h.d.bc):=hi.cell 8;have m9:W.cell? ⟨s.b,9,none⟩=some (.slice s.h.d.ha s.h.d.hl s.h.d.hc):=hi.cell 9;have m10:W.cell? ⟨s.b,10,none⟩=some (.slice s.h.d.ma s.h.d.ml s.h.d.mc):=hi.cell 10;have m11:W.cell? ⟨s.b,11,none⟩=some (.slice s.h.d.na s.h.d.nl s.h.d.nc):=hi.cell 11;have m12:W.cell? ⟨s.b,12,none⟩=some (.slice s.h.d.ta s.h.d.tl s.h.d.tc):=hi.cell 12;clear hi)|(go_at_call 34;go_loud (refine(Zgp _ _ s.h s.f HSF2.out hsl).mono ?_;rintro e W3 ⟨⟨kk,rfl,hown⟩,hb3⟩;have HN3:=Zhd (HN2.out.on hb3);have HSZ:=Zhd (show w.heap.size<W.heap.size from HN2.out.lt);have HOW:=Zhd hown;have HBF:=Zhd (Zaa HBE.out hb3 Zlr);clear hb3 hown m0 m1 m2 m3 m4 m5 m6 m7 m8 m9 m10 m11 m12))|(refine wpList_store_row rfl 37 _ _ rfl w.heap.size (Zaj kk s.f) rfl rfl 37 noF HN3.out Zcj rfl (Zeg kk s.f) ?_))
  refine bodyPost_ret (Zgb (k:=kk) (f:=s.f) rfl rfl (ZaA HN3.out _)) rfl ?_
  refine⟨⟨kk,s.f,true,rfl,?_,rfl,rfl⟩,?_⟩
  ·exact(HOW.out.step (Same.grown (Zav _ _ _) (fun b ht e=>by have:=Zsi e;have:=HSZ.out;omega))).mono (fun b _ ht=>⟨ht.1,by have:=HSZ.out;omega⟩)
  ·exact HBF.out.grown (Zav _ _ _) (HBF.out.size) (fun k e=>Nat.le_of_eq (Zsi e))
theorem IsCache.but {B:Nat} {w w':World} {C k R:Nat} {most stale:Int} {L:List ZaP} {cs:Array Value} {T:TypeId} (h:IsCache B w C most stale k L) (hg:w.grownBy w' (some R)) (hR:Blk w R cs T) (h1:T∉fT) (h2:T≠78) (h3:T≠82):IsCache B w' C most stale k L:=by
 obtain⟨M,a,b,c⟩:=h.ex
 have hMR:=Zbo hR c
 exact⟨⟨M,a.but hg (Zea a hR (fun e=>h2 e.symm)),b,c.on (hg.block M c.lt (fun e=>hMR (Zsi e).symm))⟩,h.base,fun s hs=>by
  obtain⟨p,q,r,t⟩:=h.slot s hs
  exact⟨p,q.but hg (Zea q hR (fun e=>h3 e.symm)),r.step (Same.but hg hR h1),t⟩,h.apart,h.keys,h.used,h.order⟩
theorem Left.row {B:Nat} {w W:World} (h:Left B w W) (hB:B≤w.heap.size) {R:Nat} (hR:w.heap.size≤R) (cs:Array Value):Left B w (W.setRow R cs):=
 ⟨h.bel.grown (Zav _ _ _) (by have:=h.bel.size;omega) (fun j e=>by cases e;omega),fun b hb ht=>by
  rw[(Zav W R cs).block b (by have:=h.bel.size;omega) (fun e=>by have:=Zsi e;omega)]
  exact h.same b hb ht⟩
theorem ZmX (w:World) (B:Nat) (hB:B≤w.heap.size) (most stale:Int):IsCache B ((w.alloc (.map #[] 0)).alloc (.cells (Zf6 most stale w.heap.size 0) 78)) (w.heap.size+1) most stale 0 []:=by
 have hb:Below (w.alloc (.map #[] 0)).heap.size (w.alloc (.map #[] 0)) ((w.alloc (.map #[] 0)).alloc (.cells (Zf6 most stale w.heap.size 0) 78)):=Zbr.alloc Zlr _
 have hM:MapL (w.alloc (.map #[] 0)) w.heap.size []:=⟨0,_,World.ownsMap_made w _ _ _,by decide,rfl,fun key z=>rfl⟩
 refine⟨⟨w.heap.size,?_,hB,hM.on (hb.block _ hM.lt)⟩,by omega,by simp,List.Pairwise.nil,List.Pairwise.nil,by simp,List.Pairwise.nil⟩
 have:=Zha (w.alloc (.map #[] 0)) (.cells (Zf6 most stale w.heap.size 0) 78)
 simpa [Blk,Zf6] using this
theorem ZnR (w:World) (B:Nat) (hB:B≤w.heap.size) (most stale:Int) (h1:1≤most) (h2:most≤4096) (hs:Za6 stale=true):
  Calls Tryz.prog 17 #[.int .i64 most,.int .i64 stale] w fun e w'=>(∃ C,e= .returned (.tuple #[.pointer (some ⟨C,0,none⟩),.int .i64 0])∧IsCache B w' C most stale 0 [])∧Below w.heap.size w w':=by
 have hc1: ¬most<1:=by omega
 have hc2: ¬4096<most:=by omega
 have hT:=ZcI stale w
 rw[hs] at hT
 have hmm:=@run_makeMap Tryz.prog
 go_enter Tryz.func17,Tryz.ntmps17
 go_wp2_with (go_at_call 42;refine hT.mono ?_;rintro e w' ⟨rfl,rfl⟩)
 go_ret2
 refine⟨⟨w.heap.size+1,?_,ZmX w B hB most stale⟩,(Zbr.alloc Zlr _).alloc (by simp) _⟩
 simp
theorem ZnB (w:World) (B C:Nat) (most stale:Int) (k:Nat) (L:List ZaP) (hC:IsCache B w C most stale k L):Calls Tryz.prog 16 #[.pointer (some ⟨C,0,none⟩)] w fun e w'=>e= .returned (.int .i64 L.length)∧w'=w:=by
 obtain⟨M,hCb,_,hM⟩:=hC.ex
 have h2:w.cell? ⟨C,2,none⟩=some (.map (some M)):=hCb.cell 2
 have hl:=hM.len
 go_enter Tryz.func16,Tryz.ntmps16
 go_wp2_with fail
 go_ret
 exact⟨rfl,rfl⟩
theorem Gath.mono {α:Type} {K:Kind α} {T:List TypeId} {ty:TypeId} {B B':Nat} {w:World} {v:Value} {xs:List α} (h:Gath K T ty B w v xs) (hB:B'≤B):Gath K T ty B' w v xs:=by
 obtain⟨cs,h1,h2⟩:=h
 obtain⟨h3,h4⟩:=h1
 refine⟨cs,⟨h3,h4.imp id ?_⟩,h2⟩
 rintro⟨g,cap,cur,a,b,c⟩
 exact⟨g,cap,cur,a,by omega,c⟩
theorem IsLog.mono {B B':Nat} {w:World} {L D:Nat} {l:ZaZ} (h:IsLog B w L D l) (hB:B'≤B):IsLog B' w L D l:=by
 obtain⟨v,h1,h2⟩:=h.ex
 exact⟨⟨v,h1,h2.mono hB⟩,Nat.le_trans hB h.base,h.fits,h.cnt⟩
theorem IsCache.only {S:List TypeId} {B B':Nat} {w w':World} {C k:Nat} {most stale:Int} {L:List ZaP} (h:IsCache B w C most stale k L) (ho:Only S B' w w') (h1:∀ t∈fT,t∉S) (h2:78∉S) (h3:82∉S):IsCache B w' C most stale k L:=by
 obtain⟨M,a,b,c⟩:=h.ex
 refine⟨⟨M,ho.blk a h2,b,c.on (ho.keep M c.lt fun ht=>?_)⟩,h.base,fun s hs=>?_,h.apart,h.keys,h.used,h.order⟩
 ·obtain⟨n,D,⟨es,clock,hm,_⟩,_⟩:=c
  obtain⟨cs,t,e,_⟩:=ht
  rw[hm] at e
  cases e
 ·obtain⟨p,q,r,t⟩:=h.slot s hs
  exact⟨p,ho.blk q h3,r.step (ho.same h1),t⟩
def ZaQ (C L:Nat) (places now told:Int) (mem dn:Bool):Array Value:=#[.pointer (some ⟨C,0,none⟩),.pointer (some ⟨L,0,none⟩),.int .i64 places,.int .i64 now,.int .i64 told,.bool mem,.bool dn]
theorem ZgP (w:World) (D n:Nat) (B:Nat) (h4:4≤n) (hd:IsDev B w D (Zem n)) (most stale:Int) (h1:1≤most) (h2:most≤4096) (hs:Za6 stale=true):
  Calls Tryz.prog 5 #[.pointer (some ⟨D,0,none⟩),.int .i64 most,.int .i64 stale] w fun e w'=>(∃ K C L,e= .returned (.tuple #[.pointer (some ⟨K,0,none⟩),.int .i64 0])∧Blk w' K (ZaQ C L ((n:Int)-2) 0 0 false false) 62∧w.heap.size≤K∧IsCache w.heap.size w' C most stale 0 []∧IsLog w.heap.size w' L D ⟨b0,[],0,false⟩)∧IsDev B w' D (Zdv n)∧Only dvT B w w':=by
 have HNW:=Zhd (ZnR w w.heap.size Zlr most stale h1 h2 hs)
 have HD:=Zhd (Zan hd h4)
 have HBL:=Zhd hd.Ble
 have hn4:=hd.le
 rw[show(Zem n).sure.length=n from List.length_replicate] at hn4
 clear hd h4 h1 h2 hs
 go_enter Tryz.func5,Tryz.ntmps5
 go_wp2_with (first|(go_at_call 17;refine HNW.out.mono ?_;rintro e W1 ⟨⟨C,rfl,hc⟩,hb1⟩;have H1:=Zhd (Zan hc hb1);clear hc hb1)|(go_at_call 18;refine(ZnK W1 D n B HD.out.2 (HD.out.1.on H1.out.2)).mono ?_;rintro e W2 ⟨⟨L,rfl,hl⟩,hd2,ho2⟩;have H2:=Zhd (Zan (hl.mono H1.out.2.size) (Zan hd2 (Zan ho2 (Zan ((Only.below H1.out.2 HBL.out).trans ho2) (H1.out.1.only ho2 (by decide) (by decide) (by decide))))));clear hl hd2 ho2)|(go_at_call 19;refine(ZdQ W2 B D _ H2.out.2.1).mono ?_;rintro e W2 ⟨rfl,rfl⟩;rw[show(Zdv n).sure.length=n by simp[Zdv]])|(go_at_call 20;have hK:=Zha W2 (.cells (ZaQ C L ((n:Int)-2) 0 0 false false) 62);have hb3:=(Below.refl W2.heap.size W2).alloc Zlr (.cells (ZaQ C L ((n:Int)-2) 0 0 false false) 62);(try change Calls _ _ _ (W2.alloc (.cells (ZaQ C L ((n:Int)-2) 0 0 false false) 62)) _);generalize W2.alloc (.cells (ZaQ C L ((n:Int)-2) 0 0 false false) 62)=W3 at hK hb3⊢;have H3:=Zhd (Zan hK hb3);clear hK hb3;refine(ZeH W3 _ L D _ (H2.out.1.on H3.out.2)).mono ?_;rintro e W3 ⟨rfl,rfl⟩))
 go_loopw [12] (fun i wr=>i= .int .i64 0∧wr=W3) (fun _ _=>0)
 case atStart=>exact⟨rfl,rfl⟩
 case round=>
  obtain⟨rfl,rfl⟩:=hrel
  go_wp2_with (go_at_call 21;refine(ZbT wr _ L D _ (H2.out.1.on H3.out.2)).mono ?_;rintro e W4 ⟨rfl,hb4⟩;have H4:=Zhd hb4;clear hb4;(try simp[b0]))
  go_ret2
  have hb:=Zaa H3.out.2 H4.out Zlr
  have hsz:=H2.out.2.2.2.1.bel.size
  have hle:=HBL.out
  have hw1:=H1.out.2.size
  have hw2:=H2.out.2.2.1.bel.size
  exact⟨⟨W2.heap.size,C,L,rfl,Blk.on H3.out.1 H4.out,by omega,H2.out.2.2.2.2.on hb,H2.out.1.on hb⟩,H2.out.2.1.on hb,H2.out.2.2.2.1.trans (Only.below hb (by omega))⟩
def atT (known now:Int):Int:=if Za6 now=true then max known now else known
theorem Zkm (w:World) (B K C L:Nat) (pl kn told:Int) (mem dn:Bool) (hK:Blk w K (ZaQ C L pl kn told mem dn) 62) (hB:B≤K) (now:Int):
  Calls Tryz.prog 27 #[.pointer (some ⟨K,0,none⟩),.int .i64 now] w fun e w'=>e= .returned (.int .i64 (atT kn now))∧Blk w' K (ZaQ C L pl (atT kn now) told mem dn) 62∧Only [62] B w w':=by
 have hT:=ZcI now w
 have c3:w.cell? ⟨K,3,none⟩=some (.int .i64 kn):=hK.cell 3
 have f3:=hK.free 3
 have hg:=Zag w K 3 (.int .i64 (max kn now))
 have hB2:=hK.set 3 (.int .i64 (max kn now))
 have c3':(w.setCell ⟨K,3,none⟩ (.int .i64 (max kn now))).cell? ⟨K,3,none⟩=some (.int .i64 (max kn now)):=by have:=hB2.cell 3;simpa [ZaQ] using this
 have HO:=Zhd (Zan hK (Zan (Only.but (S:=[62]) hg hK (by decide) hB) hB2))
 cases ht:Za6 now with
 |true=>
  have HT:=Zhd (show atT kn now=max kn now by rw[atT,if_pos ht])
  rw[ht] at hT
  clear hK hg hB2 ht
  go_enter Tryz.func27,Tryz.ntmps27
  go_wp2_with (go_at_call 42;refine hT.mono ?_;rintro e w ⟨rfl,rfl⟩)
  go_ret
  exact⟨by rw[HT.out];rfl,by rw[HT.out];simpa [ZaQ] using HO.out.2.2,HO.out.2.1⟩
 |false=>
  have HT:=Zhd (show atT kn now=kn by rw[atT,if_neg (by rw[ht];decide)])
  rw[ht] at hT
  clear hK hg hB2 ht
  go_enter Tryz.func27,Tryz.ntmps27
  go_wp2_with (go_at_call 42;refine hT.mono ?_;rintro e w ⟨rfl,rfl⟩)
  go_ret
  exact⟨by rw[HT.out];rfl,by rw[HT.out];exact HO.out.1,Only.refl _ _ _⟩
open Go
def ZeY (ops:Array Oper):Array Bool→List Nat→Bool
 |listed,[]=>(Region.ready .any ops listed).isEmpty
 |listed,i::ord=>(Region.ready .any ops listed==[i])&&ZeY ops (listed.setIfInBounds i true) ord
def ZrW (s n:Nat):Array Bool:=((List.range s).map fun j=>decide (j<n)).toArray
def ZkG (s n p:Nat):Array Bool:=((List.range s).map fun j=>decide (j<n)&&decide (j≠p)).toArray
def Zld (ops:Array Oper) (n p:Nat):Bool:=
 decide (n+2=ops.size)&&(decide (p<n)&&(ZeY ops (ZrW ops.size n) [n,n+1]&&(ZeY ops (ZkG ops.size (n+1) p) [p,n+1]&&((ZbY ops (n+1)).contains n&&
  (List.range n).all fun j=>j==p||(List.range (n+1)).any fun i=>decide (j<i)&&(i !=p&&(ZbY ops i).contains j)))))
variable {P:Program} {ops ks:Array Oper} {Q:Exit→Act→World→Prop} {R:World→World→Prop} {F:Nat→Value→World→Prop} {w0:World} {a0:Act}
theorem ZnC {listed:Array Bool} {f:Nat→Bool} {s:Nat} (hs:listed.size=s) (h:∀ j,j<s→listed.getD j false=f j):listed=((List.range s).map f).toArray:=by
 apply Array.ext
 ·simp[hs]
 ·intro i h1 h2
  have:=h i (by omega)
  rw[Array.getD_eq_getD_getElem?,Array.getElem?_eq_getElem h1,Option.getD_some] at this
  simp[this]
theorem ZgL:∀ (ord:List Nat) (fuel:Nat) (listed:Array Bool) (a:Act) (w:World),ZeY ops listed ord=true→ord.length≤fuel→wpList P ops Q (ord.filterMap fun i=>ops[i]?) a w→wpAny P .any ops Q fuel listed a w
 |[],fuel,listed,a,w,hf,_,h=>by
  have hend:Region.ready .any ops listed=[]:=List.isEmpty_iff.1 hf
  cases fuel with
  |zero=>exact⟨hend,h⟩
  |succ fuel=>exact⟨fun _=>h,fun i hi=>by rw[hend] at hi;cases hi⟩
 |i::ord,0,listed,a,w,_,hl,_=>absurd hl (by simp)
 |i::ord,fuel+1,listed,a,w,hf,hl,h=>by
  simp only[ZeY,Zae2,beq_iff_eq] at hf
  refine⟨fun hr=>absurd hr (by rw[hf.1];simp),fun k hk=>?_⟩
  rw[hf.1,List.mem_singleton] at hk
  subst hk
  obtain⟨h1,_,_⟩:=Zcm (ops:=ops) (listed:=listed) (i:=k) (by rw[hf.1];simp)
  have ho:ops[k]?=some ops[k]:=Array.getElem?_eq_getElem h1
  have hK:∀ a w,wpList P ops Q (ord.filterMap fun i=>ops[i]?) a w→wpAny P .any ops Q fuel (listed.setIfInBounds k true) a w:=fun a w h7=>ZgL ord fuel _ a w hf.2 (by simpa using hl) h7
  rw[List.filterMap_cons,ho] at h
  unfold wpOp
  rw[ho]
  simp only[wpList] at h
  simp only
  split
  ·rename_i hw
   rw[if_pos hw] at h
   rcases h with h|h
   ·exact .inl (Oper.wp_mono hK h)
   ·exact .inr h
  ·rename_i hw
   rw[if_neg hw] at h
   exact hK _ _ h
theorem Zl9 {n p:Nat} (h:Zld ops n p=true):n+2=ops.size∧p<n∧ZeY ops (ZrW ops.size n) [n,n+1]=true∧ZeY ops (ZkG ops.size (n+1) p) [p,n+1]=true∧n∈ZbY ops (n+1)∧
  ∀ j,j<n→j≠p→∃ i,i≤n∧j<i∧i≠p∧j∈ZbY ops i:=by
 simp only[Zld,Zae2,Zde,List.contains_iff_mem] at h
 obtain⟨h1,h2,h3,h4,h5,h6⟩:=h
 refine⟨h1,h2,h3,h4,h5,fun j hj hp=>?_⟩
 have h7:=List.all_eq_true.1 h6 j (List.mem_range.2 hj)
 simp only[Bool.or_eq_true,beq_iff_eq,hp,false_or] at h7
 obtain⟨k,hk,h8⟩:=List.any_eq_true.1 h7
 simp only[Zae2,Zde,bne_iff_ne,List.contains_iff_mem] at h8
 exact⟨k,by have:=List.mem_range.1 hk;omega,h8.1,h8.2.1,h8.2.2⟩
theorem ZcC {s i:Nat} {listed:Array Bool} (hs:listed.size=s) (hi:i<s) (h2:listed.getD i true=false):Zck s (listed.setIfInBounds i true)<Zck s listed:=by
 refine Zfg _ _ (fun x hx=>?_) _ i (List.mem_range.2 hi) ?_ ?_
 ·rw[Za7 _ _ _ _ (by rw[hs];exact hi)] at hx
  by_cases hxi:x=i
  ·simp[hxi] at hx
  ·simpa [hxi] using hx
 ·rw[Za7 _ _ _ _ (by rw[hs];exact hi)];simp
 ·simp[h2]
theorem Zgd {n p:Nat} (hks:∀ i,i<n→ks[i]?=ops[i]?) (hok:Zds ops a0.tmps.size=true) (he:Zld ops n p=true) (hRt:∀ x y z,R x y→R y z→R x z) (hF:∀ i v x y,F i v x→R x y→F i v y) (hF0:∀ i o,i<n→ops[i]?=some o→o.dst=none→∀ v x,F i v x→F i undef x)
  (step:∀ i,i<n→ZcV P ops ks Q R F w0 a0 i)
  (tail:∀ a w,R w0 w→Zcx ks a0 a→(∀ j,j<n→j≠p→F j (Zd7 ops a j) w)→(F p (Zd7 ops a p) w→wpList P ops Q ([n,n+1].filterMap fun i=>ops[i]?) a w)∧wpList P ops Q ([n,p,n+1].filterMap fun i=>ops[i]?) a w):
  ∀ (fuel:Nat) (listed:Array Bool) (a:Act) (w:World),ZkI ops ks n R F w0 a0 listed a w→Zck ops.size listed≤fuel→wpAny P .any ops Q fuel listed a w
 |fuel,listed,a,w,h,hm=>by
  obtain⟨hsz,hp,hfA,hfB,hdn,hall⟩:=Zl9 he
  have hnil:Region.ready .any ops listed=[]→False:=fun hr=>by
   have:=ZcE h.size hok hr n (by omega)
   rw[h.left n Zlr (by omega)] at this
   cases this
  have htrue:∀ j,j<ops.size→listed.getD j false=false→listed.getD j true=false:=fun j hj e=>by
   rw[Array.getD_eq_getD_getElem?,Array.getElem?_eq_getElem (by rw[h.size];exact hj)] at e⊢
   exact e
  have two:2≤Zck ops.size listed:=by
   have m1:=ZcC (i:=n) h.size (by omega) (htrue n (by omega) (h.left n Zlr (by omega)))
   have m2:=ZcC (s:=ops.size) (listed:=listed.setIfInBounds n true) (i:=n+1) (by simp[h.size]) (by omega) (by
    rw[Za7 _ _ _ _ (by rw[h.size];omega),if_neg (by omega)]
    exact htrue (n+1) (by omega) (h.left (n+1) (by omega) (by omega)))
   omega
  by_cases hd:∀ j,j<n→listed.getD j false=true
  ·have hl:listed=ZrW ops.size n:=ZnC h.size fun j hj=>by
    by_cases hjn:j<n
    ·rw[hd j hjn,Zdt hjn]
    ·rw[h.left j (by omega) hj,Zdf hjn]
   rw[hl]
   exact ZgL _ fuel _ a w hfA (by simp;omega) ((tail a w h.rel h.same fun j hj _=>h.facts j (by omega) (hd j hj)).1 (h.facts p (by omega) (hd p hp)))
  cases fuel with
  |zero=>omega
  |succ fuel=>
   refine⟨fun hr=>(hnil hr).elim,fun i hi=>?_⟩
   obtain⟨h1,h2,h3⟩:=Zcm hi
   have ho:ops[i]?=some ops[i]:=Array.getElem?_eq_getElem h1
   by_cases hin:i<n
   ·have hlt:∀ j∈ZbY ops i,j<i:=by
     intro j hj
     have h4:=List.all_eq_true.1 hok i (List.mem_range.2 h1)
     simp only[Zae2] at h4
     exact of_decide_eq_true (List.all_eq_true.1 h4.1 j hj)
    refine wpOp_step ho fun K' hK=>step i hin _ ho a w h.rel h.same (fun j hj=>h.facts j (by have:=hlt j hj;omega) (h3 j hj)) K' fun v w' hR hFi=>hK _ _ ?_
    obtain⟨p1,p2,p3⟩:=ZiC (v:=v) ho ((hks i hin).trans ho) hok h.same
    have hset:∀ j,(listed.setIfInBounds i true).getD j false=if j=i then true else listed.getD j false:=fun j=>Za7 _ _ _ _ (by rw[h.size];exact h1)
    refine Zgd hks hok he hRt hF hF0 step tail fuel _ _ _ ⟨⟨by simp[h.size],hRt _ _ _ h.rel hR,p1,fun j hj hl=>?_⟩,fun j hj hl d hd=>?_,fun j hj hjs=>?_⟩ ?_
    ·by_cases hji:j=i
     ·subst hji
      rw[p3]
      split
      ·exact hFi
      ·rename_i hd
       exact hF0 j _ hin ho hd v w' hFi
     ·rw[p2 j hji]
      rw[hset,if_neg hji] at hl
      exact hF _ _ _ _ (h.facts j hj hl) hR
    ·rw[hset]
     by_cases hdi:d=i
     ·rw[if_pos hdi]
     ·rw[if_neg hdi]
      by_cases hji:j=i
      ·subst hji;exact h3 d hd
      ·rw[hset,if_neg hji] at hl
       exact h.closed j hj hl d hd
    ·rw[hset,if_neg (by omega)];exact h.left j hj hjs
    ·have:=ZcC h.size h1 h2
     omega
   ·have hieq:i=n:=by
     rcases Nat.lt_or_ge n i with hlt|hle
     ·obtain rfl:i=n+1:=by omega
      have h6:=h3 n hdn
      rw[h.left n Zlr (by omega)] at h6
      cases h6
     ·omega
    subst hieq
    have hdone:∀ m j,j<i→j≠p→i-j≤m→listed.getD j false=true:=by
     intro m
     induction m with
     |zero=>intro j hj _ h0;omega
     |succ m ih=>
      intro j hj hjp h0
      obtain⟨k,hk,hjk,hkp,h5⟩:=hall j hj hjp
      by_cases hki:k=i
      ·subst hki;exact h3 j h5
      ·exact h.closed k (by omega) (ih k (by omega) hkp (by omega)) j h5
    have hoth:∀ j,j<i→j≠p→listed.getD j false=true:=fun j hj hjp=>hdone (i-j) j hj hjp Zlr
    have hpf:listed.getD p false=false:=by
     cases hpl:listed.getD p false with
     |false=>rfl
     |true=>exact(hd fun j hj=>by by_cases hjp:j=p;·rw[hjp];exact hpl
                                  ·exact hoth j hj hjp).elim
    have hset:∀ j,(listed.setIfInBounds i true).getD j false=if j=i then true else listed.getD j false:=fun j=>Za7 _ _ _ _ (by rw[h.size];exact h1)
    have hl:listed.setIfInBounds i true=ZkG ops.size (i+1) p:=ZnC (by simp[h.size]) fun j hj=>by
     rw[hset]
     by_cases hji:j=i
     ·subst hji
      rw[if_pos rfl,Zdt (by omega),Zdt (by omega)];rfl
     ·rw[if_neg hji]
      by_cases hjp:j=p
      ·subst hjp;rw[hpf];simp
      ·by_cases hlt:j<i
       ·rw[hoth j hlt hjp,Zdt (by omega),Zdt hjp];rfl
       ·rw[h.left j (by omega) hj,Zdf (by omega)];rfl
    have hT:=(tail a w h.rel h.same fun j hj hjp=>h.facts j (by omega) (hoth j hj hjp)).2
    have hK:∀ a w,wpList P ops Q ([p,i+1].filterMap fun i=>ops[i]?) a w→wpAny P .any ops Q fuel (listed.setIfInBounds i true) a w:=fun a w h7=>by
     have m1:=ZcC h.size h1 h2
     have m2:=ZcC (s:=ops.size) (listed:=listed.setIfInBounds i true) (i:=p) (by simp[h.size]) (by omega) (by
      rw[Za7 _ _ _ _ (by rw[h.size];omega),if_neg (by omega)]
      exact htrue p (by omega) hpf)
     have m3:=ZcC (s:=ops.size) (listed:=(listed.setIfInBounds i true).setIfInBounds p true) (i:=i+1) (by simp[h.size]) (by omega) (by
      rw[Za7 _ _ _ _ (by simp[h.size];omega),if_neg (by omega),Za7 _ _ _ _ (by rw[h.size];omega),if_neg (by omega)]
      exact htrue (i+1) (by omega) (h.left (i+1) (by omega) (by omega)))
     rw[hl]
     exact ZgL _ fuel _ a w hfB (by simp;omega) h7
    rw[List.filterMap_cons,ho] at hT
    unfold wpOp
    rw[ho]
    simp only[wpList] at hT
    simp only
    split
    ·rename_i hw
     rw[if_pos hw] at hT
     rcases hT with hT|hT
     ·exact .inl (Oper.wp_mono hK hT)
     ·exact .inr hT
    ·rename_i hw
     rw[if_neg hw] at hT
     exact hK _ _ hT
theorem ZjY {id m:Nat} (n p:Nat) (hm:P.follows .mixedOrders=true) (R:World→World→Prop) (F:Nat→Value→World→Prop) (hsz:a0.tmps.size=m) (hok:Zds ops m=true) (he:Zld ops n p=true) (hRt:∀ x y z,R x y→R y z→R x z) (hRr:R w0.drew w0.drew)
  (hF:∀ i v x y,F i v x→R x y→F i v y) (hF0:∀ i o,i<n→ops[i]?=some o→o.dst=none→∀ v x,F i v x→F i undef x)
  (step:∀ j,j<n→0≤j→ZcV P ops (ops.toList.take n).toArray Q R F w0.drew a0 j)
  (tail:∀ a w,R w0.drew w→Zcx (ops.toList.take n).toArray a0 a→(∀ j,j<n→j≠p→F j (Zd7 ops a j) w)→(F p (Zd7 ops a p) w→wpList P ops Q ([n,n+1].filterMap fun i=>ops[i]?) a w)∧wpList P ops Q ([n,p,n+1].filterMap fun i=>ops[i]?) a w):
  (Code.region id ops true).wp P Q a0 w0:=by
 subst hsz
 refine wp_region_any hm ?_
 have hnone:∀ j,(Array.replicate ops.size false).getD j false=false:=fun j=>by
  rw[Array.getD_eq_getD_getElem?,Array.getElem?_replicate]
  split<;>rfl
 refine Zgd (ks:=(ops.toList.take n).toArray) (R:=R) (F:=F) (w0:=w0.drew) (a0:=a0) (fun i hi=>by
  rw[List.getElem?_toArray,List.getElem?_take,if_pos hi,Array.getElem?_toList]) hok he hRt hF hF0 (fun i hi=>step i hi (Nat.zero_le _)) tail _ _ _ _ ⟨⟨by simp,hRr,⟨rfl,rfl,fun _ _=>rfl⟩,fun j hj hl=>?_⟩,fun j hj hl=>?_,fun j _ _=>hnone j⟩ ?_
 ·rw[hnone] at hl;cases hl
 ·rw[hnone] at hl;cases hl
 ·have:=List.length_filter_le (fun i=> !(Array.replicate ops.size false).getD i true) (List.range ops.size)
  simpa [Zck] using this
structure KeepAt (B:Nat) (w:World) (K C L:Nat) (pl kn told:Int) (mem dn:Bool) (most stale:Int) (k:Nat) (S:List ZaP):Prop where
 blk:Blk w K (ZaQ C L pl kn told mem dn) 62
 ca:IsCache B w C most stale k S
 base:B≤K
theorem KeepAt.on {B:Nat} {w w':World} {K C L:Nat} {pl kn told:Int} {mem dn:Bool} {most stale:Int} {k:Nat} {S:List ZaP} (h:KeepAt B w K C L pl kn told mem dn most stale k S) (hb:Below w.heap.size w w'):KeepAt B w' K C L pl kn told mem dn most stale k S:=⟨h.blk.on hb,h.ca.on hb,h.base⟩
theorem KeepAt.row {B:Nat} {w:World} {K C L:Nat} {pl kn told:Int} {mem dn:Bool} {most stale:Int} {k:Nat} {S:List ZaP} (h:KeepAt B w K C L pl kn told mem dn most stale k S) {X:Nat} {old:Array Value} (hX:Blk w X old 37) (cs:Array Value):KeepAt B (w.setRow X cs) K C L pl kn told mem dn most stale k S:=
 ⟨h.blk.but (Zav w X cs) (Zea h.blk hX (by decide)),h.ca.but (Zav w X cs) hX (by decide) (by decide) (by decide),h.base⟩
theorem KeepAt.set {B:Nat} {w:World} {K C L:Nat} {pl kn told:Int} {mem dn:Bool} {most stale:Int} {k:Nat} {S:List ZaP} (h:KeepAt B w K C L pl kn told mem dn most stale k S) {X:Nat} {old:Array Value} {T:TypeId} (hX:Blk w X old T) (h0:T≠62) (h1:T∉fT) (h2:T≠78) (h3:T≠82) (i:Nat) (v:Value):KeepAt B (w.setCell ⟨X,i,none⟩ v) K C L pl kn told mem dn most stale k S:=
 ⟨h.blk.but (Zag w X i v) (Zea h.blk hX (fun e=>h0 e.symm)),h.ca.but (Zag w X i v) hX h1 h2 h3,h.base⟩
def ZrV:Kind (List UInt8) where
 H:=Option Addr×Nat
 size:=1
 cells:=fun h x=>#[.slice h.1 x.length h.2]
 is:=fun S w h x=>ZbP w h.1 x.length h.2 x∧rowIn S h.1 x.length
 hsize:=fun _ _=>rfl
 pos:=by decide
 one:=fun h x u hu=>by
  simp at hu
  rcases hu with rfl
  rfl
 mono:=fun h hS=>⟨h.1,h.2.mono h.1 hS⟩
 keep:=fun h hs=>⟨h.1.keep h.2 hs,h.2⟩
def Zrv:Kind (List ByteArray) where
 H:=Option Addr×Nat
 size:=1
 cells:=fun h x=>#[.slice h.1 x.length h.2]
 is:=fun S w h x=>Strs w h.1 x.length h.2 x∧rowIn S h.1 x.length
 hsize:=fun _ _=>rfl
 pos:=by decide
 one:=fun h x u hu=>by
  simp at hu
  rcases hu with rfl
  rfl
 mono:=fun h hS=>⟨h.1,h.2.mono h.1.row hS⟩
 keep:=fun h hs=>⟨h.1.keep h.2 hs,h.2⟩
structure Zrb where
 roots:List (List UInt8)
 cache:Int
 stale:Int
 timeout:Int
 tries:Int
 deadline:Int
 pending:Int
 zones:List (List ByteArray)
structure Zra where
 ra:Option Addr
 rc:Nat
 za:Option Addr
 zc:Nat
structure IsSet (S:Nat→Prop) (w:World) (h:Zra) (s:Zrb):Prop where
 roots:Seq ZrV S w h.ra s.roots.length h.rc s.roots
 zones:Seq Zrv S w h.za s.zones.length h.zc s.zones
theorem IsSet.on {S:Nat→Prop} {w w':World} {h:Zra} {s:Zrb} (i:IsSet S w h s) (hb:Below w.heap.size w w'):IsSet S w' h s:=⟨i.roots.on hb,i.zones.on hb⟩
theorem IsSet.keep {S:Nat→Prop} {w w':World} {h:Zra} {s:Zrb} (i:IsSet S w h s) (hs:Same S w w'):IsSet S w' h s:=⟨i.roots.keep hs,i.zones.keep hs⟩
def NK (B:Nat) (w:World) (b:Nat):Prop:=b<w.heap.size∧(b<B∨¬Zak [62] w b)
theorem NK.only {B:Nat} {w w':World} (ho:Only [62] B w w') {b:Nat} (h:NK B w b):NK B w' b∧w'.heap[b]?=w.heap[b]?:=by
 have hl:=ho.bel.size
 have hB:=h.1
 rcases h.2 with h2|h2
 ·have e:=ho.bel.block b h2
  exact⟨⟨by omega,.inl h2⟩,e⟩
 ·have e:=ho.keep b h.1 h2
  exact⟨⟨by omega,.inr fun ht=>h2 (by obtain⟨cs,t,a,k⟩:=ht;exact⟨cs,t,e▸a,k⟩)⟩,e⟩
theorem IsSet.mono {S S':Nat→Prop} {w:World} {h:Zra} {s:Zrb} (i:IsSet S w h s) (hS:∀ b,b<w.heap.size→S b→S' b):IsSet S' w h s:=⟨i.roots.mono hS,i.zones.mono hS⟩
theorem IsSet.only {B:Nat} {w w':World} {h:Zra} {s:Zrb} (i:IsSet (NK B w) w h s) (ho:Only [62] B w w'):IsSet (NK B w') w' h s:=
 (i.keep (fun _ _ hb=>(NK.only ho hb).2)).mono (fun _ _ hb=>(NK.only ho hb).1)
theorem Zfu {w:World} {base:Nat} {e:TypeId} {size:Nat} {v:Value} {n:Nat} {xs:List Value} (h:w.ownsRow base e size v n xs) {k:Nat} (hk:v.ownBlock=some k):∃ cs,Blk w k cs e∧base≤k:=by
 obtain⟨_,⟨rfl,_⟩|⟨g,cap,cur,rfl,hg,hc,_⟩⟩:=h
 ·cases hk
 ·have e:g=k:=by simpa [Value.ownBlock] using hk
  subst e
  exact⟨cur,hc,hg⟩
theorem Zgv {w w':World} {base:Nat} {e:TypeId} {size:Nat} {v:Value} {n:Nat} {xs:List Value} (h:w.ownsRow base e size v n xs) {R:Nat} {cs:Array Value} {T:TypeId} (hg:w.grownBy w' (some R)) (hR:Blk w R cs T) (hT:e≠T):w'.ownsRow base e size v n xs:=
 h.kept hg (by
  cases hv:v.ownBlock with
  |none=>exact .inl rfl
  |some k=>
   right
   intro e2
   obtain⟨cs2,h2,_⟩:=Zfu h hv
   have e3:k=R:=Zsi e2
   subst e3
   exact Zea h2 hR hT rfl)
def wrT:List TypeId:=[205,5]
structure IsW (N:Nat) (w:World) (R M:Nat) (b:List UInt8):Prop where
 ex:∃ v,Blk w R #[v,.map (some M)] 205∧w.ownsRow N 5 1 v b.length (b.map u8V)
 base:N≤R
theorem IsW.on {N:Nat} {w w':World} {R M:Nat} {b:List UInt8} (h:IsW N w R M b) (hb:Below w.heap.size w w'):IsW N w' R M b:=by
 obtain⟨v,h1,h2⟩:=h.ex
 exact⟨⟨v,h1.on hb,Zft h2 hb⟩,h.base⟩
theorem IsW.lt {N:Nat} {w:World} {R M:Nat} {b:List UInt8} (h:IsW N w R M b):N≤w.heap.size:=by
 obtain⟨v,h1,_⟩:=h.ex
 have:=h1.lt
 have:=h.base
 omega
theorem Zhp (w:World):Calls Tryz.prog 97 #[] w fun e w'=>(∃ R M,e= .returned (.pointer (some ⟨R,0,none⟩))∧IsW w.heap.size w' R M []∧w'.heap[M]?=some (.map #[] 0)∧w.heap.size≤M)∧Below w.heap.size w w':=by
 have hmm:=@run_makeMap Tryz.prog
 go_enter Tryz.func97,Tryz.ntmps97
 go_wp2_with fail
 go_ret
 have b1:Below w.heap.size w (w.alloc (.map #[] 0)):=Zbr.alloc Zlr _
 have h1:=Zha w (.map #[] 0)
 have e1:(w.alloc (.map #[] 0)).heap.size=w.heap.size+1:=Array.size_push _
 have b2:Below (w.alloc (.map #[] 0)).heap.size (w.alloc (.map #[] 0)) ((w.alloc (.map #[] 0)).alloc (.cells #[.slice none 0 0,.map (some w.heap.size)] 205)):=Zbr.alloc Zlr _
 have h2:Blk ((w.alloc (.map #[] 0)).alloc (.cells #[.slice none 0 0,.map (some w.heap.size)] 205)) (w.alloc (.map #[] 0)).heap.size #[.slice none 0 0,.map (some w.heap.size)] 205:=Zha (w.alloc (.map #[] 0)) _
 rw[e1] at h2
 exact⟨⟨w.heap.size+1,w.heap.size,by simp,⟨⟨_,h2,World.ownsRow_nil _ _ _ _⟩,Nat.le_succ _⟩,(b2.block _ (by omega)).trans h1,Nat.le_refl _⟩,Zaa b1 b2 Zlr⟩
theorem ZdY (w:World) (N R M:Nat) (b:List UInt8) (hW:IsW N w R M b) (ao:Option Addr) (m c:Nat) (l:List UInt8) (hl:ZbP w ao m c l) (hm:b.length+m≤1000000000):
  Calls Tryz.prog 145 #[.pointer (some ⟨R,0,none⟩),.slice ao m c] w fun e w'=>e= .returned (.tuple #[])∧IsW N w' R M (b++l)∧Only wrT N w w':=by
 obtain⟨v,h1,h2⟩:=hW.ex
 have hN:=hW.lt
 have hlen:=hl.hlen
 rw[List.length_map] at hlen
 obtain⟨i0,hi,hz0,hz1,hz2⟩:=info_parts Zho
 obtain⟨v',w1,hrun,hown,hgr⟩:=Zba (P:=Tryz.prog) w N 22 22 5 i0 _ 1 Tryz.underlying22 hi hz0 hz1 hz2 rfl v b.length (b.map u8V) h2 ao m c (l.map u8V) hl (Zdu l) (by omega) (by omega) hN
 have hrow:∀ k,v.ownBlock=some k→∃ cs,Blk w k cs 5∧N≤k:=fun k hk=>by
  exact Zfu h2 hk
 obtain⟨va,vc,hv',_⟩:=Zai hown (by omega)
 obtain⟨q,hq⟩:∃ q,q=b.length+m:=⟨_,rfl⟩
 rw[←hq] at hv' hown
 subst hv'
 have c0:w.cell? ⟨R,0,none⟩=some v:=h1.cell 0
 have h1':Blk w1 R #[v,.map (some M)] 205:=Zda hgr hrow h1 (by decide)
 have c1:w1.cell? ⟨R,0,none⟩=some v:=h1'.cell 0
 have f1:=h1'.free 0
 have hg2:=Zag w1 R 0 (.slice va q vc)
 have h1'':=h1'.set 0 (.slice va q vc)
 have ho1:Only wrT N w w1:=ZcB hgr hrow (by decide) hN
 have ho2:Only wrT N w (w1.setCell ⟨R,0,none⟩ (.slice va q vc)):=ho1.trans (Only.but hg2 h1' (by decide) hW.base)
 have hown2:(w1.setCell ⟨R,0,none⟩ (.slice va q vc)).ownsRow N 5 1 (.slice va q vc) q (b.map u8V++l.map u8V):=Zgv hown hg2 h1' (by decide)
 have HF:=Zhd (Zan h1'' (Zan ho2 hown2))
 have HR:=Zhd hrun
 have HB:=Zhd (Zan hW.base (Zan hlen hq))
 clear hW h1 h2 hi hz0 hz1 hz2 hrun hown hgr hrow h1' hg2 h1'' ho1 ho2 hown2 hl hlen hq
 go_enter Tryz.func145,Tryz.ntmps145
 go_wp2_with (at_builtin;refine Zao rfl _ _ _ rfl _ _ rfl rfl HR.out ?_)
 go_end0
 refine⟨rfl,⟨⟨_,by simpa using HF.out.1,?_⟩,HB.out.1⟩,HF.out.2.1⟩
 rw[Zla,List.map_append,HB.out.2.1,←HB.out.2.2]
 exact HF.out.2.2
theorem Zbz (w:World) (N R M:Nat) (b:List UInt8) (hW:IsW N w R M b) (n:Int) (size:Nat) (hs:1≤size) (hs7:size≤7) (hf:Za2 n size=true) (hm:b.length≤100000000):
  Calls Tryz.prog 98 #[.pointer (some ⟨R,0,none⟩),.int .i64 n,.int .i64 (size:Int)] w fun e w'=>e= .returned (.tuple #[])∧IsW N w' R M (b++Za1 n size)∧Only wrT N w w':=by
 have hN:=hW.lt
 have HP:=Zhd (Zgx w none 0 0 [] (Row.empty (by omega) (fun _=>rfl)) (by omega) n size hs hs7)
 have hpl:Zlh [] n size=Za1 n size:=by rw[Zlh,if_pos hf];rfl
 rw[hpl,Zap] at HP
 have HW:=Zhd (Zan hW (Zan hN hm))
 clear hW hN hpl hf hm hs
 go_enter Tryz.func98,Tryz.ntmps98
 go_wp2_with (first|(go_at_call 87;refine HP.out.mono ?_;rintro e W1 ⟨⟨v,rfl,hown⟩,hb1⟩;obtain⟨ao,cap,rfl,hrow⟩:=ZbG hown (by omega);have H1:=Zhd (Zan hrow hb1);clear hown hrow hb1)|(go_at_call 145;refine(ZdY W1 N R M b (HW.out.1.on H1.out.2) ao size cap (Za1 n size) H1.out.1 (by have:=HW.out.2.2;omega)).mono ?_;rintro e W2 ⟨rfl,hw2,ho2⟩;have H2:=Zhd (Zan hw2 ((Only.below H1.out.2 HW.out.2.1).trans ho2));clear hw2 ho2))
 go_end0
 exact⟨rfl,H2.out.1,H2.out.2⟩
theorem Zf3 (w:World) (N R M:Nat) (b:List UInt8) (hW:IsW N w R M b) (hm:b.length≤100000000):
  Calls Tryz.prog 101 #[.pointer (some ⟨R,0,none⟩)] w fun e w'=>(∃ ao c,e= .returned (.slice ao b.length c)∧Own1 [5] w.heap.size w' ao b.length c (b.map u8V))∧Below w.heap.size w w':=by
 obtain⟨v,h1,h2⟩:=hW.ex
 obtain⟨ao,c,rfl,ho⟩:=Zai h2 (by omega)
 have c0:w.cell? ⟨R,0,none⟩=some (.slice ao b.length c):=h1.cell 0
 have HC:=Zhd (Zc0 w ao b.length c (b.map u8V) ho.row (Zdu b) (by omega))
 clear hW h1 h2 ho
 go_enter Tryz.func101,Tryz.ntmps101
 go_wp2_with (go_at_call 129;refine HC.out.mono ?_;rintro e W1 ⟨⟨a2,c2,rfl,ho2⟩,hb2⟩;have H1:=Zhd (Zan ho2 hb2);clear ho2 hb2)
 go_ret
 exact⟨⟨a2,c2,rfl,H1.out.1⟩,H1.out.2⟩
def Zfl (l:ByteArray):List UInt8:=UInt8.ofNat l.size::l.data.toList
def Zb4 (ss:List ByteArray):List UInt8:=ss.flatMap Zfl
theorem ZjB (ss:List ByteArray):(Zb4 ss).length=Za0 ss:=by
 induction ss with
 |nil=>rfl
 |cons l ss ih=>
  have h:(Zfl l).length=l.size+1:=by simp[Zfl]
  simp only[Zb4,List.flatMap_cons,Zla] at ih⊢
  rw[ih,h,Za0]
theorem Zmg (ss:List ByteArray) {k:Nat} (h:k<ss.length):Zb4 (ss.take (k+1))=(Zb4 (ss.take k)++[UInt8.ofNat ss[k].size])++ss[k].data.toList:=by
 rw[List.take_succ_eq_append_getElem h,Zb4,List.flatMap_append]
 simp[Zb4,Zfl]
theorem ZfC {P:Program} {w:World} {ops:Array Oper} {rest:List Oper} {o:Oper} {a:Act} {Q:Exit→Act→World→Prop} (hgd:o.guard=none) (s x:Operand) (t u:TypeId)
  (ho:o.op= .call {callee:= .builtin .append,args:=#[s,x],argTypes:=#[t,u]}) (v xv:Value) (hs:a.eval s=v) (hx:a.eval x=xv) {v':Value} {w':World}
  (hrun:(Builtin.append_ #[t,u] o.type #[v,xv]).run P w= .ok v' w') (h:wpList P ops Q rest (a.put o.dst v') w'):wpList P ops Q (o::rest) a w:=by
 refine wpList_plain hgd fun K hK=>?_
 unfold Oper.wp
 simp[execOp,ho,resolve,invoke,builtin,hs,hx,hrun,Result.andThen]
 exact hK _ _ h
theorem ZlI {w:World} {N n:Nat} {v:Value} {l:List UInt8} (h:w.ownsRow N 5 1 v n (l.map u8V)) (hl:l.length=n):(convert 22 9 v).run Tryz.prog w= .ok (.string ⟨l.toArray⟩) w:=by
 rcases h.2 with⟨rfl,rfl⟩|⟨g,cap,cur,rfl,_⟩
 ·have e:l=[]:=List.eq_nil_of_length_eq_zero hl
  subst e
  have h0:∀ w:World,(convert 22 9 (.slice none 0 0)).run Tryz.prog w= .ok (.string ⟨#[]⟩) w:=fun w=>by kernel_rfl
  exact h0 w
 ·have hc:=h.cells (g:=g) rfl
  have:=run_convert_bytes_arg (P:=Tryz.prog) w 22 5 Tryz.underlying22 Tryz.underlying5 g 0 n cap (l.map fun c=>(c.toNat:Int)) (by simpa using hl) (fun i hi=>by
   have h2:=hc i (u8V (l[i]'(by omega))) (by simp[hl,hi])
   have e:(⟨g,0,none⟩:Addr).add i=⟨g,0+i,none⟩:=ZbB _ _ _
   rw[e] at h2
   rw[h2]
   simp[List.getD,show i<l.length by omega,u8V]) 9 Tryz.underlying9
  rw[this,Zcq]
theorem ZpH (w:World) (ao:Option Addr) (len cap:Nat) (ss:List ByteArray) (hs:Strs w ao len cap ss) (hz:Za0 ss≤1000000):
  Calls Tryz.prog 147 #[.slice ao len cap] w fun e w'=>e= .returned (.string ⟨(Zb4 ss).toArray⟩)∧Below w.heap.size w w':=by
 have hlen:ss.length=len:=by have:=hs.row.hlen;simpa using this
 have hcap:=hs.row.hcap
 have hle:=hs.row.hle
 have hlz:len≤1000000:=by have:=Zbk ss;omega
 have HS:=Zhd (Zan hs (Zan hlen hz))
 clear hs hlen hz
 go_enter Tryz.func147,Tryz.ntmps147
 go_wp2_with fail
 go_loopw [3,5,8] (fun v _ i wr=>∃ k:Nat,k≤len∧i= .int .i64 (k:Int)∧Hid (wr.ownsRow w.heap.size 5 1 v (Za0 (ss.take k)) ((Zb4 (ss.take k)).map u8V)∧Below w.heap.size w wr)) (fun _ _ i _=>len-(intOf i).toNat)
 case atStart=>exact⟨0,Nat.zero_le _,rfl,Zhd ⟨World.ownsRow_nil _ _ _ _,Below.refl _ _⟩⟩
 case round=>
  obtain⟨k,hk,rfl,hinv⟩:=hrel
  by_cases hlt:k<len
  ·have hkx:k<ss.length:=by rw[HS.out.2.1];exact hlt
   have hrow:=HS.out.1.below hinv.out.2 Zlr
   obtain⟨b,off,rfl,hc⟩:=hrow.row.hcells (by omega)
   have c0:wr.cell? ⟨b,off+k,none⟩=some (.string ss[k]):=by have:=hc k (by simpa using hkx);simpa using this
   obtain⟨x,hx⟩:∃ x,x=ss[k]:=⟨_,rfl⟩
   rw[←hx] at c0
   have hsz:Za0 (ss.take (k+1))=Za0 (ss.take k)+1+x.size:=by rw[Zco _ _ hkx,hx];omega
   have hsm:=Nat.le_trans (Zcn ss (k+1)) HS.out.2.2
   have hcells:(Zb4 (ss.take (k+1))).map u8V=((Zb4 (ss.take k)).map u8V++[.int .u8 ((x.size:Int)%256)])++Lib.strCells x:=by
    rw[Zmg ss hkx,List.map_append,List.map_append,hx]
    have e1:[UInt8.ofNat ss[k].size].map u8V=[.int .u8 ((ss[k].size:Int)%256)]:=by simp[u8V]
    rw[e1]
    rfl
   obtain⟨i1,g1,g2,g3,g4⟩:=info_parts Zho
   obtain⟨v',w6,hrun,hown,hgr⟩:=Zba (P:=Tryz.prog) (wr.alloc (.cells #[.int .u8 ((x.size:Int)%256)] 5)) w.heap.size 22 22 5 i1 _ 1 Tryz.underlying22 g1 g2 g3 g4 rfl u3 _ _ (hinv.out.1.alloc _) (some ⟨wr.heap.size,0,none⟩) 1 1 [.int .u8 ((x.size:Int)%256)] (ZfS wr _ _) (by intro u hu;simp at hu;subst hu;rfl) (by omega) (by omega) (by have:=hinv.out.2.size;simp;omega)
   have hb6:Below w.heap.size w w6:=(hinv.out.2.alloc hinv.out.2.size _).grown hgr (by have:=hinv.out.2.size;simp;omega) (fun j hj=>(hinv.out.1.lt j hj).1)
   obtain⟨i2,q1,q2,q3,q4⟩:=info_parts Zho
   obtain⟨v7,w7,hrun7,hown7,hgr7,_⟩:=Lib.run_append_own_string (P:=Tryz.prog) w6 w.heap.size 22 9 22 5 i2 Tryz.underlying22 Tryz.underlying9 q1 q2 q3 q4 v' _ _ hown x (by unfold maxLen;omega) (by omega) hb6.size
   have hb7:Below w.heap.size w w7:=hb6.grown hgr7 hb6.size (fun j hj=>(hown.lt j hj).1)
   rw[←hcells,show Za0 (ss.take k)+1+x.size=Za0 (ss.take (k+1)) by omega] at hown7
   have HR6:=Zhd hrun
   have HR7:=Zhd hrun7
   have H7:=Zhd (Zan hown7 hb7)
   clear hx hsz hcells g1 g2 g3 g4 q1 q2 q3 q4 hrun hown hgr hb6 hrun7 hown7 hgr7 hb7 hinv hc hrow hkx hsm
   go_wp2_with (at_builtin;first|(refine Zao rfl _ _ _ rfl _ _ rfl rfl HR6.out ?_)|(refine ZfC rfl _ _ _ _ rfl _ _ rfl rfl HR7.out ?_))
   go_roundw
   case rel=>exact⟨k+1,by omega,by go_num,H7⟩
   case measure=>simp[intOf];omega
  ·have hkl:k=ss.length:=by rw[HS.out.2.1];omega
   have ho:=hinv.out.1
   rw[hkl,List.take_length] at ho
   have hcv:=ZlI ho (ZjB ss)
   have HB:=Zhd hinv.out.2
   clear ho hinv hkl
   go_wp2_with fail
   go_ret
   exact⟨rfl,HB.out⟩
structure GS where
 n:List ByteArray
 at':Nat
 begin':Nat
 size:Nat
 next:Nat
def ZoL (l:List UInt8) (i c:Nat):ByteArray:=⟨((l.drop i).take c).toArray⟩
def ZkV (l:List UInt8):Nat→GS→List ByteArray×Nat×Int
 |0,_=>([],0,3)
 |f+1,s=>
  if s.at'<l.length then
   if (l.getD s.at' 0).toNat=0 then(s.n,max s.next (s.at'+1),0)
   else if 192≤(l.getD s.at' 0).toNat then
    if s.at'+2≤l.length then
     if s.begin'≤((l.getD s.at' 0).toNat*256+(l.getD (s.at'+1) 0).toNat)%16384 then([],0,6)
     else ZkV l f ⟨s.n,((l.getD s.at' 0).toNat*256+(l.getD (s.at'+1) 0).toNat)%16384,((l.getD s.at' 0).toNat*256+(l.getD (s.at'+1) 0).toNat)%16384,s.size,max s.next (s.at'+2)⟩
    else([],0,3)
   else if 63<(l.getD s.at' 0).toNat then([],0,5)
   else if l.length<s.at'+1+(l.getD s.at' 0).toNat then([],0,3)
   else if 255<s.size+(1+(l.getD s.at' 0).toNat) then([],0,5)
   else ZkV l f ⟨s.n++[ZoL l (s.at'+1) (l.getD s.at' 0).toNat],s.at'+(1+(l.getD s.at' 0).toNat),s.begin',s.size+(1+(l.getD s.at' 0).toNat),s.next⟩
  else([],0,3)
def msG (s:GS):Nat:=s.begin'*300+(256-s.size)
def ZeP (l:List UInt8) (pos:Nat):List ByteArray×Nat×Int:=ZkV l (pos*300+256) ⟨[],pos,pos,1,0⟩
theorem Zrs {l:List UInt8} {pos:Nat} (h:pos<l.length):Zdl l pos 1=(((l.getD pos 0).toNat:Int),0):=by
 rw[Zdl,if_pos (by omega)]
 have e:(l.drop pos).take 1=[l[pos]]:=by rw[List.drop_eq_getElem_cons h];rfl
 rw[e]
 simp[beN,h]
theorem Zo5 {l:List UInt8} {pos:Nat} (h: ¬pos<l.length):Zdl l pos 1=(0,3):=by rw[Zdl,if_neg (by omega)]
theorem ZrR {l:List UInt8} {pos:Nat} (h:pos+2≤l.length):Zdl l pos 2=((((l.getD pos 0).toNat*256+(l.getD (pos+1) 0).toNat:Nat):Int),0):=by
 rw[Zdl,if_pos (by omega)]
 have e:(l.drop pos).take 2=[l[pos],l[pos+1]]:=by rw[List.drop_eq_getElem_cons (by omega),List.drop_eq_getElem_cons (by omega)];rfl
 rw[e]
 simp[beN,show pos<l.length by omega,show pos+1<l.length by omega]
theorem Zo6 {l:List UInt8} {pos:Nat} (h: ¬pos+2≤l.length):Zdl l pos 2=(0,3):=by rw[Zdl,if_neg (by omega)]
theorem Zkj (a b:Nat) (ha:a<9223372036854775808) (hb:b<9223372036854775808):bits .and .i64 (a:Int) (b:Int)=((a&&& b:Nat):Int):=by
 have hx:a&&& b<2^63:=Nat.lt_of_le_of_lt Nat.and_le_left (by omega)
 show IntKind.i64.wrap ((BitVec.ofInt 64 (a:Int)&&& BitVec.ofInt 64 (b:Int)).toNat:Int)=_
 rw[BitVec.toNat_and,ofInt_u64 a (by omega),ofInt_u64 b (by omega)]
 simp[IntKind.wrap,IntKind.bits,IntKind.signed]
 omega
theorem ZmK {n:Nat} (h:n<65536):bits BinOp.and IntKind.i64 (n:Int) 16383=((n%16384:Nat):Int):=by
 have:=Zkj n 16383 (by omega) (by omega)
 rw[show((16383:Nat):Int)=16383 from rfl] at this
 rw[this,show(16383:Nat)=2^14-1 from rfl,Nat.and_two_pow_sub_one_eq_mod]
theorem Zly (w:World) (bo:Option Addr) (bl bc:Nat) (l:List UInt8) (hl:ZbP w bo bl bc l) (hbl:bl≤1000000) (pos:Nat) (hp:pos≤1000000):
  Calls Tryz.prog 141 #[.slice bo bl bc,.int .i64 (pos:Int)] w fun e w'=>(∃ v,e= .returned (.tuple #[v,.int .i64 ((ZeP l pos).2.1:Int),.int .i64 (ZeP l pos).2.2])∧w'.ownsRow w.heap.size 9 1 v (ZeP l pos).1.length ((ZeP l pos).1.map .string))∧Below w.heap.size w w':=by
 have hlen:l.length=bl:=by have:=hl.hlen;simpa using this
 have hcap:=hl.hcap
 have hle:=hl.hle
 have HL:=Zhd (Zan hl hlen)
 obtain⟨G,hG⟩:∃ q,q=ZeP l pos:=⟨_,rfl⟩
 rw[←hG]
 have HG:=Zhd hG
 clear hl hlen hG
 go_enter Tryz.func141,Tryz.ntmps141
 go_wp2_with fail
 go_loopw [1,4,5,7,8,9,10,11,12] (fun a v nx bg sz _ _ _ _ wr=>∃ s:GS,a= .int .i64 (s.at':Int)∧nx= .int .i64 (s.next:Int)∧bg= .int .i64 (s.begin':Int)∧sz= .int .i64 (s.size:Int)∧s.size≤255∧s.at'≤1000000∧s.begin'≤1000000∧s.next≤1000002∧Hid (wr.ownsRow w.heap.size 9 1 v s.n.length (s.n.map .string)∧Below w.heap.size w wr∧s.n.length≤s.size∧∃ f,ZkV l f s=G∧msG s<f)) (fun _ _ _ bg sz _ _ _ _ _=>(intOf bg).toNat*300+(256-(intOf sz).toNat))
 case atStart=>exact⟨⟨[],pos,pos,1,0⟩,rfl,rfl,rfl,rfl,by simp,hp,hp,by simp,Zhd ⟨World.ownsRow_nil _ _ _ _,Below.refl _ _,by simp,_,HG.out.symm,by simp[msG]⟩⟩
 case round=>
  obtain⟨⟨sn,sa,sb,ss,sx⟩,rfl,rfl,rfl,rfl,h1,h2,h3,h4,hinv⟩:=hrel
  simp only at h1 h2 h3 h4 hinv⊢
  obtain⟨f,hf,hms⟩:=hinv.out.2.2.2
  obtain⟨f,rfl⟩:∃ g,f=g+1:=⟨f-1,by omega⟩
  rw[ZkV] at hf
  simp only at hf
  have HB:=HL.out.1.below hinv.out.2.1 Zlr
  have HG1:=Zhd (fun w' (p:ZbP w' bo bl bc l)=>ZeC w' bo bl bc l p sa 1 (by omega) (by omega) (by omega))
  have HG2:=Zhd (fun w' (p:ZbP w' bo bl bc l)=>ZeC w' bo bl bc l p sa 2 (by omega) (by omega) (by omega))
  have HBY:=Zhd HB
  clear HB
  by_cases ha:sa<l.length
  ·rw[if_pos ha] at hf
   rw[Zrs ha] at HG1
   obtain⟨c,hc⟩:∃ q,q=(l.getD sa 0).toNat:=⟨_,rfl⟩
   have hc256:c<256:=by rw[hc];exact UInt8.toNat_lt _
   rw[←hc] at hf HG1
   by_cases hc0:c=0
   ·subst hc0
    rw[if_pos rfl] at hf
    have HF:=Zhd hf
    have hz:((0:Nat):Int)=0:=rfl
    rw[hz] at HG1
    clear hf hc hz ha hms
    go_wp2_with (go_at_call 135;refine(HG1.out _ HBY.out).mono ?_;rintro e w' ⟨rfl,rfl⟩)
    go_ret3
    rw[←HF.out]
    refine⟨⟨_,?_,hinv.out.1⟩,hinv.out.2.1⟩
    simp
    omega
   ·rw[if_neg hc0] at hf
    have hb0:((c:Int)==0)=false:=by simpa using hc0
    by_cases hc1:192≤c
    ·rw[if_pos hc1] at hf
     have hb1:decide ((192:Int)≤(c:Int))=true:=Zdt (by omega)
     by_cases ha2:sa+2≤l.length
     ·rw[if_pos ha2] at hf
      rw[ZrR ha2,←hc] at HG2
      obtain⟨c2,hc2⟩:∃ q,q=(l.getD (sa+1) 0).toNat:=⟨_,rfl⟩
      have hc2b:c2<256:=by rw[hc2];exact UInt8.toNat_lt _
      rw[←hc2] at hf HG2
      have hand:=ZmK (show c*256+c2<65536 by omega)
      obtain⟨q,hq⟩:∃ q,q=c*256+c2:=⟨_,rfl⟩
      rw[←hq] at hf HG2 hand
      obtain⟨t,ht⟩:∃ t,t=q%16384:=⟨_,rfl⟩
      have htl:t<16384:=by rw[ht];omega
      rw[←ht] at hf hand
      have HGM:=Zhd hms
      clear hms hc hc2 hq ht hc0 hc1 hc256 hc2b ha ha2
      by_cases hto:sb≤t
      ·rw[if_pos hto] at hf
       have HF:=Zhd hf
       have hb2:decide ((sb:Int)≤(t:Int))=true:=Zdt (by omega)
       clear hf
       go_wp2_with (go_at_call 135;first|(refine(HG1.out _ HBY.out).mono ?_;rintro e w' ⟨rfl,rfl⟩;clear HG1)|(refine(HG2.out _ HBY.out).mono ?_;rintro e w' ⟨rfl,rfl⟩))
       go_ret3
       rw[←HF.out]
       exact⟨⟨_,rfl,World.ownsRow_nil _ _ _ _⟩,hinv.out.2.1⟩
      ·rw[if_neg hto] at hf
       have hb2:decide ((sb:Int)≤(t:Int))=false:=Zdf (by omega)
       have HF:=Zhd hf
       clear hf
       go_wp2_with (go_at_call 135;first|(refine(HG1.out _ HBY.out).mono ?_;rintro e w' ⟨rfl,rfl⟩;clear HG1)|(refine(HG2.out _ HBY.out).mono ?_;rintro e w' ⟨rfl,rfl⟩))
       go_roundw
       case rel=>
        refine⟨⟨sn,t,t,ss,max sx (sa+2)⟩,rfl,?_,rfl,rfl,h1,by simp only;omega,by simp only;omega,by simp only;omega,Zhd ⟨hinv.out.1,hinv.out.2.1,hinv.out.2.2.1,f,HF.out,?_⟩⟩
        ·simp
         omega
        ·have:=HGM.out
         simp only[msG] at this⊢
         omega
       case measure=>simp[intOf];omega
     ·rw[if_neg ha2] at hf
      rw[Zo6 ha2] at HG2
      have HF:=Zhd hf
      clear hf hc hc0 hc1 hc256 ha ha2 hms
      go_wp2_with (go_at_call 135;first|(refine(HG1.out _ HBY.out).mono ?_;rintro e w' ⟨rfl,rfl⟩;clear HG1)|(refine(HG2.out _ HBY.out).mono ?_;rintro e w' ⟨rfl,rfl⟩))
      go_ret3
      rw[←HF.out]
      exact⟨⟨_,rfl,World.ownsRow_nil _ _ _ _⟩,hinv.out.2.1⟩
    ·rw[if_neg hc1] at hf
     have hb1:decide ((192:Int)≤(c:Int))=false:=Zdf (by omega)
     by_cases hc2:63<c
     ·rw[if_pos hc2] at hf
      have HF:=Zhd hf
      have hb2:decide ((63:Int)<(c:Int))=true:=Zdt (by omega)
      clear hf hc hc0 hc1 hc256 ha hms hc2
      go_wp2_with (go_at_call 135;refine(HG1.out _ HBY.out).mono ?_;rintro e w' ⟨rfl,rfl⟩)
      go_ret3
      rw[←HF.out]
      exact⟨⟨_,rfl,World.ownsRow_nil _ _ _ _⟩,hinv.out.2.1⟩
     ·rw[if_neg hc2] at hf
      have hb2:decide ((63:Int)<(c:Int))=false:=Zdf (by omega)
      by_cases hsh:l.length<sa+1+c
      ·rw[if_pos hsh] at hf
       have HF:=Zhd hf
       have hb3:decide ((bl:Int)-(sa:Int)-1<(c:Int))=true:=Zdt (by have:=HL.out.2;omega)
       clear hf hc hc0 hc1 hc256 ha hms hc2 hsh
       go_wp2_with (go_at_call 135;refine(HG1.out _ HBY.out).mono ?_;rintro e w' ⟨rfl,rfl⟩)
       go_ret3
       rw[←HF.out]
       exact⟨⟨_,rfl,World.ownsRow_nil _ _ _ _⟩,hinv.out.2.1⟩
      ·rw[if_neg hsh] at hf
       have hb3:decide ((bl:Int)-(sa:Int)-1<(c:Int))=false:=Zdf (by have:=HL.out.2;omega)
       by_cases h255:255<ss+(1+c)
       ·rw[if_pos h255] at hf
        have HF:=Zhd hf
        have hb4:decide ((255:Int)<(ss:Int)+(1+(c:Int)))=true:=Zdt (by omega)
        clear hf hc hc0 hc1 hms hc2 hsh ha
        go_wp2_with (go_at_call 135;refine(HG1.out _ HBY.out).mono ?_;rintro e w' ⟨rfl,rfl⟩)
        go_ret3
        rw[←HF.out]
        exact⟨⟨_,rfl,World.ownsRow_nil _ _ _ _⟩,hinv.out.2.1⟩
       ·rw[if_neg h255] at hf
        have hb4:decide ((255:Int)<(ss:Int)+(1+(c:Int)))=false:=Zdf (by omega)
        have HF:=Zhd hf
        have hlb:=HL.out.2
        obtain⟨bb,off,hbo,hcell⟩:=HBY.out.hcells (by omega)
        subst hbo
        have hne: ¬bc=sa+1:=by omega
        have hbd:sa+(1+c)≤bl:=by omega
        have hcv:(convert 22 9 (.slice (some ⟨bb,off+(sa+1),none⟩) c (bc-(sa+1)))).run Tryz.prog wr= .ok (.string (ZoL l (sa+1) c)) wr:=by
         have:=run_convert_bytes_arg (P:=Tryz.prog) wr 22 5 Tryz.underlying22 Tryz.underlying5 bb (off+(sa+1)) c (bc-(sa+1)) (((l.drop (sa+1)).take c).map fun x=>(x.toNat:Int)) (by simp;omega) (fun i hi=>by
          have h2:=hcell (sa+1+i) (by simp;omega)
          rw[show off+(sa+1)+i=off+(sa+1+i) by omega,h2]
          simp[List.getD,show i<c by omega,show sa+1+i<l.length by omega]) 9 Tryz.underlying9
         rw[this,Zcq]
         rfl
        obtain⟨x,hx⟩:∃ x,x=ZoL l (sa+1) c:=⟨_,rfl⟩
        rw[←hx] at hcv
        obtain⟨i1,g1,g2,g3,g4⟩:=info_parts ZiL
        obtain⟨v',w6,hrun,hown,hgr⟩:=Zba (P:=Tryz.prog) (wr.alloc (.cells #[.string x] 9)) w.heap.size 31 31 9 i1 _ 16 Tryz.underlying31 g1 g2 g3 g4 rfl u4 _ _ (hinv.out.1.alloc _) (some ⟨wr.heap.size,0,none⟩) 1 1 [.string x] (ZfS wr _ _) (by intro u hu;simp at hu;subst hu;rfl) (by have:=hinv.out.2.2.1;omega) (by have:=hinv.out.2.2.1;omega) (by have:=hinv.out.2.1.size;simp;omega)
        have hb6:Below w.heap.size w w6:=(hinv.out.2.1.alloc hinv.out.2.1.size _).grown hgr (by have:=hinv.out.2.1.size;simp;omega) (fun j hj=>(hinv.out.1.lt j hj).1)
        have e6:sn.map Value.string++[.string x]=(sn++[x]).map .string:=by simp
        have e7:sn.length+1=(sn++[x]).length:=by simp
        rw[e6,e7] at hown
        have HR6:=Zhd hrun
        have H6:=Zhd (Zan hown (Zan hb6 hx))
        have HGM:=Zhd hms
        clear hf hc hc0 hms hc2 hsh ha hcell hx g1 g2 g3 g4 hrun hown hgr hb6 e6 e7
        go_wp2_with (first|(go_at_call 135;refine(HG1.out _ HBY.out).mono ?_;rintro e w' ⟨rfl,rfl⟩)|(at_builtin;refine Zao rfl _ _ _ rfl _ _ rfl rfl HR6.out ?_))
        go_roundw
        case rel=>
         refine⟨⟨sn++[x],sa+(1+c),sb,ss+(1+c),sx⟩,rfl,?_,rfl,?_,by simp only;omega,by simp only;omega,h3,h4,Zhd ⟨H6.out.1,H6.out.2.1,?_,f,?_,?_⟩⟩
         ·simp only
         ·simp only
          congr 1
         ·have:=hinv.out.2.2.1
          simp
          omega
         ·have:=HF.out
          rw[H6.out.2.2]
          exact this
         ·have:=HGM.out
          simp only[msG] at this⊢
          omega
        case measure=>simp[intOf];omega
  ·rw[if_neg ha] at hf
   rw[Zo5 ha] at HG1
   have HF:=Zhd hf
   clear hf ha
   go_wp2_with (go_at_call 135;refine(HG1.out _ HBY.out).mono ?_;rintro e w' ⟨rfl,rfl⟩)
   go_ret3
   rw[←HF.out]
   exact⟨⟨_,rfl,World.ownsRow_nil _ _ _ _⟩,hinv.out.2.1⟩
def rdC (bo:Option Addr) (bl bc:Nat) (p:Nat):Array Value:=#[.slice bo bl bc,.int .i64 (p:Int)]
theorem Zio (w:World):Calls Tryz.prog 139 #[.int .i64 0] w fun e w'=>e= .returned (.tuple #[])∧w'=w:=by
 go_enter Tryz.func139,Tryz.ntmps139
 go_wp2_with fail
 go_end0
 exact⟨rfl,rfl⟩
theorem ZcG (w:World) (r:Nat) (bo:Option Addr) (bl bc:Nat) (l:List UInt8) (hl:ZbP w bo bl bc l) (p size:Nat) (n:Int) (hp:p≤1000000) (hs:1≤size) (hs7:size≤7) (hg:Zdl l p size=(n,0)) (hr:Blk w r (rdC bo bl bc p) 113):
  Calls Tryz.prog 92 #[.pointer (some ⟨r,0,none⟩),.int .i64 (size:Int)] w fun e w'=>e= .returned (.int .i64 n)∧Blk w' r (rdC bo bl bc (p+size)) 113∧w.grownBy w' (some r):=by
 have hbd:=Below.drew (Below.refl w.heap.size w)
 have hrd:=hr.on hbd
 have c0:w.drew.cell? ⟨r,0,none⟩=some (.slice bo bl bc):=hrd.cell 0
 have c1:w.drew.cell? ⟨r,1,none⟩=some (.int .i64 (p:Int)):=hrd.cell 1
 have f1:=hrd.free 1
 have hgk:=ZeC w.drew bo bl bc l (hl.below hbd Zlr) p size (by omega) hs hs7
 rw[hg] at hgk
 have HG:=Zhd hgk
 have hset:=hrd.set 1 (.int .i64 ((p+size:Nat):Int))
 have hgr:=Zag w.drew r 1 (.int .i64 ((p+size:Nat):Int))
 have HS:=Zhd (Zan hset (Zah (Zaw r hbd) hgr))
 clear hbd hrd hgk hset hgr hl hr hg hs
 go_enter Tryz.func92,Tryz.ntmps92
 go_wp2_with fail
 go_region_held3 (fun w'=>w'=w.drew)
  (first|go_keep|rfl)
  (first|(go_at_call 135;refine HG.out.mono ?_;rintro e w2 ⟨rfl,rfl⟩))
 all_goals go_split_ands
 all_goals go_wp2_with (go_at_call 139;refine(Zio _).mono ?_;rintro e w2 ⟨rfl,rfl⟩)
 all_goals go_ret
 all_goals
  have h:=HS.out
  rw[show((p+size:Nat):Int)=(p:Int)+(size:Int) by push_cast;rfl] at h
  refine⟨rfl,?_,h.2⟩
  have h1:=h.1
  simp only[rdC,Int.natCast_add] at h1⊢
  exact h1
theorem Zi4 (w:World) (S:Nat→Prop) (k:Int) (hk:wfi k) (ao:Option Addr) (n c:Nat) (ds:List Zaq) (hds:Ze9 S w ao n c ds):
  Calls Tryz.prog 104 #[.int .i64 k,.slice ao n c] w fun e w'=>e= .returned (.bool (Zbc k [] ds))∧Below w.heap.size w w':=by
 have hl:=hds.hlen
 have hle:=hds.hle
 have hmx:=hds.hmax
 have HD:=Zhd hds
 have HL:=Zhd hl
 have HK:=Zhd hk
 obtain⟨B,hB⟩:∃ B,B=Zbc k [] ds:=⟨_,rfl⟩
 rw[←hB]
 have HB:=Zhd (show B=Zbc k (ds.take 0) (ds.drop 0) from hB)
 clear hds hl hB hk
 go_enter Tryz.func104,Tryz.ntmps104
 go_wp2_with fail
 go_loopw [9,5,6] (fun i _ _ wr=>∃ j:Nat,j≤n∧i= .int .i64 j∧Hid (Below w.heap.size w wr∧B=Zbc k (ds.take j) (ds.drop j))) (fun i _ _ _=>n-(intOf i).toNat)
 case atStart=>exact⟨0,Nat.zero_le _,rfl,Below.refl _ _,HB.out⟩
 case round=>
  obtain⟨j,hj,rfl,hinv⟩:=hrel
  clear HB
  by_cases hlt:j<n
  ·obtain⟨b,off,rfl⟩:=HD.out.addr hlt
   obtain⟨h,hc,ho,_⟩:=ZcL ((HD.out.on hinv.out.1).at hlt)
   obtain⟨o,hox⟩:∃ o,o=ds[j]'(by have:=HL.out;omega):=⟨_,rfl⟩
   rw[←hox] at ho
   obtain⟨Z,hZ⟩:∃ q,q=ZaB k o:=⟨_,rfl⟩
   obtain⟨Y,hY⟩:∃ q,q=Zb5 (ds.take j) o:=⟨_,rfl⟩
   have HE:=Zhd (show B=(Z&&(!Y&&Zbc k (ds.take (j+1)) (ds.drop (j+1)))) by rw[hinv.out.2,ZgH (by have:=HL.out;omega),hZ,hY,hox])
   have hbA:Below wr.heap.size wr (wr.alloc (.cells (Zae h) 35)):=Zbr.alloc Zlr _
   have hA:Blk (wr.alloc (.cells (Zae h) 35)) wr.heap.size (Zae h) 35:=Zha wr _
   have HS:=Zhd (ZfK _ k h o (ho.on hbA))
   rw[←hZ] at HS
   have HC:=Zhd (fun w' (p:Ze9 S w' (some ⟨b,off,none⟩) j c (ds.take j)) (q:IsData w' h o) (r:Blk w' wr.heap.size (Zae h) 35)=>Zh3 w' S _ _ _ _ p h o q _ r)
   rw[←hY] at HC
   have HO:=Zhd (ho.on hbA)
   have HA:=Zhd hA
   have HB1:=Zhd (Zaa hinv.out.1 hbA Zlr)
   have HTK:=Zhd ((HD.out.on (Zaa hinv.out.1 hbA Zlr)).take (k:=j) (by omega))
   have e0:=hc 0 (by omega)
   have e1:=hc 1 (by omega)
   have e2:=hc 2 (by omega)
   have e3:=hc 3 (by omega)
   have e4:=hc 4 (by omega)
   clear hc ho hox hZ hY hbA hA
   obtain⟨ba,bl,bc,ha,hl,hc,ma,ml,mc,xa,xl,xc,ta,tl,tc⟩:=h
   simp only[Zae] at HS HC HA HO HB1 HTK
   simp[Zae,Zb0] at e0 e1 e2 e3 e4
   go_wp2_with fail
   clear e0 e1 e2 e3 e4
   refine HS.out.mono ?_
   rintro e w2 ⟨rfl,hb2⟩
   have HA2:=Zhd (HA.out.on hb2)
   have HB2:=Zhd (Zaa HB1.out hb2 Zlr)
   have HO2:=Zhd (HO.out.on hb2)
   have HT2:=Zhd (HTK.out.on hb2)
   clear hb2 HA HB1 HO HTK HS
   cases Z
   ·have HF:=Zhd (show B=false by rw[HE.out];rfl)
    go_wp2_with fail
    go_ret
    exact⟨Zaf HF.out.symm,HB2.out⟩
   have HE2:=Zhd (show B=(!Y&&Zbc k (ds.take (j+1)) (ds.drop (j+1))) by rw[HE.out];rfl)
   clear HE
   go_wp2_with fail
   refine(HC.out _ HT2.out HO2.out HA2.out).mono ?_
   rintro e w3 ⟨rfl,hb3⟩
   have HB3:=Zhd (Zaa HB2.out hb3 Zlr)
   clear hb3
   cases Y
   ·have HF:=Zhd (show B=Zbc k (ds.take (j+1)) (ds.drop (j+1)) by rw[HE2.out];rfl)
    go_wp2_with fail
    go_roundw
    case rel=>exact⟨j+1,by omega,by go_num,HB3.out,HF.out⟩
    case measure=>simp[intOf];omega
   ·have HF:=Zhd (show B=false by rw[HE2.out];rfl)
    go_wp2_with fail
    go_ret
    exact⟨Zaf HF.out.symm,HB3.out⟩
  ·obtain rfl:j=n:=by omega
   have HBE:=Zhd (show B=true by rw[hinv.out.2,List.take_of_length_le (by have:=HL.out;omega),List.drop_eq_nil_of_le (by have:=HL.out;omega)];rfl)
   clear hlt
   go_wp2_with fail
   go_ret
   exact⟨Zaf HBE.out.symm,hinv.out.1⟩
theorem ZdE (w:World) (S:Nat→Prop) (h:ZaU) (f:Zas) (hf:IsFact S w h f):
  Calls Tryz.prog 58 #[.agg (Zaj h f)] w fun e w'=>e= .returned (.bool (Zbl f))∧Below w.heap.size w w':=by
 have hb1:Below w.heap.size w (w.alloc (.cells (Zaj h f) 37)):=Zbr.alloc Zlr _
 have hA:Blk (w.alloc (.cells (Zaj h f) 37)) w.heap.size (Zaj h f) 37:=Zha w _
 have HF0:=Zhd (hf.on hb1)
 have HA0:=Zhd hA
 have HB0:=Zhd hb1
 have HY0:=Zhd (Below.refl (w.alloc (.cells (Zaj h f) 37)).heap.size (w.alloc (.cells (Zaj h f) 37)))
 have hls:=hf.set.hlen
 have hlz:=hf.zone.len
 have hsm:=hf.set.hmax
 have hsl:=hf.set.hle
 have hzm:=hf.zone.row.hmax
 obtain⟨NB,hNB⟩:∃ q,q=ZaG f.name:=⟨_,rfl⟩
 obtain⟨GB,hGB⟩:∃ q,q=Za6 f.got:=⟨_,rfl⟩
 obtain⟨TB,hTB⟩:∃ q,q=ZbW f.typ:=⟨_,rfl⟩
 obtain⟨DB,hDB⟩:∃ q,q=Zbc f.typ [] f.set:=⟨_,rfl⟩
 obtain⟨OB,hOB⟩:∃ q,q=Zir f.soa:=⟨_,rfl⟩
 obtain⟨ZB,hZB⟩:∃ q,q=ZaG f.zone:=⟨_,rfl⟩
 obtain⟨UB,hUB⟩:∃ q,q=ZhX f.name f.zone:=⟨_,rfl⟩
 obtain⟨AB,hAB⟩:∃ q,q=ZaB 6 f.soa:=⟨_,rfl⟩
 obtain⟨B,hB⟩:∃ q,q=Zbl f:=⟨_,rfl⟩
 have HNB:=Zhd (ZcQ _ _ _ _ _ HF0.out.name)
 rw[←hNB] at HNB
 have HGB:=Zhd (fun w'=>ZcI f.got w')
 rw[←hGB] at HGB
 have HTB:=Zhd (fun w'=>ZjV w' f.typ)
 rw[←hTB] at HTB
 have HDB:=Zhd (fun w' (p:Ze9 S w' h.sa h.sl h.sc f.set)=>Zi4 w' S f.typ hf.typ _ _ _ _ p)
 rw[←hDB] at HDB
 have HOB:=Zhd (fun w' (p:IsData w' h.d f.soa)=>Zpq w' _ _ p)
 rw[←hOB] at HOB
 have HZB:=Zhd (fun w' (p:Strs w' h.za h.zl h.zc f.zone)=>ZcQ w' _ _ _ _ p)
 rw[←hZB] at HZB
 have HUB:=Zhd (fun w' (p:Strs w' h.na h.nl h.nc f.name) (q:Strs w' h.za h.zl h.zc f.zone)=>ZoC w' _ _ _ _ _ _ _ _ p q)
 rw[←hUB] at HUB
 have HAB:=Zhd (fun w' (p:IsData w' h.d f.soa)=>ZfK w' 6 _ _ p)
 rw[←hAB] at HAB
 have HE0:=Zhd (show B=(NB&&(decide (1≤f.rank)&&(decide (f.rank≤4)&&(GB&&(decide (0≤f.ttl)&&(decide (f.ttl≤604800)&&(if f.kind=1 then(TB&&(decide (1≤h.sl)&&(decide (h.sl≤64)&&(DB&&(decide (h.zl=0)&&OB))))) else((decide (f.ttl≤10800)&&(decide (h.sl=0)&&(ZB&&(UB&&AB))))&&((decide (f.kind=2)&&TB)||(decide (f.kind=3)&&decide (f.typ=0))))))))))) by
  rw[hB,Zbl,Zie,ZqL,ZrS,hNB,hGB,hTB,hDB,hOB,hZB,hUB,hAB,hls,hlz]
  simp only[Bool.and_assoc])
 rw[←hB]
 clear hb1 hA hf hls hlz hB hNB hGB hTB hDB hOB hZB hUB hAB
 obtain⟨na,nl,nc,sa,sl,sc,za,zl,zc,⟨ba,bl,bc,ha,hl,hc,ma,ml,mc,xa,xl,xc,ta,tl,tc⟩⟩:=h
 simp only[Zaj] at HF0 HA0 HB0 HY0 HNB
 simp only at hsm hsl hzm HE0 HDB HOB HZB HUB HAB
 simp only[Zae] at HOB HAB
 go_enter Tryz.func58,Tryz.ntmps58
 simp only[Zaj]
 go_wp2_with fail
 refine(HNB.out).mono ?_
 rintro e w' ⟨rfl,rfl⟩
 cases NB
 ·have HF:=Zhd (show B=false by rw[HE0.out];rfl)
  go_wp2_with fail
  go_ret
  exact⟨Zaf (HF.out).symm,HB0.out⟩
 have HE1:=Zhd (show B=(decide (1≤f.rank)&&(decide (f.rank≤4)&&(GB&&(decide (0≤f.ttl)&&(decide (f.ttl≤604800)&&((if f.kind=1 then(TB&&(decide (1≤sl)&&(decide (sl≤64)&&(DB&&(decide (zl=0)&&OB))))) else((decide (f.ttl≤10800)&&(decide (sl=0)&&(ZB&&(UB&&AB))))&&((decide (f.kind=2)&&TB)||(decide (f.kind=3)&&decide (f.typ=0))))))))))) by rw[HE0.out];rfl)
 clear HE0
 by_cases h1:1≤f.rank
 case neg=>
  have d1:decide (f.rank<1)=true:=Zdt (by omega)
  have HF:=Zhd (show B=false by rw[HE1.out,Zdf h1];rfl)
  clear h1
  go_wp2_with fail
  go_ret
  exact⟨Zaf (HF.out).symm,HB0.out⟩
 have d1:decide (f.rank<1)=false:=Zdf (by omega)
 have HE2:=Zhd (show B=(decide (f.rank≤4)&&(GB&&(decide (0≤f.ttl)&&(decide (f.ttl≤604800)&&((if f.kind=1 then(TB&&(decide (1≤sl)&&(decide (sl≤64)&&(DB&&(decide (zl=0)&&OB))))) else((decide (f.ttl≤10800)&&(decide (sl=0)&&(ZB&&(UB&&AB))))&&((decide (f.kind=2)&&TB)||(decide (f.kind=3)&&decide (f.typ=0)))))))))) by rw[HE1.out,Zdt h1];rfl)
 clear HE1
 clear h1
 by_cases h2:f.rank≤4
 case neg=>
  have d2:decide (4<f.rank)=true:=Zdt (by omega)
  have HF:=Zhd (show B=false by rw[HE2.out,Zdf h2];rfl)
  clear h2
  go_wp2_with fail
  go_ret
  exact⟨Zaf (HF.out).symm,HB0.out⟩
 have d2:decide (4<f.rank)=false:=Zdf (by omega)
 have HE3:=Zhd (show B=(GB&&(decide (0≤f.ttl)&&(decide (f.ttl≤604800)&&((if f.kind=1 then(TB&&(decide (1≤sl)&&(decide (sl≤64)&&(DB&&(decide (zl=0)&&OB))))) else((decide (f.ttl≤10800)&&(decide (sl=0)&&(ZB&&(UB&&AB))))&&((decide (f.kind=2)&&TB)||(decide (f.kind=3)&&decide (f.typ=0))))))))) by rw[HE2.out,Zdt h2];rfl)
 clear HE2
 clear h2
 go_wp2_with fail
 refine(HGB.out _).mono ?_
 rintro e w' ⟨rfl,rfl⟩
 cases GB
 ·have HF:=Zhd (show B=false by rw[HE3.out];rfl)
  go_wp2_with fail
  go_ret
  exact⟨Zaf (HF.out).symm,HB0.out⟩
 have HE4:=Zhd (show B=(decide (0≤f.ttl)&&(decide (f.ttl≤604800)&&((if f.kind=1 then(TB&&(decide (1≤sl)&&(decide (sl≤64)&&(DB&&(decide (zl=0)&&OB))))) else((decide (f.ttl≤10800)&&(decide (sl=0)&&(ZB&&(UB&&AB))))&&((decide (f.kind=2)&&TB)||(decide (f.kind=3)&&decide (f.typ=0)))))))) by rw[HE3.out];rfl)
 clear HE3
 by_cases h3:0≤f.ttl
 case neg=>
  have d3:decide (f.ttl<0)=true:=Zdt (by omega)
  have HF:=Zhd (show B=false by rw[HE4.out,Zdf h3];rfl)
  clear h3
  go_wp2_with fail
  go_ret
  exact⟨Zaf (HF.out).symm,HB0.out⟩
 have d3:decide (f.ttl<0)=false:=Zdf (by omega)
 have HE5:=Zhd (show B=(decide (f.ttl≤604800)&&((if f.kind=1 then(TB&&(decide (1≤sl)&&(decide (sl≤64)&&(DB&&(decide (zl=0)&&OB))))) else((decide (f.ttl≤10800)&&(decide (sl=0)&&(ZB&&(UB&&AB))))&&((decide (f.kind=2)&&TB)||(decide (f.kind=3)&&decide (f.typ=0))))))) by rw[HE4.out,Zdt h3];rfl)
 clear HE4
 clear h3
 by_cases h4:f.ttl≤604800
 case neg=>
  have d4:decide (604800<f.ttl)=true:=Zdt (by omega)
  have HF:=Zhd (show B=false by rw[HE5.out,Zdf h4];rfl)
  clear h4
  go_wp2_with fail
  go_ret
  exact⟨Zaf (HF.out).symm,HB0.out⟩
 have d4:decide (604800<f.ttl)=false:=Zdf (by omega)
 have HE6:=Zhd (show B=((if f.kind=1 then(TB&&(decide (1≤sl)&&(decide (sl≤64)&&(DB&&(decide (zl=0)&&OB))))) else((decide (f.ttl≤10800)&&(decide (sl=0)&&(ZB&&(UB&&AB))))&&((decide (f.kind=2)&&TB)||(decide (f.kind=3)&&decide (f.typ=0)))))) by rw[HE5.out,Zdt h4];rfl)
 clear HE5
 clear h4
 by_cases hk:f.kind=1
 ·have HEa:=Zhd (show B=(TB&&(decide (1≤sl)&&(decide (sl≤64)&&(DB&&(decide (zl=0)&&OB))))) by rw[HE6.out,if_pos hk])
  have qk:(f.kind==1)=true:=by rw[hk];rfl
  clear hk HE6
  have HE0:=Zhd HEa.out
  clear HEa
  go_wp2_with fail
  refine(HTB.out _).mono ?_
  rintro e w' ⟨rfl,rfl⟩
  cases TB
  ·have HF:=Zhd (show B=false by rw[HE0.out];rfl)
   go_wp2_with fail
   go_ret
   exact⟨Zaf (HF.out).symm,HB0.out⟩
  have HE1:=Zhd (show B=(decide (1≤sl)&&(decide (sl≤64)&&(DB&&(decide (zl=0)&&(OB))))) by rw[HE0.out];rfl)
  clear HE0
  by_cases h5:1≤sl
  case neg=>
   have p1:decide ((1:Int)≤(sl:Int))=false:=Zdf (by omega)
   have HF:=Zhd (show B=false by rw[HE1.out,Zdf h5];rfl)
   clear h5
   go_wp2_with fail
   go_ret
   exact⟨Zaf (HF.out).symm,HB0.out⟩
  have p1:decide ((1:Int)≤(sl:Int))=true:=Zdt (by omega)
  have HE2:=Zhd (show B=(decide (sl≤64)&&(DB&&(decide (zl=0)&&(OB)))) by rw[HE1.out,Zdt h5];rfl)
  clear HE1
  clear h5
  by_cases h6:sl≤64
  case neg=>
   have p2:decide ((sl:Int)≤64)=false:=Zdf (by omega)
   have HF:=Zhd (show B=false by rw[HE2.out,Zdf h6];rfl)
   clear h6
   go_wp2_with fail
   go_ret
   exact⟨Zaf (HF.out).symm,HB0.out⟩
  have p2:decide ((sl:Int)≤64)=true:=Zdt (by omega)
  have HE3:=Zhd (show B=(DB&&(decide (zl=0)&&(OB))) by rw[HE2.out,Zdt h6];rfl)
  clear HE2
  clear h6
  go_wp2_with fail
  refine(HDB.out _ (HF0.out.set.on HY0.out)).mono ?_
  rintro e w2 ⟨rfl,hb⟩
  have HB1:=Zhd (Zaa HB0.out hb Zlr)
  have HY1:=Zhd (Zaa HY0.out hb Zlr)
  clear hb HB0 HY0
  have hA:=HA0.out.on HY1.out
  have c0:=hA.cell 0
  have c1:=hA.cell 1
  have c2:=hA.cell 2
  have c3:=hA.cell 3
  have c4:=hA.cell 4
  have c5:=hA.cell 5
  have c6:=hA.cell 6
  have c7:=hA.cell 7
  have c8:=hA.cell 8
  have c9:=hA.cell 9
  have c10:=hA.cell 10
  have c11:=hA.cell 11
  have c12:=hA.cell 12
  simp at c0 c1 c2 c3 c4 c5 c6 c7 c8 c9 c10 c11 c12
  clear hA
  cases DB
  ·have HF:=Zhd (show B=false by rw[HE3.out];rfl)
   go_wp2_with fail
   go_ret
   exact⟨Zaf (HF.out).symm,HB1.out⟩
  have HE4:=Zhd (show B=(decide (zl=0)&&(OB)) by rw[HE3.out];rfl)
  clear HE3
  by_cases h7:zl=0
  case neg=>
   have p3:((zl:Int)==0)=false:=by rw[beq_eq_false_iff_ne];omega
   have HF:=Zhd (show B=false by rw[HE4.out,Zdf h7];rfl)
   clear h7
   go_wp2_with fail
   go_ret
   exact⟨Zaf (HF.out).symm,HB1.out⟩
  have HE5:=Zhd (show B=(OB) by rw[HE4.out,Zdt h7];rfl)
  clear HE4
  subst h7
  go_wp2_with fail
  refine(HOB.out _ (HF0.out.soa.on HY1.out)).mono ?_
  rintro e w3 ⟨rfl,hb⟩
  have HB2:=Zhd (Zaa HB1.out hb Zlr)
  clear hb
  go_wp2_with fail
  go_ret
  exact⟨Zaf HE5.out.symm,HB2.out⟩
 ·have HEa:=Zhd (show B=(decide (f.ttl≤10800)&&(decide (sl=0)&&(ZB&&(UB&&(AB&&((decide (f.kind=2)&&TB)||(decide (f.kind=3)&&decide (f.typ=0)))))))) by rw[HE6.out,if_neg hk];simp only[Bool.and_assoc])
  have qk:(f.kind==1)=false:=by rw[beq_eq_false_iff_ne];exact hk
  clear hk HE6
  have HE0:=Zhd HEa.out
  clear HEa
  by_cases h5:f.ttl≤10800
  case neg=>
   have p1:decide (10800<f.ttl)=true:=Zdt (by omega)
   have HF:=Zhd (show B=false by rw[HE0.out,Zdf h5];rfl)
   clear h5
   go_wp2_with fail
   go_ret
   exact⟨Zaf (HF.out).symm,HB0.out⟩
  have p1:decide (10800<f.ttl)=false:=Zdf (by omega)
  have HE1:=Zhd (show B=(decide (sl=0)&&(ZB&&(UB&&(AB&&(((decide (f.kind=2)&&TB)||(decide (f.kind=3)&&decide (f.typ=0)))))))) by rw[HE0.out,Zdt h5];rfl)
  clear HE0
  clear h5
  by_cases h6:sl=0
  case neg=>
   have p2:0<sl:=by omega
   have HF:=Zhd (show B=false by rw[HE1.out,Zdf h6];rfl)
   clear h6
   go_wp2_with fail
   go_ret
   exact⟨Zaf (HF.out).symm,HB0.out⟩
  have HE2:=Zhd (show B=(ZB&&(UB&&(AB&&(((decide (f.kind=2)&&TB)||(decide (f.kind=3)&&decide (f.typ=0))))))) by rw[HE1.out,Zdt h6];rfl)
  clear HE1
  subst h6
  go_wp2_with fail
  refine(HZB.out _ HF0.out.zone).mono ?_
  rintro e w' ⟨rfl,rfl⟩
  cases ZB
  ·have HF:=Zhd (show B=false by rw[HE2.out];rfl)
   go_wp2_with fail
   go_ret
   exact⟨Zaf (HF.out).symm,HB0.out⟩
  have HE3:=Zhd (show B=(UB&&(AB&&(((decide (f.kind=2)&&TB)||(decide (f.kind=3)&&decide (f.typ=0)))))) by rw[HE2.out];rfl)
  clear HE2
  go_wp2_with fail
  refine(HUB.out _ HF0.out.name HF0.out.zone).mono ?_
  rintro e w2 ⟨rfl,hb⟩
  have HB1:=Zhd (Zaa HB0.out hb Zlr)
  have HY1:=Zhd (Zaa HY0.out hb Zlr)
  clear hb HB0 HY0
  have hA:=HA0.out.on HY1.out
  have c0:=hA.cell 0
  have c1:=hA.cell 1
  have c2:=hA.cell 2
  have c3:=hA.cell 3
  have c4:=hA.cell 4
  have c5:=hA.cell 5
  have c6:=hA.cell 6
  have c7:=hA.cell 7
  have c8:=hA.cell 8
  have c9:=hA.cell 9
  have c10:=hA.cell 10
  have c11:=hA.cell 11
  have c12:=hA.cell 12
  simp at c0 c1 c2 c3 c4 c5 c6 c7 c8 c9 c10 c11 c12
  clear hA
  cases UB
  ·have HF:=Zhd (show B=false by rw[HE3.out];rfl)
   go_wp2_with fail
   go_ret
   exact⟨Zaf (HF.out).symm,HB1.out⟩
  have HE4:=Zhd (show B=(AB&&(((decide (f.kind=2)&&TB)||(decide (f.kind=3)&&decide (f.typ=0))))) by rw[HE3.out];rfl)
  clear HE3
  go_wp2_with fail
  refine(HAB.out _ (HF0.out.soa.on HY1.out)).mono ?_
  rintro e w3 ⟨rfl,hb⟩
  have HB2:=Zhd (Zaa HB1.out hb Zlr)
  have HY2:=Zhd (Zaa HY1.out hb Zlr)
  clear hb HB1 HY1
  clear c0 c1 c2 c3 c4 c5 c6 c7 c8 c9 c10 c11 c12
  have hA:=HA0.out.on HY2.out
  have c0:=hA.cell 0
  have c1:=hA.cell 1
  have c2:=hA.cell 2
  have c3:=hA.cell 3
  have c4:=hA.cell 4
  have c5:=hA.cell 5
  have c6:=hA.cell 6
  have c7:=hA.cell 7
  have c8:=hA.cell 8
  have c9:=hA.cell 9
  have c10:=hA.cell 10
  have c11:=hA.cell 11
  have c12:=hA.cell 12
  simp at c0 c1 c2 c3 c4 c5 c6 c7 c8 c9 c10 c11 c12
  clear hA
  cases AB
  ·have HF:=Zhd (show B=false by rw[HE4.out];rfl)
   go_wp2_with fail
   go_ret
   exact⟨Zaf (HF.out).symm,HB2.out⟩
  have HE5:=Zhd (show B=(((decide (f.kind=2)&&TB)||(decide (f.kind=3)&&decide (f.typ=0)))) by rw[HE4.out];rfl)
  clear HE4
  by_cases hk2:f.kind=2
  ·have q2:(f.kind==2)=true:=by rw[hk2];rfl
   have q3:(f.kind==3)=false:=by rw[hk2];rfl
   have HG:=Zhd (show B=TB by rw[HE5.out,Zdt hk2,Zdf (show¬f.kind=3 by omega)];cases TB<;>rfl)
   clear hk2 HE5 qk
   go_wp2_with fail
   refine(HTB.out _).mono ?_
   rintro e w' ⟨rfl,rfl⟩
   cases TB
   all_goals
    go_wp2_with fail
    go_ret
    exact⟨Zaf HG.out.symm,HB2.out⟩
  ·have q2:(f.kind==2)=false:=by rw[beq_eq_false_iff_ne];exact hk2
   by_cases hk3:f.kind=3
   ·have q3:(f.kind==3)=true:=by rw[hk3];rfl
    have HG:=Zhd (show B=(f.typ==0) by
     rw[HE5.out,Zdt hk3,Zdf hk2,Bool.eq_iff_iff,beq_iff_eq]
     simp)
    clear hk2 hk3 HE5 qk
    go_wp2_with fail
    go_ret
    exact⟨Zaf HG.out.symm,HB2.out⟩
   ·have q3:(f.kind==3)=false:=by rw[beq_eq_false_iff_ne];exact hk3
    have HG:=Zhd (show B=false by
     rw[HE5.out,Zdf hk3,Zdf hk2]
     rfl)
    clear hk2 hk3 HE5 qk
    go_wp2_with fail
    go_ret
    exact⟨Zaf HG.out.symm,HB2.out⟩
noncomputable abbrev intR:Value→Option (DataW Unit×List MemPlace):=plainElem Tryz.prog 3
def ZmA (R:List (List UInt8×Nat)) (key:List UInt8):Option Nat:=(R.find? fun x=>decide (x.1=key)).map (·.2)
def MapI (w:World) (M:Nat) (R:List (List UInt8×Nat)):Prop:=
 ∃ D,w.ownsMap Tryz.prog 9 intR M R.length D∧∀ key z,D.atKey (.string key) z=(match ZmA R key with|some v=> .lit (.int .i64 (v:Int))|none=>z)
theorem MapI.lt {w:World} {M:Nat} {R:List (List UInt8×Nat)} (h:MapI w M R):M<w.heap.size:=by
 obtain⟨D,h1,_⟩:=h
 exact h1.lt
theorem MapI.keep {w w':World} {M:Nat} {R:List (List UInt8×Nat)} (h:MapI w M R) (hb:w'.heap[M]?=w.heap[M]?):MapI w' M R:=by
 obtain⟨D,⟨es,clock,h1,h2⟩,r⟩:=h
 exact⟨D,⟨es,clock,hb.trans h1,h2⟩,r⟩
theorem MapI.on {w w':World} {M:Nat} {R:List (List UInt8×Nat)} (h:MapI w M R) (hb:Below w.heap.size w w'):MapI w' M R:=h.keep (hb.block M h.lt)
theorem MapI.map {w:World} {M:Nat} {R:List (List UInt8×Nat)} (h:MapI w M R):∃ es c,w.heap[M]?=some (.map es c):=by
 obtain⟨D,⟨es,clock,h1,h2⟩,r⟩:=h
 exact⟨es,clock,h1⟩
theorem MapI.only {S:List TypeId} {B:Nat} {w w':World} {M:Nat} {R:List (List UInt8×Nat)} (h:MapI w M R) (ho:Only S B w w'):MapI w' M R:=by
 obtain⟨es,c,e⟩:=h.map
 exact h.keep (ho.keep M h.lt fun ht=>by
  obtain⟨cs,t,e2,_⟩:=ht
  rw[e] at e2
  cases e2)
theorem MapI.ne {w:World} {b M:Nat} {cs:Array Value} {T:TypeId} {R:List (List UInt8×Nat)} (h:MapI w M R) (hb:Blk w b cs T):b≠M:=by
 rintro rfl
 obtain⟨es,c,e⟩:=h.map
 rw[show w.heap[b]?=_ from hb] at e
 cases e
theorem MapI.fresh {w:World} {M:Nat} (h:w.heap[M]?=some (.map #[] 0)):MapI w M []:=
 ⟨.map [],⟨#[],0,h,⟨by simp,Go.MapKept.stamped_empty 0,by simp⟩,Nat.le_refl _,rfl⟩,fun _ _=>rfl⟩
theorem Zq3 (w:World):(zeroValue 3).run Tryz.prog w= .ok (.int .i64 0) w:=by kernel_rfl
theorem MapI.look {w:World} {M:Nat} {R:List (List UInt8×Nat)} (h:MapI w M R) {key:List UInt8} (hk:key.length≤4611686018427387904):
  (Instr.lookup 203 (.map (some M)) (.string ⟨key.toArray⟩) true).run Tryz.prog w= .ok (match ZmA R key with|some v=> .tuple #[.int .i64 (v:Int),.bool true]|none=> .tuple #[.int .i64 0,.bool false]) w:=by
 obtain⟨D,h1,h4⟩:=h
 have hz:intR (.int .i64 0)=some (.lit (.int .i64 0),[]):=plainElem_int Tryz.underlying3 (by decide)
 obtain⟨v,ps,hrun,hv⟩:=h1.look_ok Zj2 Tryz.underlying203 (Zq3 w) hz (Zga hk)
 rw[hrun]
 obtain⟨c,rfl,hc,hwc⟩:=plainElem_int_inv Tryz.underlying3 hv
 have h5:=h4 key
 rw[h4] at hc
 simp only[Prod.mk.injEq] at hc
 cases hat:ZmA R key with
 |none=>
  rw[hat] at hc h5
  have e:(0:Int)=c:=by have:=hc.1;simpa using this
  rw[←e,Maps.has_false_of_atKey h5]
 |some s=>
  rw[hat] at hc h5
  have e:(s:Int)=c:=by have:=hc.1;simpa using this
  rw[←e,Maps.has_true_of_atKey h5]
theorem Znu (R:List (List UInt8×Nat)) (k key:List UInt8) (v:Nat):ZmA ((k,v)::R) key=if key=k then some v else ZmA R key:=by
 unfold ZmA
 by_cases h:key=k
 ·subst h;simp
 ·rw[if_neg h,List.find?_cons_of_neg (by simp;exact fun e=>h e.symm)]
theorem MapI.store {w:World} {M:Nat} {R:List (List UInt8×Nat)} (h:MapI w M R) {key:List UInt8} (hk:key.length≤4611686018427387904) (v:Nat) (hv:v≤1000000000) (hR:R.length≤1000000000):
  ∃ w',(Instr.mapUpdate 203 (.map (some M)) (.string ⟨key.toArray⟩) (.int .i64 (v:Int))).run Tryz.prog w= .ok () w'∧MapI w' M ((key,v)::R)∧w.grownBy w' (some M):=by
 obtain⟨D,h1,h4⟩:=h
 have hw:(Lit.int .i64 (v:Int)).wf=true:=by simp[Lit.wf,IntKind.min,IntKind.max,IntKind.bits,IntKind.signed];omega
 obtain⟨w',hrun,hown,hg⟩:=h1.update Zj2 Tryz.underlying203 (by unfold maxLen;omega) (Zga hk) (val:= .int .i64 (v:Int)) (plainElem_int Tryz.underlying3 hw)
 refine⟨w',hrun,⟨_,hown,fun k2 z=>?_⟩,hg⟩
 rw[Znu]
 by_cases hkk:k2=key
 ·subst hkk
  rw[if_pos rfl,Maps.atKey_put_same h1.isMap (Zj2.key (Zga hk))]
 ·rw[if_neg hkk,Maps.atKey_put_other (by intro e;cases e;exact hkk rfl),h4]
def nameW (short:Bool):List ByteArray→List (List UInt8×Nat)→List UInt8→List (List UInt8×Nat)×List UInt8
 |[],R,b=>(R,b++Za1 0 1)
 |l::ls,R,b=>
  match ZmA R (Zb4 (l::ls)) with
  |some at'=>if short then(R,b++Za1 ((49152+at':Nat):Int) 2) else nameW short ls R ((b++Za1 (l.size:Int) 1)++l.data.toList)
  |none=>nameW short ls (if b.length<16384 then(Zb4 (l::ls),b.length)::R else R) ((b++Za1 (l.size:Int) 1)++l.data.toList)
def lowR (R:List (List UInt8×Nat)):Prop:=∀ x∈R,x.2<16384
theorem lowR.get {R:List (List UInt8×Nat)} (h:lowR R) {k:List UInt8} {v:Nat} (e:ZmA R k=some v):v<16384:=by
 unfold ZmA at e
 obtain⟨x,hx,rfl⟩:=Option.map_eq_some_iff.1 e
 exact h x (List.mem_of_find?_eq_some hx)
theorem Zrz {v:Nat} (h:v<16384):bits BinOp.or IntKind.i64 49152 (v:Int)=((49152+v:Nat):Int):=by
 have:=ZhN 49152 v (by omega) (by omega)
 rw[show((49152:Nat):Int)=49152 from rfl] at this
 rw[this,nat_join 14 49152 v (by decide) (by omega)]
structure IsWR (N:Nat) (w:World) (R M:Nat) (b:List UInt8) (rs:List (List UInt8×Nat)):Prop where
 iw:IsW N w R M b
 m:MapI w M rs
 base:N≤M
 low:lowR rs
 cnt:rs.length≤1000000
theorem IsWR.on {N:Nat} {w w':World} {R M:Nat} {b:List UInt8} {rs:List (List UInt8×Nat)} (h:IsWR N w R M b rs) (hb:Below w.heap.size w w'):IsWR N w' R M b rs:=⟨h.iw.on hb,h.m.on hb,h.base,h.low,h.cnt⟩
structure OnlyM (S:List TypeId) (B M:Nat) (w w':World):Prop where
 bel:Below B w w'
 keep:∀ b,b<w.heap.size→¬Zak S w b→b≠M→w'.heap[b]?=w.heap[b]?
theorem OnlyM.refl (S:List TypeId) (B M:Nat) (w:World):OnlyM S B M w w:=⟨Below.refl _ _,fun _ _ _ _=>rfl⟩
theorem OnlyM.of {S:List TypeId} {B M:Nat} {w w':World} (h:Only S B w w'):OnlyM S B M w w':=⟨h.bel,fun b hb hn _=>h.keep b hb hn⟩
theorem OnlyM.below {S:List TypeId} {B M:Nat} {w w':World} (h:Below w.heap.size w w') (hB:B≤w.heap.size):OnlyM S B M w w':= .of (Only.below h hB)
theorem OnlyM.put {S:List TypeId} {B M:Nat} {w w':World} (h:w.grownBy w' (some M)) (hB:B≤M) (hw:B≤w.heap.size):OnlyM S B M w w':=⟨Zam h hB hw,fun b hb _ hm=>h.block b hb (fun e=>hm (Zsi e))⟩
theorem OnlyM.trans {S:List TypeId} {B M:Nat} {a b c:World} (h:OnlyM S B M a b) (k:OnlyM S B M b c):OnlyM S B M a c:=
 ⟨h.bel.trans k.bel,fun x hx hn hm=>by
  have e:=h.keep x hx hn hm
  have hl:x<b.heap.size:=by have:=h.bel.size;omega
  rw[k.keep x hl (fun ht=>hn (by obtain⟨cs,t,h1,h2⟩:=ht;exact⟨cs,t,e▸h1,h2⟩)) hm,e]⟩
theorem OnlyM.same {S:List TypeId} {B M:Nat} {w w':World} (h:OnlyM S B M w w'):Same (fun b=>b<B∨(¬Zak S w b∧b≠M)) w w':=fun b hb hs=>hs.elim (h.bel.block b) (fun k=>h.keep b hb k.1 k.2)
theorem OnlyM.blk {S:List TypeId} {B M:Nat} {w w':World} (h:OnlyM S B M w w') {g:Nat} {cs:Array Value} {T:TypeId} (hb:Blk w g cs T) (hT:T∉S) (hm:g≠M):Blk w' g cs T:=by
 unfold Blk at hb⊢
 rw[h.keep g (Array.getElem?_eq_some_iff.1 hb).1 (fun ⟨cs',t,h1,h2⟩=>by rw[hb] at h1;cases h1;exact hT h2) hm,hb]
theorem IsW.map {N:Nat} {w w':World} {R M:Nat} {b:List UInt8} (h:IsW N w R M b) {rs:List (List UInt8×Nat)} (hM:MapI w M rs) (hg:w.grownBy w' (some M)):IsW N w' R M b:=by
 obtain⟨v,h1,h2⟩:=h.ex
 refine⟨⟨v,h1.but hg (hM.ne h1),h2.kept hg ?_⟩,h.base⟩
 cases hv:v.ownBlock with
 |none=>exact .inl rfl
 |some k=>
  right
  intro e2
  obtain⟨cs2,h3,_⟩:=Zfu h2 hv
  exact hM.ne h3 (Zsi e2)
theorem IsW.mcell {N:Nat} {w:World} {R M:Nat} {b:List UInt8} (h:IsW N w R M b):w.cell? ⟨R,1,none⟩=some (.map (some M)):=by
 obtain⟨v,h1,_⟩:=h.ex
 exact h1.cell 1
theorem IsW.bcell {N:Nat} {w:World} {R M:Nat} {b:List UInt8} (h:IsW N w R M b):∃ ao c,w.cell? ⟨R,0,none⟩=some (.slice ao b.length c)∧∀ w':World,Below w.heap.size w w'→w'.cell? ⟨R,0,none⟩=some (.slice ao b.length c):=by
 obtain⟨v,h1,h2⟩:=h.ex
 rcases h2.2 with⟨rfl,e⟩|⟨g,cap,cur,rfl,_⟩
 ·rw[e]
  exact⟨none,0,h1.cell 0,fun w' hb=>(h1.on hb).cell 0⟩
 ·exact⟨_,cap,h1.cell 0,fun w' hb=>(h1.on hb).cell 0⟩
theorem Zia {n:Nat} (h:n<256):Za2 (n:Int) 1=true:=by
 simp[Za2]
 omega
theorem Zfc {w:World} {B n c:Nat} {l:List UInt8} (h:ByteRow w B l) (hn:l.length=n) (h1:n≤c) (h2:c≤9223372036854775807) (h3:n≤140737488355328):ZbP w (some ⟨B,0,none⟩) n c l:=by
 refine⟨by simpa using hn,h1,h2,h3,fun e=>(by cases e),fun _=>⟨B,0,rfl,fun i hi=>?_⟩⟩
 rw[Nat.zero_add,h.cell (by simpa using hi)]
 simp
theorem ZcX (x:ByteArray):x.data.toList.length=x.size:=by
 rw[Array.length_toList]
 rfl
theorem ZaS {ss:List ByteArray} (h:ZaG ss=true):Za0 ss≤255∧∀ l∈ss,l.size≤63:=by
 simp only[ZaG,Zae2,Zde,Bool.not_eq_true',List.any_eq_false] at h
 refine⟨by omega,fun l hl=>?_⟩
 have:=h.2.1 l hl
 simp only[Zgf,Bool.or_eq_true,not_or,Zde] at this
 omega
theorem Zcb (w:World) (N R M:Nat) (b:List UInt8) (rs:List (List UInt8×Nat)) (hW:IsWR N w R M b rs) (ao:Option Addr) (len cap:Nat) (ss:List ByteArray) (hs:Strs w ao len cap ss) (hso:ZaG ss=true) (hni:rowIn (fun b=>b<N∨¬Zak wrT w b) ao len) (short:Bool) (hb:b.length≤90000000) (hr:rs.length≤900000):
  Calls Tryz.prog 100 #[.pointer (some ⟨R,0,none⟩),.slice ao len cap,.bool short] w fun e w'=>e= .returned (.int .i64 0)∧IsWR N w' R M (nameW short ss rs b).2 (nameW short ss rs b).1∧OnlyM wrT N M w w':=by
 have HS:=Zhd (ZcQ w ao len cap ss hs)
 rw[hso] at HS
 have hlen:ss.length=len:=by have:=hs.row.hlen;simpa using this
 have hcap:=hs.row.hcap
 have hle:=hs.row.hle
 have hz:=ZaS hso
 have hl255:len≤255:=by have:=Zbk ss;omega
 have hni2:rowIn (fun b=>b<N∨(¬Zak wrT w b∧b≠M)) ao len:=fun h0 a ha=>by
  refine(hni h0 a ha).imp id (fun hn=>⟨hn,?_⟩)
  obtain⟨bb,off,e,hc⟩:=hs.row.hcells h0
  rw[ha] at e
  cases e
  rintro rfl
  have c0:=hc 0 (by simpa [hlen] using h0)
  obtain⟨es,c,e⟩:=hW.m.map
  unfold World.cell? at c0
  rw[e] at c0
  simp at c0
 have HA:=Zhd (Zan hs (Zan hlen (Zan hz (Zan hni2 (Zan hb (Zan hr (Zan hW.iw.lt hW.base)))))))
 have HW:=Zhd hW
 clear hs hlen hz hni hni2 hb hr hW hso
 go_enter Tryz.func100,Tryz.ntmps100
 go_wp2_with (go_at_call 96;refine HS.out.mono ?_;rintro e w ⟨rfl,rfl⟩)
 go_loopw [7,8,9,10,11,21] (fun _ _ _ _ _ i wr=>∃ k:Nat,k≤len∧i= .int .i64 (k:Int)∧∃ rk bk,Hid (IsWR N wr R M bk rk∧OnlyM wrT N M w wr∧nameW short (ss.drop k) rk bk=nameW short ss rs b∧bk.length≤b.length+Za0 (ss.take k)∧rk.length≤rs.length+k)) (fun _ _ _ _ _ i _=>len-(intOf i).toNat)
 case atStart=>exact⟨0,Nat.zero_le _,rfl,rs,b,Zhd ⟨HW.out,OnlyM.refl _ _ _ _,rfl,by simp,by simp⟩⟩
 case round=>
  obtain⟨k,hk,rfl,rk,bk,hinv⟩:=hrel
  have hbk:bk.length≤90000300:=by have:=hinv.out.2.2.2.1;have:=Zcn ss k;have:=HA.out.2.2.1.1;have:=HA.out.2.2.2.2.1;omega
  have HBK:=Zhd hbk
  by_cases hlt:k<len
  ·have hkx:k<ss.length:=by rw[HA.out.2.1];exact hlt
   have hsw:=HA.out.1.keep HA.out.2.2.2.1 hinv.out.2.1.same
   obtain⟨bb,off,rfl,hc⟩:=hsw.row.hcells (by omega)
   have c0:wr.cell? ⟨bb,off+k,none⟩=some (.string ss[k]):=by have:=hc k (by simpa using hkx);simpa using this
   have hck: ¬cap=k:=by omega
   have hdrop:ss.drop k=ss[k]::ss.drop (k+1):=List.drop_eq_getElem_cons hkx
   have hn:=hinv.out.2.2.1
   rw[hdrop,nameW] at hn
   have hcut:=hsw.cut (k:=k) (by omega)
   rw[hdrop] at hcut
   simp only[Option.map_some,ZbB] at hcut
   obtain⟨x,hx⟩:∃ x,x=ss[k]:=⟨_,rfl⟩
   rw[←hx] at c0 hn hcut
   obtain⟨ks,hks⟩:∃ q,q=Zb4 (x::ss.drop (k+1)):=⟨_,rfl⟩
   rw[←hks] at hn
   have hsz1:Za0 (x::ss.drop (k+1))≤255:=by
    rw[hx,←hdrop]
    have h1:=Zer (ss.take k) (ss.drop k)
    rw[List.take_append_drop] at h1
    have:=HA.out.2.2.1.1
    omega
   have hkl:ks.length≤255:=by rw[hks,ZjB];exact hsz1
   have hx63:x.size≤63:=by rw[hx];exact HA.out.2.2.1.2 _ (List.getElem_mem hkx)
   have hst:Za0 (ss.take (k+1))=Za0 (ss.take k)+(x.size+1):=by rw[Zco _ _ hkx,hx]
   have HRE:=Zhd (ZpH wr _ _ _ (x::ss.drop (k+1)) hcut (by omega))
   rw[←hks] at HRE
   have HX:=Zhd (Zan hn (Zan hkl (Zan hx63 hst)))
   clear hc hdrop hn hcut hx hks hsz1 hkl hx63 hst hsw hkx
   clear hk hcap hle hbk
   cases hg:ZmA rk ks with
   |some v=>
    rw[hg] at HX
    have hv:=hinv.out.1.low.get hg
    have HV:=Zhd (Zan hg hv)
    cases short
    ·simp only[Bool.false_eq_true,if_false] at HX
     clear hg hv
     go_wp2_with (first|(go_at_call 147;refine HRE.out.mono ?_;rintro e W2 ⟨rfl,hb2⟩;have hm2:=(hinv.out.1.m.on hb2).look (key:=ks) (by have:=HX.out.2.1;omega);rw[HV.out.1] at hm2;have c1:W2.cell? ⟨R,1,none⟩=some (.map (some M)):=(hinv.out.1.iw.on hb2).mcell;have H2:=Zhd hb2;clear hb2)|(go_at_call 98;refine(Zbz W2 N R M bk (hinv.out.1.iw.on H2.out) (x.size:Int) 1 (by omega) (by omega) (Zia (by have:=HX.out.2.2.1;omega)) (by have:=HBK.out;omega)).mono ?_;rintro e W3 ⟨rfl,hw3,ho3⟩;obtain⟨xc,W4,hcv,hx1,hx2,hx3,hx4,hx5⟩:=Zc1 (P:=Tryz.prog) W3 9 22 5 x Tryz.underlying9 Tryz.underlying22 Tryz.underlying5 (by have:=HX.out.2.2.1;omega);have H3:=Zhd (Zan (hw3.on hx3) (Zan ho3 (Zan hx3 (Zfc hx5 (ZcX x) hx1 hx2 (by have:=HX.out.2.2.1;omega)))));clear hw3 ho3 hx1 hx2 hx3 hx4 hx5)|(go_at_call 145;refine(ZdY W4 N R M _ H3.out.1 _ x.size xc x.data.toList H3.out.2.2.2 (by rw[Zla,Zap];have:=HBK.out;have:=HX.out.2.2.1;omega)).mono ?_;rintro e W5 ⟨rfl,hw5,ho5⟩;have H5:=Zhd (Zan hw5 ho5);clear hw5 ho5 hcv))
     go_roundw
     case rel=>
      have z2:=H2.out.size
      have z3:=H3.out.2.1.bel.size
      have z4:=HA.out.2.2.2.2.2.2.1
      refine⟨k+1,by omega,by go_num,rk,_,Zhd ⟨⟨H5.out.1,((((hinv.out.1.m.on H2.out).only H3.out.2.1).on H3.out.2.2.1).only H5.out.2),hinv.out.1.base,hinv.out.1.low,hinv.out.1.cnt⟩,((hinv.out.2.1.trans (.below H2.out (by have:=hinv.out.2.1.bel.size;omega))).trans (.of (H3.out.2.1.trans ((Only.below H3.out.2.2.1 (by have:=hinv.out.2.1.bel.size;omega)).trans H5.out.2)))),HX.out.1,?_,(by have:=hinv.out.2.2.2.2;omega)⟩⟩
      rw[Zla,Zla,Zap]
      have:=hinv.out.2.2.2.1
      have:=HX.out.2.2.2
      have e:=ZcX x
      omega
     case measure=>simp[intOf];omega
    ·simp only[if_true] at HX
     have hor:bits BinOp.or IntKind.i64 49152 (v:Int)=49152+(v:Int):=by rw[Zrz hv];simp
     have hf:Za2 (49152+(v:Int)) 2=true:=by simp[Za2];omega
     have HF:=Zhd hf
     clear hg hv hf
     go_wp2_with (first|(go_at_call 147;refine HRE.out.mono ?_;rintro e W2 ⟨rfl,hb2⟩;have hm2:=(hinv.out.1.m.on hb2).look (key:=ks) (by have:=HX.out.2.1;omega);rw[HV.out.1] at hm2;have c1:W2.cell? ⟨R,1,none⟩=some (.map (some M)):=(hinv.out.1.iw.on hb2).mcell;have H2:=Zhd hb2;clear hb2)|(go_at_call 98;refine(Zbz W2 N R M bk (hinv.out.1.iw.on H2.out) (49152+(v:Int)) 2 (by omega) (by omega) HF.out (by have:=HBK.out;omega)).mono ?_;rintro e W3 ⟨rfl,hw3,ho3⟩;have H3:=Zhd (Zan hw3 ho3);clear hw3 ho3))
     go_ret
     rw[←HX.out.1]
     exact⟨rfl,⟨by simpa using H3.out.1,(hinv.out.1.m.on H2.out).only H3.out.2,hinv.out.1.base,hinv.out.1.low,hinv.out.1.cnt⟩,(hinv.out.2.1.trans (.below H2.out (by have:=hinv.out.2.1.bel.size;have:=HA.out.2.2.2.2.2.2.1;omega))).trans (.of H3.out.2)⟩
   |none=>
    rw[hg] at HX
    have HV:=Zhd hg
    obtain⟨bo,bc,hbc,hbcw⟩:=hinv.out.1.iw.bcell
    have HBC:=Zhd hbcw
    clear hg hbc hbcw
    cases hlow:decide ((bk.length:Int)<16384)
    ·have HX2:=Zhd (show nameW short (ss.drop (k+1)) rk ((bk++Za1 (x.size:Int) 1)++x.data.toList)=nameW short ss rs b from by
      have h:=HX.out.1
      have hn: ¬bk.length<16384:=by have:=of_decide_eq_false hlow;omega
      rw[if_neg hn] at h
      exact h)
     go_wp2_with (first|(go_at_call 147;refine HRE.out.mono ?_;rintro e W2 ⟨rfl,hb2⟩;have hm2:=(hinv.out.1.m.on hb2).look (key:=ks) (by have:=HX.out.2.1;omega);rw[HV.out] at hm2;have c1:W2.cell? ⟨R,1,none⟩=some (.map (some M)):=(hinv.out.1.iw.on hb2).mcell;have c0w:=HBC.out W2 hb2;have H2:=Zhd hb2;clear hb2)|(go_at_call 98;refine(Zbz W2 N R M bk (hinv.out.1.iw.on H2.out) (x.size:Int) 1 (by omega) (by omega) (Zia (by have:=HX.out.2.2.1;omega)) (by have:=HBK.out;omega)).mono ?_;rintro e W3 ⟨rfl,hw3,ho3⟩;obtain⟨xc,W4,hcv,hx1,hx2,hx3,hx4,hx5⟩:=Zc1 (P:=Tryz.prog) W3 9 22 5 x Tryz.underlying9 Tryz.underlying22 Tryz.underlying5 (by have:=HX.out.2.2.1;omega);have H3:=Zhd (Zan (hw3.on hx3) (Zan ho3 (Zan hx3 (Zfc hx5 (ZcX x) hx1 hx2 (by have:=HX.out.2.2.1;omega)))));clear hw3 ho3 hx1 hx2 hx3 hx4 hx5)|(go_at_call 145;refine(ZdY W4 N R M _ H3.out.1 _ x.size xc x.data.toList H3.out.2.2.2 (by rw[Zla,Zap];have:=HBK.out;have:=HX.out.2.2.1;omega)).mono ?_;rintro e W5 ⟨rfl,hw5,ho5⟩;have H5:=Zhd (Zan hw5 ho5);clear hw5 ho5 hcv))
     go_roundw
     case rel=>
      have z2:=H2.out.size
      have z3:=H3.out.2.1.bel.size
      have z4:=HA.out.2.2.2.2.2.2.1
      refine⟨k+1,by omega,by go_num,rk,_,Zhd ⟨⟨H5.out.1,((((hinv.out.1.m.on H2.out).only H3.out.2.1).on H3.out.2.2.1).only H5.out.2),hinv.out.1.base,hinv.out.1.low,hinv.out.1.cnt⟩,((hinv.out.2.1.trans (.below H2.out (by have:=hinv.out.2.1.bel.size;omega))).trans (.of (H3.out.2.1.trans ((Only.below H3.out.2.2.1 (by have:=hinv.out.2.1.bel.size;omega)).trans H5.out.2)))),HX2.out,?_,(by have:=hinv.out.2.2.2.2;omega)⟩⟩
      rw[Zla,Zla,Zap]
      have:=hinv.out.2.2.2.1
      have:=HX.out.2.2.2
      have e:=ZcX x
      omega
     case measure=>simp[intOf];omega
    ·have hn:bk.length<16384:=by have:=of_decide_eq_true hlow;omega
     have HX2:=Zhd (show nameW short (ss.drop (k+1)) ((ks,bk.length)::rk) ((bk++Za1 (x.size:Int) 1)++x.data.toList)=nameW short ss rs b from by
      have h:=HX.out.1
      rw[if_pos hn] at h
      exact h)
     have HLO:=Zhd hn
     clear hn
     go_wp2_with (go_at_call 147;refine HRE.out.mono ?_;rintro e W2 ⟨rfl,hb2⟩;have hm2:=(hinv.out.1.m.on hb2).look (key:=ks) (by have:=HX.out.2.1;omega);rw[HV.out] at hm2;have c1:W2.cell? ⟨R,1,none⟩=some (.map (some M)):=(hinv.out.1.iw.on hb2).mcell;have c0w:=HBC.out W2 hb2;have H2:=Zhd hb2;clear hb2)
     have hbd:Below W2.heap.size W2 W2.drew:=Below.drew Zbr
     obtain⟨W6,hup,hm6,hg6⟩:=(hinv.out.1.m.on (Zaa H2.out hbd Zlr)).store (key:=ks) (by have:=HX.out.2.1;omega) bk.length (by have:=HBK.out;omega) (by have:=hinv.out.1.cnt;omega)
     have hi6:=((hinv.out.1.iw.on H2.out).on hbd).map ((hinv.out.1.m.on H2.out).on hbd) hg6
     have H6:=Zhd (Zan hi6 (Zan hm6 (Zan hbd hg6)))
     clear hbd hm6 hg6 hi6
     go_region
     all_goals go_split_ands
     go_wp2_with (first|(go_at_call 98;refine(Zbz W6 N R M bk H6.out.1 (x.size:Int) 1 (by omega) (by omega) (Zia (by have:=HX.out.2.2.1;omega)) (by have:=HBK.out;omega)).mono ?_;rintro e W3 ⟨rfl,hw3,ho3⟩;obtain⟨xc,W4,hcv,hx1,hx2,hx3,hx4,hx5⟩:=Zc1 (P:=Tryz.prog) W3 9 22 5 x Tryz.underlying9 Tryz.underlying22 Tryz.underlying5 (by have:=HX.out.2.2.1;omega);have H3:=Zhd (Zan (hw3.on hx3) (Zan ho3 (Zan hx3 (Zfc hx5 (ZcX x) hx1 hx2 (by have:=HX.out.2.2.1;omega)))));clear hw3 ho3 hx1 hx2 hx3 hx4 hx5)|(go_at_call 145;refine(ZdY W4 N R M _ H3.out.1 _ x.size xc x.data.toList H3.out.2.2.2 (by rw[Zla,Zap];have:=HBK.out;have:=HX.out.2.2.1;omega)).mono ?_;rintro e W5 ⟨rfl,hw5,ho5⟩;have H5:=Zhd (Zan hw5 ho5);clear hw5 ho5 hcv))
     go_roundw
     case rel=>
      have z2:=H2.out.size
      have z3:=H3.out.2.1.bel.size
      have z5:=H6.out.2.2.1.size
      have z6:=H6.out.2.2.2.size
      have z4:=HA.out.2.2.2.2.2.2.1
      refine⟨k+1,by omega,by go_num,(ks,bk.length)::rk,_,Zhd ⟨⟨H5.out.1,(((H6.out.2.1.only H3.out.2.1).on H3.out.2.2.1).only H5.out.2),hinv.out.1.base,(fun y hy=>by rcases List.mem_cons.1 hy with rfl|hy;exact HLO.out;exact hinv.out.1.low y hy),(by have:=hinv.out.2.2.2.2;have:=HA.out.2.2.2.2.2.1;simp;omega)⟩,((((hinv.out.2.1.trans (.below H2.out (by have:=hinv.out.2.1.bel.size;omega))).trans (.below H6.out.2.2.1 (by have:=hinv.out.2.1.bel.size;have:=H2.out.size;omega))).trans (.put H6.out.2.2.2 hinv.out.1.base (by have:=hinv.out.2.1.bel.size;have:=H2.out.size;have:=H6.out.2.2.1.size;omega))).trans (.of (H3.out.2.1.trans ((Only.below H3.out.2.2.1 (by have:=hinv.out.2.1.bel.size;omega)).trans H5.out.2)))),HX2.out,?_,(by have:=hinv.out.2.2.2.2;simp;omega)⟩⟩
      rw[Zla,Zla,Zap]
      have:=hinv.out.2.2.2.1
      have:=HX.out.2.2.2
      have e:=ZcX x
      omega
     case measure=>simp[intOf];omega
  ·have hkl:k=ss.length:=by rw[HA.out.2.1];omega
   have hn0:=hinv.out.2.2.1
   rw[hkl,List.drop_length,nameW] at hn0
   have HN:=Zhd (Zbz wr N R M bk hinv.out.1.iw 0 1 (by omega) (by omega) (by decide) (by omega))
   have H0:=Zhd hn0
   clear hn0 hkl hbk
   go_wp2_with (go_at_call 98;refine HN.out.mono ?_;rintro e W2 ⟨rfl,hw2,ho2⟩;have H2:=Zhd (Zan hw2 ho2);clear hw2 ho2)
   go_ret
   rw[←H0.out]
   exact⟨rfl,⟨H2.out.1,hinv.out.1.m.only H2.out.2,hinv.out.1.base,hinv.out.1.low,hinv.out.1.cnt⟩,hinv.out.2.1.trans (.of H2.out.2)⟩
end Go.Proofs.YtjpefpclmndgeaaGreat

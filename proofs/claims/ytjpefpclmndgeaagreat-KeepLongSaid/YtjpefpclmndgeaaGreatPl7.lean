/- Contracts of the given program's functions, in the order in which they are proved. -/
import Derived.Deep.RegionHeld3
import Derived.Deep.RegionLaw
import Derived.Deep.CutBlock
import Derived.Deep.DeepCutAuto
import Derived.Deep.RegionWith
import Derived.WalkSmall
import Derived.Test.YtjpefpclmndgeaaGreatPl6
namespace Go.Proofs.YtjpefpclmndgeaaGreat
set_option maxHeartbeats 64000000
set_option maxRecDepth 100000
open Go.ChangeShapes Go.WideShapes Go.ChangeAt Go.RowKit
theorem Zpc (w:World) (B K C L D:Nat) (pl no te now:Int) (hK:Blk w K (ZaQ C L pl no te false false) 62) (hB:B≤K) (hBw:B≤w.heap.size) (hlt:te<atT no now) (Q:Int→ZaZ→Zaz→Prop)
  (hwr:∀ W,Only [62] B w W→Blk W K (ZaQ C L pl (atT no now) te false false) 62→Calls Tryz.prog 28 #[.pointer (some ⟨K,0,none⟩),.agg (Zar 3 (atT no now) (.slice none 0 0))] W fun e w'=>e= .returned (.int .i64 0)∧∃ te1 l1 d1,Blk w' K (ZaQ C L pl (atT no now) te1 false false) 62∧IsLog B w' L D l1∧IsDev B w' D d1∧Only kT B W w'∧Q te1 l1 d1)
  (hsy:∀ te1 l1 d1,Q te1 l1 d1→ZeW d1 l1=0∧Zel d1 l1=l1∧ZeV d1 l1=ZaE d1):
  Calls Tryz.prog 9 #[.pointer (some ⟨K,0,none⟩),.int .i64 now] w fun e w'=>e= .returned (.int .i64 0)∧∃ te1 l1 d1,Q te1 l1 d1∧Blk w' K (ZaQ C L pl (atT no now) (atT no now) false false) 62∧IsLog B w' L D l1∧IsDev B w' D (ZaE d1)∧Only kT B w w':=by
 have hbd:=Below.drew (Below.refl w.heap.size w)
 have k1:=hK.on hbd
 have D0:=Zhd (show w.drew.cell? ⟨K,4,none⟩=some (.int .i64 te) from k1.cell 4)
 have HAT:=Zhd (Zkm w.drew B K C L pl no te false false k1 hB now)
 obtain⟨nn,hnn⟩:∃ nn,nn=atT no now:=⟨_,rfl⟩
 rw[←hnn] at HAT hlt hwr⊢
 have hlb:decide (te<nn)=true:=Zdt hlt
 have H1:=Zhd (Zan hbd (Zan hB (Zan hBw (Zan hwr hsy))))
 clear hbd k1 hK hB hBw hlt hwr hsy hnn
 go_enter Tryz.func9,Tryz.ntmps9
 go_upto_region 3 with fail
 go_cut [15] (fun c wx=>c= .bool true∧Hid (Blk wx K (ZaQ C L pl nn te false false) 62∧Only [62] B w wx))
 case first=>
  go_region_held3 (fun w'=>w'.cell? ⟨K,4,none⟩=some (.int .i64 te))
   (first|exact D0.out|exact D3.out|go_keep)
   (first|(go_at_call 27;refine HAT.out.mono ?_;rintro e W3 ⟨rfl,hk3,ho3⟩;have D3:=Zhd (show W3.cell? ⟨K,4,none⟩=some (.int .i64 te) from hk3.cell 4);have H3:=Zhd (Zan hk3 ho3);clear hk3 ho3))
  all_goals
   go_split_ands
   go_wp2_with fail
   go_meet
   exact⟨rfl,Zhd ⟨H3.out.1,(Only.below H1.out.1 H1.out.2.2.1).trans H3.out.2⟩⟩
 case rest=>
  obtain⟨rfl,hcw⟩:=hcut
  have hk:=hcw.out.1
  have y3:wc.cell? ⟨K,3,none⟩=some (.int .i64 nn):=hk.cell 3
  have ho:=hcw.out.2
  have H2:=Zhd (Zan hk ho)
  clear hcw hk ho
  go_wp2_with (first
   |(go_at_call 29;refine(Zfj W5 K C L pl nn nn false false H5.out.2.2.1 0).mono ?_;rintro e W6 ⟨rfl,hk6,hg6⟩;have H6:=Zhd (Zan hk6 hg6);clear hk6 hg6)
   |(go_at_call 30;have hsy:=ZgT (W3.setCell ⟨K,4,none⟩ (.int .i64 nn)) B L D l1 d1 H3.out.2.1 H3.out.2.2.1;have hz:=H1.out.2.2.2.2 te1 l1 d1 H3.out.2.2.2.2;rw[hz.1,hz.2.1,hz.2.2] at hsy;clear hz;refine hsy.mono ?_;rintro e W5 ⟨rfl,hl5,hd5,ho5⟩;have H5:=Zhd (Zan hl5 (Zan hd5 (Zan (ho5.blk H3.out.1 (by decide)) ho5)));clear hsy hl5 hd5 ho5)
   |(go_at_call 28;refine(H1.out.2.2.2.1 wc H2.out.2 H2.out.1).mono ?_;rintro e W3 ⟨rfl,te1,l1,d1,hk3,hl3,hd3,ho3,hq3⟩;have z3:W3.cell? ⟨K,3,none⟩=some (.int .i64 nn):=hk3.cell 3;have z4:W3.cell? ⟨K,4,none⟩=some (.int .i64 te1):=hk3.cell 4;have u4:=hk3.free 4;have hon:Only [62] B W3 (W3.setCell ⟨K,4,none⟩ (.int .i64 nn)):=Only.but (Zag W3 K 4 (.int .i64 nn)) hk3 List.mem_cons_self H1.out.2.1;have hk4:Blk (W3.setCell ⟨K,4,none⟩ (.int .i64 nn)) K (ZaQ C L pl nn nn false false) 62:=Zjf hk3 nn;have v6:(W3.setCell ⟨K,4,none⟩ (.int .i64 nn)).cell? ⟨K,6,none⟩=some (.bool false):=hk4.cell 6;have v5:(W3.setCell ⟨K,4,none⟩ (.int .i64 nn)).cell? ⟨K,5,none⟩=some (.bool false):=hk4.cell 5;have v1:(W3.setCell ⟨K,4,none⟩ (.int .i64 nn)).cell? ⟨K,1,none⟩=some (.pointer (some ⟨L,0,none⟩)):=hk4.cell 1;have H3:=Zhd (Zan hk4 (Zan (hl3.only hon (by decide) (by decide)) (Zan (ZdF hd3 hon (by decide) (by decide) (by decide) (by decide)) (Zan ((H2.out.2.mono (by decide)).trans (ho3.trans (hon.mono (by decide)))) hq3))));clear hk3 hl3 hd3 ho3 hon hk4 hq3))
  go_ret
  obtain⟨hl5,hd5,hk5,ho5⟩:=H5.out
  have h4:Only [62] B W5 W6:=Only.but H6.out.2 hk5 List.mem_cons_self H1.out.2.1
  exact⟨rfl,te1,l1,d1,H3.out.2.2.2.2,by simpa using H6.out.1,hl5.only h4 (by decide) (by decide),ZdF hd5 h4 (by decide) (by decide) (by decide) (by decide),H3.out.2.2.2.1.trans ((ho5.mono (by decide)).trans (h4.mono (by decide)))⟩
def Zb2 (x b:UInt8) (i:Int):Zas:={adF [⟨#[x]⟩] b with got:=i}
theorem ZgY (x:UInt8):ZaG [⟨#[x]⟩]=true:=by
 simp[ZaG,Zgf,ByteArray.size,Za0]
theorem Zfn (x b:UInt8) {i:Int} (hi:Za6 i=true):Zbl (Zb2 x b i)=true:=by
 have:=ZmH (ZgY x) b
 simp only[Zbl,Zie,Zb2,adF,hi,Bool.true_and] at this⊢
 simpa [Zbl,Zie,ZqL,ZbW,Za6] using this
theorem ZgR (x b:UInt8) {i:Int} (hi:Za6 i=true):Zh6 (Zb2 x b i)=0∧ZiQ (.put (Zb2 x b i))=1:=by
 have hf:=Zfn x b hi
 have hff:=Zdw hf
 have h1:=ZdX hff
 have h2:(ZcY (Zb2 x b i)).length≤496:=by
  have hn1:=Zbd false [⟨#[x]⟩] [] ([]++Za1 1 1)
  have hn2:=(ZaS (ZgY x)).1
  have e1:([]++Za1 1 1:List UInt8).length=1:=by simp[Zap]
  rw[e1] at hn1
  have hd:(Zd1 1 [adD b]).length=6:=by
   simp[Zd1,ZeX,Zrd,Zap]
  unfold ZcY Zd2
  rw[if_pos (show(Zb2 x b i).kind=1 from rfl)]
  show(((ZaV (Zb2 x b i) [] ([]++Za1 1 1)).2++Za1 _ 1)++Zd1 1 [adD b]).length≤496
  simp only[Zla,Zap,hd,ZaV]
  show(((((((nameW false [⟨#[x]⟩] [] ([]++Za1 1 1)).2.length+2)+1)+1)+7)+4)+1)+6≤496
  omega
 refine⟨by rw[Zh6,if_pos hf,if_pos (by omega)],?_⟩
 show ZaI (ZcY (Zb2 x b i)).length=1
 unfold ZaI
 have:=h1.2
 omega
theorem ZgS (x b:UInt8) (i:Int):Zmy (Zb2 x b i):=by
 have h:=ZmG (ZgY x) b
 exact⟨h.name,h.zone,h.set,h.soa,h.all⟩
theorem ZiY (t:Int):ZiQ (.clock t)=1:=by
 show ZaI (Zbq t).length=1
 rw[ZbN]
 rfl
def Longs (no:Int) (F:List Zas):Prop:=∀ f∈F,∃ x b i,f=Zb2 x b i∧0≤i∧i≤no
theorem Zpn {no:Int} (hno:Za6 no=true) {F:List Zas} (h:Longs no F):∀ e∈ZdL F no,e.ok:=by
 intro e he
 rcases List.mem_append.1 he with he|he
 ·obtain⟨f,hf,rfl⟩:=List.mem_map.1 he
  obtain⟨x,b,i,rfl,h0,h1⟩:=h f hf
  have ht:Za6 i=true:=by
   have:=Zca hno
   simp[Za6]
   omega
  exact⟨(ZgR x b ht).1,ZgS x b i⟩
 ·rw[List.mem_singleton.1 he];exact hno
theorem Zjl {no:Int} (hno:Za6 no=true):∀ {F:List Zas},Longs no F→ZjO (ZdL F no)=F.length+1
 |[],_=>by rw[ZdL,List.map_nil,List.nil_append,ZiM,ZiY];rfl
 |f::F,h=>by
  have ih:=Zjl hno (F:=F) (fun g hg=>h g (List.mem_cons_of_mem _ hg))
  obtain⟨x,b,i,rfl,h0,h1⟩:=h f List.mem_cons_self
  have ht:Za6 i=true:=by
   have:=Zca hno
   simp[Za6]
   omega
  have e:ZdL (Zb2 x b i::F) no=[LogE.put (Zb2 x b i)]++ZdL F no:=rfl
  rw[e,Zlu,ZiM,(ZgR x b ht).2,ih,List.length_cons]
  omega
structure Zqj (d:Zaz) (l:ZaZ) (es:List LogE) (sy n:Nat) (F:List Zas) (no:Int):Prop where
 lr:LogR d l es sy n
 rep:F=ZcF 4 es
 key:Keyed F
 few:F.length≤4
 longs:Longs no F
 time:Za6 no=true
 len:d.sure.length=20
 room:6≤ZbU d l
structure LongSt (B:Nat) (w:World) (K C L D:Nat) (l:ZaZ) (d:Zaz) (no te:Int) (kk:Nat) (Ls:List ZaP) (n:Nat):Prop where
 blk:Blk w K (ZaQ C L 18 no te false false) 62
 base:B≤K
 log:IsLog B w L D l
 dev:IsDev B w D d
 ca:IsCache B w C 4 0 kk Ls
 pl:∃ es sy,Zqj d l es sy n (Zbi Ls) no
 told:te≤no
theorem ZhP {d:Zaz} {l:ZaZ} {es:List LogE} {sy n:Nat} {F:List Zas} {no:Int} (h:LogR d l es sy n) (hlen:d.sure.length=20) (hroom:6≤ZbU d l) (hn:n≤300000) (x:LogE) (hx:x.ok) (h1:ZiQ x=1) (hk:Keyed F) (hf:F.length≤4) (hl:Longs no F) (ht:Za6 no=true)
  (hr:Zcu 4 (ZcF 4 es) x=F) (hr2:Zcu 4 F x=F):
  ∃ es1 sy1,(∀ d1 l1,LogR d1 l1 es1 sy1 (n+300)→d1.sure.length=d.sure.length→Zqj d1 l1 es1 sy1 (n+300) F no)∧∀ (w:World) (B K C L D:Nat) (te:Int) (ev:Array Value),WriteAt B w K C L D no te l d F ev x→
    Calls Tryz.prog 28 #[.pointer (some ⟨K,0,none⟩),.agg ev] w fun e w'=>e= .returned (.int .i64 0)∧∃ te1 l1 d1,Blk w' K (ZaQ C L ((d.sure.length:Int)-2) no te1 false false) 62∧IsLog B w' L D l1∧IsDev B w' D d1∧Only kT B w w'∧(LogR d1 l1 es1 sy1 (n+300)∧d1.sure.length=d.sure.length∧(te1=te∨te1=no)):=by
 obtain⟨za,mb,es0,es1,sy1,hw,hc⟩:=Zl2 h hn F no x hx (Zpn ht hl) (by omega)
 have hsum:=Zjl ht hl
 have hring:Zay d=18:=by unfold Zay;rw[hlen]
 have hrm:=h.room
 rw[hring] at hrm
 have hs:=hw.src
 have ho:=hw.out
 rw[hring,h1,hsum] at hs
 rw[hring,h1] at ho
 have hs0:ZjO es0+1≤12:=by
  rcases hs with⟨rfl,-,hs⟩|⟨rfl,-,-,-⟩
  ·rcases hs with hs|hs
   ·omega
   ·omega
  ·rw[hsum];omega
 rcases ho with⟨rfl,rfl,rfl,ho⟩|⟨-,-,-,ho⟩
 ·have hrep:ZcF 4 (es0++[x])=F:=by
   rw[Ze6]
   rcases hs with⟨rfl,-,-⟩|⟨rfl,-,-,-⟩
   ·exact hr
   ·rw[Zme hk (by omega)];exact hr2
  refine⟨es0++[x],sy1,fun d1 l1 hlr hl1=>?_,fun w B K C L D te ev hwa=>(hc w B K C L D te ev hwa).mono ?_⟩
  ·have hr1:=hlr.room
   have hring1:Zay d1=18:=by unfold Zay;rw[hl1,hlen]
   rw[hring1,Zlu,ZiM,h1] at hr1
   exact⟨hlr,hrep.symm,hk,hf,hl,ht,by rw[hl1];exact hlen,by omega⟩
  ·rintro e w' ⟨rfl,te1,l1,d1,a,b,c,q,r,s⟩
   exact⟨rfl,te1,l1,d1,a,b,c,q,r.mono (by omega),s⟩
 ·omega
theorem Longs.mono {no no2:Int} {F:List Zas} (h:Longs no F) (hn:no≤no2):Longs no2 F:=fun f hf=>by
 obtain⟨x,b,i,e,h0,h1⟩:=h f hf
 exact⟨x,b,i,e,h0,by omega⟩
theorem Zl4 {no i:Int} {F:List Zas} (h:Longs no F) (x b:UInt8) (h0:0≤i) (hi:no≤i):Longs i (Zcu 4 F (.put (Zb2 x b i))):=by
 intro f hf
 have hm:f∈ZiP F (Zax (Zb2 x b i))++[Zb2 x b i]:=by
  simp only[Zcu,Zhn] at hf
  split at hf
  ·exact hf
  ·exact List.mem_of_mem_tail hf
 rcases List.mem_append.1 hm with hm|hm
 ·exact h.mono hi f (Zkr hm).1
 ·rw[List.mem_singleton.1 hm]
  exact⟨x,b,i,rfl,h0,Int.le_refl _⟩
theorem Zmr {most:Int} {F:List Zas} (hk:Keyed F) (e:LogE):Keyed (Zcu most F e):=by
 cases e with
 |clock t=>exact hk
 |put f=>
  have h1:Keyed (ZiP F (Zax f)++[f]):=by
   refine List.pairwise_append.2 ⟨ZnS hk _,List.pairwise_singleton _ _,fun a ha b hb=>?_⟩
   rw[List.mem_singleton.1 hb]
   exact(Zkr ha).2
  simp only[Zcu,Zhn]
  split
  ·exact h1
  ·exact h1.sublist (List.tail_sublist _)
theorem ZpF {most:Int} (h1:1≤most) (F:List Zas) (f:Zas):∃ G,Zcu most F (.put f)=G++[f]:=by
 simp only[Zcu,Zhn]
 split
 ·exact⟨_,rfl⟩
 ·rename_i h
  cases hG:ZiP F (Zax f) with
  |nil=>rw[hG] at h;simp at h;omega
  |cons g G=>exact⟨G,rfl⟩
theorem Zno {Ls:List ZaP} {no i:Int} (hL:Longs no (Zbi Ls)) (x b:UInt8) (hi:Za6 i=true) (hni:no≤i):ZmB Ls (Zb2 x b i) i=true:=by
 have hf:=Zfn x b hi
 rw[ZmB,hf,hi,Bool.true_and,Bool.true_and,Znn]
 cases h:atL Ls (Zax (Zb2 x b i)) with
 |none=>rfl
 |some s=>
  obtain⟨hm,hk⟩:=ZfG h
  obtain⟨y,c,j,hs,h0,h1⟩:=hL s.f (List.mem_map.2 ⟨s,hm,rfl⟩)
  have hj:Za6 j=true:=by
   have:=Zca hi
   simp[Za6]
   omega
  show Zfa s.f (Zb2 x b i) i=true
  rw[hs] at hk⊢
  have h4:(Zb2 y c j).rank=4∧(Zb2 x b i).rank=4:=⟨rfl,rfl⟩
  simp only[Zfa,Zfn y c hj,Zfn x b hi,hi,hk,h4.1,h4.2,Bool.true_and,decide_true,Int.le_refl,Bool.true_or]
theorem LongSt.pl18 {B:Nat} {w:World} {K C L D:Nat} {l:ZaZ} {d:Zaz} {no te:Int} {kk:Nat} {Ls:List ZaP} {n:Nat} (h:LongSt B w K C L D l d no te kk Ls n):((d.sure.length:Int)-2)=18:=by
 obtain⟨es,sy,hp⟩:=h.pl
 rw[hp.len]
 rfl
theorem LongSt.mono {B:Nat} {w:World} {K C L D:Nat} {l:ZaZ} {d:Zaz} {no te:Int} {kk:Nat} {Ls:List ZaP} {n m:Nat} (h:LongSt B w K C L D l d no te kk Ls n) (hm:n≤m):LongSt B w K C L D l d no te kk Ls m:=by
 obtain⟨es,sy,hp⟩:=h.pl
 exact⟨h.blk,h.base,h.log,h.dev,h.ca,⟨es,sy,hp.lr.mono hm,hp.rep,hp.key,hp.few,hp.longs,hp.time,hp.len,hp.room⟩,h.told⟩
theorem Zpm (w:World) (B K C L D:Nat) (l:ZaZ) (d:Zaz) (no te:Int) (kk:Nat) (Ls:List ZaP) (n:Nat) (h:LongSt B w K C L D l d no te kk Ls n) (hn:n≤290000) (hk:kk≤100000) (hd:ZaU) (x b:UInt8) (i:Int) (hi:Za6 i=true) (hni:no≤i) (hf:IsFact (Zak fT w) w hd (Zb2 x b i)):
  Calls Tryz.prog 8 #[.pointer (some ⟨K,0,none⟩),.agg (Zaj hd (Zb2 x b i)),.int .i64 i] w fun e w'=>e= .returned (.bool true)∧((∃ l' d' te' Ls',LongSt B w' K C L D l' d' i te' (kk+1) Ls' (n+300)∧∃ G,Zbi Ls'=G++[Zb2 x b i])∧Kfr B w w'):=by
 obtain⟨es,sy,hp⟩:=h.pl
 have hpl:=h.pl18
 have hat:atT no i=i:=by unfold atT;rw[if_pos hi];omega
 have h0:=Zca hi
 have hlen:(Zbi Ls).length=Ls.length:=ZcM Ls
 have hfew:=hp.few
 have henc:=ZgR x b hi
 have hx:(LogE.put (Zb2 x b i)).ok:=⟨henc.1,ZgS x b i⟩
 have hl3:=Zl4 hp.longs x b (i:=i) h0.1 hni
 have hk3:=Zmr (most:=4) hp.key (.put (Zb2 x b i))
 have hs3:=Zlq (most:=4) (by decide) (F:=Zbi Ls) (by omega) (.put (Zb2 x b i))
 obtain⟨es1,sy1,hlp,hwr⟩:=ZhP hp.lr hp.len hp.room (by omega) (.put (Zb2 x b i)) hx henc.2 hk3 (by omega) hl3 hi (by rw[←hp.rep]) (Zmq (by decide) hp.key (by omega) _)
 rw[hpl] at hwr
 refine ZkZ w B K C L D 18 no te false h.blk h.base h.dev.Ble l d h.log h.dev 4 0 kk Ls h.ca (by omega) (by omega) hd (Zb2 x b i) hf (ZgS x b i) i henc.1 (by rw[hat];exact Zno hp.longs x b hi hni) _ ?_
 rw[hat]
 intro W hpa
 obtain⟨bb,k2,hca⟩:=hpa.ca
 have hfa:=Zi8 4 Ls bb (kk+1) k2 (Zb2 x b i)
 refine(hwr W B K C L D te _ ⟨by rw[hpl];exact hpa.blk,h.base,hpa.log,hpa.dev,⟨B,4,0,kk+1,_,hca,by omega,hfa⟩,rfl,hpa.rc⟩).mono ?_
 rintro e w' ⟨rfl,te1,l1,d1,a,b1,c,q,r,s,t⟩
 refine⟨⟨_,rfl⟩,⟨l1,d1,te1,_,⟨a,h.base,b1,c,hca.only q (by decide) (by decide) (by decide),⟨es1,sy1,by rw[hfa];exact hlp d1 l1 r s⟩,by have:=h.told;omega⟩,by rw[hfa];exact ZpF (by decide) _ _⟩,hpa.fr.trans (Kfr.only q (by decide))⟩
theorem ZnI (w:World) (B K C L D:Nat) (l:ZaZ) (d:Zaz) (te:Int) (kk:Nat) (Ls:List ZaP) (n:Nat) (i:Int) (h:LongSt B w K C L D l d i te kk Ls n) (hn:n≤290000) (hkk:kk≤100000):
  Calls Tryz.prog 9 #[.pointer (some ⟨K,0,none⟩),.int .i64 i] w fun e w'=>e= .returned (.int .i64 0)∧((∃ l' d' te',LongSt B w' K C L D l' d' i te' kk Ls (n+300)∧d'.unsure=[])∧Only kT B w w'):=by
 obtain⟨es,sy,hp⟩:=h.pl
 have hpl:=h.pl18
 have hi:=hp.time
 have hat:atT i i=i:=by unfold atT;rw[if_pos hi];omega
 have hfew:=hp.few
 have hlen:(Zbi Ls).length=Ls.length:=ZcM Ls
 by_cases hlt:te<i
 ·obtain⟨es1,sy1,hlp,hwr⟩:=ZhP hp.lr hp.len hp.room (by omega) (.clock i) hi (ZiY i) hp.key hp.few hp.longs hi (by rw[←hp.rep];rfl) rfl
  rw[hpl] at hwr
  have hks:=Zpc w B K C L D 18 i te i h.blk h.base h.dev.Ble (by rw[hat];exact hlt) (fun te1 l1 d1=>LogR d1 l1 es1 sy1 (n+300)∧d1.sure.length=d.sure.length) (by
   rw[hat]
   intro W ho hk
   refine(hwr W B K C L D te _ ⟨by rw[hpl];exact hk,h.base,h.log.only ho (by decide) (by decide),ZdF h.dev ho (by decide) (by decide) (by decide) (by decide),⟨B,4,0,kk,Ls,h.ca.only ho (by decide) (by decide) (by decide),by omega,rfl⟩,rfl,Zjy W i hi (Zhm hi)⟩).mono ?_
   rintro e w' ⟨rfl,te1,l1,d1,a,b1,c,q,r,s,t⟩
   exact⟨rfl,te1,l1,d1,a,b1,c,q,r,s⟩) (fun te1 l1 d1 hq=>by
    obtain⟨s1,s2,s3,-⟩:=hq.1.sync
    exact⟨s1,s2,s3⟩)
  rw[hat] at hks
  refine hks.mono ?_
  rintro e w' ⟨rfl,te1,l1,d1,⟨r,s⟩,a,b1,c,q⟩
  obtain⟨s1,s2,s3,s4,s5,s6⟩:=r.sync
  have hz:=hlp d1 l1 r s
  refine⟨rfl,⟨l1,ZaE d1,i,⟨a,h.base,b1,c,h.ca.only q (by decide) (by decide) (by decide),⟨es1,_,s5,hz.rep,hz.key,hz.few,hz.longs,hi,by rw[s6];exact hz.len,?_⟩,Int.le_refl _⟩,s4⟩,q⟩
  have r1:=s5.room
  have r2:=r.room
  have r3:=hz.room
  have e2:Zay (ZaE d1)=Zay d1:=by unfold Zay;rw[s6]
  omega
 ·obtain⟨s1,s2,s3,s4,s5,s6⟩:=hp.lr.sync
  have hk:=Znw w B K C L D 18 i te i h.blk h.base h.dev.Ble l d h.log h.dev (by rw[hat];exact hlt) s1
  rw[s2,s3,hat] at hk
  refine hk.mono ?_
  rintro e w' ⟨rfl,a,b1,c,q⟩
  refine⟨rfl,⟨l,ZaE d,te,⟨a,h.base,b1,c,h.ca.only q (by decide) (by decide) (by decide),⟨es,_,s5.mono (by omega),hp.rep,hp.key,hp.few,hp.longs,hi,by rw[s6];exact hp.len,?_⟩,h.told⟩,s4⟩,q⟩
  have r1:=s5.room
  have r2:=hp.lr.room
  have r3:=hp.room
  have e2:Zay (ZaE d)=Zay d:=by unfold Zay;rw[s6]
  omega
theorem Zjw (d:Zaz) (p:Nat) (h:(ZbF d p).2.2=0):1≤(ZbF d p).1.parts∧(ZbF d p).1.parts≤255∧0≤(ZbF d p).1.part:=by
 unfold ZbF at h⊢
 cases hr:Zbg d (atN d p) with
 |none=>rw[hr] at h;simp at h
 |some b=>
  rw[hr] at h
  by_cases he:Zb8 b=0
  ·simp only[he,if_true]
   have h2:=he
   unfold Zb8 at h2
   split at h2
   ·cases h2
   ·split at h2
    ·cases h2
    ·split at h2
     ·cases h2
     ·rename_i h5
      have h3:Zb9 (ZbR b) (ZbE b)=0:=by
       apply Classical.byContradiction
       intro h4
       exact h5 (.inl h4)
      unfold Zb9 at h3
      split at h3
      ·cases h3
      ·rename_i hf
       split at h3
       ·cases h3
       ·rename_i hq
        simp only[Zd3,Zae2,Bool.not_eq_false] at hf
        obtain⟨⟨_,f3⟩,f4⟩:=hf
        simp only[Za2,Zae2,Zde] at f3 f4
        have e1:(256:Int)^1=256:=by decide
        omega
  ·simp only[he,if_false] at h
theorem Zin {a b c d:Int} (ha:a≠0) (h:(c=0∧b-a<300)∨(c≠0∧b-a<d-c∧0<d-c)):(if a=0 then 300 else(b-a).toNat)<(if c=0 then 300 else(d-c).toNat):=by
 rw[if_neg ha]
 rcases h with⟨h1,h2⟩|⟨h1,h2,h3⟩
 ·rw[if_pos h1];omega
 ·rw[if_neg h1];omega
theorem Zpx (d:Zaz) (p:Nat):(ZbF d p).2.2≠8:=by
 unfold ZbF
 cases hr:Zbg d (atN d p) with
 |none=>simp
 |some b=>
  by_cases he:Zb8 b=0
  ·simp only[he,if_true];decide
  ·simp only[he,if_false]
   unfold Zb8
   split
   ·decide
   ·split
    ·decide
    ·split<;>decide
theorem Zl3 (w:World) (B L D:Nat) (l:ZaZ) (d:Zaz) (hl:IsLog B w L D l) (hd:IsDev B w D d) (hdn:d.down=false) (h3:3≤d.sure.length) (hfin:l.fin≤900000000):
  Calls Tryz.prog 84 #[.pointer (some ⟨L,0,none⟩)] w fun e w'=>e= .returned (.tuple #[.int .i64 (Zc9 d l:Int),.int .i64 0])∧Below w.heap.size w w':=by
 have HLD:=Zhd (Zan hl (Zan hd hdn))
 obtain⟨G,hG⟩:∃ G,G=Zc9 d l:=⟨_,rfl⟩
 rw[←hG]
 have HG:=Zhd hG
 have hfr:=Zhu (ZaR hl.fits (t:=3) (by omega))
 simp only[ZbZ] at hfr
 clear hl hd hdn hG
 go_enter Tryz.func84,Tryz.ntmps84
 go_wp2_with fail
 go_loopw [4,5] (fun sn si wr=>∃ n i:Nat,sn= .int .i64 (n:Int)∧si= .int .i64 (i:Int)∧n≤255∧i≤n∧1≤n∧(i=0→n=1)∧Hid (Below w.heap.size w wr∧Zce d l (300-i) i n=G)) (fun sn si _=>if intOf si=0 then 300 else(intOf sn-intOf si).toNat)
 case atStart=>exact⟨1,0,rfl,rfl,by omega,by omega,by omega,fun _=>rfl,Zhd ⟨Below.refl _ _,HG.out.symm⟩⟩
 case round=>
  obtain⟨n,i,rfl,rfl,hn255,hin,hn1,hi1,hinv⟩:=hrel
  by_cases hlt:i<n
  ·have hlb:decide (i<n)=true:=Zdt hlt
   have HI:=Zhd (Zan hinv.out.1 (Zan hinv.out.2 hi1))
   have hF:Zce d l (300-i) i n=if Zfr d l i n=true then Zce d l (300-(i+1)) (i+1) (ZbF d (l.fin+i)).1.parts.toNat else 0:=by
    rw[show 300-i=(300-(i+1))+1 by omega,Zce,if_pos hlt]
   rw[hinv.out.2] at hF
   have hpt:=Zjq wr B L D l d (HLD.out.1.on hinv.out.1) (HLD.out.2.1.on hinv.out.1) HLD.out.2.2 h3 (l.fin+i) (by omega)
   have hp8:=Zpx d (l.fin+i)
   have hpp:=Zjw d (l.fin+i)
   unfold Zfr at hF
   obtain⟨o,hoe⟩:∃ o,o=ZbF d (l.fin+i):=⟨_,rfl⟩
   rw[←hoe] at hF hp8 hpp
   have hw:=hinv.out.1
   obtain⟨v1,g1,g2⟩:=(HLD.out.1.on hw).ex
   have c7:wr.cell? ⟨L,7,none⟩=some (.int .i64 (l.fin:Int)):=g1.cell 7
   have hps:Zj5 wr d (l.fin+i)=Zj5 wr d (l.fin+i):=rfl
   have HPT:=Zhd (Zan hpt hoe)
   have HF:=Zhd hF
   clear hinv hF hpt hoe hw g1 g2 hps hi1
   obtain⟨H,dat,k⟩:=o
   simp only at HF hp8 hpp
   have hk8:(k==8)=false:=by simpa using hp8
   by_cases hk0:k=0
   ·subst hk0
    obtain⟨hp1,hp255,hpart0⟩:=hpp rfl
    clear hpp hp8
    by_cases hkd:H.kind=2
    ·have hkb:(H.kind==2)=true:=by simpa using hkd
     have HKD:=Zhd hkd
     clear hkd
     go_wp2_with (first|(go_at_call 49;refine HPT.out.1.mono ?_;rintro e W1 hR;obtain⟨ao,c,rfl,hown⟩:=hR.out;rw[←HPT.out.2] at hown⊢;have H1:=Zhd (Zan hR.bel hown);clear hR hown)|(refine wpList_store_row rfl 108 _ _ rfl W1.heap.size (Zat H) rfl rfl 108 (Zat ZaO) (Zha W1 _) ZbD rfl (Zbs _) ?_;have hq:=ZdU W1 H;(try change wpList _ _ _ _ _ ((W1.alloc (.cells (Zat ZaO) 108)).setRow W1.heap.size (Zat H)));generalize (W1.alloc (.cells (Zat ZaO) 108)).setRow W1.heap.size (Zat H)=W2 at hq⊢;obtain⟨b1,hb1⟩:∃ b1,b1=W1.heap.size:=⟨_,rfl⟩;rw[←hb1] at hq⊢;have hw2:Below w.heap.size w W2:=Zaa (Zaa HI.out.1 H1.out.1 Zlr) (hb1▸hq.2) Zlr;obtain⟨v2,g1,g2⟩:=(HLD.out.1.on hw2).ex;have y0:W2.cell? ⟨b1,0,none⟩=some (.int .i64 H.kind):=hq.1.cell 0;have y1:W2.cell? ⟨b1,1,none⟩=some (.int .i64 H.epoch):=hq.1.cell 1;have y2:W2.cell? ⟨b1,2,none⟩=some (.int .i64 H.seq):=hq.1.cell 2;have y3:W2.cell? ⟨b1,3,none⟩=some (.int .i64 H.part):=hq.1.cell 3;have y4:W2.cell? ⟨b1,4,none⟩=some (.int .i64 H.parts):=hq.1.cell 4;have HQ:=Zhd (Zan hq.1 hw2);clear hq hb1 g1 g2 hw2))
     have hbd:=Below.drew (Below.refl W2.heap.size W2)
     have D2:=Zhd (show W2.drew.cell? ⟨b1,2,none⟩=some (.int .i64 H.seq) from(HQ.out.1.on hbd).cell 2)
     have HN:=Zhd (ZbT W2.drew B L D l ((HLD.out.1.on HQ.out.2).on hbd))
     have HBD:=Zhd hbd
     clear hbd y0 y1 y2 y3 y4
     go_region_held3 (fun w'=>w'.cell? ⟨b1,2,none⟩=some (.int .i64 H.seq))
      (first|exact D2.out|exact D3.out|go_keep)
      (first|(go_at_call 21;refine HN.out.mono ?_;rintro e W3 ⟨rfl,hb3⟩;rw[show l.block.first+(l.list.length:Int)=Zbj l from rfl];have hq3:=(HQ.out.1.on HBD.out).on hb3;have D3:=Zhd (show W3.cell? ⟨b1,2,none⟩=some (.int .i64 H.seq) from hq3.cell 2);have H3:=Zhd (Zan hq3 (Zaa HQ.out.2 (Zaa HBD.out hb3 Zlr) Zlr));clear hq3 hb3))
     go_split_ands
     have hq3:=H3.out.1
     obtain⟨v3,g1,g2⟩:=(HLD.out.1.on H3.out.2).ex
     have y1:W3.cell? ⟨b1,1,none⟩=some (.int .i64 H.epoch):=hq3.cell 1
     have y2:W3.cell? ⟨b1,2,none⟩=some (.int .i64 H.seq):=hq3.cell 2
     have y3:W3.cell? ⟨b1,3,none⟩=some (.int .i64 H.part):=hq3.cell 3
     have y4:W3.cell? ⟨b1,4,none⟩=some (.int .i64 H.parts):=hq3.cell 4
     have x2:W3.cell? ⟨L,2,none⟩=some (.int .i64 l.block.epoch):=g1.cell 2
     have x4:W3.cell? ⟨L,4,none⟩=some (.int .i64 l.block.from'):=g1.cell 4
     have x5:W3.cell? ⟨L,5,none⟩=some (.int .i64 l.block.count):=g1.cell 5
     have x7:W3.cell? ⟨L,7,none⟩=some (.int .i64 (l.fin:Int)):=g1.cell 7
     clear hq3 g1 g2
     obtain⟨nx,hnx⟩:∃ nx,nx=Zbj l:=⟨_,rfl⟩
     rw[←hnx]
     have HNX:=Zhd hnx
     clear hnx
     by_cases hsq:H.seq=nx
     ·have hsb:(H.seq==nx)=true:=by simpa using hsq
      have HSQ:=Zhd hsq
      clear hsq
      by_cases hpa:H.part=(i:Int)
      ·have hpb:(H.part==(i:Int))=true:=by simpa using hpa
       have HPA:=Zhd hpa
       clear hpa
       by_cases hi0:0<i
       ·have hib:decide (0<i)=true:=Zdt hi0
        by_cases hpp2:H.parts=(n:Int)
        ·have hppb:(H.parts==(n:Int))=true:=by simpa using hpp2
         have H12:Hid (i=0∨H.parts=(n:Int)):=Zhd (.inr hpp2)
         clear hpp2 hi0
         go_wp2_with fail
         have hbd:=Below.drew (Below.refl W3.heap.size W3)
         have z1:=Zab hbd y1
         have z2:=Zab hbd y2
         have z4:=Zab hbd y4
         have xx2:=Zab hbd x2
         have xx4:=Zab hbd x4
         have xx5:=Zab hbd x5
         have xx7:=Zab hbd x7
         have HB3:=Zhd hbd
         clear y1 y2 y3 y4 x2 x4 x5 x7 hbd
         by_cases hct:l.block.count≤H.seq
         ·have hcb:decide (l.block.count≤H.seq)=true:=Zdt hct
          by_cases hep:H.epoch=l.block.epoch
          ·have heb:(H.epoch==l.block.epoch)=true:=by simpa using hep
           have HCT:Hid (H.seq<l.block.count∨H.epoch=l.block.epoch):=Zhd (.inr hep)
           clear hep hct
           go_region
           all_goals
            go_wp2_with fail
            have hbd:=Below.drew (Below.refl W3.drew.heap.size W3.drew)
            have w4:=Zab hbd z4
            have w5:=Zab hbd xx4
            have w7:=Zab hbd xx7
            have HB4:=Zhd (Zaa (Zaa H3.out.2 HB3.out Zlr) hbd Zlr)
            have HRG:=Zhd (ZdG W3.drew.drew B L D l d (HLD.out.1.on HB4.out) (HLD.out.2.1.on HB4.out) (by omega))
            have e1:IntKind.i64.wrap ((l.fin:Int)+H.parts)=(l.fin:Int)+H.parts:=IntWalk.i64_in _ (by omega)
            have e2:IntKind.i64.wrap ((l.fin:Int)+H.parts-l.block.from')=(l.fin:Int)+H.parts-l.block.from':=IntWalk.i64_in _ (by omega)
            clear hbd z1 z2 z4 xx2 xx4 xx5 xx7
            go_region_held3 (fun w'=>w'=W3.drew.drew)
             (first|go_keep|rfl)
             (first|(go_at_call 114;refine HRG.out.mono ?_;rintro e w2 ⟨rfl,rfl⟩))
            clear e1 e2
            go_split_ands
            go_wp2_with fail
            ·rename_i hrm
             have HZ:=Zhd (show G=0 by rw[HF.out,if_neg (by simp only[Zae2,Zde,Bool.not_eq_true',Bool.and_eq_false_iff,decide_eq_false_iff_not];exact fun h=>by have:=h.2.2.2.2.2.2;omega)])
             go_ret2
             exact⟨by rw[HZ.out];rfl,HB4.out⟩
            ·rename_i hrm
             obtain⟨m,hm⟩:∃ m:Nat,H.parts=(m:Int):=⟨H.parts.toNat,by omega⟩
             have HGO:=Zhd (show Zce d l (300-(i+1)) (i+1) m=G by rw[HF.out,if_pos (by simp only[Zae2,Zde,Bool.not_eq_true',Bool.and_eq_false_iff,decide_eq_false_iff_not];exact⟨trivial,HKD.out,by rw[HSQ.out];exact HNX.out,HPA.out,H12.out.imp (fun h=>by omega) (fun h h2=>h2 h),HCT.out.imp (fun h=>by omega) (fun h h2=>h2 h),by omega⟩),hm];simp)
             have HIM:=Zhd (Zan hm (show i+1≤m by have:=H12.out;have:=HI.out.2.2;omega))
             clear hm
             go_roundw
             case rel=>exact⟨m,i+1,by rw[HIM.out.1],by simp,by have:=HIM.out.1;omega,HIM.out.2,by have:=HIM.out.2;omega,fun h=>by omega,Zhd ⟨HB4.out,HGO.out⟩⟩
             case measure=>exact Zin (show(i:Int)+1≠0 by omega) (show((i:Int)=0∧H.parts-((i:Int)+1)<300)∨((i:Int)≠0∧H.parts-((i:Int)+1)<(n:Int)-(i:Int)∧0<(n:Int)-(i:Int)) by have:=HIM.out;have:=H12.out;omega)
          ·have heb:(H.epoch==l.block.epoch)=false:=by simpa using hep
           have HZ:=Zhd (show G=0 by rw[HF.out,if_neg (by simp only[Zae2,Zde,Bool.not_eq_true',Bool.and_eq_false_iff,decide_eq_false_iff_not];exact fun h=>h.2.2.2.2.2.1.elim (fun h2=>h2 hct) (fun h2=>h2 hep))])
           clear hep hct
           go_region
           all_goals
            go_wp2_with fail
            go_ret2
            exact⟨by rw[HZ.out];rfl,Zaa H3.out.2 HB3.out Zlr⟩
         ·have hcb:decide (l.block.count≤H.seq)=false:=Zdf hct
          have HCT:Hid (H.seq<l.block.count∨H.epoch=l.block.epoch):=Zhd (.inl (by omega))
          clear hct
          go_region
          all_goals
           go_wp2_with fail
           have hbd:=Below.drew (Below.refl W3.drew.heap.size W3.drew)
           have w4:=Zab hbd z4
           have w5:=Zab hbd xx4
           have w7:=Zab hbd xx7
           have HB4:=Zhd (Zaa (Zaa H3.out.2 HB3.out Zlr) hbd Zlr)
           have HRG:=Zhd (ZdG W3.drew.drew B L D l d (HLD.out.1.on HB4.out) (HLD.out.2.1.on HB4.out) (by omega))
           have e1:IntKind.i64.wrap ((l.fin:Int)+H.parts)=(l.fin:Int)+H.parts:=IntWalk.i64_in _ (by omega)
           have e2:IntKind.i64.wrap ((l.fin:Int)+H.parts-l.block.from')=(l.fin:Int)+H.parts-l.block.from':=IntWalk.i64_in _ (by omega)
           clear hbd z1 z2 z4 xx2 xx4 xx5 xx7
           go_region_held3 (fun w'=>w'=W3.drew.drew)
            (first|go_keep|rfl)
            (first|(go_at_call 114;refine HRG.out.mono ?_;rintro e w2 ⟨rfl,rfl⟩))
           clear e1 e2
           go_split_ands
           go_wp2_with fail
           ·rename_i hrm
            have HZ:=Zhd (show G=0 by rw[HF.out,if_neg (by simp only[Zae2,Zde,Bool.not_eq_true',Bool.and_eq_false_iff,decide_eq_false_iff_not];exact fun h=>by have:=h.2.2.2.2.2.2;omega)])
            go_ret2
            exact⟨by rw[HZ.out];rfl,HB4.out⟩
           ·rename_i hrm
            obtain⟨m,hm⟩:∃ m:Nat,H.parts=(m:Int):=⟨H.parts.toNat,by omega⟩
            have HGO:=Zhd (show Zce d l (300-(i+1)) (i+1) m=G by rw[HF.out,if_pos (by simp only[Zae2,Zde,Bool.not_eq_true',Bool.and_eq_false_iff,decide_eq_false_iff_not];exact⟨trivial,HKD.out,by rw[HSQ.out];exact HNX.out,HPA.out,H12.out.imp (fun h=>by omega) (fun h h2=>h2 h),HCT.out.imp (fun h=>by omega) (fun h h2=>h2 h),by omega⟩),hm];simp)
            have HIM:=Zhd (Zan hm (show i+1≤m by have:=H12.out;have:=HI.out.2.2;omega))
            clear hm
            go_roundw
            case rel=>exact⟨m,i+1,by rw[HIM.out.1],by simp,by have:=HIM.out.1;omega,HIM.out.2,by have:=HIM.out.2;omega,fun h=>by omega,Zhd ⟨HB4.out,HGO.out⟩⟩
            case measure=>exact Zin (show(i:Int)+1≠0 by omega) (show((i:Int)=0∧H.parts-((i:Int)+1)<300)∨((i:Int)≠0∧H.parts-((i:Int)+1)<(n:Int)-(i:Int)∧0<(n:Int)-(i:Int)) by have:=HIM.out;have:=H12.out;omega)
        ·have hppb:(H.parts==(n:Int))=false:=by simpa using hpp2
         have HZ:=Zhd (show G=0 by rw[HF.out,if_neg (by simp only[Zae2,Zde,Bool.not_eq_true',Bool.and_eq_false_iff,decide_eq_false_iff_not];exact fun h=>h.2.2.2.2.1.elim (fun h2=>h2 hi0) (fun h2=>h2 hpp2))])
         clear hpp2 hi0
         go_wp2_with fail
         go_ret2
         exact⟨by rw[HZ.out];rfl,H3.out.2⟩
       ·have hib:decide (0<i)=false:=Zdf hi0
        have H12:Hid (i=0∨H.parts=(n:Int)):=Zhd (.inl (by omega))
        clear hi0
        go_wp2_with fail
        have hbd:=Below.drew (Below.refl W3.heap.size W3)
        have z1:=Zab hbd y1
        have z2:=Zab hbd y2
        have z4:=Zab hbd y4
        have xx2:=Zab hbd x2
        have xx4:=Zab hbd x4
        have xx5:=Zab hbd x5
        have xx7:=Zab hbd x7
        have HB3:=Zhd hbd
        clear y1 y2 y3 y4 x2 x4 x5 x7 hbd
        by_cases hct:l.block.count≤H.seq
        ·have hcb:decide (l.block.count≤H.seq)=true:=Zdt hct
         by_cases hep:H.epoch=l.block.epoch
         ·have heb:(H.epoch==l.block.epoch)=true:=by simpa using hep
          have HCT:Hid (H.seq<l.block.count∨H.epoch=l.block.epoch):=Zhd (.inr hep)
          clear hep hct
          go_region
          all_goals
           go_wp2_with fail
           have hbd:=Below.drew (Below.refl W3.drew.heap.size W3.drew)
           have w4:=Zab hbd z4
           have w5:=Zab hbd xx4
           have w7:=Zab hbd xx7
           have HB4:=Zhd (Zaa (Zaa H3.out.2 HB3.out Zlr) hbd Zlr)
           have HRG:=Zhd (ZdG W3.drew.drew B L D l d (HLD.out.1.on HB4.out) (HLD.out.2.1.on HB4.out) (by omega))
           have e1:IntKind.i64.wrap ((l.fin:Int)+H.parts)=(l.fin:Int)+H.parts:=IntWalk.i64_in _ (by omega)
           have e2:IntKind.i64.wrap ((l.fin:Int)+H.parts-l.block.from')=(l.fin:Int)+H.parts-l.block.from':=IntWalk.i64_in _ (by omega)
           clear hbd z1 z2 z4 xx2 xx4 xx5 xx7
           go_region_held3 (fun w'=>w'=W3.drew.drew)
            (first|go_keep|rfl)
            (first|(go_at_call 114;refine HRG.out.mono ?_;rintro e w2 ⟨rfl,rfl⟩))
           clear e1 e2
           go_split_ands
           go_wp2_with fail
           ·rename_i hrm
            have HZ:=Zhd (show G=0 by rw[HF.out,if_neg (by simp only[Zae2,Zde,Bool.not_eq_true',Bool.and_eq_false_iff,decide_eq_false_iff_not];exact fun h=>by have:=h.2.2.2.2.2.2;omega)])
            go_ret2
            exact⟨by rw[HZ.out];rfl,HB4.out⟩
           ·rename_i hrm
            obtain⟨m,hm⟩:∃ m:Nat,H.parts=(m:Int):=⟨H.parts.toNat,by omega⟩
            have HGO:=Zhd (show Zce d l (300-(i+1)) (i+1) m=G by rw[HF.out,if_pos (by simp only[Zae2,Zde,Bool.not_eq_true',Bool.and_eq_false_iff,decide_eq_false_iff_not];exact⟨trivial,HKD.out,by rw[HSQ.out];exact HNX.out,HPA.out,H12.out.imp (fun h=>by omega) (fun h h2=>h2 h),HCT.out.imp (fun h=>by omega) (fun h h2=>h2 h),by omega⟩),hm];simp)
            have HIM:=Zhd (Zan hm (show i+1≤m by have:=H12.out;have:=HI.out.2.2;omega))
            clear hm
            go_roundw
            case rel=>exact⟨m,i+1,by rw[HIM.out.1],by simp,by have:=HIM.out.1;omega,HIM.out.2,by have:=HIM.out.2;omega,fun h=>by omega,Zhd ⟨HB4.out,HGO.out⟩⟩
            case measure=>exact Zin (show(i:Int)+1≠0 by omega) (show((i:Int)=0∧H.parts-((i:Int)+1)<300)∨((i:Int)≠0∧H.parts-((i:Int)+1)<(n:Int)-(i:Int)∧0<(n:Int)-(i:Int)) by have:=HIM.out;have:=H12.out;omega)
         ·have heb:(H.epoch==l.block.epoch)=false:=by simpa using hep
          have HZ:=Zhd (show G=0 by rw[HF.out,if_neg (by simp only[Zae2,Zde,Bool.not_eq_true',Bool.and_eq_false_iff,decide_eq_false_iff_not];exact fun h=>h.2.2.2.2.2.1.elim (fun h2=>h2 hct) (fun h2=>h2 hep))])
          clear hep hct
          go_region
          all_goals
           go_wp2_with fail
           go_ret2
           exact⟨by rw[HZ.out];rfl,Zaa H3.out.2 HB3.out Zlr⟩
        ·have hcb:decide (l.block.count≤H.seq)=false:=Zdf hct
         have HCT:Hid (H.seq<l.block.count∨H.epoch=l.block.epoch):=Zhd (.inl (by omega))
         clear hct
         go_region
         all_goals
          go_wp2_with fail
          have hbd:=Below.drew (Below.refl W3.drew.heap.size W3.drew)
          have w4:=Zab hbd z4
          have w5:=Zab hbd xx4
          have w7:=Zab hbd xx7
          have HB4:=Zhd (Zaa (Zaa H3.out.2 HB3.out Zlr) hbd Zlr)
          have HRG:=Zhd (ZdG W3.drew.drew B L D l d (HLD.out.1.on HB4.out) (HLD.out.2.1.on HB4.out) (by omega))
          have e1:IntKind.i64.wrap ((l.fin:Int)+H.parts)=(l.fin:Int)+H.parts:=IntWalk.i64_in _ (by omega)
          have e2:IntKind.i64.wrap ((l.fin:Int)+H.parts-l.block.from')=(l.fin:Int)+H.parts-l.block.from':=IntWalk.i64_in _ (by omega)
          clear hbd z1 z2 z4 xx2 xx4 xx5 xx7
          go_region_held3 (fun w'=>w'=W3.drew.drew)
           (first|go_keep|rfl)
           (first|(go_at_call 114;refine HRG.out.mono ?_;rintro e w2 ⟨rfl,rfl⟩))
          clear e1 e2
          go_split_ands
          go_wp2_with fail
          ·rename_i hrm
           have HZ:=Zhd (show G=0 by rw[HF.out,if_neg (by simp only[Zae2,Zde,Bool.not_eq_true',Bool.and_eq_false_iff,decide_eq_false_iff_not];exact fun h=>by have:=h.2.2.2.2.2.2;omega)])
           go_ret2
           exact⟨by rw[HZ.out];rfl,HB4.out⟩
          ·rename_i hrm
           obtain⟨m,hm⟩:∃ m:Nat,H.parts=(m:Int):=⟨H.parts.toNat,by omega⟩
           have HGO:=Zhd (show Zce d l (300-(i+1)) (i+1) m=G by rw[HF.out,if_pos (by simp only[Zae2,Zde,Bool.not_eq_true',Bool.and_eq_false_iff,decide_eq_false_iff_not];exact⟨trivial,HKD.out,by rw[HSQ.out];exact HNX.out,HPA.out,H12.out.imp (fun h=>by omega) (fun h h2=>h2 h),HCT.out.imp (fun h=>by omega) (fun h h2=>h2 h),by omega⟩),hm];simp)
           have HIM:=Zhd (Zan hm (show i+1≤m by have:=H12.out;have:=HI.out.2.2;omega))
           clear hm
           go_roundw
           case rel=>exact⟨m,i+1,by rw[HIM.out.1],by simp,by have:=HIM.out.1;omega,HIM.out.2,by have:=HIM.out.2;omega,fun h=>by omega,Zhd ⟨HB4.out,HGO.out⟩⟩
           case measure=>exact Zin (show(i:Int)+1≠0 by omega) (show((i:Int)=0∧H.parts-((i:Int)+1)<300)∨((i:Int)≠0∧H.parts-((i:Int)+1)<(n:Int)-(i:Int)∧0<(n:Int)-(i:Int)) by have:=HIM.out;have:=H12.out;omega)
      ·have hpb:(H.part==(i:Int))=false:=by simpa using hpa
       have HZ:=Zhd (show G=0 by rw[HF.out,if_neg (by simp only[Zae2,Zde,Bool.not_eq_true',Bool.and_eq_false_iff,decide_eq_false_iff_not];exact fun h=>hpa h.2.2.2.1)])
       clear hpa
       go_wp2_with fail
       go_ret2
       exact⟨by rw[HZ.out];rfl,H3.out.2⟩
     ·have hsb:(H.seq==nx)=false:=by simpa using hsq
      have HZ:=Zhd (show G=0 by rw[HF.out,if_neg (by simp only[Zae2,Zde,Bool.not_eq_true',Bool.and_eq_false_iff,decide_eq_false_iff_not];exact fun h=>hsq (h.2.2.1.trans HNX.out.symm))])
      clear hsq
      go_wp2_with fail
      go_ret2
      exact⟨by rw[HZ.out];rfl,H3.out.2⟩
    ·have hkb:(H.kind==2)=false:=by simpa using hkd
     have HZ:=Zhd (show G=0 by rw[HF.out,if_neg (by simp only[Zae2,Zde,Bool.not_eq_true',Bool.and_eq_false_iff,decide_eq_false_iff_not];exact fun h=>hkd h.2.1)])
     clear hkd
     go_wp2_with (first|(go_at_call 49;refine HPT.out.1.mono ?_;rintro e W1 hR;obtain⟨ao,c,rfl,hown⟩:=hR.out;rw[←HPT.out.2] at hown⊢;have H1:=Zhd (Zan hR.bel hown);clear hR hown)|(refine wpList_store_row rfl 108 _ _ rfl W1.heap.size (Zat H) rfl rfl 108 (Zat ZaO) (Zha W1 _) ZbD rfl (Zbs _) ?_;have hq:=ZdU W1 H;(try change wpList _ _ _ _ _ ((W1.alloc (.cells (Zat ZaO) 108)).setRow W1.heap.size (Zat H)));generalize (W1.alloc (.cells (Zat ZaO) 108)).setRow W1.heap.size (Zat H)=W2 at hq⊢;obtain⟨b1,hb1⟩:∃ b1,b1=W1.heap.size:=⟨_,rfl⟩;rw[←hb1] at hq⊢;have hw2:Below w.heap.size w W2:=Zaa (Zaa HI.out.1 H1.out.1 Zlr) (hb1▸hq.2) Zlr;obtain⟨v2,g1,g2⟩:=(HLD.out.1.on hw2).ex;have y0:W2.cell? ⟨b1,0,none⟩=some (.int .i64 H.kind):=hq.1.cell 0;have y1:W2.cell? ⟨b1,1,none⟩=some (.int .i64 H.epoch):=hq.1.cell 1;have y2:W2.cell? ⟨b1,2,none⟩=some (.int .i64 H.seq):=hq.1.cell 2;have y3:W2.cell? ⟨b1,3,none⟩=some (.int .i64 H.part):=hq.1.cell 3;have y4:W2.cell? ⟨b1,4,none⟩=some (.int .i64 H.parts):=hq.1.cell 4;have HQ:=Zhd (Zan hq.1 hw2);clear hq hb1 g1 g2 hw2))
     go_ret2
     exact⟨by rw[HZ.out];rfl,HQ.out.2⟩
   ·have hkn:(k==0)=false:=by simpa using hk0
    have HZ:=Zhd (show G=0 by rw[HF.out,if_neg (by simp[hk0])])
    clear hk0 hp8 hpp
    go_wp2_with (first|(go_at_call 49;refine HPT.out.1.mono ?_;rintro e W1 hR;obtain⟨ao,c,rfl,hown⟩:=hR.out;rw[←HPT.out.2] at hown⊢;have H1:=Zhd (Zan hR.bel hown);clear hR hown)|(refine wpList_store_row rfl 108 _ _ rfl W1.heap.size (Zat H) rfl rfl 108 (Zat ZaO) (Zha W1 _) ZbD rfl (Zbs _) ?_;have hq:=ZdU W1 H;(try change wpList _ _ _ _ _ ((W1.alloc (.cells (Zat ZaO) 108)).setRow W1.heap.size (Zat H)));generalize (W1.alloc (.cells (Zat ZaO) 108)).setRow W1.heap.size (Zat H)=W2 at hq⊢;obtain⟨b1,hb1⟩:∃ b1,b1=W1.heap.size:=⟨_,rfl⟩;rw[←hb1] at hq⊢;have hw2:Below w.heap.size w W2:=Zaa (Zaa HI.out.1 H1.out.1 Zlr) (hb1▸hq.2) Zlr;obtain⟨v2,g1,g2⟩:=(HLD.out.1.on hw2).ex;have y0:W2.cell? ⟨b1,0,none⟩=some (.int .i64 H.kind):=hq.1.cell 0;have y1:W2.cell? ⟨b1,1,none⟩=some (.int .i64 H.epoch):=hq.1.cell 1;have y2:W2.cell? ⟨b1,2,none⟩=some (.int .i64 H.seq):=hq.1.cell 2;have y3:W2.cell? ⟨b1,3,none⟩=some (.int .i64 H.part):=hq.1.cell 3;have y4:W2.cell? ⟨b1,4,none⟩=some (.int .i64 H.parts):=hq.1.cell 4;have HQ:=Zhd (Zan hq.1 hw2);clear hq hb1 g1 g2 hw2))
    go_ret2
    exact⟨by rw[HZ.out];rfl,HQ.out.2⟩
  ·have hlb:decide (i<n)=false:=Zdf hlt
   have hii:i=n:=by omega
   have HG2:=Zhd (show G=n by rw[←hinv.out.2,hii];cases h:300-n with|zero=>rfl|succ f=>rw[Zce,if_neg (by omega)])
   clear hii hlt
   go_wp2_with fail
   go_ret2
   exact⟨by rw[HG2.out];rfl,hinv.out.1⟩
theorem Zoe (d:Zaz) (f:Nat) (l:ZaZ) (h:Zc9 d l=0):Zg5 d f l=l:=by
 cases f with
 |zero=>rfl
 |succ f=>rw[Zg5,if_pos h]
theorem ZnU {d:Zaz} {l:ZaZ} {i n:Nat} (h:Zfr d l i n=true):(l.fin:Int)+((ZbF d (l.fin+i)).1.parts.toNat:Int)-l.block.from'≤(Zay d:Int)∧1≤(ZbF d (l.fin+i)).1.parts.toNat:=by
 unfold Zfr at h
 simp only[Zae2,Zde] at h
 have h1:=Zjw d (l.fin+i) h.1
 have h2:=h.2.2.2.2.2.2
 omega
theorem ZgM {d:Zaz} {l:ZaZ}:∀ (f i n:Nat),(l.fin:Int)+(n:Int)-l.block.from'≤(Zay d:Int)→(l.fin:Int)+(Zce d l f i n:Int)-l.block.from'≤(Zay d:Int)
 |0,i,n,h=>h
 |f+1,i,n,h=>by
  rw[Zce]
  split
  ·split
   ·rename_i hok
    exact ZgM f _ _ (ZnU hok).1
   ·omega
  ·exact h
theorem ZlY {d:Zaz} {l:ZaZ} (h:Zc9 d l≠0):(l.fin:Int)+(Zc9 d l:Int)-l.block.from'≤(Zay d:Int):=by
 unfold Zc9 at h⊢
 rw[Zce,if_pos (by omega)] at h⊢
 split at h
 ·rename_i hok
  rw[if_pos hok]
  exact ZgM _ _ _ (ZnU hok).1
 ·exact absurd rfl h
def Zro (w:World) (L:Nat):Int:=match w.cell? ⟨L,7,none⟩ with
 |some v=>intOf v
 |none=>0
theorem IsLog.finOf {B:Nat} {w:World} {L D:Nat} {l:ZaZ} (h:IsLog B w L D l):Zro w L=(l.fin:Int):=by
 obtain⟨v,h1,_⟩:=h.ex
 unfold Go.Proofs.YtjpefpclmndgeaaGreat.Zro
 rw[h1.cell 7]
 rfl
theorem Zph {B:Nat} {W:World} {L D:Nat} {l:ZaZ} {v:Value} {b:ZcS} (h1:Blk W L (Zej D l.block v l.fin l.down) 98) (hG:Gath Zn6 [] 106 B W v l.list) (hB:B≤L) (hf:ZaT b=true) (hc:l.list.length≤100000) (fin:Nat):
  IsLog B ((((((W.setCell ⟨L,1,none⟩ (.int .i64 b.gen)).setCell ⟨L,2,none⟩ (.int .i64 b.epoch)).setCell ⟨L,3,none⟩ (.int .i64 b.first)).setCell ⟨L,4,none⟩ (.int .i64 b.from')).setCell ⟨L,5,none⟩ (.int .i64 b.count)).setCell ⟨L,7,none⟩ (.int .i64 (fin:Int))) L D ⟨b,l.list,fin,l.down⟩∧
  Only rgT B W ((((((W.setCell ⟨L,1,none⟩ (.int .i64 b.gen)).setCell ⟨L,2,none⟩ (.int .i64 b.epoch)).setCell ⟨L,3,none⟩ (.int .i64 b.first)).setCell ⟨L,4,none⟩ (.int .i64 b.from')).setCell ⟨L,5,none⟩ (.int .i64 b.count)).setCell ⟨L,7,none⟩ (.int .i64 (fin:Int))):=by
 have a1:=h1.set 1 (.int .i64 b.gen)
 have a2:=a1.set 2 (.int .i64 b.epoch)
 have a3:=a2.set 3 (.int .i64 b.first)
 have a4:=a3.set 4 (.int .i64 b.from')
 have a5:=a4.set 5 (.int .i64 b.count)
 have a6:=a5.set 7 (.int .i64 (fin:Int))
 have g1:=Zag W L 1 (.int .i64 b.gen)
 have g2:=Zah g1 (Zag _ L 2 (.int .i64 b.epoch))
 have g3:=Zah g2 (Zag _ L 3 (.int .i64 b.first))
 have g4:=Zah g3 (Zag _ L 4 (.int .i64 b.from'))
 have g5:=Zah g4 (Zag _ L 5 (.int .i64 b.count))
 have g6:=Zah g5 (Zag _ L 7 (.int .i64 (fin:Int)))
 exact⟨⟨⟨v,by simpa [Zej] using a6,hG.step (Same.but g6 h1 (by decide))⟩,hB,hf,hc⟩,Only.but g6 h1 (by decide) hB⟩
theorem ZqD {b:ZcS} {n:Int} (h:ZaT b=true) (hn:Za2 n 7=true):ZaT {b with gen:=n}=true:=by
 simp only[ZaT,Zae2] at h⊢
 exact⟨⟨⟨⟨hn,h.1.1.1.2⟩,h.1.1.2⟩,h.1.2⟩,h.2⟩
theorem Znk {b:ZcS} {n:Int} (h:ZaT b=true) (hn:Za2 n 7=true):ZaT {b with epoch:=n}=true:=by
 simp only[ZaT,Zae2] at h⊢
 exact⟨⟨⟨⟨h.1.1.1.1,hn⟩,h.1.1.2⟩,h.1.2⟩,h.2⟩
theorem Znj {b:ZcS} {n:Int} (h:ZaT b=true) (hn:Za2 n 7=true):ZaT {b with count:=n}=true:=by
 simp only[ZaT,Zae2] at h⊢
 exact⟨h.1,hn⟩
theorem ZqP {B:Nat} {W:World} {L D:Nat} {l:ZaZ} (h:IsLog B W L D l) {n:Int} (hn:Za2 n 7=true):IsLog B (W.setCell ⟨L,1,none⟩ (.int .i64 n)) L D {l with block:={l.block with gen:=n}}∧Only rgT B W (W.setCell ⟨L,1,none⟩ (.int .i64 n)):=by
 obtain⟨v,h1,h2⟩:=h.ex
 have hg:=Zag W L 1 (.int .i64 n)
 exact⟨⟨⟨v,by simpa [Zej] using h1.set 1 (.int .i64 n),h2.step (Same.but hg h1 (by decide))⟩,h.base,ZqD h.fits hn,h.cnt⟩,Only.but hg h1 (by decide) h.base⟩
theorem ZnF {B:Nat} {W:World} {L D:Nat} {l:ZaZ} (h:IsLog B W L D l) {n:Int} (hn:Za2 n 7=true):IsLog B (W.setCell ⟨L,2,none⟩ (.int .i64 n)) L D {l with block:={l.block with epoch:=n}}∧Only rgT B W (W.setCell ⟨L,2,none⟩ (.int .i64 n)):=by
 obtain⟨v,h1,h2⟩:=h.ex
 have hg:=Zag W L 2 (.int .i64 n)
 exact⟨⟨⟨v,by simpa [Zej] using h1.set 2 (.int .i64 n),h2.step (Same.but hg h1 (by decide))⟩,h.base,Znk h.fits hn,h.cnt⟩,Only.but hg h1 (by decide) h.base⟩
theorem ZnE {B:Nat} {W:World} {L D:Nat} {l:ZaZ} (h:IsLog B W L D l) {n:Int} (hn:Za2 n 7=true):IsLog B (W.setCell ⟨L,5,none⟩ (.int .i64 n)) L D {l with block:={l.block with count:=n}}∧Only rgT B W (W.setCell ⟨L,5,none⟩ (.int .i64 n)):=by
 obtain⟨v,h1,h2⟩:=h.ex
 have hg:=Zag W L 5 (.int .i64 n)
 exact⟨⟨⟨v,by simpa [Zej] using h1.set 5 (.int .i64 n),h2.step (Same.but hg h1 (by decide))⟩,h.base,Znj h.fits hn,h.cnt⟩,Only.but hg h1 (by decide) h.base⟩
theorem ZnG {B:Nat} {W W':World} {L D:Nat} {l:ZaZ} {v v':Value} {n:Nat} (hl:IsLog B W L D l) (h1:Blk W L (Zej D l.block v l.fin l.down) 98) (hr:Zql B W v l.list (l.fin,n) v' W') (hc:l.list.length<100000) (hB:B≤W.heap.size):
  Blk W' L (Zej D l.block v l.fin l.down) 98∧IsLog B (W'.setCell ⟨L,6,none⟩ v') L D {l with list:=l.list++[(l.fin,n)]}∧Only rgT B W (W'.setCell ⟨L,6,none⟩ v'):=by
 have hal:Below W.heap.size W (W.alloc (.cells #[.int .i64 ((l.fin,n).1:Int),.int .i64 ((l.fin,n).2:Int)] 106)):=Zbr.alloc Zlr _
 have h2:=Zda hr.grown hr.row (h1.on hal) (by decide)
 have g1:=Zag W' L 6 v'
 have h3:=h2.set 6 v'
 refine⟨h2,⟨⟨v',by simpa [Zej] using h3,hr.gath.step (Same.but g1 h2 (by decide))⟩,hl.base,hl.fits,by simp;omega⟩,?_⟩
 exact(Only.below hal hB).trans ((ZcB hr.grown hr.row (by decide) (by have:=hal.size;omega)).trans (Only.but g1 h2 (by decide) hl.base))
theorem ZqO {B:Nat} {W:World} {L D:Nat} {l:ZaZ} (h:IsLog B W L D l) (n:Nat):IsLog B (W.setCell ⟨L,7,none⟩ (.int .i64 (n:Int))) L D {l with fin:=n}∧Only rgT B W (W.setCell ⟨L,7,none⟩ (.int .i64 (n:Int))):=by
 obtain⟨v,h1,h2⟩:=h.ex
 have hg:=Zag W L 7 (.int .i64 (n:Int))
 exact⟨⟨⟨v,by simpa [Zej] using h1.set 7 (.int .i64 (n:Int)),h2.step (Same.but hg h1 (by decide))⟩,h.base,h.fits,h.cnt⟩,Only.but hg h1 (by decide) h.base⟩
theorem ZnO (w:World) (B L D:Nat) (l:ZaZ) (d:Zaz) (hl:IsLog B w L D l) (hl0:l.list=[]) (hlo:l.down=false) (hd:IsDev B w D d) (hdn:d.down=false) (h3:3≤d.sure.length) (b:ZcS) (hbf:ZaT b=true) (he1:1≤b.epoch) (hfc:b.first≤b.count)
  (hcn:b.count≤Zbj (Zdy d b)) (hnf:ZaT (Zb3 d b)=true) (hfrom:b.from'≤800000000):
  Calls Tryz.prog 46 #[.pointer (some ⟨L,0,none⟩),.agg (ZaM b)] w fun e w'=>e= .returned (.int .i64 0)∧IsLog B w' L D {Zdy d b with block:=Zb3 d b}∧IsDev B w' D d∧Only lgT B w w':=by
 have hal:Below w.heap.size w (w.alloc (.cells (ZaM b) 95)):=Zbr.alloc Zlr _
 have hA:Blk (w.alloc (.cells (ZaM b) 95)) w.heap.size (ZaM b) 95:=Zha w _
 have hfr:=Zhu (ZaR hbf (t:=3) (by omega))
 simp only[ZbZ] at hfr
 obtain⟨q,hq⟩:∃ q:Nat,b.from'=(q:Int):=⟨b.from'.toNat,by omega⟩
 obtain⟨bg,be,bf,bm,bc⟩:=b
 simp only at hq
 subst hq
 have HB:=Zhd (Zan hbf (Zan hcn hnf))
 simp only[ZaM] at hal hA⊢
 simp only at he1 hfc hfrom hfr HB
 have HA:=Zhd (Zan hal hA)
 have hb0:∃ b0,b0=w.heap.size:=⟨_,rfl⟩
 obtain⟨v0,g1,g2⟩:=hl.ex
 have HL:=Zhd (Zan hl (Zan hd (Zan hdn (Zan hl0 hlo))))
 have hd1:decide (be<1)=false:=Zdf (by omega)
 have hd2:decide (bc<bf)=false:=Zdf (by omega)
 have hLB:L≠w.heap.size:=Nat.ne_of_lt (Blk.lt g1)
 clear hal hA hb0 hl hd hdn hl0 hlo g1 g2 hbf hcn hnf
 go_enter Tryz.func46,Tryz.ntmps46
 go_upto_region 3 with fail
 obtain⟨wa,hwa⟩:∃ wa,wa=w.alloc (.cells #[.int .i64 bg,.int .i64 be,.int .i64 bf,.int .i64 (q:Int),.int .i64 bc] 95):=⟨_,rfl⟩
 rw[←hwa] at HA⊢
 clear hwa
 have hA:=HA.out.2
 have hal:=HA.out.1
 obtain⟨v0,g1,g2⟩:=(HL.out.1.on hal).ex
 have hbd:=Below.drew (Below.refl wa.heap.size wa)
 obtain⟨x1,x2,x3,x4,x5⟩:=Zc5 (show Blk wa w.heap.size _ _ from hA)
 have z1:wa.cell? ⟨L,1,none⟩=some (.int .i64 l.block.gen):=g1.cell 1
 have z2:wa.cell? ⟨L,2,none⟩=some (.int .i64 l.block.epoch):=g1.cell 2
 have z3:wa.cell? ⟨L,3,none⟩=some (.int .i64 l.block.first):=g1.cell 3
 have z4:wa.cell? ⟨L,4,none⟩=some (.int .i64 l.block.from'):=g1.cell 4
 have z5:wa.cell? ⟨L,5,none⟩=some (.int .i64 l.block.count):=g1.cell 5
 have z7:wa.cell? ⟨L,7,none⟩=some (.int .i64 (l.fin:Int)):=g1.cell 7
 have t1:=g1.free 1
 have t2:=g1.free 2
 have t3:=g1.free 3
 have t4:=g1.free 4
 have t5:=g1.free 5
 have t7:=g1.free 7
 go_cut [] (fun wx=>Hid (IsLog B wx L D ⟨⟨bg,be,bf,(q:Int),bc⟩,l.list,q,l.down⟩∧IsDev B wx D d∧Only lgT B w wx∧Blk wx w.heap.size #[.int .i64 bg,.int .i64 be,.int .i64 bf,.int .i64 (q:Int),.int .i64 bc] 95))
 case first=>
  have HG:=Zhd (Zan g1 g2)
  clear g2 hA hal
  go_region_law fail
  all_goals
   go_wp2_with fail
   go_meet
   obtain⟨k1,k2⟩:=Zph (b:=⟨bg,be,bf,(q:Int),bc⟩) HG.out.1 HG.out.2 HL.out.1.base HB.out.1 HL.out.1.cnt q
   have ho:=(Only.below HA.out.1 HL.out.2.1.Ble).trans k2
   have hdd:=ZdF HL.out.2.1 ho (by decide) (by decide) (by decide) (by decide)
   have hA2:=k2.blk HA.out.2 (by decide)
   generalize ((((((wa.setCell ⟨L,1,none⟩ (.int .i64 bg)).setCell ⟨L,2,none⟩ (.int .i64 be)).setCell ⟨L,3,none⟩ (.int .i64 bf)).setCell ⟨L,4,none⟩ (.int .i64 (q:Int))).setCell ⟨L,5,none⟩ (.int .i64 bc)).setCell ⟨L,7,none⟩ (.int .i64 (q:Int)))=wz at*
   have hbz:=Below.drew (Below.refl wz.heap.size wz)
   exact Zhd ⟨k1.on hbz,hdd.on hbz,(ho.trans (Only.below hbz hdd.Ble)).mono (by decide),hA2.on hbz⟩
 case rest=>
  have H0:=Zhd hcut.out
  clear hcut x1 x2 x3 x4 x5 z1 z2 z3 z4 z5 z7 t1 t2 t3 t4 t5 t7 g1 g2 hA hal hbd
  have hrg:Zay d≤4094:=by have:=HL.out.2.1.le;unfold Zay;omega
  go_wp2_with fail
  go_loopw [4] (fun r wr=>r= .int .i64 0∧Hid (∃ (l1:ZaZ) (f:Nat),IsLog B wr L D l1∧IsDev B wr D d∧Only lgT B w wr∧Blk wr w.heap.size #[.int .i64 bg,.int .i64 be,.int .i64 bf,.int .i64 (q:Int),.int .i64 bc] 95∧Zg5 d f l1=Zdy d ⟨bg,be,bf,(q:Int),bc⟩∧l1.block=⟨bg,be,bf,(q:Int),bc⟩∧l1.down=false∧q≤l1.fin∧l1.list.length≤l1.fin-q∧l1.fin-q≤Zay d∧Zay d+1≤f+(l1.fin-q))) (fun _ wr=>Zay d+q+1-(Zro wr L).toNat)
  case atStart=>
   refine⟨rfl,Zhd ⟨_,Zay d+1,H0.out.1,H0.out.2.1,H0.out.2.2.1,H0.out.2.2.2,?_,rfl,HL.out.2.2.2.2,Nat.le_refl _,?_,?_,?_⟩⟩
   ·rw[HL.out.2.2.2.1,HL.out.2.2.2.2];rfl
   ·rw[HL.out.2.2.2.1];exact Nat.zero_le _
   ·simp
   ·simp
  case round=>
   obtain⟨rfl,hinv⟩:=hrel
   obtain⟨l1,f,hl1,hd1',ho1,hA1,hsc,hbk,hdn1,hq1,hlen,hrn,hf1⟩:=hinv.out
   have HI:=Zhd (Zan hl1 (Zan hd1' (Zan ho1 (Zan hA1 (Zan hsc (Zan hbk hdn1))))))
   have hF:=Zl3 wr B L D l1 d hl1 hd1' HL.out.2.2.1 h3 (by omega)
   obtain⟨n,hn⟩:∃ n,n=Zc9 d l1:=⟨_,rfl⟩
   rw[←hn] at hF
   have HN:=Zhd hn
   by_cases h0:n=0
   ·subst h0
    have HF:=Zhd (show Calls Tryz.prog 84 #[.pointer (some ⟨L,0,none⟩)] wr fun e w'=>e= .returned (.tuple #[.int .i64 0,.int .i64 0])∧Below wr.heap.size wr w' from hF)
    clear hinv hF hl1 hd1' ho1 hA1 hsc hbk hdn1 hn
    go_upto_region 10 with(go_at_call 84;refine HF.out.mono ?_;rintro e W2 ⟨rfl,hb2⟩;have HB2:=Zhd hb2;clear hb2)
    obtain⟨hl1,hdv1,ho1,hA1,hsc,hbk,hdn1⟩:=HI.out
    have hE:l1=Zdy d ⟨bg,be,bf,(q:Int),bc⟩:=by rw[←hsc];exact(Zoe d f l1 HN.out.symm).symm
    have hb2:=HB2.out
    have hdr:=Below.drew (Below.refl W2.heap.size W2)
    have hl2:=(hl1.on hb2).on hdr
    have hd2:=(hdv1.on hb2).on hdr
    have ho2:=(ho1.trans (Only.below hb2 hdv1.Ble)).trans (Only.below hdr (hdv1.on hb2).Ble)
    have x4:W2.drew.cell? ⟨w.heap.size,4,none⟩=some (.int .i64 bc):=((hA1.on hb2).on hdr).cell 4
    have hNx:=ZbT W2.drew B L D l1 hl2
    have hge:decide (Zbj l1<bc)=false:=Zdf (by rw[hE];have:=HB.out.2.1;omega)
    have HNX:=Zhd hNx
    have HE:=Zhd (Zan hE (Zan hbk (Zan hl2 (Zan hd2 ho2))))
    clear hl1 hdv1 ho1 hA1 hsc hE hb2 hdr hl2 hd2 ho2 hNx HF
    go_cut [63] (fun c wx=>c= .bool false∧Hid (Below W2.heap.size W2 wx))
    case first=>
     go_region_with (first|(go_at_call 21;refine HNX.out.mono ?_;rintro e W5 ⟨rfl,hb5⟩;rw[show l1.block.first+(l1.list.length:Int)=Zbj l1 from rfl];have c5:=Zab hb5 x4;have H5:=Zhd hb5;clear hb5))
     all_goals
      go_wp2_with fail
      go_meet
      exact⟨rfl,Zhd (Zaa (Below.drew Zbr) H5.out Zlr)⟩
    case rest=>
     obtain⟨rfl,hcw⟩:=hcut
     have hbW:=HB2.out
     obtain⟨hl1,hdv1,ho1,hA1,hsc,hbk,hdn1⟩:=HI.out
     have hl2:=(hl1.on hbW).on hcw.out
     have hd2:=(hdv1.on hbW).on hcw.out
     have ho2:=(ho1.trans (Only.below hbW hdv1.Ble)).trans (Only.below hcw.out (hdv1.on hbW).Ble)
     have hnf:=HB.out.2.2
     have fg:=ZaR hnf (t:=0) (by omega)
     have fe:=ZaR hnf (t:=1) (by omega)
     have fc:=ZaR hnf (t:=4) (by omega)
     simp only[ZbZ,Zb3] at fg fe fc
     rw[←HE.out.1] at fc
     have k1:=ZqP hl2 fg
     have k2:=ZnF k1.1 fe
     have hNx:Calls Tryz.prog 21 #[.pointer (some ⟨L,0,none⟩)] ((wc.setCell ⟨L,1,none⟩ (.int .i64 (bg+1))).setCell ⟨L,2,none⟩ (.int .i64 (be+1))) fun e w'=>e= .returned (.int .i64 (Zbj l1))∧Below ((wc.setCell ⟨L,1,none⟩ (.int .i64 (bg+1))).setCell ⟨L,2,none⟩ (.int .i64 (be+1))).heap.size ((wc.setCell ⟨L,1,none⟩ (.int .i64 (bg+1))).setCell ⟨L,2,none⟩ (.int .i64 (be+1))) w':=by
      have h:=ZbT _ B L D _ k2.1
      exact h
     obtain⟨v2,g1,g2⟩:=hl2.ex
     rw[hbk] at g1
     have c1:wc.cell? ⟨L,1,none⟩=some (.int .i64 bg):=g1.cell 1
     have c2:wc.cell? ⟨L,2,none⟩=some (.int .i64 be):=g1.cell 2
     have e1:wc.frozen? ⟨L,1,none⟩=false:=g1.free 1
     have g1':=g1.set 1 (.int .i64 (bg+1))
     have c2':(wc.setCell ⟨L,1,none⟩ (.int .i64 (bg+1))).cell? ⟨L,2,none⟩=some (.int .i64 be):=g1'.cell 2
     have e2:(wc.setCell ⟨L,1,none⟩ (.int .i64 (bg+1))).frozen? ⟨L,2,none⟩=false:=g1'.free 2
     have HK:=Zhd (Zan k1 (Zan k2 (Zan fc (Zan hd2 ho2))))
     have HNY:=Zhd hNx
     have HKB:=Zhd (show B≤((wc.setCell ⟨L,1,none⟩ (.int .i64 (bg+1))).setCell ⟨L,2,none⟩ (.int .i64 (be+1))).heap.size from by have h:=(k1.2.trans k2.2).bel.size;have:=hd2.Ble;omega)
     have fg7:=Zhu fg
     have fe7:=Zhu fe
     clear hl1 hdv1 ho1 hA1 hsc hbk hdn1 hl2 hd2 ho2 hbW hcw hnf fg fe fc k1 k2 hNx g1 g2 g1' x4
     go_wp2_with (go_at_call 21;refine HNY.out.mono ?_;rintro e W5 ⟨rfl,hb5⟩;have k5:=HK.out.2.1.1.on hb5;obtain⟨v5,q1,q2⟩:=k5.ex;have c5:=q1.cell 5;have e5:=q1.free 5;have H5:=Zhd (Zan k5 hb5);clear hb5 k5 q1 q2)
     go_ret
     have k6:=ZnE H5.out.1 HK.out.2.2.1
     obtain⟨kk1,kk2,kk3,kk4,kk5⟩:=HK.out
     have hon:=(kk1.2.trans kk2.2).trans ((Only.below H5.out.2 HKB.out).trans k6.2)
     refine⟨rfl,?_,ZdF kk4 hon (by decide) (by decide) (by decide) (by decide),kk5.trans (hon.mono (by decide))⟩
     have h6:=k6.1
     have hbe:Zb3 d ⟨bg,be,bf,(q:Int),bc⟩=⟨bg+1,be+1,bf,(q:Int),Zbj l1⟩:=by rw[Zb3,←HE.out.1]
     rw[←HE.out.1,hbe]
     have hbk:=HE.out.2.1
     obtain⟨lb,ll,lf,ld⟩:=l1
     simp only at hbk
     subst hbk
     exact h6
   ·have HF:=Zhd hF
    clear hinv hF hl1 hd1' ho1 hA1 hsc hbk hdn1 hn
    have hnb:((n:Int)==0)=false:=by simpa using h0
    go_upto_region 8 with(go_at_call 84;refine HF.out.mono ?_;rintro e W2 ⟨rfl,hb2⟩;have HB2:=Zhd hb2;clear hb2)
    obtain⟨hl1,hdv1,ho1,hA1,hsc,hbk,hdn1⟩:=HI.out
    have hb2:=HB2.out
    have hl2:=hl1.on hb2
    have hd2:=hdv1.on hb2
    have ho2:=ho1.trans (Only.below hb2 hdv1.Ble)
    have hA2:=hA1.on hb2
    have hroom:=ZlY (d:=d) (l:=l1) (by rw[←HN.out];exact h0)
    rw[←HN.out,hbk] at hroom
    simp only at hroom
    have hf0:∃ f',f=f'+1:=⟨f-1,by omega⟩
    obtain⟨f',rfl⟩:=hf0
    have hsc2:Zg5 d f' {l1 with list:=l1.list++[(l1.fin,n)],fin:=l1.fin+n}=Zdy d ⟨bg,be,bf,(q:Int),bc⟩:=by
     rw[←hsc,Zg5,if_neg (by rw[←HN.out];exact h0),HN.out]
    have HS:=Zhd (Zan hsc2 (Zan hbk (Zan hdn1 (Zan hd2 (Zan ho2 (Zan hA2 hl1.finOf))))))
    have hc:l1.list.length<100000:=by omega
    have hB:=hd2.Ble
    obtain⟨v,g1,g2⟩:=hl2.ex
    have hbd:=Below.drew (Below.refl W2.heap.size W2)
    obtain⟨v',W9,hrp⟩:=ZrD (B:=B) (by have:=hbd.size;omega) (by omega) (g2.on hbd) (l1.fin,n)
    obtain⟨ao',c',hv',-,-⟩:=hrp.gath.seq
    subst hv'
    have hlm:=ZnG (hl2.on hbd) (g1.on hbd) hrp hc (by have:=hbd.size;omega)
    have c6:W2.drew.cell? ⟨L,6,none⟩=some v:=(g1.on hbd).cell 6
    have c7:W2.drew.cell? ⟨L,7,none⟩=some (.int .i64 (l1.fin:Int)):=(g1.on hbd).cell 7
    have hc9:W9.cell? ⟨L,6,none⟩=some v∧W9.cell? ⟨L,7,none⟩=some (.int .i64 (l1.fin:Int)):=⟨hlm.1.cell 6,hlm.1.cell 7⟩
    have f6:W9.frozen? ⟨L,6,none⟩=false:=hlm.1.free 6
    have hal:=(Below.refl W2.drew.heap.size W2.drew).alloc Zlr (.cells #[.int .i64 (l1.fin:Int),.int .i64 (n:Int)] 106)
    have hca:(W2.alloc (.cells #[.int .i64 (l1.fin:Int),.int .i64 (n:Int)] 106)).drew.cell? ⟨L,6,none⟩=some v∧(W2.alloc (.cells #[.int .i64 (l1.fin:Int),.int .i64 (n:Int)] 106)).drew.cell? ⟨L,7,none⟩=some (.int .i64 (l1.fin:Int)):=⟨Zab hal c6,Zab hal c7⟩
    have HRP:=Zhd hrp
    have HLM:=Zhd (Zan hlm hbd)
    have lL:L<W2.heap.size:=Blk.lt g1
    have lW:=World.new_ne W2 ⟨L,6,none⟩ (show W2.cell? ⟨L,6,none⟩=some v from g1.cell 6)
    have lW7:=World.new_ne W2 ⟨L,7,none⟩ (show W2.cell? ⟨L,7,none⟩=some (.int .i64 (l1.fin:Int)) from g1.cell 7)
    clear hl1 hdv1 ho1 hA1 hsc hbk hdn1 hb2 hl2 hd2 ho2 hA2 hsc2 g1 g2 hrp hlm hal
    obtain⟨ca6,ca7⟩:=hca
    obtain⟨k6,k7⟩:=hc9
    go_cut [] (fun wx=>Hid (IsLog B wx L D {l1 with list:=l1.list++[(l1.fin,n)]}∧Only rgT B W2 wx))
    case first=>
     go_region_law (refine Zdh rfl _ _ _ _ rfl _ _ rfl rfl HRP.out.run ?_)
     all_goals
      go_wp2_with fail
      go_meet
      have h:=HLM.out.1.2
      rw[show(l1.list++[(l1.fin,n)]).length=l1.list.length+1 from by simp] at h
      exact Zhd ⟨h.1,(Only.below HLM.out.2 HS.out.2.2.2.1.Ble).trans h.2⟩
    case rest=>
     obtain⟨hl4,ho4⟩:=hcut.out
     have k4:=ZqO hl4 (l1.fin+n)
     rw[Int.natCast_add] at k4
     obtain⟨v4,g1,g2⟩:=hl4.ex
     have c74:wc.cell? ⟨L,7,none⟩=some (.int .i64 (l1.fin:Int)):=g1.cell 7
     have f74:wc.frozen? ⟨L,7,none⟩=false:=g1.free 7
     have H4:=Zhd (Zan k4 ho4)
     clear hcut hl4 ho4 k4 g1 g2 ca6 ca7 k6 k7 c6 c7 f6 lL lW lW7
     go_wp2_with fail
     go_roundw
     case measure=>
      rw[H4.out.1.1.finOf,HS.out.2.2.2.2.2.2]
      simp only[Int.toNat_natCast]
      omega
     case rel=>
      obtain⟨hsc2,hbk,hdn1,hd2,ho2,hA2,-⟩:=HS.out
      have hon:=H4.out.2.trans H4.out.1.2
      refine⟨rfl,Zhd ⟨_,f',H4.out.1.1,ZdF hd2 hon (by decide) (by decide) (by decide) (by decide),ho2.trans (hon.mono (by decide)),hon.blk hA2 (by decide),hsc2,hbk,hdn1,?_,?_,?_,?_⟩⟩
      ·show q≤l1.fin+n
       omega
      ·show(l1.list++[(l1.fin,n)]).length≤l1.fin+n-q
       rw[Zla,List.length_singleton]
       omega
      ·show l1.fin+n-q≤Zay d
       omega
      ·show Zay d+1≤f'+(l1.fin+n-q)
       omega
def Zeo (d:Zaz) (p:Nat):Nat→List UInt8
 |0=>[]
 |j+1=>Zeo d p j++(ZbF d (p+j)).2.1
theorem Zkp (w:World) (L:Nat) (n:Int) (h:w.cell? ⟨L,3,none⟩=some (.int .i64 n)):Calls Tryz.prog 20 #[.pointer (some ⟨L,0,none⟩)] w fun e w'=>e= .returned (.int .i64 n)∧w'=w:=by
 go_enter Tryz.func20,Tryz.ntmps20
 go_wp2_with fail
 go_ret
 exact⟨rfl,rfl⟩
theorem ZnN (w:World) (B L D:Nat) (l:ZaZ) (d:Zaz) (hl:IsLog B w L D l) (hd:IsDev B w D d) (h3:3≤d.sure.length) (ho:Zhw d l=false) (i:Nat) (hi:i<l.list.length) (sq:Int) (hsq:sq=l.block.first+(i:Int))
  (hok:∀ j,j<(l.list[i]).2→(ZbF d ((l.list[i]).1+j)).2.2=0) (hsz:(l.list[i]).1+(l.list[i]).2≤900000000) (hln:∀ j,j≤(l.list[i]).2→(Zeo d (l.list[i]).1 j).length≤1000000):
  Calls Tryz.prog 22 #[.pointer (some ⟨L,0,none⟩),.int .i64 sq] w fun e w'=>(∃ ao c,e= .returned (.tuple #[.slice ao (Zeo d (l.list[i]).1 (l.list[i]).2).length c,.int .i64 0])∧Own1 [5] w.heap.size w' ao (Zeo d (l.list[i]).1 (l.list[i]).2).length c ((Zeo d (l.list[i]).1 (l.list[i]).2).map u8V))∧IsLog B w' L D l∧IsDev B w' D d∧Only lgT B w w':=by
 obtain⟨pl,hpl⟩:∃ pl,pl=(l.list[i]).1:=⟨_,rfl⟩
 obtain⟨pn,hpn⟩:∃ pn,pn=(l.list[i]).2:=⟨_,rfl⟩
 rw[←hpl,←hpn] at hok hsz hln⊢
 have HP:=Zhd (Zan hpl hpn)
 clear hpl hpn
 have HC:=Zhd (ZeG w B L D l d hl hd)
 have hdl:=ZfJ ho
 rw[ho] at HC
 rw[ZfI l false hdl.2] at HC
 have hfr:=Zhu (ZaR hl.fits (t:=2) (by omega))
 simp only[ZbZ] at hfr
 have hcl:=hl.cnt
 have hsf:decide (sq<l.block.first)=false:=Zdf (by omega)
 have hsn:decide (Zbj l≤sq)=false:=Zdf (by unfold Zbj;omega)
 have hgo:sq-l.block.first=(i:Int):=by omega
 have HO:=Zhd (Zan hok (Zan hln (Zan hdl.1 hd.Ble)))
 clear hl hd ho hdl hok hln hsq
 go_enter Tryz.func22,Tryz.ntmps22
 go_upto_region 8 with(first
   |(go_at_call 21;refine(ZbT W1 B L D l H1.out.1).mono ?_;rintro e W2 ⟨rfl,hb2⟩;rw[show l.block.first+(l.list.length:Int)=Zbj l from rfl];have H2:=Zhd (Zan (H1.out.1.on hb2) (Zan (H1.out.2.1.on hb2) (H1.out.2.2.trans (Only.below hb2 (by have:=H1.out.2.1.Ble;omega)))));clear hb2)
   |(go_at_call 20;refine(ZeH W1 B L D l H1.out.1).mono ?_;rintro e W1 ⟨rfl,rfl⟩)
   |(go_at_call 48;refine HC.out.mono ?_;rintro e W1 ⟨rfl,hl1,hd1,ho1⟩;have H1:=Zhd (Zan hl1 (Zan hd1 ho1));clear hl1 hd1 ho1;(try simp)))
 have hbd:=Below.drew (Below.refl W2.heap.size W2)
 have hl2:=H2.out.1.on hbd
 obtain⟨v2,g1,g2⟩:=hl2.ex
 obtain⟨ao,c,rfl,hs2,-⟩:=g2.seq
 obtain⟨bb,off,rfl⟩:=hs2.addr hi
 obtain⟨kh,hc,-⟩:=hs2.at hi
 have c6:W2.drew.cell? ⟨L,6,none⟩=some (.slice (some ⟨bb,off,none⟩) l.list.length c):=g1.cell 6
 have e0:W2.drew.cell? ⟨bb,off+i*2,none⟩=some (.int .i64 (pl:Int)):=by rw[HP.out.1];exact hc 0 (by decide)
 have e1:W2.drew.cell? ⟨bb,off+i*2+1,none⟩=some (.int .i64 (pn:Int)):=by rw[HP.out.2];exact hc 1 (by decide)
 have e0':W2.cell? ⟨bb,off+i*2,none⟩=some (.int .i64 (pl:Int)):=e0
 have e1':W2.cell? ⟨bb,off+i*2+1,none⟩=some (.int .i64 (pn:Int)):=e1
 have c6':W2.cell? ⟨L,6,none⟩=some (.slice (some ⟨bb,off,none⟩) l.list.length c):=c6
 have n6:=World.new_ne W2 ⟨L,6,none⟩ c6'
 have n0:=World.new_ne W2 ⟨bb,off+i*2,none⟩ e0'
 have c3:W2.drew.cell? ⟨L,3,none⟩=some (.int .i64 l.block.first):=g1.cell 3
 have c3':W2.cell? ⟨L,3,none⟩=some (.int .i64 l.block.first):=c3
 have c3a:(W2.alloc (.cells #[.int .i64 0,.int .i64 0] 106)).drew.cell? ⟨L,3,none⟩=some (.int .i64 l.block.first):=Zab ((Below.refl W2.drew.heap.size W2.drew).alloc Zlr (.cells #[.int .i64 0,.int .i64 0] 106)) c3
 have n3:=World.new_ne W2 ⟨L,3,none⟩ c3'
 have D0:=Zhd (Zan c6 (Zan c3 (Zan e0 e1)))
 have HBD:=Zhd hbd
 clear hbd hl2 g1 g2 hs2 hc
 have hwr:IntKind.i64.wrap (sq-l.block.first)=(i:Int):=by rw[IntWalk.i64_in _ (by omega)];exact hgo
 have hwr2:IntKind.i64.wrap (i:Int)=(i:Int):=IntWalk.i64_in _ (by omega)
 clear hgo
 have hi2:(i:Int)<(l.list.length:Int):=by omega
 have hi3: ¬((i:Int)<0):=by omega
 have hi4:(i:Int)≤100000:=by omega
 go_cut [7] (fun v wx=>∃ g,v= .pointer (some ⟨g,0,none⟩)∧Hid (Blk wx g #[.int .i64 (pl:Int),.int .i64 (pn:Int)] 106∧Below W2.heap.size W2 wx))
 case first=>
  go_region_held3 (fun w'=>w'.cell? ⟨L,6,none⟩=some (.slice (some ⟨bb,off,none⟩) l.list.length c)∧w'.cell? ⟨L,3,none⟩=some (.int .i64 l.block.first)∧w'.cell? ⟨bb,off+i*2,none⟩=some (.int .i64 (pl:Int))∧w'.cell? ⟨bb,off+i*2+1,none⟩=some (.int .i64 (pn:Int)))
   (first|exact D0.out|go_keep)
   (first|(go_at_call 20;refine(Zkp _ L l.block.first (by assumption)).mono ?_;rintro e w9 ⟨rfl,rfl⟩))
  all_goals
   go_wp2_with fail
   go_meet
   have hb:=Below.drew ((Below.refl W2.heap.size W2).alloc Zlr (.cells #[.int .i64 (pl:Int),.int .i64 (pn:Int)] 106))
   have hz:Blk (W2.alloc (.cells #[.int .i64 (pl:Int),.int .i64 (pn:Int)] 106)) W2.heap.size #[.int .i64 (pl:Int),.int .i64 (pn:Int)] 106:=Zha W2 _
   exact⟨_,rfl,Zhd ⟨hz.on (Below.drew Zbr),hb⟩⟩
 case rest=>
  obtain⟨g,rfl,hcw⟩:=hcut
  obtain⟨hg,hbw⟩:=hcw.out
  have d1:wc.cell? ⟨g,1,none⟩=some (.int .i64 (pn:Int)):=hg.cell 1
  have HW:=Zhd (Zan hg hbw)
  clear hcw hg hbw c6 c3 e0 e1 e0' e1' c3' c3a c6' n6 n0 n3 D0
  go_wp2_with fail
  go_loopw [4,5,8,41] (fun s4 s5 sb si wr=>∃ j:Nat,j≤pn∧s4= .slice none 0 0∧s5= .int .i64 0∧si= .int .i64 (j:Int)∧Hid (Below W2.heap.size W2 wr∧Blk wr g #[.int .i64 (pl:Int),.int .i64 (pn:Int)] 106∧wr.ownsRow W2.heap.size 5 1 sb (Zeo d pl j).length ((Zeo d pl j).map u8V))) (fun _ _ _ si _=>pn-(intOf si).toNat)
  case atStart=>exact⟨0,Nat.zero_le _,rfl,rfl,rfl,Zhd ⟨HW.out.2,HW.out.1,World.ownsRow_nil _ _ _ _⟩⟩
  case round=>
   obtain⟨j,hj,rfl,rfl,rfl,hinv⟩:=hrel
   obtain⟨hbw,hg,hown⟩:=hinv.out
   have b0:wr.cell? ⟨g,0,none⟩=some (.int .i64 (pl:Int)):=hg.cell 0
   obtain⟨ao2,c2,rfl,hown1⟩:=Zai hown (by have:=HO.out.2.1 j hj;omega)
   have HI:=Zhd (Zan hbw (Zan hg hown))
   clear hinv hg hown
   by_cases hjn:j<pn
   ·have hjb:decide ((j:Int)<(pn:Int))=true:=Zdt (by omega)
    have hpt:=Zjq wr B L D l d (H2.out.1.on hbw) (H2.out.2.1.on hbw) HO.out.2.2.1 h3 (pl+j) (by omega)
    have hpz:=HO.out.1 j hjn
    obtain⟨o,hoe⟩:∃ o,o=ZbF d (pl+j):=⟨_,rfl⟩
    have hrf:Zeo d pl (j+1)=Zeo d pl j++o.2.1:=by rw[hoe];rfl
    rw[←hoe] at hpz
    have HPT:=Zhd (Zan hpt (Zan hoe hrf))
    obtain⟨H,dat,kk⟩:=o
    simp only at hpz
    subst hpz
    have HLN:=Zhd (Zan (HO.out.2.1 (j+1) hjn) (HO.out.2.1 j hj))
    clear hpt hoe hrf hown1 hbw
    go_upto_region 16 with(first
     |(go_at_call 49;refine HPT.out.1.mono ?_;rintro e W4 hR;obtain⟨ao,c,rfl,hown⟩:=hR.out;rw[←HPT.out.2.1] at hown⊢;have H4:=Zhd (Zan hR.bel hown);clear hR hown)
     |(refine wpList_store_row rfl 108 _ _ rfl W4.heap.size (Zat H) rfl rfl 108 (Zat ZaO) (Zha W4 _) ZbD rfl (Zbs _) ?_;have hq:=ZdU W4 H;(try change wpList _ _ _ _ _ ((W4.alloc (.cells (Zat ZaO) 108)).setRow W4.heap.size (Zat H)));generalize (W4.alloc (.cells (Zat ZaO) 108)).setRow W4.heap.size (Zat H)=W5 at hq⊢;have H5:=Zhd (Zan (H4.out.2.on hq.2) (Zaa H4.out.1 hq.2 Zlr));clear hq))
    obtain⟨i0,hi0,hz0,hz1,hz2⟩:=info_parts ZeD
    have hb5:=H5.out.2
    have hlr:(Zeo d pl (j+1)).length=(Zeo d pl j).length+dat.length:=by rw[HPT.out.2.2,Zla]
    have hown5:=HI.out.2.2.kept (row:=none) ⟨hb5.os,hb5.tape,hb5.output,hb5.size,fun k hk _=>hb5.block k hk⟩ (by cases (Value.slice ao2 (Zeo d pl j).length c2).ownBlock<;>simp)
    obtain⟨v',W6,hrun,hown6,hgr⟩:=Zba (P:=Tryz.prog) W5 W2.heap.size 22 22 5 i0 _ 1 Tryz.underlying22 hi0 hz0 hz1 hz2 rfl (.slice ao2 (Zeo d pl j).length c2) _ _ hown5 ao dat.length c (dat.map u8V) H5.out.1.row (Zdu dat) (by have:=HLN.out.1;omega) (by have:=HLN.out.1;omega) (by have:=HI.out.1.size;have:=hb5.size;omega)
    have hbn:Below W2.heap.size W2 W6:=(Zaa HI.out.1 hb5 Zlr).grown hgr (by have:=HI.out.1.size;have:=hb5.size;omega) (fun k hk=>(hown5.lt k hk).1)
    have hrow:∀ b,(Value.slice ao2 (Zeo d pl j).length c2).ownBlock=some b→∃ cs,Blk W5 b cs 5∧W2.heap.size≤b:=by
     intro b hb
     obtain⟨_,ho⟩:=hown5
     rcases ho with⟨he,_⟩|⟨g',cap,cur,he,hB,hh,_⟩
     ·rw[he] at hb
      simp[Value.ownBlock] at hb
     ·rw[he] at hb
      simp[Value.ownBlock] at hb
      subst hb
      exact⟨cur,hh,hB⟩
    have hgn:Blk W6 g #[.int .i64 (pl:Int),.int .i64 (pn:Int)] 106:=Zda hgr hrow (HI.out.2.1.on hb5) (by decide)
    obtain⟨ao6,c6,rfl,-⟩:=Zai hown6 (by have:=HLN.out.1;omega)
    have HR:=Zhd hrun
    have H6:=Zhd (Zan hbn (Zan hgn hown6))
    clear hi0 hz0 hz1 hz2 hb5 hown5 hrun hown6 hgr hbn hgn hrow
    go_wp2_with (at_builtin;refine Zao rfl _ _ _ rfl _ _ rfl rfl HR.out ?_)
    go_roundw
    case measure=>simp[intOf];omega
    case rel=>
     refine⟨j+1,hjn,rfl,rfl,by simp,Zhd ⟨H6.out.1,H6.out.2.1,?_⟩⟩
     rw[hlr,HPT.out.2.2,List.map_append]
     exact H6.out.2.2
   ·obtain rfl:j=pn:=by omega
    go_wp2_with fail
    go_ret2
    exact⟨⟨ao2,c2,rfl,(hown1.on Zbr).mono H2.out.2.2.bel.size⟩,H2.out.1.on hbw,H2.out.2.1.on hbw,H2.out.2.2.trans (Only.below hbw H2.out.2.1.Ble)⟩
theorem Zkt (b:List UInt8) (k:Nat):b.take (k*496)++Zcl b k=b.take ((k+1)*496):=by
 rw[Zcl,show(k+1)*496=k*496+496 by omega,List.take_add]
theorem ZqE {d:Zaz} {l:ZaZ} {rs:List (List UInt8)} {sy n:Nat} (h:LogOK d l rs sy) (hb:LogBd d l rs n) (hn:n≤700000) {i:Nat} (hi:i<rs.length):Za2 (l.block.first+(i:Int)) 7=true:=
 (Zbv (by have:=h.nums.2.2.1;omega) (by have:=hb.first;omega)).1
theorem Zlc {d:Zaz} {l:ZaZ} {rs:List (List UInt8)} {sy n f:Nat} {ep:Nat→Int} (h:LogOK d l rs sy) (hb:LogBd d l rs n) (hn:n≤700000) (hB:Zmx d l rs sy f ep) {i:Nat} (hi:i<rs.length) {j:Nat} (hj:j<pN rs[i]):(ZbF d (plN f rs i+j)).2=(Zcl rs[i] j,0):=by
 rw[Zjv h hB hi hj (ZqE h hb hn hi) (fun hi hj=>hB.live i hi j hj)]
theorem ZiD {d:Zaz} {l:ZaZ} {rs:List (List UInt8)} {sy n f:Nat} {ep:Nat→Int} (h:LogOK d l rs sy) (hb:LogBd d l rs n) (hn:n≤700000) (hB:Zmx d l rs sy f ep) {i:Nat} (hi:i<rs.length):∀ k,k≤pN rs[i]→Zeo d (plN f rs i) k=rs[i].take (k*496)
 |0,_=>by simp[Zeo]
 |k+1,hk=>by
  rw[Zeo,ZiD h hb hn hB hi k (by omega),Zlc h hb hn hB hi (j:=k) (by omega),Zkt]
theorem ZnV (b:List UInt8):b.take (pN b*496)=b:=by
 apply List.take_of_length_le
 unfold pN ZaI
 omega
theorem Zpp (w:World) (B L D:Nat) (l:ZaZ) (d:Zaz) (hl:IsLog B w L D l) (hd:IsDev B w D d) (rs:List (List UInt8)) (sy n:Nat) (h:LogOK d l rs sy) (hb:LogBd d l rs n) (hn:n≤700000) (i:Nat) (hi:i<rs.length):
  Calls Tryz.prog 22 #[.pointer (some ⟨L,0,none⟩),.int .i64 (l.block.first+(i:Int))] w fun e w'=>(∃ ao c,e= .returned (.tuple #[.slice ao rs[i].length c,.int .i64 0])∧Own1 [5] w.heap.size w' ao rs[i].length c (rs[i].map u8V))∧IsLog B w' L D l∧IsDev B w' D d∧Only lgT B w w':=by
 obtain⟨f,ep,hB⟩:=h.body
 have hi2:i<l.list.length:=by rw[h.list_len.1];exact hi
 have he:l.list[i]=(plN f rs i,pN rs[i]):=by
  have e:=Zgq f rs i hi
  rw[←hB.lst,List.getElem?_eq_getElem hi2] at e
  exact Zsi e
 have hpe:=Ziy f rs hi
 have hfin:=hB.fin
 have hbf:=hb.fin
 have hs:=(h.small _ (List.getElem_mem hi)).2
 have hr:=ZnN w B L D l d hl hd (by have:=h.n4;omega) (Zfb h.calm h.off) i hi2 _ rfl
  (fun j hj=>by rw[he] at hj⊢;rw[Zlc h hb hn hB hi hj]) (by rw[he];show plN f rs i+pN rs[i]≤_;omega)
  (fun j hj=>by rw[he] at hj⊢;rw[ZiD h hb hn hB hi j hj,List.length_take];omega)
 rw[he,show((plN f rs i,pN rs[i]).1)=plN f rs i from rfl,show((plN f rs i,pN rs[i]).2)=pN rs[i] from rfl,ZiD h hb hn hB hi _ Zlr,ZnV] at hr
 exact hr
theorem ZnJ (w:World) (D:Nat) (B:Nat) (d:Zaz) (hd:IsDev B w D d) (h4:4≤d.sure.length) (hdn:d.down=false) (b:ZcS) (hld:Zb1 d 2=some b) (hbf:ZaT b=true) (he1:1≤b.epoch) (hfc:b.first≤b.count)
  (hcn:b.count≤Zbj (Zdy d b)) (hnf:ZaT (Zb3 d b)=true) (hfrom:b.from'≤800000000) (sd:Zaz) (hsv:ZbH d (Zb3 d b)=(sd,0)):
  Calls Tryz.prog 18 #[.pointer (some ⟨D,0,none⟩)] w fun e w'=>(∃ L,e= .returned (.tuple #[.pointer (some ⟨L,0,none⟩),.int .i64 0])∧w.heap.size≤L∧IsLog B w' L D {Zdy d b with block:=Zb3 d b})∧IsDev B w' D sd∧Only lgT B w w':=by
 have HLN:=Zhd (ZdQ w B D _ hd)
 have HDW:=Zhd (Zfd w B D _ hd)
 rw[hdn] at HDW
 have h4i: ¬((d.sure.length:Int)<4):=by omega
 have HBL:=Zhd hd.Ble
 have hle:=ZeO d
 have hA:Blk (w.alloc (.cells (Zej D Zal (.slice none 0 0) 0 false) 98)) w.heap.size (Zej D Zal (.slice none 0 0) 0 false) 98:=Zha w _
 have hal:Below w.heap.size w (w.alloc (.cells (Zej D Zal (.slice none 0 0) 0 false) 98)):=Zbr.alloc Zlr _
 have HA:=Zhd (Zan hal hA)
 have HLD:=Zhd (Zim (w.alloc (.cells (Zej D Zal (.slice none 0 0) 0 false) 98)) B D _ (hd.on hal) (by omega))
 rw[show ZeO d=0 by rw[ZeO,if_neg (by rw[hdn];decide),hld];rfl,show Zfm d=b by rw[Zfm,if_neg (by rw[hdn];decide),hld];rfl] at HLD
 have HX:=Zhd (Zan hld (Zan hbf (Zan he1 (Zan hfc (Zan hcn (Zan hnf (Zan hfrom (Zan hsv (Zan hd (Zan hdn h4))))))))))
 have hb':∃ b',b'=Zb3 d b:=⟨_,rfl⟩
 clear hd h4 hA hal hdn hld hbf he1 hfc hcn hnf hfrom hsv hle hb'
 go_enter Tryz.func18,Tryz.ntmps18
 go_upto_region 16 with(first|(go_at_call 19;refine HLN.out.mono ?_;rintro e w ⟨rfl,rfl⟩)|(go_at_call 43;refine HDW.out.mono ?_;rintro e w ⟨rfl,rfl⟩)|(go_at_call 44;refine HLD.out.mono ?_;rintro e W2 ⟨rfl,hb⟩;have HW:=Zhd (Zan (Zaa HA.out.1 hb Zlr) (HA.out.2.on hb));clear hb)|(refine wpList_store_row rfl 95 _ _ rfl W2.heap.size (ZaM b) rfl rfl 95 (ZaM Zal) (Zha W2 _) ZbJ rfl (Zbm _) ?_;have hq:=Zeu W2 b;(try change wpList _ _ _ _ _ ((W2.alloc (.cells (ZaM Zal) 95)).setRow W2.heap.size (ZaM b)));generalize (W2.alloc (.cells (ZaM Zal) 95)).setRow W2.heap.size (ZaM b)=W3 at hq⊢;have HQ:=Zhd (Zan hq (Zan (Zaa HW.out.1 hq.2 Zlr) (HW.out.2.on hq.2)));clear hq))
 obtain⟨g,hg⟩:∃ g,g=W2.heap.size:=⟨_,rfl⟩
 rw[←hg] at HQ⊢
 clear hg
 have hq1:=HQ.out.1.1
 obtain⟨y0,y1,y2,y3,y4⟩:=Zc5 (show Blk W3 g _ _ from hq1)
 have hl3:IsLog B W3 w.heap.size D ⟨Zal,[],0,false⟩:=⟨⟨_,HQ.out.2.2,Gath.nil _ _ _ _ _⟩,HBL.out,by decide,Nat.zero_le _⟩
 obtain⟨hld,hbf,he1,hfc,hcn,hnf,hfrom,hsv,hd,hdn,h4⟩:=HX.out
 have hs:=ZnO W3 B w.heap.size D _ d hl3 rfl rfl (hd.on HQ.out.2.1) hdn (by omega) b hbf he1 hfc hcn hnf hfrom
 obtain⟨b',hb'⟩:∃ b',b'=Zb3 d b:=⟨_,rfl⟩
 rw[←hb'] at hs
 have hnx:ZbI d b'=true:=by rw[hb',ZbI,hld];exact beq_self_eq_true _
 have HS:=Zhd hs
 have HB':=Zhd (Zan hb' hnx)
 clear hq1 hl3 hld hbf he1 hfc hcn hnf hfrom hsv hd hdn h4 hs hb' hnx
 go_wp2_with (first
  |(go_at_call 46;refine HS.out.mono ?_;rintro e W4 ⟨rfl,hl4,hd4,ho4⟩;obtain⟨v4,g1,g2⟩:=hl4.ex;have z1:W4.cell? ⟨w.heap.size,1,none⟩=some (.int .i64 b'.gen):=g1.cell 1;have z2:W4.cell? ⟨w.heap.size,2,none⟩=some (.int .i64 b'.epoch):=g1.cell 2;have z3:W4.cell? ⟨w.heap.size,3,none⟩=some (.int .i64 b'.first):=g1.cell 3;have z4:W4.cell? ⟨w.heap.size,4,none⟩=some (.int .i64 b'.from'):=g1.cell 4;have z5:W4.cell? ⟨w.heap.size,5,none⟩=some (.int .i64 b'.count):=g1.cell 5;have H4:=Zhd (Zan hl4 (Zan hd4 ho4));clear hl4 hd4 ho4 g1 g2)
  |(go_at_call 47;have hsa:=ZiF W4 B D d H4.out.2.1 (by have:=HX.out.2.2.2.2.2.2.2.2.2.2;omega) HX.out.2.2.2.2.2.2.2.2.2.1 b' (by rw[HB'.out.1];exact HX.out.2.2.2.2.2.1) HB'.out.2;rw[HB'.out.1,HX.out.2.2.2.2.2.2.2.1,←HB'.out.1] at hsa;refine hsa.mono ?_;rintro e W5 ⟨rfl,hd5,ho5⟩;have H5:=Zhd (Zan hd5 ho5);clear hd5 ho5 hsa))
 go_ret2
 have hl5:=H4.out.1.only H5.out.2 (by decide) (by decide)
 rw[HB'.out.1] at hl5
 refine⟨⟨_,rfl,Nat.le_refl _,hl5⟩,H5.out.1,(Only.below HQ.out.2.1 HBL.out).trans (H4.out.2.2.trans (H5.out.2.mono (by decide)))⟩
def aT:List TypeId:=qT++lgT
structure Afr (B:Nat) (w w':World):Prop where
 bel:Below B w w'
 same:Same (Zak aT w) w w'
theorem Afr.trans {B:Nat} {a b c:World} (h:Afr B a b) (k:Afr B b c):Afr B a c:=⟨h.bel.trans k.bel,h.same.step k.same⟩
theorem Afr.below {B:Nat} {w w':World} (h:Below w.heap.size w w') (hB:B≤w.heap.size):Afr B w w':=⟨h.mono hB,Same.below h _⟩
theorem Afr.left {B B':Nat} {w w':World} (h:Left B' w w') (hB:B≤B'):Afr B w w':=⟨h.bel.mono hB,ZcH h.same (by decide)⟩
theorem Afr.only {S:List TypeId} {B:Nat} {w w':World} (h:Only S B w w') (hd:∀ t∈aT,t∉S):Afr B w w':=⟨h.bel,h.same hd⟩
theorem Afr.kfr {B:Nat} {w w':World} (h:Afr B w w'):Kfr B w w':=⟨h.bel,ZcH h.same (by decide)⟩
theorem Afr.dev {B B':Nat} {w w':World} {D:Nat} {d:Zaz} (ho:Afr B' w w') (hd:IsDev B w D d):IsDev B w' D d:=by
 obtain⟨SU,v,k1,k2,k3,k4⟩:=hd.ex
 exact⟨⟨SU,v,Zch k1 ho.same (by decide),Zch k2 ho.same (by decide),k3,k4.step (ZcH ho.same (by decide))⟩,hd.base,hd.pos,hd.le,hd.lens,hd.ulens,hd.lim,hd.cnt⟩
theorem Afr.log {B B':Nat} {w w':World} {L D:Nat} {l:ZaZ} (ho:Afr B' w w') (h:IsLog B w L D l):IsLog B w' L D l:=by
 obtain⟨v,a,b⟩:=h.ex
 exact⟨⟨v,Zch a ho.same (by decide),b.step (ZcH ho.same (by decide))⟩,h.base,h.fits,h.cnt⟩
theorem Zjd (w:World) (B K C L:Nat) (pl no te:Int) (me dn:Bool) (hK:Blk w K (ZaQ C L pl no te me dn) 62) (hB:B≤K) (hBw:B≤w.heap.size) (t:Int):
  Calls Tryz.prog 24 #[.pointer (some ⟨K,0,none⟩),.agg (Zar 3 t (.slice none 0 0))] w fun e w'=>e= .returned (.tuple #[])∧Blk w' K (ZaQ C L pl (max no t) (max no t) me dn) 62∧Only [62] B w w':=by
 have hb1:Below w.heap.size w (w.alloc (.cells (Zar 3 t (.slice none 0 0)) 66)):=Zbr.alloc Zlr _
 have a1:Blk (w.alloc (.cells (Zar 3 t (.slice none 0 0)) 66)) w.heap.size (Zar 3 t (.slice none 0 0)) 66:=Zha w _
 have e0:(w.alloc (.cells (Zar 3 t (.slice none 0 0)) 66)).cell? ⟨w.heap.size,0,none⟩=some (.int .i64 3):=a1.cell 0
 have e1':(w.alloc (.cells (Zar 3 t (.slice none 0 0)) 66)).cell? ⟨w.heap.size,1,none⟩=some (.int .i64 t):=a1.cell 1
 have k1:=hK.on hb1
 have HA:=Zhd (Zan hb1 (Zan a1 k1))
 have HB:=Zhd (Zan hB hBw)
 clear hb1 a1 k1 hK hB hBw
 go_enter Tryz.func24,Tryz.ntmps24
 go_upto_region 2 with fail
 clear e0 e1'
 obtain⟨wa,hwa⟩:∃ wa,wa=w.alloc (.cells (Zar 3 t (.slice none 0 0)) 66):=⟨_,rfl⟩
 rw[←hwa] at HA⊢
 clear hwa
 have hA:=HA.out.2.1
 have k1:=HA.out.2.2
 have x1:wa.cell? ⟨w.heap.size,1,none⟩=some (.int .i64 t):=hA.cell 1
 have z3:wa.cell? ⟨K,3,none⟩=some (.int .i64 no):=k1.cell 3
 have t3:=k1.free 3
 go_cut [] (fun wx=>Hid (Blk wx K (ZaQ C L pl (max no t) te me dn) 62∧Only [62] B w wx))
 case first=>
  clear hA k1
  go_region_law fail
  all_goals
   go_wp2_with fail
   go_meet
   have hg:=Zag wa K 3 (.int .i64 (max no t))
   have hs:=HA.out.2.2.set 3 (.int .i64 (max no t))
   have ho:=(Only.below HA.out.1 HB.out.2).trans (Only.but (S:=[62]) hg HA.out.2.2 List.mem_cons_self HB.out.1)
   have hbz:=Below.drew (Below.refl (wa.setCell ⟨K,3,none⟩ (.int .i64 (max no t))).heap.size (wa.setCell ⟨K,3,none⟩ (.int .i64 (max no t))))
   exact Zhd ⟨by simpa [ZaQ] using hs.on hbz,ho.trans (Only.below hbz (by have:=ho.bel.size;have:=HB.out.2;omega))⟩
 case rest=>
  obtain⟨hk,ho⟩:=hcut.out
  have y3:wc.cell? ⟨K,3,none⟩=some (.int .i64 (max no t)):=hk.cell 3
  have y4:wc.cell? ⟨K,4,none⟩=some (.int .i64 te):=hk.cell 4
  have u4:=hk.free 4
  have hs:=hk.set 4 (.int .i64 (max no t))
  have hg:=Zag wc K 4 (.int .i64 (max no t))
  have HF:=Zhd (Zan hs (ho.trans (Only.but (S:=[62]) hg hk List.mem_cons_self HB.out.1)))
  clear hcut hk ho hs hg x1 z3 t3 hA k1
  go_wp2_with fail
  go_end0
  exact⟨rfl,by simpa [ZaQ] using HF.out.1,HF.out.2⟩
def ZpZ (B:Nat) (P:Nat→Nat→Nat→Nat→World→Prop) (i:Nat) (b:List UInt8):Prop:=
 ∀ (K C L:Nat) (W:World) (ao:Option Addr) (c:Nat),P i K C L W→B≤W.heap.size→Own1 [5] B W ao b.length c (b.map u8V)→
   Calls Tryz.prog 23 #[.slice ao b.length c] W (fun e W'=>∃ ev:Array Value,ev.size=16∧ev.all (·.oneCell')=true∧e= .returned (.tuple #[.agg ev,.int .i64 0])∧Below W.heap.size W W'∧
    ∀ W2,Below W'.heap.size W' W2→Calls Tryz.prog 24 #[.pointer (some ⟨K,0,none⟩),.agg ev] W2 fun e w'=>e= .returned (.tuple #[])∧P (i+1) K C L w'∧Afr B W2 w')
theorem Znv (w:World) (D:Nat) (B:Nat) (d:Zaz) (hd:IsDev B w D d) (h4:4≤d.sure.length) (hdn:d.down=false) (b:ZcS) (hld:Zb1 d 2=some b) (hbf:ZaT b=true) (he1:1≤b.epoch) (hfc:b.first≤b.count)
  (hcn:b.count≤Zbj (Zdy d b)) (hnf:ZaT (Zb3 d b)=true) (hfrom:b.from'≤800000000) (sd:Zaz) (hsv:ZbH d (Zb3 d b)=(sd,0)) (l:ZaZ) (hll:{Zdy d b with block:=Zb3 d b}=l)
  (rs:List (List UInt8)) (sy n:Nat) (hok:LogOK sd l rs sy) (hbd:LogBd sd l rs n) (hn:n≤700000) (hsl:sd.sure.length=d.sure.length)
  (most stale:Int) (h1:1≤most) (h2:most≤4096) (hs:Za6 stale=true) (P:Nat→Nat→Nat→Nat→World→Prop)
  (hP0:∀ K C L W,Blk W K (ZaQ C L ((d.sure.length:Int)-2) 0 0 false false) 62→B≤K→IsCache B W C most stale 0 []→P 0 K C L W)
  (hPo:∀ i K C L W W',P i K C L W→Only lgT B W W'→P i K C L W')
  (hst:∀ i (hi:i<rs.length),ZpZ B P i rs[i]):
  Calls Tryz.prog 5 #[.pointer (some ⟨D,0,none⟩),.int .i64 most,.int .i64 stale] w fun e w'=>(∃ K C L,e= .returned (.tuple #[.pointer (some ⟨K,0,none⟩),.int .i64 0])∧P rs.length K C L w'∧IsLog B w' L D l)∧IsDev B w' D sd∧Kfr B w w':=by
 have HNW:=Zhd (ZnR w w.heap.size Zlr most stale h1 h2 hs)
 have HBL:=Zhd hd.Ble
 have hpl:=hd.le
 have hLO:=fun W (hb:IsDev B W D d)=>ZnJ W D B d hb h4 hdn b hld hbf he1 hfc hcn hnf hfrom sd hsv
 rw[hll] at hLO
 have HLO:=Zhd hLO
 have H0:=Zhd (Zan hd (Zan hok (Zan hbd (Zan hn (Zan hP0 (Zan hPo (Zan hst hsl)))))))
 obtain⟨m,hm⟩:∃ m,m=rs.length:=⟨_,rfl⟩
 obtain⟨x,hx⟩:∃ x,x=l.block.first:=⟨_,rfl⟩
 have hnx:l.block.first+(l.list.length:Int)=x+(m:Int):=by rw[hok.list_len.1,hm,hx]
 have HM:=Zhd (Zan hm (Zan hx hnx))
 have hxb:0≤x∧x≤700000∧m≤700000:=by
  have q1:=hok.nums.2.2.1
  have q2:=hbd.first
  rw[←hx] at q1 q2
  rw[←hm] at q2
  omega
 obtain⟨dl,hdl⟩:∃ dl,dl=d.sure.length:=⟨_,rfl⟩
 have HDL:=Zhd hdl
 rw[←hdl] at hpl
 rw[←hm]
 clear hd h4 h1 h2 hs hok hbd hn hP0 hPo hst hLO hdn hld hbf he1 hfc hcn hnf hfrom hsv hll hm hx hnx hsl hdl
 go_enter Tryz.func5,Tryz.ntmps5
 go_wp2_with (first
  |(go_at_call 20;have hK:=Zha W2 (.cells (ZaQ C L ((dl:Int)-2) 0 0 false false) 62);have hb3:=(Below.refl W2.heap.size W2).alloc Zlr (.cells (ZaQ C L ((dl:Int)-2) 0 0 false false) 62);(try change Calls _ _ _ (W2.alloc (.cells (ZaQ C L ((dl:Int)-2) 0 0 false false) 62)) _);generalize W2.alloc (.cells (ZaQ C L ((dl:Int)-2) 0 0 false false) 62)=W3 at hK hb3⊢;have H3:=Zhd (Zan hK hb3);clear hK hb3;refine(ZeH W3 _ L D _ (H2.out.1.on H3.out.2)).mono ?_;rintro e W3 ⟨rfl,rfl⟩)
  |(go_at_call 19;refine(ZdQ W2 B D _ H2.out.2.1).mono ?_;rintro e W2 ⟨rfl,rfl⟩;rw[H0.out.2.2.2.2.2.2.2,←HDL.out])
  |(go_at_call 18;refine(HLO.out W1 (H0.out.1.on H1.out.2)).mono ?_;rintro e W2 ⟨⟨L,rfl,-,hl⟩,hd2,ho2⟩;have H2:=Zhd (Zan hl (Zan hd2 (Zan ((Only.below H1.out.2 HBL.out).trans ho2) (H1.out.1.only ho2 (by decide) (by decide) (by decide)))));clear hl hd2 ho2)
  |(go_at_call 17;refine HNW.out.mono ?_;rintro e W1 ⟨⟨C,rfl,hc⟩,hb1⟩;have H1:=Zhd (Zan hc hb1);clear hc hb1))
 rw[←HM.out.2.1]
 obtain⟨g,hg⟩:∃ g,g=W2.heap.size:=⟨_,rfl⟩
 rw[←hg]
 have hK3:Blk W3 g (ZaQ C L ((dl:Int)-2) 0 0 false false) 62:=by rw[hg];exact H3.out.1
 have hgB:B≤g:=by
  have:=H2.out.2.2.1.bel.size
  have:=HBL.out
  omega
 have hP:=H0.out.2.2.2.2.1 g C L W3 (by rw[←HDL.out];exact hK3) hgB (ZgF (H2.out.2.2.2.on H3.out.2) HBL.out)
 have hfr:Kfr B w W3:=(Kfr.only H2.out.2.2.1 (by decide)).trans (Kfr.below H3.out.2 (by omega))
 have HI0:=Zhd (Zan hP (Zan (H2.out.1.on H3.out.2) (Zan (H2.out.2.1.on H3.out.2) hfr)))
 clear hK3 hP hfr hg
 go_loopw [12] (fun s wr=>∃ i:Nat,i≤m∧s= .int .i64 (x+(i:Int))∧Hid (P i g C L wr∧IsLog B wr L D l∧IsDev B wr D sd∧Kfr B w wr)) (fun s _=>(x+(m:Int)-intOf s).toNat)
 case atStart=>exact⟨0,Nat.zero_le _,by simp,HI0⟩
 case round=>
  obtain⟨i,hi,rfl,hinv⟩:=hrel
  have hBr:B≤wr.heap.size:=by have:=hinv.out.2.2.2.bel.size;have:=HBL.out;omega
  by_cases hlt:i<m
  ·have hcmp:decide (x+(i:Int)<x+(m:Int))=true:=Zdt (by omega)
   have hir:i<rs.length:=by rw[←HM.out.1];exact hlt
   have HIR:=Zhd hir
   go_wp2_with (first
    |(go_at_call 24;refine(H6.out.2.2.2 W7 H7.out.2).mono ?_;rintro e W8 ⟨rfl,hP8,hf8⟩;have H8:=Zhd (Zan hP8 hf8);clear hP8 hf8)
    |(refine wpList_load_row rfl 66 _ rfl W6.heap.size rfl 66 ev (0,0) _ H7.out.1 Tryz.underlying66 rfl (Zdq H6.out.1) ?_)
    |(refine wpList_store_row rfl 66 _ _ rfl W6.heap.size ev rfl rfl 66 (Zar 0 0 (.slice none 0 0)) (Zha W6 _) (Zdq H6.out.1) H6.out.1.symm H6.out.2.1 ?_;have hq:=Zkf W6 ev;(try change wpList _ _ _ _ _ ((W6.alloc (.cells (Zar 0 0 (.slice none 0 0)) 66)).setRow W6.heap.size ev));generalize (W6.alloc (.cells (Zar 0 0 (.slice none 0 0)) 66)).setRow W6.heap.size ev=W7 at hq⊢;have H7:=Zhd hq;clear hq)
    |(go_at_call 23;have hdec:=H0.out.2.2.2.2.2.2.1 i HIR.out g C L W5 ao c H5.out.1 H5.out.2.2.2.2 H5.out.2.2.2.1;refine hdec.mono ?_;rintro e W6 ⟨ev,he1,he2,rfl,hb6,hag⟩;have H6:=Zhd (Zan he1 (Zan he2 (Zan hb6 hag)));clear he1 he2 hb6 hag)
    |(go_at_call 22;have hr:=Zpp W4 B L D l sd (hinv.out.2.1.on H4.out) (hinv.out.2.2.1.on H4.out) rs sy n H0.out.2.1 H0.out.2.2.1 H0.out.2.2.2.1 i HIR.out;rw[←HM.out.2.1] at hr;refine hr.mono ?_;rintro e W5 ⟨⟨ao,c,rfl,ho⟩,hl5,hd5,hon5⟩;have hP5:=H0.out.2.2.2.2.2.1 _ _ _ _ _ _ hinv.out.1 ((Only.below H4.out hBr).trans hon5);have hB5:B≤W5.heap.size:=Nat.le_trans (Nat.le_trans hBr H4.out.size) hon5.bel.size;have H5:=Zhd (Zan hP5 (Zan (Zan hl5 hd5) (Zan hon5 (Zan (ho.mono (Nat.le_trans hBr H4.out.size)) hB5))));clear hr ho hl5 hd5 hon5 hP5 hB5)
    |(go_at_call 21;refine(ZbT wr _ L D _ hinv.out.2.1).mono ?_;rintro e W4 ⟨rfl,hb4⟩;rw[HM.out.2.2];have H4:=Zhd hb4;clear hb4))
   go_roundw
   case measure=>simp[intOf];omega
   case rel=>
    have hb57:=Zaa H6.out.2.2.1 H7.out.2 Zlr
    have hfr:Kfr B W5 W8:=(Kfr.below hb57 H5.out.2.2.2.2).trans H8.out.2.kfr
    exact⟨i+1,hlt,by simp;omega,Zhd ⟨H8.out.1,H8.out.2.log (H5.out.2.1.1.on hb57),H8.out.2.dev (H5.out.2.1.2.on hb57),(hinv.out.2.2.2.trans (Kfr.below H4.out hBr)).trans ((Kfr.only H5.out.2.2.1 (by decide)).trans hfr)⟩⟩
  ·obtain rfl:i=m:=by omega
   have hcmp:decide (x+(i:Int)<x+(i:Int))=false:=by simp
   go_wp2_with (go_at_call 21;refine(ZbT wr _ L D _ hinv.out.2.1).mono ?_;rintro e W4 ⟨rfl,hb4⟩;rw[HM.out.2.2];have H4:=Zhd hb4;clear hb4)
   go_ret2
   exact⟨⟨g,C,L,rfl,H0.out.2.2.2.2.2.1 _ _ _ _ _ _ hinv.out.1 (Only.below H4.out hBr),hinv.out.2.1.on H4.out⟩,hinv.out.2.2.1.on H4.out,hinv.out.2.2.2.trans (Kfr.below H4.out hBr)⟩
def AtB (l:List UInt8) (p:Nat) (bs:List UInt8):Prop:=∃ pre post,l=pre++bs++post∧pre.length=p
theorem AtB.len {l:List UInt8} {p:Nat} {bs:List UInt8} (h:AtB l p bs):p+bs.length≤l.length:=by
 obtain⟨pre,post,rfl,rfl⟩:=h
 simp only[Zla]
 omega
theorem AtB.app {l:List UInt8} {p:Nat} {bs:List UInt8} (h:AtB l p bs) (q:List UInt8):AtB (l++q) p bs:=by
 obtain⟨pre,post,rfl,rfl⟩:=h
 exact⟨pre,post++q,by simp,rfl⟩
theorem AtB.left {l:List UInt8} {p:Nat} {a b:List UInt8} (h:AtB l p (a++b)):AtB l p a:=by
 obtain⟨pre,post,rfl,rfl⟩:=h
 exact⟨pre,b++post,by simp,rfl⟩
theorem AtB.right {l:List UInt8} {p:Nat} {a b:List UInt8} (h:AtB l p (a++b)):AtB l (p+a.length) b:=by
 obtain⟨pre,post,rfl,rfl⟩:=h
 exact⟨pre++a,post,by simp,by simp⟩
theorem AtB.whole (l:List UInt8):AtB l 0 l:=⟨[],[],by simp,rfl⟩
theorem AtB.end' (b q:List UInt8):AtB (b++q) b.length q:=⟨b,[],by simp,rfl⟩
theorem AtB.take {l:List UInt8} {p:Nat} {bs:List UInt8} (h:AtB l p bs):(l.drop p).take bs.length=bs:=by
 obtain⟨pre,post,rfl,rfl⟩:=h
 rw[List.append_assoc,List.drop_left,List.take_left]
theorem AtB.get {l:List UInt8} {p:Nat} {x:UInt8} {bs:List UInt8} (h:AtB l p (x::bs)):p<l.length∧l.getD p 0=x:=by
 have h1:=h.len
 obtain⟨pre,post,rfl,rfl⟩:=h
 refine⟨by simp only[List.length_cons] at h1;omega,?_⟩
 simp
theorem AtB.num {l:List UInt8} {p k:Nat} {n:Int} (h:AtB l p (Za1 n k)) (hf:Za2 n k=true):Zdl l p k=(n,0):=by
 simp only[Za2,Zae2,Zde] at hf
 obtain⟨m,rfl⟩:∃ m:Nat,n=(m:Int):=⟨n.toNat,by omega⟩
 have hl:=h.len
 have ht:=h.take
 rw[Zap] at hl ht
 rw[Zdl,if_pos hl,ht,Zex k m (Int.ofNat_lt.1 (by rw[Int.natCast_pow];exact hf.2))]
theorem Zn1 {n:Nat} (h:n<256):Za1 (n:Int) 1=[UInt8.ofNat n]:=by
 simp[Za1,List.range_succ]
 rw[Nat.mod_eq_of_lt h]
inductive Rd (l:List UInt8):Nat→Nat→List ByteArray→Nat→Prop
 |zero {m p:Nat}:AtB l p [0]→Rd l m p [] (p+1)
 |lab {m p f:Nat} {s:ByteArray} {ss:List ByteArray}:1≤s.size→s.size≤63→AtB l p (Zfl s)→Rd l m (p+(1+s.size)) ss f→Rd l m p (s::ss) f
 |ptr {m p t f:Nat} {ss:List ByteArray}:t<m→t<16384→AtB l p (Za1 ((49152+t:Nat):Int) 2)→Rd l t t ss f→f≤p→Rd l m p ss (p+2)
theorem Rd.app {l:List UInt8} {m p f:Nat} {ss:List ByteArray} (h:Rd l m p ss f) (q:List UInt8):Rd (l++q) m p ss f:=by
 induction h with
 |zero h=>exact .zero (h.app q)
 |lab h1 h2 h3 _ ih=>exact .lab h1 h2 (h3.app q) ih
 |ptr h1 h2 h3 _ h5 ih=>exact .ptr h1 h2 (h3.app q) ih h5
theorem Rd.weak {l:List UInt8} {m p f:Nat} {ss:List ByteArray} (h:Rd l m p ss f) {m':Nat} (hm:m≤m'):Rd l m' p ss f:=by
 induction h generalizing m' with
 |zero h=>exact .zero h
 |lab h1 h2 h3 _ ih=>exact .lab h1 h2 h3 (ih hm)
 |ptr h1 h2 h3 h4 h5 _=>exact .ptr (by omega) h2 h3 h4 h5
theorem Rd.lt {l:List UInt8} {m p f:Nat} {ss:List ByteArray} (h:Rd l m p ss f):p<f∧f≤l.length:=by
 induction h with
 |zero h=>have:=h.len;simp at this;omega
 |lab _ _ _ _ ih=>omega
 |ptr _ _ h _ _ _=>have:=h.len;rw[Zap] at this;omega
theorem ZnZ {t:Nat} (h:t<16384):Za1 ((49152+t:Nat):Int) 2=[UInt8.ofNat (192+t/256),UInt8.ofNat (t%256)]:=by
 have e1:(49152+t)/256%256=192+t/256:=by omega
 have e2:(49152+t)%256=t%256:=by omega
 simp only[Za1,List.range_succ,List.range_zero,List.nil_append,List.map_append,List.map_cons,List.map_nil,Int.toNat_natCast]
 show[UInt8.ofNat ((49152+t)/256^1%256)]++[UInt8.ofNat ((49152+t)/256^0%256)]=_
 rw[Nat.pow_one,Nat.pow_zero,Nat.div_one,e1,e2]
 rfl
theorem ZjN {l:List UInt8} {p:Nat} {s:ByteArray} (h:AtB l p (Zfl s)):ZoL l (p+1) s.size=s:=by
 have h2:AtB l (p+1) s.data.toList:=by
  have h3:AtB l p ([UInt8.ofNat s.size]++s.data.toList):=h
  exact h3.right
 have h3:=h2.take
 have hs:s.data.toList.length=s.size:=by simp
 rw[hs] at h3
 rw[ZoL,h3]
theorem Zp9 (a:List ByteArray) (p b s n:Nat):msG ⟨a,p,b,s,n⟩=b*300+(256-s):=rfl
theorem ZqQ {t bg sz F:Nat} (h:t<bg) (hF:bg*300+(256-sz)<F+1):t*300+(256-sz)<F:=by omega
theorem ZqI {l:List UInt8} {m p f:Nat} {ss:List ByteArray} (h:Rd l m p ss f):∀ (F:Nat) (acc:List ByteArray) (bg sz nx:Nat),m≤bg→sz+Za0 ss≤255→msG ⟨acc,p,bg,sz,nx⟩<F→ZkV l F ⟨acc,p,bg,sz,nx⟩=(acc++ss,max nx f,0):=by
 induction h with
 |zero h=>
  intro F acc bg sz nx hm hs hF
  obtain⟨F,rfl⟩:∃ g,F=g+1:=⟨F-1,by omega⟩
  obtain⟨h1,h2⟩:=h.get
  rw[ZkV]
  simp only
  rw[if_pos h1,h2,if_pos (by rfl)]
  simp
 |@lab m p f s ss h1 h2 h3 _ ih=>
  intro F acc bg sz nx hm hs hF
  obtain⟨F,rfl⟩:∃ g,F=g+1:=⟨F-1,by omega⟩
  have h3':AtB l p (UInt8.ofNat s.size::s.data.toList):=h3
  obtain⟨g1,g2⟩:=h3'.get
  have hc:(l.getD p 0).toNat=s.size:=by rw[g2];simp;omega
  have hl:=h3.len
  have hll:(Zfl s).length=s.size+1:=by simp[Zfl]
  have hz:Za0 (s::ss)=s.size+1+Za0 ss:=rfl
  rw[ZkV]
  simp only
  rw[if_pos g1,hc,if_neg (by omega),if_neg (by omega),if_neg (by omega),if_neg (by omega),if_neg (by omega),ZjN h3,ih F (acc++[s]) bg (sz+(1+s.size)) nx hm (by omega) (by simp only[msG] at hF⊢;omega)]
  simp
 |@ptr m p t f ss h1 h2 h3 _ h5 ih=>
  intro F acc bg sz nx hm hs hF
  obtain⟨F,rfl⟩:∃ g,F=g+1:=⟨F-1,by omega⟩
  rw[ZnZ h2] at h3
  obtain⟨g1,g2⟩:=h3.get
  have h3r:AtB l (p+1) [UInt8.ofNat (t%256)]:=by
   have h4:AtB l p ([UInt8.ofNat (192+t/256)]++[UInt8.ofNat (t%256)]):=h3
   exact h4.right
  obtain⟨g3,g4⟩:=h3r.get
  have hc:(l.getD p 0).toNat=192+t/256:=by rw[g2];simp;omega
  have hc2:(l.getD (p+1) 0).toNat=t%256:=by rw[g4];simp
  have hto:((192+t/256)*256+t%256)%16384=t:=by omega
  rw[Zp9] at hF
  have hF3:msG ⟨acc,t,t,sz,max nx (p+2)⟩<F:=by
   rw[Zp9]
   exact ZqQ (Nat.lt_of_lt_of_le h1 hm) hF
  have hmx:max (max nx (p+2)) f=max nx (p+2):=Nat.max_eq_left (by omega)
  have hih:=ih F acc t sz (max nx (p+2)) Zlr hs hF3
  clear hF hF3
  rw[ZkV]
  simp only
  rw[if_pos g1,hc,hc2,if_neg (by omega),if_pos (by omega),if_pos (by omega),hto,if_neg (by omega),hih,hmx]
theorem Zip {l:List UInt8} {p f:Nat} {ss:List ByteArray} (h:Rd l p p ss f) (hs:1+Za0 ss≤255):ZeP l p=(ss,f,0):=by
 rw[ZeP,ZqI h _ [] p 1 0 Zlr hs (by simp[msG])]
 simp
def Zh0 (ss:List ByteArray):Prop:=∀ s∈ss,1≤s.size∧s.size≤63
theorem ZcR {ss:List ByteArray} (h:ZaG ss=true):Zh0 ss∧1+Za0 ss≤255:=by
 simp only[ZaG,Zae2,Zde,Bool.not_eq_true',List.any_eq_false] at h
 refine⟨fun s hs=>?_,h.2.2⟩
 have:=h.2.1 s hs
 simp only[Zgf,Bool.or_eq_true,not_or,Zde,beq_iff_eq] at this
 omega
theorem Zpd {s:ByteArray} (h:s.size≤63) {t:ByteArray} (ht:t.size≤63) (e:UInt8.ofNat s.size=UInt8.ofNat t.size):s.size=t.size:=by
 have:=congrArg UInt8.toNat e
 simp at this
 omega
theorem ZmW {s t:ByteArray} (h:s.data.toList=t.data.toList):s=t:=by
 cases s;cases t
 simpa using h
theorem ZjA:∀ (ns ms:List ByteArray),Zh0 ns→Zh0 ms→Zb4 ns=Zb4 ms→ns=ms
 |[],[],_,_,_=>rfl
 |[],m::ms,_,_,h=>by simp[Zb4,Zfl] at h
 |n::ns,[],_,_,h=>by simp[Zb4,Zfl] at h
 |n::ns,m::ms,h1,h2,h=>by
  simp only[Zb4,List.flatMap_cons,Zfl,List.cons_append,List.cons.injEq] at h
  have e1:=Zpd (h1 n List.mem_cons_self).2 (h2 m List.mem_cons_self).2 h.1
  obtain⟨e2,e3⟩:=List.append_inj h.2 (by simpa using e1)
  rw[ZmW e2,ZjA ns ms (fun s hs=>h1 s (List.mem_cons_of_mem _ hs)) (fun s hs=>h2 s (List.mem_cons_of_mem _ hs)) e3]
def TabE (b:List UInt8) (P:Nat) (e:List UInt8×Nat):Prop:=∃ ns f,e.1=Zb4 ns∧Zh0 ns∧e.2<16384∧e.2<P∧f≤P∧Rd b e.2 e.2 ns f
theorem TabE.app {b:List UInt8} {P:Nat} {e:List UInt8×Nat} (h:TabE b P e) (q:List UInt8):TabE (b++q) P e:=by
 obtain⟨ns,f,h1,h2,h3,h4,h5,h6⟩:=h
 exact⟨ns,f,h1,h2,h3,h4,h5,h6.app q⟩
theorem Zk4 (short:Bool):∀ (ss:List ByteArray) (R:List (List UInt8×Nat)) (b:List UInt8) (P:Nat),Zh0 ss→P≤b.length→(∀ e∈R,TabE b P e∨(Zb4 ss).length<e.1.length)→
  (∃ q,(nameW short ss R b).2=b++q)∧Rd (nameW short ss R b).2 P b.length ss (nameW short ss R b).2.length∧∀ e∈(nameW short ss R b).1,e∈R∨∃ ns,e.1=Zb4 ns∧Zh0 ns∧e.2<16384∧b.length≤e.2∧Rd (nameW short ss R b).2 P e.2 ns (nameW short ss R b).2.length
 |[],R,b,P,_,_,_=>by
  rw[nameW]
  refine⟨⟨_,rfl⟩,?_,fun e he=> .inl he⟩
  have h:AtB (b++Za1 0 1) b.length [0]:=AtB.end' b [0]
  have:=Rd.zero (m:=P) h
  simpa [Zap] using this
 |s::ss,R,b,P,hl,hP,hR=>by
  have hs:=hl s List.mem_cons_self
  have hl2:Zh0 ss:=fun x hx=>hl x (List.mem_cons_of_mem _ hx)
  have e1:Za1 (s.size:Int) 1=[UInt8.ofNat s.size]:=Zn1 (by omega)
  have e2:(b++Za1 (s.size:Int) 1)++s.data.toList=b++Zfl s:=by rw[e1,Zfl];simp
  have hlb:(Zfl s).length=1+s.size:=by simp[Zfl];omega
  have hrl:(Zb4 ss).length<(Zb4 (s::ss)).length:=by
   simp only[Zb4,List.flatMap_cons,Zla]
   omega
  have step:∀ R',(∀ e∈R',TabE b P e∨(Zb4 ss).length<e.1.length)→(∀ e∈R',e∈R∨(e.1=Zb4 (s::ss)∧e.2=b.length∧b.length<16384))→
    (∃ q,(nameW short ss R' (b++Zfl s)).2=b++q)∧Rd (nameW short ss R' (b++Zfl s)).2 P b.length (s::ss) (nameW short ss R' (b++Zfl s)).2.length∧∀ e∈(nameW short ss R' (b++Zfl s)).1,e∈R∨∃ ns,e.1=Zb4 ns∧Zh0 ns∧e.2<16384∧b.length≤e.2∧Rd (nameW short ss R' (b++Zfl s)).2 P e.2 ns (nameW short ss R' (b++Zfl s)).2.length:=by
   intro R' hR' hN
   obtain⟨⟨q,hq⟩,h2,h3⟩:=Zk4 short ss R' (b++Zfl s) P hl2 (by rw[Zla];omega) (fun e he=>(hR' e he).imp (fun h=>h.app _) id)
   have hat:AtB (nameW short ss R' (b++Zfl s)).2 b.length (Zfl s):=by rw[hq];exact(AtB.end' b (Zfl s)).app q
   rw[Zla,hlb] at h2 h3
   have hme:Rd (nameW short ss R' (b++Zfl s)).2 P b.length (s::ss) (nameW short ss R' (b++Zfl s)).2.length:= .lab hs.1 hs.2 hat h2
   refine⟨⟨Zfl s++q,by rw[hq,List.append_assoc]⟩,hme,fun e he=>?_⟩
   rcases h3 e he with h|⟨ns,g1,g2,g3,g4,g5⟩
   ·rcases hN e h with h|⟨g1,g2,g3⟩
    ·exact .inl h
    ·exact .inr ⟨s::ss,g1,hl,by omega,by omega,by rw[g2];exact hme⟩
   ·exact .inr ⟨ns,g1,g2,g3,by omega,g5⟩
  rw[nameW,e2]
  cases hg:ZmA R (Zb4 (s::ss)) with
  |none=>
   simp only
   refine step _ (fun e he=>?_) (fun e he=>?_)
   ·split at he
    ·rcases List.mem_cons.1 he with rfl|he
     ·exact .inr hrl
     ·exact(hR e he).imp id (fun h=>by omega)
    ·exact(hR e he).imp id (fun h=>by omega)
   ·split at he
    ·rcases List.mem_cons.1 he with rfl|he
     ·rename_i hb;exact .inr ⟨rfl,rfl,hb⟩
     ·exact .inl he
    ·exact .inl he
  |some at'=>
   simp only
   cases short with
   |false=>
    simp only[Bool.false_eq_true,if_false]
    exact step R (fun e he=>(hR e he).imp id (fun h=>by omega)) (fun e he=> .inl he)
   |true=>
    simp only[if_true]
    unfold ZmA at hg
    obtain⟨x,hx,rfl⟩:=Option.map_eq_some_iff.1 hg
    have hx1:=List.mem_of_find?_eq_some hx
    have hx2:x.1=Zb4 (s::ss):=by have:=List.find?_some hx;simpa using this
    rcases hR x hx1 with⟨ns,f,g1,g2,g3,g4,g5,g6⟩|h
    ·have hns:ns=s::ss:=ZjA ns (s::ss) g2 hl (by rw[←g1,hx2])
     subst hns
     refine⟨⟨_,rfl⟩,?_,fun e he=> .inl he⟩
     have h2:=Rd.ptr (m:=P) g4 g3 (AtB.end' b (Za1 ((49152+x.2:Nat):Int) 2)) (g6.app _) (by omega)
     simpa [Zap] using h2
    ·rw[hx2] at h
     omega
def TabOK (R:List (List UInt8×Nat)) (b:List UInt8):Prop:=∀ e∈R,∃ ns f,e.1=Zb4 ns∧Zh0 ns∧e.2<16384∧Rd b e.2 e.2 ns f
theorem TabOK.nil (b:List UInt8):TabOK [] b:=fun e he=>by cases he
theorem TabOK.app {R:List (List UInt8×Nat)} {b:List UInt8} (h:TabOK R b) (q:List UInt8):TabOK R (b++q):=fun e he=>by
 obtain⟨ns,f,h1,h2,h3,h4⟩:=h e he
 exact⟨ns,f,h1,h2,h3,h4.app q⟩
theorem ZcN (short:Bool) {ss:List ByteArray} {R:List (List UInt8×Nat)} {b:List UInt8} (hs:ZaG ss=true) (hR:TabOK R b):
  (∃ q,(nameW short ss R b).2=b++q)∧Rd (nameW short ss R b).2 b.length b.length ss (nameW short ss R b).2.length∧TabOK (nameW short ss R b).1 (nameW short ss R b).2:=by
 obtain⟨hl,-⟩:=ZcR hs
 obtain⟨h1,h2,h3⟩:=Zk4 short ss R b b.length hl Zlr (fun e he=>by
  obtain⟨ns,f,g1,g2,g3,g4⟩:=hR e he
  have:=g4.lt
  exact .inl ⟨ns,f,g1,g2,g3,by omega,by omega,g4⟩)
 refine⟨h1,h2,fun e he=>?_⟩
 rcases h3 e he with h|⟨ns,g1,g2,g3,g4,g5⟩
 ·obtain⟨q,hq⟩:=h1
  rw[hq]
  exact hR.app q e h
 ·exact⟨ns,_,g1,g2,g3,g5.weak g4⟩
def gdC (bo:Option Addr) (bl bc p en:Nat):Array Value:=#[.slice bo bl bc,.int .i64 (p:Int),.int .i64 (en:Int)]
def Zju (k:Int):Ending:= .panicked [{v:= .iface 24 (.int .i64 k),recovered:=false}]
theorem Zg3 {w:World} {ao:Option Addr} {n c:Nat} {vs:List Value} (h:Row w ao n c vs) {m:Nat} (hm:m≤n):Row w ao m c (vs.take m):=
 ⟨by rw[List.length_take];have:=h.hlen;omega,Nat.le_trans hm h.hle,h.hcap,by have:=h.hmax;omega,h.hnil,fun h0=>by
  obtain⟨b,off,e,hc⟩:=h.hcells (by omega)
  refine⟨b,off,e,fun i hi=>?_⟩
  rw[List.length_take] at hi
  rw[hc i (by omega),List.getElem_take]⟩
theorem ZoS {w:World} {bo:Option Addr} {bl bc:Nat} {l:List UInt8} (h:ZbP w bo bl bc l) {m:Nat} (hm:m≤bl):ZbP w bo m bc (l.take m):=by
 have:=Zg3 h hm
 rwa [←List.map_take] at this
structure ZrM (w w':World) (r:Nat) (bo:Option Addr) (bl bc p en:Nat):Prop where
 blk:Blk w' r (gdC bo bl bc p en) 237
 fr:w.grownBy w' (some r)
def RdEnd (w w':World) (r:Nat) (bo:Option Addr) (bl bc p en:Nat) (k:Int) (v:Value) (e:Ending):Prop:=
 (k=0∧e= .returned v∧ZrM w w' r bo bl bc p en)∨(k≠0∧e=Zju k∧w.grownBy w' (some r))
theorem ZkW (w:World) (r:Nat) (bo:Option Addr) (bl bc:Nat) (l:List UInt8) (hl:ZbP w bo bl bc l) (p en size:Nat) (hp:p≤1000000) (hen:en≤bl) (_hbl:bl≤1000000) (hs:1≤size) (hs7:size≤7) (hr:Blk w r (gdC bo bl bc p en) 237) (n k:Int) (hg:Zdl (l.take en) p size=(n,k)):
  Calls Tryz.prog 186 #[.pointer (some ⟨r,0,none⟩),.int .i64 (size:Int)] w fun e w'=>RdEnd w w' r bo bl bc (p+size) en k (.int .i64 n) e:=by
 have hbd:=Below.drew (Below.refl w.heap.size w)
 have hrd:=hr.on hbd
 have c0:w.drew.cell? ⟨r,0,none⟩=some (.slice bo bl bc):=hrd.cell 0
 have c1:w.drew.cell? ⟨r,1,none⟩=some (.int .i64 (p:Int)):=hrd.cell 1
 have c2:w.drew.cell? ⟨r,2,none⟩=some (.int .i64 (en:Int)):=hrd.cell 2
 have f1:=hrd.free 1
 have hle:=hl.hle
 have hcp:=hl.hcap
 have hec:en≤bc:=by omega
 have hpt:ZbP w.drew bo en bc (l.take en):=(ZoS hl hen).below hbd Zlr
 have hgk:=ZeC w.drew bo en bc (l.take en) hpt p size (by omega) hs hs7
 rw[hg] at hgk
 have HG:=Zhd hgk
 have hset:=hrd.set 1 (.int .i64 ((p+size:Nat):Int))
 have hgr:=Zag w.drew r 1 (.int .i64 ((p+size:Nat):Int))
 have HS:=Zhd (Zan hset (Zan (Zah (Zaw r hbd) hgr) (Zaw r hbd)))
 clear hbd hrd hgk hset hgr hl hr hg hs hpt
 by_cases hk:k=0
 ·subst hk
  go_enter Tryz.func186,Tryz.ntmps186
  go_wp2_with fail
  go_region_held3 (fun w'=>w'=w.drew)
   (first|go_keep|rfl)
   (first|(go_at_call 135;refine HG.out.mono ?_;rintro e w2 ⟨rfl,rfl⟩))
  all_goals go_split_ands
  all_goals go_wp2_with fail
  all_goals go_ret
  all_goals
   have h:=HS.out
   rw[show((p+size:Nat):Int)=(p:Int)+(size:Int) by push_cast;rfl] at h
   refine .inl ⟨rfl,rfl,?_,h.2.1⟩
   have h1:=h.1
   simp only[gdC,Int.natCast_add] at h1⊢
   exact h1
 ·have hkb:(k==0)=false:=by simpa using hk
  have HK:=Zhd hk
  clear hk
  go_enter Tryz.func186,Tryz.ntmps186
  go_wp2_with fail
  go_region_held3 (fun w'=>w'=w.drew)
   (first|go_keep|rfl)
   (first|(go_at_call 135;refine HG.out.mono ?_;rintro e w2 ⟨rfl,rfl⟩))
  all_goals go_split_ands
  all_goals go_wp2_with fail
  all_goals exact⟨rfl,.inr ⟨HK.out,rfl,HS.out.2.2⟩⟩
def ZbA (l:List UInt8) (en p:Nat):List ByteArray×Nat×Int:=
 if (ZeP l p).2.2=0∧en<(ZeP l p).2.1 then((ZeP l p).1,(ZeP l p).2.1,3) else ZeP l p
theorem Za8 (w:World) (r:Nat) (bo:Option Addr) (bl bc:Nat) (l:List UInt8) (hl:ZbP w bo bl bc l) (p en:Nat) (hp:p≤1000000) (hbl:bl≤1000000) (hr:Blk w r (gdC bo bl bc p en) 237) (_hen:en≤bl) (ss:List ByteArray) (nx:Nat) (k:Int) (hg:ZbA l en p=(ss,nx,k)):
  Calls Tryz.prog 185 #[.pointer (some ⟨r,0,none⟩)] w fun e w'=>∃ v,RdEnd w w' r bo bl bc nx en k v e∧(k=0→w'.ownsRow w.heap.size 9 1 v ss.length (ss.map .string)):=by
 have hbd:=Below.drew (Below.refl w.heap.size w)
 have hrd:=hr.on hbd
 have c0:w.drew.cell? ⟨r,0,none⟩=some (.slice bo bl bc):=hrd.cell 0
 have c1:w.drew.cell? ⟨r,1,none⟩=some (.int .i64 (p:Int)):=hrd.cell 1
 have hgk:=Zly w.drew bo bl bc l (hl.below hbd Zlr) hbl p hp
 obtain⟨ns,x,q,hns⟩:∃ ns x q,ZeP l p=(ns,x,q):=⟨_,_,_,rfl⟩
 rw[hns] at hgk
 rw[ZbA,hns] at hg
 simp only at hg hgk
 have HG:=Zhd hgk
 have H0:=Zhd (Zan hrd (Zan hbd (Zaw r hbd)))
 clear hgk hl hr hns hrd hbd
 have hcase:(q=0∧en<x∧k=3)∨(q=0∧¬en<x∧k=0∧ns=ss∧x=nx)∨(q≠0∧k=q):=by
  by_cases hq:q=0
  ·by_cases hx:en<x
   ·rw[if_pos ⟨hq,hx⟩] at hg
    simp only[Prod.mk.injEq] at hg
    exact .inl ⟨hq,hx,hg.2.2.symm⟩
   ·rw[if_neg (fun h=>hx h.2)] at hg
    simp only[Prod.mk.injEq] at hg
    exact .inr (.inl ⟨hq,hx,by rw[←hg.2.2,hq],hg.1,hg.2.1⟩)
  ·rw[if_neg (fun h=>hq h.1)] at hg
   simp only[Prod.mk.injEq] at hg
   exact .inr (.inr ⟨hq,hg.2.2.symm⟩)
 clear hg
 have HR:=Zhd (fun W (hb:Below w.drew.heap.size w.drew W)=>Zan (Blk.on H0.out.1 hb) (Zaa H0.out.2.1 hb Zlr))
 rcases hcase with⟨rfl,hx,rfl⟩|⟨rfl,hx,rfl,rfl,rfl⟩|⟨hq,rfl⟩
 ·have hxb:(en:Int)<(x:Int):=by omega
  clear hx
  go_enter Tryz.func185,Tryz.ntmps185
  go_wp2_with fail
  go_region_held3 (fun w'=>w'.cell? ⟨r,0,none⟩=some (.slice bo bl bc)∧w'.cell? ⟨r,1,none⟩=some (.int .i64 (p:Int)))
   (first|go_keep|exact hd2)
   (first|(go_at_call 141;refine HG.out.mono ?_;rintro e W2 ⟨⟨v,rfl,ho⟩,hb⟩;obtain⟨hr2,hb2⟩:=HR.out W2 hb;have hd2:W2.cell? ⟨r,0,none⟩=some (.slice bo bl bc)∧W2.cell? ⟨r,1,none⟩=some (.int .i64 (p:Int)):=⟨hr2.cell 0,hr2.cell 1⟩;have e2:W2.cell? ⟨r,2,none⟩=some (.int .i64 (en:Int)):=hr2.cell 2;have H2:=Zhd (Zan hr2 (Zan hb2 ho));clear hr2 hb2 hb ho))
  all_goals go_split_ands
  all_goals go_wp2_with fail
  all_goals exact⟨rfl,undef,.inr ⟨by decide,rfl,Zaw r H2.out.2.1⟩,fun h=>absurd h (by decide)⟩
 ·have hxb: ¬(en:Int)<(x:Int):=by omega
  clear hx
  go_enter Tryz.func185,Tryz.ntmps185
  go_wp2_with fail
  go_region_held3 (fun w'=>w'.cell? ⟨r,0,none⟩=some (.slice bo bl bc)∧w'.cell? ⟨r,1,none⟩=some (.int .i64 (p:Int)))
   (first|go_keep|exact hd2)
   (first|(go_at_call 141;refine HG.out.mono ?_;rintro e W2 ⟨⟨v,rfl,ho⟩,hb⟩;obtain⟨hr2,hb2⟩:=HR.out W2 hb;have hd2:W2.cell? ⟨r,0,none⟩=some (.slice bo bl bc)∧W2.cell? ⟨r,1,none⟩=some (.int .i64 (p:Int)):=⟨hr2.cell 0,hr2.cell 1⟩;have e2:W2.cell? ⟨r,2,none⟩=some (.int .i64 (en:Int)):=hr2.cell 2;have f2:=hr2.free 1;have H2:=Zhd (Zan hr2 (Zan hb2 ho));clear hr2 hb2 hb ho))
  all_goals go_split_ands
  all_goals go_wp2_with fail
  all_goals go_ret
  all_goals
   have hs:=H2.out.1.set 1 (.int .i64 (x:Int))
   have hgs:=Zag W2 r 1 (.int .i64 (x:Int))
   have hrs:Blk (W2.setCell ⟨r,1,none⟩ (.int .i64 (x:Int))) r (gdC bo bl bc x en) 237:=by simpa [gdC] using hs
   have hown:(W2.setCell ⟨r,1,none⟩ (.int .i64 (x:Int))).ownsRow w.heap.size 9 1 v ns.length (ns.map .string):=Zgv H2.out.2.2 hgs H2.out.1 (by decide)
   exact⟨v,.inl ⟨rfl,rfl,hrs,Zah (Zaw r H2.out.2.1) hgs⟩,fun _=>hown⟩
 ·have hqb:(k==0)=false:=by simpa using hq
  have HK:=Zhd hq
  clear hq
  go_enter Tryz.func185,Tryz.ntmps185
  go_wp2_with fail
  go_region_held3 (fun w'=>w'.cell? ⟨r,0,none⟩=some (.slice bo bl bc)∧w'.cell? ⟨r,1,none⟩=some (.int .i64 (p:Int)))
   (first|go_keep|exact hd2)
   (first|(go_at_call 141;refine HG.out.mono ?_;rintro e W2 ⟨⟨v,rfl,ho⟩,hb⟩;obtain⟨hr2,hb2⟩:=HR.out W2 hb;have hd2:W2.cell? ⟨r,0,none⟩=some (.slice bo bl bc)∧W2.cell? ⟨r,1,none⟩=some (.int .i64 (p:Int)):=⟨hr2.cell 0,hr2.cell 1⟩;have H2:=Zhd (Zan hr2 (Zan hb2 ho));clear hr2 hb2 hb ho))
  all_goals go_split_ands
  all_goals go_wp2_with fail
  all_goals exact⟨rfl,undef,.inr ⟨HK.out,rfl,Zaw r H2.out.2.1⟩,fun h=>absurd h HK.out⟩
theorem Zlp (w:World) (a:Addr) (v:Value):(w.setCell a v).drew=w.drew.setCell a v:=by
 unfold World.setCell World.drew
 split<;>rfl
theorem ZcA (w:World) (r:Nat) (bo:Option Addr) (bl bc:Nat) (l:List UInt8) (hl:ZbP w bo bl bc l) (p en n:Nat) (hpe:p≤en) (hen:en≤bl) (hbl:bl≤1000000) (hn:n≤1000000) (hne:∀ a,bo=some a→a.block≠r) (hr:Blk w r (gdC bo bl bc p en) 237):
  Calls Tryz.prog 182 #[.pointer (some ⟨r,0,none⟩),.int .i64 (n:Int)] w fun e w'=>∃ v,RdEnd w w' r bo bl bc (p+n) en (if en-p<n then 3 else 0) v e∧(n≤en-p→∃ ao c,v= .slice ao n c∧Own1 [5] w.heap.size w' ao n c (((l.drop p).take n).map u8V)):=by
 have hbd:=Below.drew (Below.refl w.heap.size w)
 have hrd:=hr.on hbd
 have c1:w.drew.cell? ⟨r,1,none⟩=some (.int .i64 (p:Int)):=hrd.cell 1
 have c2:w.drew.cell? ⟨r,2,none⟩=some (.int .i64 (en:Int)):=hrd.cell 2
 have H0:=Zhd (Zan hrd (Zan hbd (Zan (Zaw r hbd) (Zan (hl.below hbd Zlr) hne))))
 clear hrd hbd hl hr hne
 by_cases hlt:en-p<n
 ·have hxb:(en:Int)-(p:Int)<(n:Int):=by omega
  rw[if_pos hlt]
  have HN:=Zhd hlt
  clear hlt
  go_enter Tryz.func182,Tryz.ntmps182
  go_wp2_with fail
  go_region
  all_goals go_wp2_with fail
  all_goals exact⟨rfl,undef,.inr ⟨by decide,rfl,H0.out.2.2.1⟩,fun h=>absurd h (by have:=HN.out;omega)⟩
 ·have hxb: ¬(en:Int)-(p:Int)<(n:Int):=by omega
  rw[if_neg hlt]
  have HN:=Zhd hlt
  clear hlt
  obtain⟨m,hm⟩:∃ m,m=p+n:=⟨_,rfl⟩
  have HM:=Zhd (show(p:Int)+(n:Int)=(m:Int) by omega)
  rw[←hm]
  have f1:=H0.out.1.free 1
  have hs:=H0.out.1.set 1 (.int .i64 ((p:Int)+(n:Int)))
  have hgs:=Zag w.drew r 1 (.int .i64 ((p:Int)+(n:Int)))
  have hls:ZbP (w.drew.setCell ⟨r,1,none⟩ (.int .i64 ((p:Int)+(n:Int)))) bo bl bc l:=H0.out.2.2.2.1.grown hgs (fun a ha h=>H0.out.2.2.2.2 a ha (Zsi h))
  go_enter Tryz.func182,Tryz.ntmps182
  go_wp2_with fail
  go_region
  all_goals go_wp2_with fail
  all_goals
   have hrs:Blk (w.drew.setCell ⟨r,1,none⟩ (.int .i64 ((p:Int)+(n:Int)))) r (gdC bo bl bc m en) 237:=by
    rw[gdC,←HM.out]
    simpa [gdC] using hs
   have HS:=Zhd (Zan hrs (Zan (Zah H0.out.2.2.1 hgs) hls))
   clear hs hgs hrs f1 c1 c2 hls
   have hsw:(w.setCell ⟨r,1,none⟩ (.int .i64 ((p:Int)+(n:Int)))).drew=w.drew.setCell ⟨r,1,none⟩ (.int .i64 ((p:Int)+(n:Int))):=Zlp w _ _
   rw[hsw]
   clear hsw
   generalize w.drew.setCell ⟨r,1,none⟩ (.int .i64 ((p:Int)+(n:Int)))=W3 at HS⊢
   have hbd3:=Below.drew (Below.refl W3.heap.size W3)
   have hr3:=HS.out.1.on hbd3
   have e0:W3.drew.cell? ⟨r,0,none⟩=some (.slice bo bl bc):=hr3.cell 0
   have e1:W3.drew.cell? ⟨r,1,none⟩=some (.int .i64 (m:Int)):=hr3.cell 1
   have hl3:=HS.out.2.2.below hbd3 Zlr
   have hlb:=hl3.hle
   have hmx:=hl3.hcap
   have hcut:=Zg3 (Row.cut hl3 (k:=p) (by omega)) (m:=n) (by omega)
   have hcut0:=fun hc=>Zg3 (Row.cut0 hl3 (k:=p) (by omega) hc) (m:=n) (by omega)
   rw[←List.map_drop,←List.map_take] at hcut hcut0
   have HC:=Zhd (Zan hcut (Zan hcut0 (Zan hr3 hbd3)))
   have hpm:m≤bc:=by omega
   have hpm2:p≤m:=by omega
   have hmp:m-p=n:=by omega
   have hmn:IntKind.i64.wrap ((m:Int)-(n:Int))=(p:Int):=by rw[IntWalk.i64_in _ (by omega)];omega
   clear hm
   clear hcut hcut0 hr3 hbd3 hl3
   by_cases hbp:bc=p
   ·obtain rfl:n=0:=by omega
    obtain rfl:m=p:=by omega
    have HZ:=Zhd (show ZbP W3.drew bo 0 0 [] from HC.out.2.1 hbp)
    subst hbp
    have hw1:IntKind.i64.wrap (bc:Int)=(bc:Int):=IntWalk.i64_in _ (by omega)
    have hw2:IntKind.i64.wrap ((bc:Int)-0)=(bc:Int):=by rw[Int.sub_zero];exact hw1
    clear hmn hpm hpm2 hmp
    go_region_held3 (fun w'=>w'.cell? ⟨r,0,none⟩=some (.slice bo bl bc)∧w'.cell? ⟨r,1,none⟩=some (.int .i64 (bc:Int)))
     (first|go_keep|exact hd2)
     (first|(go_at_call 129;refine(Zc0 W3.drew bo 0 0 _ HZ.out (Zdu _) (by omega)).mono ?_;rintro e W5 ⟨⟨ao,c,rfl,ho⟩,hb⟩;have hr5:=Blk.on HC.out.2.2.1 hb;have hd2:W5.cell? ⟨r,0,none⟩=some (.slice bo bl bc)∧W5.cell? ⟨r,1,none⟩=some (.int .i64 (bc:Int)):=⟨hr5.cell 0,hr5.cell 1⟩;have H5:=Zhd (Zan hr5 (Zan ho (Zaa HC.out.2.2.2 hb Zlr)));clear hr5 ho hb))
    all_goals go_split_ands
    all_goals go_wp2_with fail
    all_goals
     go_ret
     exact⟨_,.inl ⟨rfl,rfl,H5.out.1,Zah HS.out.2.1 (Zaw r H5.out.2.2)⟩,fun _=>⟨ao,c,rfl,H5.out.2.1.mono (Nat.le_trans HS.out.2.1.size HC.out.2.2.2.size)⟩⟩
   ·have hbo:∃ a,bo=some a:=by
     cases bo with
     |none=>have:=HC.out.1.hnil;have h0:=HS.out.2.2.hnil rfl;omega
     |some a=>exact⟨a,rfl⟩
    obtain⟨a,rfl⟩:=hbo
    go_region_held3 (fun w'=>w'.cell? ⟨r,0,none⟩=some (.slice (some a) bl bc)∧w'.cell? ⟨r,1,none⟩=some (.int .i64 (m:Int)))
     (first|go_keep|exact hd2)
     (first|(go_at_call 129;refine(Zc0 W3.drew (some (a.add p)) n (bc-p) _ HC.out.1 (Zdu _) (by omega)).mono ?_;rintro e W5 ⟨⟨ao,c,rfl,ho⟩,hb⟩;have hr5:=Blk.on HC.out.2.2.1 hb;have hd2:W5.cell? ⟨r,0,none⟩=some (.slice (some a) bl bc)∧W5.cell? ⟨r,1,none⟩=some (.int .i64 (m:Int)):=⟨hr5.cell 0,hr5.cell 1⟩;have H5:=Zhd (Zan hr5 (Zan ho (Zaa HC.out.2.2.2 hb Zlr)));clear hr5 ho hb))
    all_goals go_split_ands
    all_goals go_wp2_with fail
    all_goals
     go_ret
     exact⟨_,.inl ⟨rfl,rfl,H5.out.1,Zah HS.out.2.1 (Zaw r H5.out.2.2)⟩,fun _=>⟨ao,c,rfl,H5.out.2.1.mono (Nat.le_trans HS.out.2.1.size HC.out.2.2.2.size)⟩⟩
theorem ZdO {w W W':World} {r:Nat} {o:Option Nat} (h:w.grownBy W (some r)) (h2:W.grownBy W' o) (ho:∀ b,o=some b→w.heap.size≤b):w.grownBy W' (some r):=
 ⟨h2.os.trans h.os,h2.tape.trans h.tape,h2.output.trans h.output,Nat.le_trans h.size h2.size,fun k hk hn=>(h2.block k (Nat.lt_of_lt_of_le hk h.size) (fun e=>by have:=ho k e.symm;omega)).trans (h.block k hk hn)⟩
theorem Zj7 {W W':World} {r E:Nat} {cs:Array Value} {T:TypeId} {o:Option Nat} (h:Blk W r cs T) (h2:W.grownBy W' o) (ho:∀ b,o=some b→E≤b) (hr:r<E):Blk W' r cs T:=by
 unfold Blk at h⊢
 rw[h2.block r (Array.getElem?_eq_some_iff.1 h).1 (fun e=>by have:=ho r e.symm;omega),h]
theorem Zpu {w:World} {b b':Nat} {e:TypeId} {sz n:Nat} {v:Value} {xs:List Value} (h:w.ownsRow b e sz v n xs) (hb:b'≤b):w.ownsRow b' e sz v n xs:=by
 obtain⟨h1,h2⟩:=h
 refine⟨h1,h2.imp id ?_⟩
 rintro⟨g,cap,cur,a,c,d⟩
 exact⟨g,cap,cur,a,by omega,d⟩
theorem Zk9 {w w':World} {b:Nat} {e:TypeId} {sz n:Nat} {v:Value} {xs:List Value} (h:w.ownsRow b e sz v n xs) {r:Nat} (hg:w.grownBy w' (some r)) (hr:r<b):w'.ownsRow b e sz v n xs:=
 h.kept hg (by
  cases hv:v.ownBlock with
  |none=>exact .inl rfl
  |some k=>
   right
   intro e2
   have:=(h.lt k hv).1
   have:=Zsi e2
   omega)
def shC (b0:Int) (host mail short:Bool) (nums size:Nat) (texts first:Bool):Array Value:=#[.int .i64 b0,.bool host,.bool mail,.bool short,.int .i64 (nums:Int),.int .i64 (size:Int),.bool texts,.bool first]
def Zbx (l:List UInt8) (en size:Nat):Nat→Nat→List Int×Nat×Int
 |0,p=>([],p,0)
 |c+1,p=>if (Zdl (l.take en) p size).2=0 then((Zdl (l.take en) p size).1::(Zbx l en size c (p+size)).1,(Zbx l en size c (p+size)).2.1,(Zbx l en size c (p+size)).2.2) else([],p,(Zdl (l.take en) p size).2)
theorem Zdd (l:List UInt8) (en size:Nat):∀ (c p:Nat),(Zbx l en size c p).2.2=0→(Zbx l en size c p).1.length=c∧(Zbx l en size c p).2.1=p+c*size
 |0,p,_=>by simp[Zbx]
 |c+1,p,h=>by
  by_cases h0:(Zdl (l.take en) p size).2=0
  ·simp only[Zbx,if_pos h0] at h⊢
   obtain⟨h1,h2⟩:=Zdd l en size c (p+size) h
   rw[List.length_cons,h1,h2,Nat.add_mul]
   omega
  ·simp only[Zbx,if_neg h0] at h
   exact absurd h h0
theorem RdEnd.ok {w w':World} {r:Nat} {bo:Option Addr} {bl bc p en:Nat} {v:Value} {e:Ending} (h:RdEnd w w' r bo bl bc p en 0 v e):e= .returned v∧ZrM w w' r bo bl bc p en:=by
 rcases h with⟨_,h1,h2⟩|⟨h,_⟩
 ·exact⟨h1,h2⟩
 ·exact absurd rfl h
theorem RdEnd.no {w w':World} {r:Nat} {bo:Option Addr} {bl bc p en:Nat} {k:Int} {v:Value} {e:Ending} (h:RdEnd w w' r bo bl bc p en k v e) (hk:k≠0):e=Zju k∧w.grownBy w' (some r):=by
 rcases h with⟨h,_⟩|⟨_,h1,h2⟩
 ·exact absurd h hk
 ·exact⟨h1,h2⟩
theorem Zo8:(Tryz.prog.info? 3).map (fun i=>(i.zero,i.size,i.bytes))=some (some (.int .i64 0),1,8):=by kernel_rfl
theorem Zo9 (W:World) (base:Nat) (v:Value) (t:Nat) (vs:List Value) (hown:W.ownsRow base 3 1 v t vs) (ht:t≤1000000) (hb:base≤W.heap.size) (n:Int):
  ∃ v' w',(Builtin.append_ #[33,33] 33 #[v,.slice (some ⟨W.heap.size,0,none⟩) 1 1]).run Tryz.prog (W.alloc (.cells #[.int .i64 n] 3))= .ok v' w'∧w'.ownsRow base 3 1 v' (t+1) (vs++[.int .i64 n])∧(W.alloc (.cells #[.int .i64 n] 3)).grownBy w' v.ownBlock∧∀ b,v.ownBlock=some b→base≤b:=by
 obtain⟨i0,hi,hz0,hz1,hz2⟩:=info_parts Zo8
 obtain⟨v',w',h1,h2,h3⟩:=Zba (P:=Tryz.prog) (W.alloc (.cells #[.int .i64 n] 3)) base 33 33 3 i0 _ 8 Tryz.underlying33 hi hz0 hz1 hz2 rfl v t vs (hown.alloc _) (some ⟨W.heap.size,0,none⟩) 1 1 [.int .i64 n] (ZfS W _ _) (by intro u hu;simp at hu;subst hu;rfl) (by omega) (by omega) (by simp;omega)
 exact⟨v',w',h1,h2,h3,fun b hb2=>(hown.lt b hb2).1⟩
theorem Za9 (w:World) (r:Nat) (bo:Option Addr) (bl bc:Nat) (l:List UInt8) (hl:ZbP w bo bl bc l) (p en:Nat) (hp:p≤900000) (hen:en≤bl) (hbl:bl≤1000000) (hne:∀ a,bo=some a→a.block≠r∧a.block<w.heap.size) (hr:Blk w r (gdC bo bl bc p en) 237)
  (b0:Int) (host mail short:Bool) (nums size:Nat) (texts first:Bool) (hnm:nums≤100) (hs:1≤nums→1≤size) (hs7:size≤7) (zs:List Int) (nx:Nat) (k:Int) (hg:Zbx l en size nums p=(zs,nx,k)):
  Calls Tryz.prog 184 #[.pointer (some ⟨r,0,none⟩),.agg (shC b0 host mail short nums size texts first)] w fun e w'=>∃ v,RdEnd w w' r bo bl bc nx en k v e∧(k=0→w'.ownsRow w.heap.size 3 1 v zs.length (zs.map (.int .i64))):=by
 have hb1:Below w.heap.size w (w.alloc (.cells (shC b0 host mail short nums size texts first) 211)):=Zbr.alloc Zlr _
 have a1:Blk (w.alloc (.cells (shC b0 host mail short nums size texts first) 211)) w.heap.size (shC b0 host mail short nums size texts first) 211:=Zha w _
 have hlt:=hr.lt
 have H0:=Zhd (show ZbP w bo bl bc l∧(∀ a,bo=some a→a.block≠r∧a.block<w.heap.size)∧(1≤nums→1≤size)∧Zbx l en size nums p=(zs,nx,k)∧r<w.heap.size from⟨hl,hne,hs,hg,hlt⟩)
 have H1:=Zhd (show Blk (w.alloc (.cells (shC b0 host mail short nums size texts first) 211)) w.heap.size (shC b0 host mail short nums size texts first) 211∧Blk (w.alloc (.cells (shC b0 host mail short nums size texts first) 211)) r (gdC bo bl bc p en) 237∧w.grownBy (w.alloc (.cells (shC b0 host mail short nums size texts first) 211)) (some r) from⟨a1,hr.on hb1,Zaw r hb1⟩)
 have c4:(w.alloc (.cells (shC b0 host mail short nums size texts first) 211)).cell? ⟨w.heap.size,4,none⟩=some (.int .i64 (nums:Int)):=a1.cell 4
 simp only[shC] at c4 H1⊢
 clear hl hne hs hg hlt hb1 a1 hr
 go_enter Tryz.func184,Tryz.ntmps184
 go_wp2_with fail
 go_loopw [5,8] (fun v i wr=>∃ t:Nat,t≤nums∧i= .int .i64 (t:Int)∧Hid (∃ xs:List Int,xs.length=t∧wr.ownsRow (w.heap.size+1) 3 1 v t (xs.map (.int .i64))∧w.grownBy wr (some r)∧Blk wr w.heap.size #[.int .i64 b0,.bool host,.bool mail,.bool short,.int .i64 (nums:Int),.int .i64 (size:Int),.bool texts,.bool first] 211∧Blk wr r (gdC bo bl bc (p+t*size) en) 237∧(zs,nx,k)=(xs++(Zbx l en size (nums-t) (p+t*size)).1,(Zbx l en size (nums-t) (p+t*size)).2.1,(Zbx l en size (nums-t) (p+t*size)).2.2))) (fun _ i _=>nums-(intOf i).toNat)
 case atStart=>exact⟨0,Nat.zero_le _,rfl,Zhd ⟨[],rfl,World.ownsRow_nil _ _ _ _,H1.out.2.2,H1.out.1,by simpa using H1.out.2.1,by simp[H0.out.2.2.2.1]⟩⟩
 case round=>
  obtain⟨t,ht,rfl,hinv⟩:=hrel
  by_cases hlt:t<nums
  ·obtain⟨xs,h1,h2,h3,h4,h5,h6⟩:=hinv.out
   obtain⟨c,hc⟩:∃ c,nums-t=c+1:=⟨nums-t-1,by omega⟩
   have hs1:=H0.out.2.2.1 (by omega)
   have hts:t*size≤700:=Nat.le_trans (Nat.mul_le_mul (show t≤100 by omega) hs7) (by omega)
   rw[hc] at h6
   obtain⟨n,q,hnq⟩:∃ n q,Zdl (l.take en) (p+t*size) size=(n,q):=⟨_,_,rfl⟩
   simp only[Zbx,hnq] at h6
   have hbw:=H0.out.1.grown h3 (fun a ha h=>(H0.out.2.1 a ha).1 (Zsi h))
   have hnum:=ZkW wr r bo bl bc l hbw (p+t*size) en size (by omega) hen hbl hs1 hs7 h5 n q hnq
   have d5:wr.cell? ⟨w.heap.size,5,none⟩=some (.int .i64 (size:Int)):=h4.cell 5
   have hsz:=h3.size
   have H2:=Zhd (show xs.length=t∧wr.ownsRow (w.heap.size+1) 3 1 u5 t (xs.map (.int .i64))∧w.grownBy wr (some r)∧Blk wr w.heap.size _ 211 from⟨h1,h2,h3,h4⟩)
   by_cases hq:q=0
   ·subst hq
    rw[if_pos rfl] at h6
    have HN:=Zhd hnum
    have HG:=Zhd (Zan h6 hc)
    clear hinv h1 h2 h3 h4 h5 h6 hc hnq hbw hnum hsz hts hs1
    go_wp2_with (first
     |(at_builtin;refine Zao rfl _ _ _ rfl _ _ rfl rfl H6.out.1 ?_)
     |(go_at_call 186;refine HN.out.mono ?_;rintro e W4 hre;obtain⟨rfl,hok⟩:=hre.ok;have hown4:=Zk9 H2.out.2.1 hok.fr (by have:=H0.out.2.2.2.2;omega);have hz4:w.heap.size+1≤W4.heap.size:=Nat.le_trans H2.out.2.2.2.lt hok.fr.size;obtain⟨v',w6,hrun,hown,hgr,hob⟩:=Zo9 W4 (w.heap.size+1) _ t _ hown4 (by omega) hz4 n;have H4:=Zhd hok;have H6:=Zhd (Zan hrun (Zan hown (Zan hgr hob)));clear hre hok hown4 hrun hown hgr hob hz4))
    go_roundw
    case measure=>simp[intOf];omega
    case rel=>
     have hal:Below W4.heap.size W4 (W4.alloc (.cells #[.int .i64 n] 3)):=Zbr.alloc Zlr _
     have hrl:=H0.out.2.2.2.2
     have g1:=Zah (Zah H2.out.2.2.1 H4.out.fr) (Zaw r hal)
     have g2:=ZdO g1 H6.out.2.2.1 (fun b hb=>by have:=H6.out.2.2.2 b hb;omega)
     have hb1:=Zj7 ((H2.out.2.2.2.but H4.out.fr (by omega)).on hal) H6.out.2.2.1 H6.out.2.2.2 (Nat.lt_succ_self _)
     have hb2:=Zj7 (H4.out.blk.on hal) H6.out.2.2.1 H6.out.2.2.2 (by omega)
     have he:p+t*size+size=p+(t+1)*size:=by rw[Nat.add_mul];omega
     refine⟨t+1,hlt,by simp,Zhd ⟨xs++[n],by rw[Zla,H2.out.1];rfl,by simpa using H6.out.2.1,g2,hb1,by rw[←he];exact hb2,?_⟩⟩
     have h6:=HG.out.1
     rw[he] at h6
     rw[show nums-(t+1)=c by have:=HG.out.2;omega,h6]
     simp
   ·rw[if_neg hq] at h6
    have HN:=Zhd hnum
    have HG:=Zhd (Zan h6 hq)
    clear hinv h1 h2 h3 h4 h5 h6 hc hnq hbw hnum hsz hts hs1
    go_wp2_with (go_at_call 186;refine HN.out.mono ?_;rintro e W4 hre;obtain⟨rfl,hg4⟩:=hre.no HG.out.2;have H4:=Zhd hg4;clear hre hg4;(try simp only[Zju]))
    have h6:=HG.out.1
    simp only[Prod.mk.injEq] at h6
    exact⟨rfl,undef,.inr ⟨by rw[h6.2.2];exact HG.out.2,by rw[h6.2.2];rfl,Zah H2.out.2.2.1 H4.out⟩,fun h=>absurd (h6.2.2▸h) HG.out.2⟩
  ·obtain rfl:t=nums:=by omega
   go_wp2_with fail
   go_ret
   obtain⟨xs,h1,h2,h3,h4,h5,h6⟩:=hinv.out
   rw[Nat.sub_self] at h6
   simp only[Zbx,List.append_nil,Prod.mk.injEq] at h6
   obtain⟨rfl,rfl,rfl⟩:=h6
   exact⟨_,.inl ⟨rfl,rfl,h5,h3⟩,fun _=>by rw[h1];exact Zpu h2 (Nat.le_succ _)⟩
def ZbQ (l:List UInt8) (en:Nat):Nat→Nat→Nat→List ByteArray×Nat×Int
 |0,_,p=>([],p,0)
 |f+1,c,p=>if p<en then(if c=64 then([],p,4) else if en<p+1+(l.getD p 0).toNat then([],p,3)
   else(ZoL l (p+1) (l.getD p 0).toNat::(ZbQ l en f (c+1) (p+1+(l.getD p 0).toNat)).1,(ZbQ l en f (c+1) (p+1+(l.getD p 0).toNat)).2.1,(ZbQ l en f (c+1) (p+1+(l.getD p 0).toNat)).2.2)) else([],p,0)
def Zcw (l:List UInt8) (en p:Nat):List ByteArray×Nat×Int:=if (ZbQ l en (en+1) 0 p).2.2=0∧(ZbQ l en (en+1) 0 p).1=[] then([],(ZbQ l en (en+1) 0 p).2.1,2) else ZbQ l en (en+1) 0 p
theorem ZqJ {l:List UInt8} {en p:Nat} (h:p<en) (hl:en≤l.length):Zdl (l.take en) p 1=(((l.getD p 0).toNat:Int),0):=by
 rw[Zrs (by rw[List.length_take];omega)]
 congr 3
 simp only[List.getD,List.getElem?_take]
 rw[if_pos h]
theorem ZpM (W:World) (base:Nat) (v:Value) (t:Nat) (vs:List Value) (hown:W.ownsRow base 9 1 v t vs) (ht:t≤1000000) (hb:base≤W.heap.size) (s:ByteArray):
  ∃ v' w',(Builtin.append_ #[31,31] 31 #[v,.slice (some ⟨W.heap.size,0,none⟩) 1 1]).run Tryz.prog (W.alloc (.cells #[.string s] 9))= .ok v' w'∧w'.ownsRow base 9 1 v' (t+1) (vs++[.string s])∧(W.alloc (.cells #[.string s] 9)).grownBy w' v.ownBlock∧∀ b,v.ownBlock=some b→base≤b:=by
 obtain⟨i0,hi,hz0,hz1,hz2⟩:=info_parts ZiL
 obtain⟨v',w',h1,h2,h3⟩:=Zba (P:=Tryz.prog) (W.alloc (.cells #[.string s] 9)) base 31 31 9 i0 _ 16 Tryz.underlying31 hi hz0 hz1 hz2 rfl v t vs (hown.alloc _) (some ⟨W.heap.size,0,none⟩) 1 1 [.string s] (ZfS W _ _) (by intro u hu;simp at hu;subst hu;rfl) (by omega) (by omega) (by simp;omega)
 exact⟨v',w',h1,h2,h3,fun b hb2=>(hown.lt b hb2).1⟩
theorem ZhS {w:World} {b:Nat} {e:TypeId} {v:Value} {n:Nat} {xs:List Value} (h:w.ownsRow b e 1 v n xs):∃ ao c,v= .slice ao n c:=by
 obtain⟨_,⟨rfl,rfl⟩|⟨g,cap,cur,rfl,_⟩⟩:=h
 ·exact⟨none,0,rfl⟩
 ·exact⟨_,_,rfl⟩
theorem ZfM (w:World) (r:Nat) (bo:Option Addr) (bl bc:Nat) (l:List UInt8) (hl:ZbP w bo bl bc l) (p en:Nat) (hp:p≤en) (hen:en≤bl) (hbl:bl≤900000) (hne:∀ a,bo=some a→a.block≠r∧a.block<w.heap.size) (hr:Blk w r (gdC bo bl bc p en) 237)
  (ss:List ByteArray) (nx:Nat) (k:Int) (hg:Zcw l en p=(ss,nx,k)):
  Calls Tryz.prog 183 #[.pointer (some ⟨r,0,none⟩)] w fun e w'=>∃ v,RdEnd w w' r bo bl bc nx en k v e∧(k=0→w'.ownsRow w.heap.size 9 1 v ss.length (ss.map .string)):=by
 have hll:l.length=bl:=by have:=hl.hlen;simpa using this
 have H0:=Zhd (show ZbP w bo bl bc l∧(∀ a,bo=some a→a.block≠r∧a.block<w.heap.size)∧Zcw l en p=(ss,nx,k)∧r<w.heap.size∧l.length=bl∧Blk w r (gdC bo bl bc p en) 237 from⟨hl,hne,hg,hr.lt,hll,hr⟩)
 obtain⟨G,hG⟩:∃ G,G=ZbQ l en (en+1) 0 p:=⟨_,rfl⟩
 have HG:=Zhd hG
 clear hl hne hg hr hll hG
 go_enter Tryz.func183,Tryz.ntmps183
 go_wp2_with fail
 go_loopw [3] (fun v wr=>Hid (∃ (t:Nat) (q:Nat) (xs:List ByteArray) (f:Nat),xs.length=t∧t≤64∧q≤en∧en<f+q∧wr.ownsRow w.heap.size 9 1 v t (xs.map .string)∧w.grownBy wr (some r)∧Blk wr r (gdC bo bl bc q en) 237∧G=(xs++(ZbQ l en f t q).1,(ZbQ l en f t q).2.1,(ZbQ l en f t q).2.2))) (fun v _=>65-(match v with| .slice _ n _=>n|_=>0))
 case atStart=>exact Zhd ⟨0,p,[],en+1,rfl,by omega,hp,by omega,World.ownsRow_nil _ _ _ _,Zaw r Zbr,H0.out.2.2.2.2.2,by simp[HG.out]⟩
 case round=>
  obtain⟨t,q,xs,f,h1,h2,h3,h4,h5,h6,h7,h8⟩:=hrel.out
  obtain⟨ao,c,hv⟩:=ZhS h5
  subst hv
  obtain⟨f,rfl⟩:∃ g,f=g+1:=⟨f-1,by omega⟩
  have hbd:=Below.drew (Below.refl wr.heap.size wr)
  have h7d:=h7.on hbd
  have c1:wr.drew.cell? ⟨r,1,none⟩=some (.int .i64 (q:Int)):=h7d.cell 1
  have c2:wr.drew.cell? ⟨r,2,none⟩=some (.int .i64 (en:Int)):=h7d.cell 2
  have hgd:=Zah h6 (Zaw r hbd)
  have hod:=Zft h5 hbd
  have hA:=H0.out.2.2.1
  have hlen:=H0.out.2.2.2.2.1
  have hne:=H0.out.2.1
  have hrl:=H0.out.2.2.2.1
  have hbw:=H0.out.1.grown hgd (fun a ha h=>(hne a ha).1 (Zsi h))
  have hsz:=hgd.size
  by_cases hlt:q<en
  ·have hcb:(q:Int)<(en:Int):=by omega
   rw[ZbQ,if_pos hlt] at h8
   by_cases h64:t=64
   ·rw[if_pos h64] at h8
    simp only[List.append_nil] at h8
    have hcb2:((t:Int)==64)=true:=by rw[beq_iff_eq];omega
    have hk4:k=4:=by
     rw[Zcw,←HG.out,h8,if_neg (fun h=>absurd (show(4:Int)=0 from h.1) (by decide))] at hA
     simp only[Prod.mk.injEq] at hA
     exact hA.2.2.symm
    have HF:=Zhd (Zan hk4 hgd)
    clear hrel h1 h2 h3 h4 h5 h6 h7 h7d h8 hgd hod hA hlen hne hrl hbw hsz h64 hk4 hlt hbd
    go_wp2_with fail
    go_region
    all_goals go_wp2_with fail
    all_goals exact⟨rfl,undef,.inr ⟨by rw[HF.out.1];decide,by rw[HF.out.1];rfl,HF.out.2⟩,fun h=>absurd (HF.out.1▸h) (by decide)⟩
   ·rw[if_neg h64] at h8
    have hcb2:((t:Int)==64)=false:=beq_false_of_ne (by omega)
    obtain⟨n,hn⟩:∃ n,n=(l.getD q 0).toNat:=⟨_,rfl⟩
    have hn256:n<256:=by rw[hn];exact UInt8.toNat_lt _
    have hgp:=ZqJ hlt (l:=l) (by omega)
    rw[←hn] at hgp h8
    have HN:=Zhd (ZkW wr.drew r bo bl bc l hbw q en 1 (by omega) hen (by omega) (by omega) (by omega) h7d (n:Int) 0 hgp)
    have HS:=Zhd (show xs.length=t∧t<64∧wr.drew.ownsRow w.heap.size 9 1 (.slice ao t c) t (xs.map .string)∧w.grownBy wr.drew (some r)∧en<f+1+q from⟨h1,by omega,hod,hgd,h4⟩)
    have HB:=Zhd (fun W (hg:wr.drew.grownBy W (some r))=>hbw.grown hg (fun a ha h=>(hne a ha).1 (Zsi h)))
    by_cases hbig:en<q+1+n
    ·rw[if_pos hbig] at h8
     simp only[List.append_nil] at h8
     have hk3:k=3:=by
      rw[Zcw,←HG.out,h8,if_neg (fun h=>absurd (show(3:Int)=0 from h.1) (by decide))] at hA
      simp only[Prod.mk.injEq] at hA
      exact hA.2.2.symm
     have HK:=Zhd hk3
     have hif:en-(q+1)<n:=by omega
     clear hrel h1 h2 h3 h4 h5 h6 h7 h7d h8 hgd hod hA hlen hbw hsz h64 hk3 hbd hgp hn
     go_wp2_with fail
     go_region
     all_goals go_wp2_with (first
      |(go_at_call 182;have hby:=ZcA W4 r bo bl bc l (HB.out W4 H4.out.fr) (q+1) en n (by omega) hen (by omega) (by omega) (fun a ha=>(hne a ha).1) H4.out.blk;rw[if_pos hif] at hby;refine hby.mono ?_;rintro e W5 ⟨v5,hre,-⟩;obtain⟨rfl,hg5⟩:=hre.no (by decide);have H5:=Zhd hg5;clear hby hre hg5;(try simp only[Zju]))
      |(go_at_call 186;refine HN.out.mono ?_;rintro e W4 hre;obtain⟨rfl,hok⟩:=hre.ok;have H4:=Zhd hok;clear hre hok))
     all_goals exact⟨rfl,undef,.inr ⟨by rw[HK.out];decide,by rw[HK.out];rfl,Zah (Zah HS.out.2.2.2.1 H4.out.fr) H5.out⟩,fun h=>absurd (HK.out▸h) (by decide)⟩
    ·rw[if_neg hbig] at h8
     have hif: ¬en-(q+1)<n:=by omega
     have hif2:n≤en-(q+1):=by omega
     have HE:=Zhd (Zan h8 (show q+1+n≤en by omega))
     have hnn:q+1≤en:=by omega
     clear hrel h1 h2 h3 h4 h5 h6 h7 h7d h8 hgd hod hA hlen hbw h64 hbd hgp hn hbig
     go_wp2_with fail
     go_region
     all_goals go_wp2_with (first
      |(at_builtin;refine Zao rfl _ _ _ rfl _ _ rfl rfl H6.out.1 ?_)
      |(go_at_call 182;have hby:=ZcA W4 r bo bl bc l (HB.out W4 H4.out.fr) (q+1) en n hnn hen (by omega) (by omega) (fun a ha=>(hne a ha).1) H4.out.blk;rw[if_neg hif] at hby;refine hby.mono ?_;rintro e W5 ⟨v5,hre,hv5⟩;obtain⟨rfl,hok⟩:=hre.ok;obtain⟨ao5,c5,rfl,ho5⟩:=hv5 hif2;have hcv:=ZgG ho5.row;have hw5:=Zah H4.out.fr hok.fr;have hown5:=Zk9 HS.out.2.2.1 hw5 hrl;have hz5:w.heap.size≤W5.heap.size:=Nat.le_trans hsz hw5.size;obtain⟨v',w6,hrun,hown,hgr,hob⟩:=ZpM W5 w.heap.size _ t _ hown5 (by have:=HS.out.2.1;omega) hz5 (ZoL l (q+1) n);obtain⟨a6,c6,hv6⟩:=ZhS hown;subst hv6;have H5:=Zhd hok;have H6:=Zhd (Zan hrun (Zan hown (Zan hgr hob)));clear hby hre hv5 hok hw5 hown5 hrun hown hgr hob hz5 ho5)
      |(go_at_call 186;refine HN.out.mono ?_;rintro e W4 hre;obtain⟨rfl,hok⟩:=hre.ok;have H4:=Zhd hok;clear hre hok))
     all_goals go_roundw
     case measure=>simp only;have:=HS.out.2.1;omega
     case rel=>
      have hal:Below W5.heap.size W5 (W5.alloc (.cells #[.string (ZoL l (q+1) n)] 9)):=Zbr.alloc Zlr _
      have g1:=Zah (Zah (Zah HS.out.2.2.2.1 H4.out.fr) H5.out.fr) (Zaw r hal)
      have g2:=ZdO g1 H6.out.2.2.1 H6.out.2.2.2
      have hb2:=Zj7 (H5.out.blk.on hal) H6.out.2.2.1 H6.out.2.2.2 hrl
      have ht64:=HS.out.2.1
      exact Zhd ⟨t+1,q+1+n,xs++[ZoL l (q+1) n],f,by rw[Zla,HS.out.1];rfl,by omega,HE.out.2,by have:=HS.out.2.2.2.2;omega,by simpa using H6.out.2.1,g2,hb2,by rw[HE.out.1];simp⟩
  ·have hcb: ¬(q:Int)<(en:Int):=by omega
   rw[ZbQ,if_neg hlt] at h8
   simp only[List.append_nil] at h8
   by_cases h0:t=0
   ·have hcb2:((t:Int)==0)=true:=by rw[beq_iff_eq];omega
    have hk2:k=2:=by
     have hx:xs=[]:=List.eq_nil_of_length_eq_zero (by omega)
     rw[Zcw,←HG.out,h8,if_pos ⟨rfl,hx⟩] at hA
     simp only[Prod.mk.injEq] at hA
     exact hA.2.2.symm
    have HF:=Zhd (Zan hk2 hgd)
    clear hrel h1 h2 h3 h4 h5 h6 h7 h7d h8 hgd hod hA hlen hne hrl hbw hsz h0 hk2 hlt hbd
    go_wp2_with fail
    go_region
    all_goals go_wp2_with fail
    all_goals exact⟨rfl,undef,.inr ⟨by rw[HF.out.1];decide,by rw[HF.out.1];rfl,HF.out.2⟩,fun h=>absurd (HF.out.1▸h) (by decide)⟩
   ·have hcb2:((t:Int)==0)=false:=beq_false_of_ne (by omega)
    have hk0:ss=xs∧nx=q∧k=0:=by
     rw[Zcw,←HG.out,h8,if_neg (fun h=>h0 (by rw[←h1,show xs=[] from h.2];rfl))] at hA
     simp only[Prod.mk.injEq] at hA
     exact⟨hA.1.symm,hA.2.1.symm,hA.2.2.symm⟩
    obtain⟨rfl,rfl,rfl⟩:=hk0
    have HF:=Zhd (Zan hgd (Zan h7d (Zan hod h1)))
    clear hrel h1 h2 h3 h4 h5 h6 h7 h7d h8 hgd hod hA hlen hne hrl hbw hsz h0 hlt hbd
    go_wp2_with fail
    go_region
    all_goals go_wp2_with fail
    all_goals
     go_ret
     refine⟨_,.inl ⟨rfl,rfl,HF.out.2.1,HF.out.1⟩,?_⟩
     have e:=HF.out.2.2.2
     have ho:=HF.out.2.2.1
     rw[←e] at ho
     simpa [e] using ho
def mT:List TypeId:=[5,9,3]
def GdEnd (w w':World) (r:Nat) (res:Zaq×Int) (e:Ending):Prop:=
 (res.2=0∧(∃ h,e= .returned (.agg (Zae h))∧IsData w' h res.1∧DataIn (Zak mT w') h)∧w.grownBy w' (some r))∨(res.2≠0∧e=Zju res.2∧w.grownBy w' (some r))
def zDH:ZaJ:=⟨none,0,0,none,0,0,none,0,0,none,0,0,none,0,0⟩
def gd1 (n:Nat) (l:List UInt8) (en p:Nat):Zaq×Int:=if en-p<n then(Zcv,3) else if p+n<en then(Zcv,7) else(⟨(l.drop p).take n,[],[],[],[]⟩,0)
def gd2 (l:List UInt8) (en p:Nat):Zaq×Int:=(⟨(l.drop p).take (en-p),[],[],[],[]⟩,0)
def gd3 (l:List UInt8) (en p:Nat):Zaq×Int:=if (Zcw l en p).2.2≠0 then(Zcv,(Zcw l en p).2.2) else if (Zcw l en p).2.1<en then(Zcv,7) else(⟨[],[],[],[],(Zcw l en p).1⟩,0)
def gd4 (l:List UInt8) (en p:Nat):Zaq×Int:=if (ZbA l en p).2.2≠0 then(Zcv,(ZbA l en p).2.2) else if (ZbA l en p).2.1<en then(Zcv,7) else(⟨[],(ZbA l en p).1,[],[],[]⟩,0)
def gd5 (c:Nat) (l:List UInt8) (en p:Nat):Zaq×Int:=if (Zbx l en 2 c p).2.2≠0 then(Zcv,(Zbx l en 2 c p).2.2) else if (ZbA l en (Zbx l en 2 c p).2.1).2.2≠0 then(Zcv,(ZbA l en (Zbx l en 2 c p).2.1).2.2) else if (ZbA l en (Zbx l en 2 c p).2.1).2.1<en then(Zcv,7) else(⟨[],(ZbA l en (Zbx l en 2 c p).2.1).1,[],(Zbx l en 2 c p).1,[]⟩,0)
def gd6 (l:List UInt8) (en p:Nat):Zaq×Int:=if (ZbA l en p).2.2≠0 then(Zcv,(ZbA l en p).2.2) else if (ZbA l en (ZbA l en p).2.1).2.2≠0 then(Zcv,(ZbA l en (ZbA l en p).2.1).2.2) else if (Zbx l en 4 5 (ZbA l en (ZbA l en p).2.1).2.1).2.2≠0 then(Zcv,(Zbx l en 4 5 (ZbA l en (ZbA l en p).2.1).2.1).2.2) else if (Zbx l en 4 5 (ZbA l en (ZbA l en p).2.1).2.1).2.1<en then(Zcv,7) else(⟨[],(ZbA l en p).1,(ZbA l en (ZbA l en p).2.1).1,(Zbx l en 4 5 (ZbA l en (ZbA l en p).2.1).2.1).1,[]⟩,0)
theorem Zfo {l:List UInt8} {en p:Nat} (h:(ZbA l en p).2.2=0):(ZbA l en p).2.1≤en:=by
 unfold ZbA at h⊢
 split
 ·rename_i hc
  rw[if_pos hc] at h
  exact absurd (show(3:Int)=0 from h) (by decide)
 ·rename_i hc
  rw[if_neg hc] at h
  have:=fun hx=>hc ⟨h,hx⟩
  omega
structure GdSt (w W:World) (r:Nat) (bo:Option Addr) (bl bc p en:Nat) (sh:Array Value) (h:ZaJ) (d:Zaq):Prop where
 sb:Blk W w.heap.size sh 211
 db:Blk W (w.heap.size+1) (Zae h) 35
 rb:Blk W r (gdC bo bl bc p en) 237
 fr:w.grownBy W (some r)
 is:IsData W h d
 isIn:DataIn (Zak mT W) h
theorem GdSt.start (w:World) (r:Nat) (bo:Option Addr) (bl bc p en:Nat) (sh:Array Value) (hr:Blk w r (gdC bo bl bc p en) 237):GdSt w ((w.alloc (.cells sh 211)).alloc (.cells #[.slice none 0 0,.slice none 0 0,.slice none 0 0,.slice none 0 0,.slice none 0 0] 35)) r bo bl bc p en sh zDH Zcv:=by
 obtain⟨h1,h2,h3⟩:=ZiO w sh #[.slice none 0 0,.slice none 0 0,.slice none 0 0,.slice none 0 0,.slice none 0 0] 211 35
 have hr0:∀ W:World,Row W none 0 0 []:=fun W=>Row.empty (by decide) (fun _=>rfl)
 exact⟨h1,h2,hr.on h3,Zaw r h3,⟨hr0 _,⟨hr0 _,fun s hs=>by cases hs⟩,⟨hr0 _,fun s hs=>by cases hs⟩,hr0 _,⟨hr0 _,fun s hs=>by cases hs⟩,fun n hn=>by cases hn⟩,⟨Za3 _ _,Za3 _ _,Za3 _ _,Za3 _ _,Za3 _ _⟩⟩
theorem GdSt.step {w W W':World} {r:Nat} {bo:Option Addr} {bl bc p p' en:Nat} {sh:Array Value} {h:ZaJ} {d:Zaq} (i:GdSt w W r bo bl bc p en sh h d) (hok:ZrM W W' r bo bl bc p' en) (hr:r<w.heap.size):GdSt w W' r bo bl bc p' en sh h d:=by
 have hs:Same (Zak mT W) W W':=Same.but hok.fr i.rb (by decide)
 have hk:=Zb0.step (T:=mT) (h:=h) (x:=d) ⟨i.is,i.isIn⟩ hs
 exact⟨i.sb.but hok.fr (by omega),i.db.but hok.fr (by omega),hok.blk,Zah i.fr hok.fr,hk.1,hk.2⟩
theorem Ze2 {T:TypeId} {B g:Nat} {w w':World} {ao:Option Addr} {n c:Nat} {vs:List Value} {cs:Array Value} {t:TypeId} (h:Own1 [T] B w ao n c vs) (hg:w.grownBy w' (some g)) (hb:Blk w g cs t) (ht:t∉[T]):Own1 [T] B w' ao n c vs:=h.step (fun b hb2 hs=>(Same.but hg hb ht) b hb2 hs.1)
theorem Ze3 {T:List TypeId} {B:Nat} {w:World} {ao:Option Addr} {n c:Nat} {vs:List Value} (h:Own1 T B w ao n c vs) (hT:∀ t∈T,t∈mT):rowIn (Zak mT w) ao n:=fun h0 a ha=>Za4 (h.mem h0 a ha).1 hT
theorem GdSt.bytes {w W:World} {r:Nat} {bo:Option Addr} {bl bc p en:Nat} {sh:Array Value} {h:ZaJ} {d:Zaq} (i:GdSt w W r bo bl bc p en sh h d) (hr:r<w.heap.size) {ao:Option Addr} {n c:Nat} {x:List UInt8} {B:Nat} (ho:Own1 [5] B W ao n c (x.map u8V)):
  GdSt w (W.setCell ⟨w.heap.size+1,0,none⟩ (.slice ao n c)) r bo bl bc p en sh {h with ba:=ao,bl:=n,bc:=c} {d with bytes:=x}:=by
 have hg:=Zag W (w.heap.size+1) 0 (.slice ao n c)
 have hs:=i.db.set 0 (.slice ao n c)
 have hsm:Same (Zak mT W) W (W.setCell ⟨w.heap.size+1,0,none⟩ (.slice ao n c)):=Same.but hg i.db (by decide)
 have hk:=Zb0.step (T:=mT) (h:=h) (x:=d) ⟨i.is,i.isIn⟩ hsm
 have ho2:Own1 [5] B (W.setCell ⟨w.heap.size+1,0,none⟩ (.slice ao n c)) ao n c (x.map u8V):=Ze2 ho hg i.db (by decide)
 exact⟨i.sb.but hg (by omega),by simpa [Zae] using hs,i.rb.but hg (by omega),ZdO i.fr hg (fun b hb=>by have:=Zsi hb;omega),⟨ho2.row,hk.1.host,hk.1.mail,hk.1.nums,hk.1.texts,hk.1.fits⟩,⟨Ze3 ho2 (by decide),hk.2.iH,hk.2.iM,hk.2.iN,hk.2.iT⟩⟩
theorem GdSt.host {w W:World} {r:Nat} {bo:Option Addr} {bl bc p en:Nat} {sh:Array Value} {h:ZaJ} {d:Zaq} (i:GdSt w W r bo bl bc p en sh h d) (hr:r<w.heap.size) {ao:Option Addr} {n c:Nat} {x:List ByteArray} {B:Nat} (ho:Own1 [9] B W ao n c (x.map .string)) (hx:∀ s∈x,s.size≤9223372036854775807):
  GdSt w (W.setCell ⟨w.heap.size+1,1,none⟩ (.slice ao n c)) r bo bl bc p en sh {h with ha:=ao,hl:=n,hc:=c} {d with host:=x}:=by
 have hg:=Zag W (w.heap.size+1) 1 (.slice ao n c)
 have hs:=i.db.set 1 (.slice ao n c)
 have hsm:Same (Zak mT W) W (W.setCell ⟨w.heap.size+1,1,none⟩ (.slice ao n c)):=Same.but hg i.db (by decide)
 have hk:=Zb0.step (T:=mT) (h:=h) (x:=d) ⟨i.is,i.isIn⟩ hsm
 have ho2:Own1 [9] B (W.setCell ⟨w.heap.size+1,1,none⟩ (.slice ao n c)) ao n c (x.map .string):=Ze2 ho hg i.db (by decide)
 exact⟨i.sb.but hg (by omega),by simpa [Zae] using hs,i.rb.but hg (by omega),ZdO i.fr hg (fun b hb=>by have:=Zsi hb;omega),⟨hk.1.bytes,⟨ho2.row,hx⟩,hk.1.mail,hk.1.nums,hk.1.texts,hk.1.fits⟩,⟨hk.2.iB,Ze3 ho2 (by decide),hk.2.iM,hk.2.iN,hk.2.iT⟩⟩
theorem GdSt.mail {w W:World} {r:Nat} {bo:Option Addr} {bl bc p en:Nat} {sh:Array Value} {h:ZaJ} {d:Zaq} (i:GdSt w W r bo bl bc p en sh h d) (hr:r<w.heap.size) {ao:Option Addr} {n c:Nat} {x:List ByteArray} {B:Nat} (ho:Own1 [9] B W ao n c (x.map .string)) (hx:∀ s∈x,s.size≤9223372036854775807):
  GdSt w (W.setCell ⟨w.heap.size+1,2,none⟩ (.slice ao n c)) r bo bl bc p en sh {h with ma:=ao,ml:=n,mc:=c} {d with mail:=x}:=by
 have hg:=Zag W (w.heap.size+1) 2 (.slice ao n c)
 have hs:=i.db.set 2 (.slice ao n c)
 have hsm:Same (Zak mT W) W (W.setCell ⟨w.heap.size+1,2,none⟩ (.slice ao n c)):=Same.but hg i.db (by decide)
 have hk:=Zb0.step (T:=mT) (h:=h) (x:=d) ⟨i.is,i.isIn⟩ hsm
 have ho2:Own1 [9] B (W.setCell ⟨w.heap.size+1,2,none⟩ (.slice ao n c)) ao n c (x.map .string):=Ze2 ho hg i.db (by decide)
 exact⟨i.sb.but hg (by omega),by simpa [Zae] using hs,i.rb.but hg (by omega),ZdO i.fr hg (fun b hb=>by have:=Zsi hb;omega),⟨hk.1.bytes,hk.1.host,⟨ho2.row,hx⟩,hk.1.nums,hk.1.texts,hk.1.fits⟩,⟨hk.2.iB,hk.2.iH,Ze3 ho2 (by decide),hk.2.iN,hk.2.iT⟩⟩
theorem GdSt.nums {w W:World} {r:Nat} {bo:Option Addr} {bl bc p en:Nat} {sh:Array Value} {h:ZaJ} {d:Zaq} (i:GdSt w W r bo bl bc p en sh h d) (hr:r<w.heap.size) {ao:Option Addr} {n c:Nat} {x:List Int} {B:Nat} (ho:Own1 [3] B W ao n c (x.map (.int .i64))) (hx:∀ z∈x,wfi z):
  GdSt w (W.setCell ⟨w.heap.size+1,3,none⟩ (.slice ao n c)) r bo bl bc p en sh {h with na:=ao,nl:=n,nc:=c} {d with nums:=x}:=by
 have hg:=Zag W (w.heap.size+1) 3 (.slice ao n c)
 have hs:=i.db.set 3 (.slice ao n c)
 have hsm:Same (Zak mT W) W (W.setCell ⟨w.heap.size+1,3,none⟩ (.slice ao n c)):=Same.but hg i.db (by decide)
 have hk:=Zb0.step (T:=mT) (h:=h) (x:=d) ⟨i.is,i.isIn⟩ hsm
 have ho2:Own1 [3] B (W.setCell ⟨w.heap.size+1,3,none⟩ (.slice ao n c)) ao n c (x.map (.int .i64)):=Ze2 ho hg i.db (by decide)
 exact⟨i.sb.but hg (by omega),by simpa [Zae] using hs,i.rb.but hg (by omega),ZdO i.fr hg (fun b hb=>by have:=Zsi hb;omega),⟨hk.1.bytes,hk.1.host,hk.1.mail,ho2.row,hk.1.texts,hx⟩,⟨hk.2.iB,hk.2.iH,hk.2.iM,Ze3 ho2 (by decide),hk.2.iT⟩⟩
theorem GdSt.texts {w W:World} {r:Nat} {bo:Option Addr} {bl bc p en:Nat} {sh:Array Value} {h:ZaJ} {d:Zaq} (i:GdSt w W r bo bl bc p en sh h d) (hr:r<w.heap.size) {ao:Option Addr} {n c:Nat} {x:List ByteArray} {B:Nat} (ho:Own1 [9] B W ao n c (x.map .string)) (hx:∀ s∈x,s.size≤9223372036854775807):
  GdSt w (W.setCell ⟨w.heap.size+1,4,none⟩ (.slice ao n c)) r bo bl bc p en sh {h with ta:=ao,tl:=n,tc:=c} {d with texts:=x}:=by
 have hg:=Zag W (w.heap.size+1) 4 (.slice ao n c)
 have hs:=i.db.set 4 (.slice ao n c)
 have hsm:Same (Zak mT W) W (W.setCell ⟨w.heap.size+1,4,none⟩ (.slice ao n c)):=Same.but hg i.db (by decide)
 have hk:=Zb0.step (T:=mT) (h:=h) (x:=d) ⟨i.is,i.isIn⟩ hsm
 have ho2:Own1 [9] B (W.setCell ⟨w.heap.size+1,4,none⟩ (.slice ao n c)) ao n c (x.map .string):=Ze2 ho hg i.db (by decide)
 exact⟨i.sb.but hg (by omega),by simpa [Zae] using hs,i.rb.but hg (by omega),ZdO i.fr hg (fun b hb=>by have:=Zsi hb;omega),⟨hk.1.bytes,hk.1.host,hk.1.mail,hk.1.nums,⟨ho2.row,hx⟩,hk.1.fits⟩,⟨hk.2.iB,hk.2.iH,hk.2.iM,hk.2.iN,Ze3 ho2 (by decide)⟩⟩
theorem Zlt (l:List UInt8) (i c:Nat):(ZoL l i c).size≤c:=by
 show((l.drop i).take c).toArray.size≤c
 rw[List.size_toArray,List.length_take]
 exact Nat.min_le_left _ _
theorem Zki (l:List UInt8):∀ (f:Nat) (s:GS),s.n.length≤s.size→s.size≤255→(∀ x∈s.n,x.size≤63)→(ZkV l f s).1.length≤255∧∀ x∈(ZkV l f s).1,x.size≤63
 |0,s,_,_,_=>⟨by simp[ZkV],fun x hx=>by simp[ZkV] at hx⟩
 |f+1,s,h1,h2,h3=>by
  have hn:([]:List ByteArray).length≤255∧∀ x∈([]:List ByteArray),x.size≤63:=⟨by simp,fun x hx=>by cases hx⟩
  rw[ZkV]
  split
  ·split
   ·exact⟨by simp only;omega,h3⟩
   ·split
    ·split
     ·split
      ·exact hn
      ·exact Zki l f _ h1 h2 h3
     ·exact hn
    ·split
     ·exact hn
     ·split
      ·exact hn
      ·split
       ·exact hn
       ·rename_i h63 _ h255
        refine Zki l f _ ?_ (by simp only;omega) ?_
        ·simp only[Zla,List.length_singleton];omega
        ·intro x hx
         rcases List.mem_append.1 hx with hx|hx
         ·exact h3 x hx
         ·rw[List.mem_singleton.1 hx]
          exact Nat.le_trans (Zlt l _ _) (by omega)
  ·exact hn
theorem Zfp (l:List UInt8) (en p:Nat):(ZbA l en p).1.length≤255∧∀ x∈(ZbA l en p).1,x.size≤63:=by
 have h:=Zki l (p*300+256) ⟨[],p,p,1,0⟩ (by simp) (by simp) (fun x hx=>by cases hx)
 unfold ZbA
 split
 ·exact h
 ·exact h
theorem ZjU (l:List UInt8) (en:Nat):∀ (f c p:Nat),c≤64→(ZbQ l en f c p).1.length+c≤64∧∀ x∈(ZbQ l en f c p).1,x.size≤255
 |0,c,p,h=>⟨by simp[ZbQ];omega,fun x hx=>by simp[ZbQ] at hx⟩
 |f+1,c,p,h=>by
  rw[ZbQ]
  split
  ·split
   ·exact⟨by simp;omega,fun x hx=>by cases hx⟩
   ·split
    ·exact⟨by simp;omega,fun x hx=>by cases hx⟩
    ·rename_i h64 _
     have ih:=ZjU l en f (c+1) (p+1+(l.getD p 0).toNat) (by omega)
     refine⟨by simp only[List.length_cons];omega,fun x hx=>?_⟩
     rcases List.mem_cons.1 hx with rfl|hx
     ·have:=Zlt l (p+1) (l.getD p 0).toNat
      have:=UInt8.toNat_lt (l.getD p 0)
      omega
     ·exact ih.2 x hx
  ·exact⟨by simp;omega,fun x hx=>by cases hx⟩
theorem ZoA (l:List UInt8) (en p:Nat):(Zcw l en p).1.length≤64∧∀ x∈(Zcw l en p).1,x.size≤255:=by
 have h:=ZjU l en (en+1) 0 p (by omega)
 unfold Zcw
 split
 ·exact⟨by simp,fun x hx=>by cases hx⟩
 ·exact⟨by omega,h.2⟩
theorem ZqK (l:List UInt8) (p:Nat) {size:Nat} (h:size≤7):wfi (Zdl l p size).1:=by
 unfold Zdl
 split
 ·have h1:=Zp2 ((l.drop p).take size)
  have h2:((l.drop p).take size).length≤7:=by rw[List.length_take];omega
  have h3:256^((l.drop p).take size).length≤256^7:=Nat.pow_le_pow_right (by decide) h2
  have h4:(256:Nat)^7=72057594037927936:=by decide
  generalize beN ((l.drop p).take size)=m at h1
  have h5:m<72057594037927936:=by omega
  clear h1 h2 h3 h4
  show-9223372036854775808≤(m:Int)∧(m:Int)≤9223372036854775807
  omega
 ·decide
theorem ZdW (l:List UInt8) (en:Nat) {size:Nat} (h:size≤7):∀ (c p:Nat),∀ z∈(Zbx l en size c p).1,wfi z
 |0,p,z,hz=>by simp[Zbx] at hz
 |c+1,p,z,hz=>by
  simp only[Zbx] at hz
  split at hz
  ·rcases List.mem_cons.1 hz with rfl|hz
   ·exact ZqK _ p h
   ·exact ZdW l en h c _ z hz
  ·cases hz
end Go.Proofs.YtjpefpclmndgeaaGreat

/- Contracts of the given program's functions, in the order in which they are proved. -/
import Derived.Deep.RegionLaw
import Derived.Deep.RegionHeld3
import Derived.Deep.CutBlock
import Derived.Deep.DeepCutAuto
import Derived.Deep.RegionWith
import Derived.Laws.Rows
import Derived.Test.YtjpefpclmndgeaaGreatShelfS
import Derived.Test.YtjpefpclmndgeaaGreatPl5
namespace Go.Proofs.YtjpefpclmndgeaaGreat
set_option maxHeartbeats 64000000
set_option maxRecDepth 100000
def pN (b:List UInt8):Nat:=ZaI b.length
def Zjj:Nat→List (List UInt8)→List (Nat×Nat)
 |_,[]=>[]
 |p,b::rs=>(p,pN b)::Zjj (p+pN b) rs
def Zf9:Nat→List (List UInt8)→Nat
 |p,[]=>p
 |p,b::rs=>Zf9 (p+pN b) rs
def plN (p:Nat) (rs:List (List UInt8)) (i:Nat):Nat:=Zf9 p (rs.take i)
theorem ZhT (b:List UInt8):1≤pN b:=by unfold pN ZaI;omega
theorem ZeF:∀ (p:Nat) (rs:List (List UInt8)),(Zjj p rs).length=rs.length
 |_,[]=>rfl
 |p,b::rs=>by rw[Zjj,List.length_cons,List.length_cons,ZeF]
theorem Zii:∀ (p:Nat) (rs:List (List UInt8)) (b:List UInt8),Zjj p (rs++[b])=Zjj p rs++[(Zf9 p rs,pN b)]
 |_,[],_=>rfl
 |p,a::rs,b=>by rw[List.cons_append,Zjj,Zii,Zjj,Zf9];rfl
theorem ZdT:∀ (p:Nat) (rs qs:List (List UInt8)),Zf9 p (rs++qs)=Zf9 (Zf9 p rs) qs
 |_,[],_=>rfl
 |p,a::rs,qs=>by rw[List.cons_append,Zf9,ZdT,Zf9]
theorem ZgK:∀ (p:Nat) (rs:List (List UInt8)),p+rs.length≤Zf9 p rs
 |_,[]=>by simp[Zf9]
 |p,b::rs=>by
  have h1:=ZgK (p+pN b) rs
  have h2:=ZhT b
  rw[Zf9,List.length_cons]
  omega
theorem Ziz (p:Nat) (rs:List (List UInt8)) {i:Nat} (h:i<rs.length):plN p rs (i+1)=plN p rs i+pN rs[i]:=by
 rw[plN,List.take_succ_eq_append_getElem h,ZdT]
 rfl
theorem ZpA (p:Nat) (rs:List (List UInt8)):plN p rs 0=p:=rfl
theorem Ze5 (p:Nat) (rs:List (List UInt8)):plN p rs rs.length=Zf9 p rs:=by rw[plN,List.take_length]
theorem Zgw (p:Nat) (rs:List (List UInt8)) {i k:Nat} (h:i≤k):plN p rs i≤plN p rs k:=by
 induction k with
 |zero=>have:i=0:=by omega
        subst this;exact Nat.le_refl _
 |succ k ih=>
  rcases Nat.lt_or_ge i (k+1) with h1|h1
  ·have h2:=ih (by omega)
   by_cases h3:k<rs.length
   ·rw[Ziz p rs h3];omega
   ·have e:plN p rs (k+1)=plN p rs k:=by rw[plN,plN,List.take_of_length_le (by omega),List.take_of_length_le (by omega)]
    omega
  ·have:i=k+1:=by omega
   subst this;exact Nat.le_refl _
theorem Ziy (p:Nat) (rs:List (List UInt8)) {i:Nat} (h:i<rs.length):plN p rs i+pN rs[i]≤Zf9 p rs:=by
 rw[←Ziz p rs h,←Ze5]
 exact Zgw p rs h
theorem Zqd (p:Nat) (rs:List (List UInt8)) (i:Nat):p≤plN p rs i:=Zgw p rs (Nat.zero_le i)
theorem Zgq:∀ (p:Nat) (rs:List (List UInt8)) (i:Nat) (h:i<rs.length),(Zjj p rs)[i]?=some (plN p rs i,pN rs[i])
 |_,[],i,h=>by simp at h
 |p,b::rs,0,_=>rfl
 |p,b::rs,i+1,h=>by
  rw[Zjj,List.getElem?_cons_succ,Zgq (p+pN b) rs i (by simpa using h)]
  rfl
theorem Zjk:∀ (p:Nat) (rs:List (List UInt8)) (k:Nat),(Zjj p rs).drop k=Zjj (plN p rs k) (rs.drop k)
 |_,[],k=>by simp[Zjj]
 |p,b::rs,0=>rfl
 |p,b::rs,k+1=>by
  rw[Zjj,List.drop_succ_cons,Zjk (p+pN b) rs k]
  rfl
theorem Zpy (p:Nat) (rs:List (List UInt8)) (k i:Nat) (_hk:k≤rs.length):plN (plN p rs k) (rs.drop k) i=plN p rs (k+i):=by
 rw[plN,plN,plN,←ZdT]
 congr 1
 rw[List.take_add]
theorem Zpz (p:Nat) (rs:List (List UInt8)) {k i:Nat} (h:i≤k):plN p (rs.take k) i=plN p rs i:=by
 rw[plN,plN,List.take_take,Nat.min_eq_left h]
theorem Ze4 (p:Nat) (rs qs:List (List UInt8)) {i:Nat} (h:i≤rs.length):plN p (rs++qs) i=plN p rs i:=by
 rw[plN,plN,List.take_append_of_le_length h]
theorem Zp1 {d:Zaz} (h:3≤d.sure.length) {p q f:Nat} (hp:f≤p) (hq:f≤q) (hp2:p<f+Zay d) (hq2:q<f+Zay d) (e:atN d p=atN d q):p=q:=by
 unfold atN at e
 have hr:0<Zay d:=by unfold Zay;omega
 have e2:p%Zay d=q%Zay d:=by omega
 have h1:=Nat.div_add_mod p (Zay d)
 have h2:=Nat.div_add_mod q (Zay d)
 rw[e2] at h1
 have h3:Zay d*(p/Zay d)=p-q%Zay d:=by omega
 have h4:Zay d*(q/Zay d)=q-q%Zay d:=by omega
 rcases Nat.lt_trichotomy (p/Zay d) (q/Zay d) with hlt|heq|hgt
 ·have:=Nat.mul_le_mul_left (Zay d) (show p/Zay d+1≤q/Zay d from hlt)
  rw[Nat.mul_add] at this
  omega
 ·rw[heq] at h1;omega
 ·have:=Nat.mul_le_mul_left (Zay d) (show q/Zay d+1≤p/Zay d from hgt)
  rw[Nat.mul_add] at this
  omega
theorem ZmN (d:Zaz) (p:Nat):2≤atN d p:=by unfold atN;omega
theorem ZiT {d d':Zaz} (h:d'.sure.length=d.sure.length) (p:Nat):atN d' p=atN d p:=by unfold atN Zay;rw[h]
def ZjI (ep first:Int) (i j:Nat) (b:List UInt8):List UInt8:=ZcZ ⟨2,ep,first+(i:Int),j,pN b⟩ (Zcl b j)
def Ver (d:Zaz) (t:Nat) (raw:List UInt8):Prop:=d.sure[t]?=some (raw,false)∨(t,raw)∈d.unsure
theorem Zk1 {us:List (Nat×List UInt8)} {t:Nat} {raw:List UInt8} (h:lastW us t=some raw):(t,raw)∈us:=by
 unfold lastW at h
 obtain⟨x,hx,rfl⟩:=Option.map_eq_some_iff.1 h
 have h1:=List.find?_some hx
 have h2:=List.mem_of_find?_eq_some hx
 have h3:x.1=t:=by simpa using h1
 rw[←h3]
 exact List.mem_reverse.1 h2
theorem Zjh {us:List (Nat×List UInt8)} {t:Nat} (h:∀ u∈us,u.1≠t):lastW us t=none:=by
 unfold lastW
 rw[Option.map_eq_none_iff,List.find?_eq_none]
 intro x hx
 have:=h x (List.mem_reverse.1 hx)
 simpa using this
theorem Zgy {d:Zaz} {t:Nat} {raw:List UInt8} (h:Zbg d t=some raw):Ver d t raw:=by
 unfold Zbg at h
 cases hl:lastW d.unsure t with
 |some b=>
  rw[hl] at h
  have e:b=raw:=by simpa using h
  subst e
  exact .inr (Zk1 hl)
 |none=>
  rw[hl] at h
  cases hs:d.sure[t]? with
  |none=>rw[hs] at h;simp at h
  |some s=>
   rw[hs] at h
   simp at h
   left
   obtain⟨s1,s2⟩:=s
   obtain⟨h1,h2⟩:=h
   simp at h1 h2
   rw[hs,h2,h1]
def Zrc (l:ZaZ) (h:Zb7):Prop:=h.epoch<l.block.epoch∨(h.epoch=l.block.epoch∧h.seq<l.block.first)
structure Zmx (d:Zaz) (l:ZaZ) (rs:List (List UInt8)) (sy f:Nat) (ep:Nat→Int):Prop where
 frm:l.block.from'=(f:Int)
 lst:l.list=Zjj f rs
 fin:l.fin=Zf9 f rs
 ring:Zf9 f rs≤f+Zay d
 epf:∀ i,Za2 (ep i) 4=true∧ep i≤l.block.epoch∧(l.block.count≤l.block.first+(i:Int)→ep i=l.block.epoch)
 live:∀ i (h:i<rs.length) j,j<pN rs[i]→Zbg d (atN d (plN f rs i+j))=some (ZjI (ep i) l.block.first i j rs[i])
 dur:∀ i (h:i<rs.length) j,i<sy→j<pN rs[i]→d.sure[atN d (plN f rs i+j)]?=some (ZjI (ep i) l.block.first i j rs[i],false)∧∀ u∈d.unsure,u.1≠atN d (plN f rs i+j)
 uns:∀ u∈d.unsure,∃ i,∃ h:i<rs.length,∃ j,sy≤i∧j<pN rs[i]∧u=(atN d (plN f rs i+j),ZjI (ep i) l.block.first i j rs[i])
 old:∀ t raw,2≤t→Ver d t raw→Zb8 raw=0→(ZbR raw).kind=2→Zrc l (ZbR raw)∨∃ i,∃ h:i<rs.length,∃ j,j<pN rs[i]∧t=atN d (plN f rs i+j)∧raw=ZjI (ep i) l.block.first i j rs[i]
structure LogOK (d:Zaz) (l:ZaZ) (rs:List (List UInt8)) (sy:Nat):Prop where
 calm:Calm d
 off:l.down=false
 n4:4≤d.sure.length
 le:d.sure.length≤4096
 load:Zb1 d 2=some l.block
 usup:∀ u∈d.unsure,2≤u.1
 fits:ZaT l.block=true
 epf:Za2 l.block.epoch 4=true
 ep1:1≤l.block.epoch
 cnt:l.block.first≤l.block.count∧l.block.count≤l.block.first+(sy:Int)∧sy≤rs.length
 small:∀ b∈rs,1≤b.length∧b.length≤16384
 body:∃ f ep,Zmx d l rs sy f ep
theorem Zko (us vs:List (Nat×List UInt8)) (t:Nat):lastW (us++vs) t=match lastW vs t with
  |some b=>some b
  |none=>lastW us t:=by
 unfold lastW
 rw[List.reverse_append,List.find?_append]
 cases List.find? (fun x=>x.1==t) vs.reverse<;>rfl
def Zd0 (d:Zaz) (l:ZaZ) (b:List UInt8) (i:Nat):List (Nat×List UInt8):=(List.range i).map fun j=>(atN d (l.fin+j),Zlk l b j)
theorem Zg0 (d:Zaz) (l:ZaZ) (b:List UInt8) (i:Nat):Zd0 d l b (i+1)=Zd0 d l b i++[(atN d (l.fin+i),Zlk l b i)]:=by
 unfold Zd0
 rw[List.range_succ,List.map_append]
 rfl
theorem Zfx {d:Zaz} (h:Calm d) (h3:3≤d.sure.length) (l:ZaZ) (b:List UInt8):∀ i,Calm (ZaK d l b i)∧ZaK d l b i={d with unsure:=d.unsure++Zd0 d l b i}
 |0=>⟨h,by simp[ZaK,Zd0]⟩
 |i+1=>by
  obtain⟨h1,h2⟩:=Zfx h h3 l b i
  rw[ZaK]
  refine⟨h1.write (by rw[Zcf];exact Zqt h3 _) _,?_⟩
  rw[h1.writeP,h2,Zg0]
  simp[List.append_assoc]
theorem Zks {d:Zaz} (h3:3≤d.sure.length) (l:ZaZ) (b:List UInt8) {i:Nat} (hi:i≤Zay d) {j:Nat} (hj:j<i):lastW (Zd0 d l b i) (atN d (l.fin+j))=some (Zlk l b j):=by
 induction i with
 |zero=>omega
 |succ i ih=>
  rw[Zg0,Zji]
  by_cases e:i=j
  ·subst e
   rw[if_pos rfl]
  ·rw[if_neg ?_,ih (by omega) (by omega)]
   intro h
   have:=Zp1 h3 (f:=l.fin) (by omega) (by omega) (by omega) (by omega) h
   omega
theorem ZgZ {d:Zaz} (l:ZaZ) (b:List UInt8) (i:Nat) {t:Nat} (h:∀ j,j<i→atN d (l.fin+j)≠t):lastW (Zd0 d l b i) t=none:=by
 apply Zjh
 intro u hu
 obtain⟨j,hj,rfl⟩:=List.mem_map.1 hu
 exact h j (List.mem_range.1 hj)
theorem Zfb {d:Zaz} {l:ZaZ} (hc:Calm d) (ho:l.down=false):Zhw d l=false:=by rw[Zhw,ho,hc.dn];rfl
theorem ZkR {d:Zaz} {l:ZaZ} {rs:List (List UInt8)} {sy f:Nat} {ep:Nat→Int} (hb:Zmx d l rs sy f ep):ZbU d l=(Zay d:Int)-((Zf9 f rs:Int)-(f:Int)):=by rw[ZbU,hb.frm,hb.fin]
theorem ZeI {d:Zaz} {l:ZaZ} {rs:List (List UInt8)} {sy f:Nat} {ep:Nat→Int} (hb:Zmx d l rs sy f ep):Zbj l=l.block.first+(rs.length:Int):=by rw[Zbj,hb.lst,ZeF]
theorem LogOK.app {d:Zaz} {l:ZaZ} {rs:List (List UInt8)} {sy:Nat} (h:LogOK d l rs sy) {b:List UInt8} (hb:1≤b.length∧b.length≤16384) (hr:(pN b:Int)≤ZbU d l):
  Zf5 d l b=(ZhG d l b,ZoI l b,Zbj l,0)∧LogOK (ZhG d l b) (ZoI l b) (rs++[b]) sy:=by
 have h3:3≤d.sure.length:=by have:=h.n4;omega
 obtain⟨f,ep,hB⟩:=h.body
 obtain⟨hc,hd⟩:=Zfx h.calm h3 l b (ZaI b.length)
 have hd':ZhG d l b={d with unsure:=d.unsure++Zd0 d l b (pN b)}:=hd
 have hrm:=ZkR hB
 have hpn:Zf9 f rs+pN b≤f+Zay d:=by rw[hrm] at hr;omega
 have hpr:pN b≤Zay d:=by have:=ZgK f rs;omega
 refine⟨?_,?_⟩
 ·unfold Zf5
  rw[if_neg (by rw[Zfb h.calm h.off];decide),if_neg (by omega),if_neg (by show¬ZbU d l<(pN b:Int);omega),if_neg (by rw[show ZhG d l b=ZaK d l b (ZaI b.length) from rfl,hc.dn];decide)]
 have hlen:(ZhG d l b).sure.length=d.sure.length:=by rw[hd']
 have hat:∀ p,atN (ZhG d l b) p=atN d p:=fun p=>ZiT hlen p
 have hrec:∀ j,Zlk l b j=ZjI l.block.epoch l.block.first rs.length j b:=fun j=>by rw[Zlk,Zqf,ZeI hB];rfl
 have hE:∀ {i:Nat} (hi:i<rs.length) {j:Nat},j<pN rs[i]→f≤plN f rs i+j∧plN f rs i+j<Zf9 f rs:=fun {i} hi {j} hj=>by
  have h1:=Ziy f rs hi
  have h2:=Zqd f rs i
  omega
 have hne:∀ {i:Nat} (hi:i<rs.length) {j:Nat},j<pN rs[i]→∀ j',j'<pN b→atN d (l.fin+j')≠atN d (plN f rs i+j):=fun {i} hi {j} hj j' hj' e=>by
  rw[hB.fin] at e
  have h1:=hE hi hj
  have h2:=ZgK f rs
  have:=Zp1 h3 (f:=f) (by omega) h1.1 (by omega) (by omega) e
  omega
 have hread:∀ t,Zbg (ZhG d l b) t=match lastW (Zd0 d l b (pN b)) t with
   |some b=>some b
   |none=>Zbg d t:=fun t=>by
  rw[hd']
  unfold Zbg
  show(match lastW (d.unsure++Zd0 d l b (pN b)) t with
   |some b=>some b
   |none=>match d.sure[t]? with
    |some s=>if s.2=true then none else some s.1
    |none=>none)=_
  rw[Zko]
  cases lastW (Zd0 d l b (pN b)) t<;>rfl
 have hget:∀ i (hi:i<rs.length),(rs++[b])[i]'(by simp;omega)=rs[i]:=fun i hi=>List.getElem_append_left hi
 have hgl:(rs++[b])[rs.length]'(by simp)=b:=by simp
 have hrd2:∀ t,t<2→Zbg (ZhG d l b) t=Zbg d t:=fun t ht=>by
  rw[hread,ZgZ l b (pN b) (fun j _ e=>by have:=ZmN d (l.fin+j);omega)]
 refine⟨hc,h.off,by rw[hlen];exact h.n4,by rw[hlen];exact h.le,?_,?_,h.fits,h.epf,h.ep1,⟨h.cnt.1,h.cnt.2.1,by have:=h.cnt.2.2;simp;omega⟩,?_,f,ep,hB.frm,?_,?_,?_,hB.epf,?_,?_,?_,?_⟩
 ·rw[Zil h.calm.dn (by rw[hd'];exact h.calm.dn) hrd2]
  exact h.load
 ·intro u hu
  rw[hd'] at hu
  rcases List.mem_append.1 hu with hu|hu
  ·exact h.usup u hu
  ·obtain⟨j,_,rfl⟩:=List.mem_map.1 hu
   exact ZmN d _
 ·intro c hcm
  rcases List.mem_append.1 hcm with hcm|hcm
  ·exact h.small c hcm
  ·rw[List.mem_singleton.1 hcm];exact hb
 ·show l.list++[(l.fin,ZaI b.length)]=_
  rw[Zii,hB.lst,hB.fin]
  rfl
 ·show l.fin+ZaI b.length=_
  rw[ZdT,hB.fin]
  rfl
 ·rw[ZdT]
  show Zf9 f rs+pN b≤f+Zay (ZhG d l b)
  unfold Zay at hpn⊢
  rw[hlen]
  exact hpn
 ·intro i hi j hj
  rw[hat,hread]
  rw[Zla,List.length_singleton] at hi
  by_cases hlt:i<rs.length
  ·simp only[hget i hlt] at hj⊢
   rw[Ze4 f rs [b] (by omega),ZgZ l b (pN b) (fun j' hj'=>hne hlt hj j' hj')]
   exact hB.live i hlt j hj
  ·have e:i=rs.length:=by omega
   subst e
   simp only[hgl] at hj⊢
   rw[Ze4 f rs [b] Zlr,Ze5,←hB.fin,Zks h3 l b hpr hj]
   show some (Zlk l b j)=_
   rw[hrec,(hB.epf rs.length).2.2 (by have:=h.cnt;omega)]
   rfl
 ·intro i hi j hs hj
  have hlt:i<rs.length:=by have:=h.cnt;omega
  simp only[hget i hlt] at hj⊢
  rw[hat,Ze4 f rs [b] (by omega),hd']
  obtain⟨h1,h2⟩:=hB.dur i hlt j hs hj
  refine⟨h1,fun u hu=>?_⟩
  rcases List.mem_append.1 hu with hu|hu
  ·exact h2 u hu
  ·obtain⟨j',hj',rfl⟩:=List.mem_map.1 hu
   exact hne hlt hj j' (List.mem_range.1 hj')
 ·intro u hu
  rw[hd'] at hu
  rcases List.mem_append.1 hu with hu|hu
  ·obtain⟨i,hi,j,h1,h2,h4⟩:=hB.uns u hu
   refine⟨i,by simp;omega,j,h1,by rw[hget i hi];exact h2,?_⟩
   rw[hat,Ze4 f rs [b] (by omega),hget i hi]
   exact h4
  ·obtain⟨j,hj,rfl⟩:=List.mem_map.1 hu
   have hj:=List.mem_range.1 hj
   refine⟨rs.length,by simp,j,h.cnt.2.2,by rw[hgl];exact hj,?_⟩
   rw[hat,Ze4 f rs [b] Zlr,Ze5,←hB.fin,hgl,hrec,(hB.epf rs.length).2.2 (by have:=h.cnt;omega)]
   rfl
 ·intro t raw ht hv ho hk
  have hcase:Ver d t raw∨(t,raw)∈Zd0 d l b (pN b):=by
   rw[hd'] at hv
   rcases hv with hv|hv
   ·exact .inl (.inl hv)
   ·rcases List.mem_append.1 hv with hv|hv
    ·exact .inl (.inr hv)
    ·exact .inr hv
  rcases hcase with hv|hv
  ·rcases hB.old t raw ht hv ho hk with h1|⟨i,hi,j,h1,h2,h4⟩
   ·exact .inl h1
   ·right
    refine⟨i,by simp;omega,j,by rw[hget i hi];exact h1,?_,?_⟩
    ·rw[hat,Ze4 f rs [b] (by omega)];exact h2
    ·rw[hget i hi];exact h4
  ·obtain⟨j,hj,e⟩:=List.mem_map.1 hv
   have hj:=List.mem_range.1 hj
   have e1:atN d (l.fin+j)=t:=(Prod.mk.inj e).1
   have e2:Zlk l b j=raw:=(Prod.mk.inj e).2
   right
   refine⟨rs.length,by simp,j,by rw[hgl];exact hj,?_,?_⟩
   ·rw[hat,Ze4 f rs [b] Zlr,Ze5,←hB.fin]
    exact e1.symm
   ·rw[←e2,hgl,hrec,(hB.epf rs.length).2.2 (by have:=h.cnt;omega)]
    rfl
theorem Zlw {d:Zaz} (h:Calm d) {t:Nat} {raw:List UInt8} (hv:Ver (ZaE d) t raw):Ver d t raw:=by
 rw[h.syncP] at hv
 rcases hv with hv|hv
 ·have hg:=ZiH d.unsure d.sure h.us t d.unsure.length Zlr
  rw[List.take_length] at hg
  have hv':(ZdB (fun _=>some false) d.unsure d.sure d.unsure.length)[t]?=some (raw,false):=hv
  rw[hg] at hv'
  cases hl:lastW d.unsure t with
  |some b=>
   rw[hl] at hv'
   have e:b=raw:=by simpa using hv'
   subst e
   exact .inr (Zk1 hl)
  |none=>
   rw[hl] at hv'
   exact .inl hv'
 ·cases hv
theorem ZhD {d:Zaz} (h:Calm d) {t:Nat} {raw:List UInt8} (hr:Zbg d t=some raw):(ZaE d).sure[t]?=some (raw,false):=by
 have h2:=h.read_sync t
 rw[hr] at h2
 rcases Zgy h2 with h3|h3
 ·exact h3
 ·rw[h.sync_none] at h3
  cases h3
theorem LogOK.sync {d:Zaz} {l:ZaZ} {rs:List (List UInt8)} {sy:Nat} (h:LogOK d l rs sy):
  ZeW d l=0∧Zel d l=l∧ZeV d l=ZaE d∧(ZaE d).unsure=[]∧LogOK (ZaE d) l rs rs.length:=by
 have ho:=Zfb h.calm h.off
 have hse:=h.calm.syncE
 obtain⟨f,ep,hB⟩:=h.body
 have hlen:=h.calm.sync_len
 have hat:∀ p,atN (ZaE d) p=atN d p:=fun p=>ZiT hlen p
 have hu:=h.calm.sync_none
 refine⟨by simp[ZeW,ho,hse],?_,by simp[ZeV,ho],hu,h.calm.sync,h.off,by rw[hlen];exact h.n4,by rw[hlen];exact h.le,?_,?_,h.fits,h.epf,h.ep1,⟨h.cnt.1,by have:=h.cnt;omega,Nat.le_refl _⟩,h.small,f,ep,hB.frm,hB.lst,hB.fin,?_,hB.epf,?_,?_,?_,?_⟩
 ·have:Zel d l={l with down:=false}:=by simp[Zel,ho,hse]
  rw[this]
  exact ZfI l false h.off
 ·rw[Zil h.calm.dn h.calm.sync.dn (fun t _=>h.calm.read_sync t)]
  exact h.load
 ·rw[hu]
  intro u hu
  cases hu
 ·have:=hB.ring
  unfold Zay at this⊢
  rw[hlen]
  exact this
 ·intro i hi j hj
  rw[hat,h.calm.read_sync]
  exact hB.live i hi j hj
 ·intro i hi j _ hj
  rw[hat,hu]
  exact⟨ZhD h.calm (hB.live i hi j hj),fun u hu=>by cases hu⟩
 ·rw[hu]
  intro u hu
  cases hu
 ·intro t raw ht hv ho hk
  rcases hB.old t raw ht (Zlw h.calm hv) ho hk with h1|⟨i,hi,j,h1,h2,h4⟩
  ·exact .inl h1
  ·exact .inr ⟨i,hi,j,h1,by rw[hat];exact h2,h4⟩
def ZbC (l:ZaZ) (k:Nat):ZcS:=⟨l.block.gen+1,l.block.epoch,l.block.first+(k:Int),(if h:k<l.list.length then((l.list[k]).1:Int) else(l.fin:Int)),Zbj l⟩
theorem ZjH {d:Zaz} (h:Calm d) {b:ZcS} {t:Nat} (ht:2≤t) {raw:List UInt8} (hv:Ver (ZaE (ZaL (ZaE d) (b.gen%2).toNat (ZaY b))) t raw):Ver d t raw:=by
 have hs:=h.sync
 have hsl:=Zhg b.gen
 have hw:∀ u∈(ZaL (ZaE d) (b.gen%2).toNat (ZaY b)).unsure,u.1<2:=fun u hu=>by
  rw[hs.writeP,h.sync_none] at hu
  have:=List.mem_singleton.1 hu
  rw[this]
  exact hsl
 have hc2:(ZaL (ZaE d) (b.gen%2).toNat (ZaY b)).down=false∧Zbu (ZaL (ZaE d) (b.gen%2).toNat (ZaY b))=true∧spendP (ZaL (ZaE d) (b.gen%2).toNat (ZaY b))=ZaL (ZaE d) (b.gen%2).toNat (ZaY b):=by
  rw[hs.writeP]
  exact⟨hs.dn,hs.ok,by simp[spendP,hs.lim]⟩
 have hv2:Ver (ZaE d) t raw:=by
  rw[show ZaE (ZaL (ZaE d) (b.gen%2).toNat (ZaY b))={ZaL (ZaE d) (b.gen%2).toNat (ZaY b) with sure:=ZdB (fun _=>some false) (ZaL (ZaE d) (b.gen%2).toNat (ZaY b)).unsure (ZaL (ZaE d) (b.gen%2).toNat (ZaY b)).sure (ZaL (ZaE d) (b.gen%2).toNat (ZaY b)).unsure.length,unsure:=[]} from by
   rw[Go.Proofs.YtjpefpclmndgeaaGreat.ZaE,if_neg (by rw[hc2.1];decide),if_pos hc2.2.1,hc2.2.2]] at hv
  rcases hv with hv|hv
  ·left
   have hv':(ZdB (fun _=>some false) (ZaL (ZaE d) (b.gen%2).toNat (ZaY b)).unsure (ZaL (ZaE d) (b.gen%2).toNat (ZaY b)).sure (ZaL (ZaE d) (b.gen%2).toNat (ZaY b)).unsure.length)[t]?=some (raw,false):=hv
   have hus:(ZaL (ZaE d) (b.gen%2).toNat (ZaY b)).unsure=[((b.gen%2).toNat,ZaY b)]:=by rw[hs.writeP,h.sync_none];rfl
   have hsu:(ZaL (ZaE d) (b.gen%2).toNat (ZaY b)).sure=(ZaE d).sure:=by rw[hs.writeP]
   rw[hus,hsu] at hv'
   simp only[ZdB,List.length_singleton,List.getElem?_cons_zero] at hv'
   rwa [List.getElem?_set_ne (by omega)] at hv'
  ·cases hv
 exact Zlw h hv2
theorem LogOK.drop {d:Zaz} {l:ZaZ} {rs:List (List UInt8)} {sy:Nat} (h:LogOK d l rs sy) {k:Nat} (hk:k≤rs.length) (hfit:ZaT (ZbC l k)=true):
  ZbI d (ZbC l k)=true∧(ZbH d (ZbC l k)).2=0∧(ZbH d (ZbC l k)).1.unsure=[]∧LogOK (ZbH d (ZbC l k)).1 {l with block:=ZbC l k,list:=l.list.drop k} (rs.drop k) (rs.length-k):=by
 have hn:ZbI d (ZbC l k)=true:=by
  unfold ZbI
  rw[h.load]
  simp[ZbC]
 have h3:3≤d.sure.length:=by have:=h.n4;omega
 obtain⟨hz,hS⟩:=Zfy h.calm (by have:=h.n4;omega) hfit hn
 obtain⟨f,ep,hB⟩:=h.body
 have hsv:=Zg4 h.calm hfit hn
 have hat:∀ p,atN (ZbH d (ZbC l k)).1 p=atN d p:=fun p=>ZiT hS.len p
 have hsl:=Zhg (ZbC l k).gen
 have hrd:∀ t,2≤t→Zbg (ZbH d (ZbC l k)).1 t=Zbg d t:=fun t ht=>by rw[hS.read,if_neg (by omega)]
 have hfrom:(ZbC l k).from'=(plN f rs k:Int):=by
  show(if h:k<l.list.length then((l.list[k]).1:Int) else(l.fin:Int))=_
  have hll:l.list.length=rs.length:=by rw[hB.lst,ZeF]
  split
  ·rename_i hlt
   have h1:=Zgq f rs k (by omega)
   rw[←hB.lst,List.getElem?_eq_getElem hlt] at h1
   have h2:l.list[k]=(plN f rs k,pN (rs[k]'(by omega))):=Zsi h1
   rw[h2]
  ·have e:k=rs.length:=by omega
   rw[hB.fin,e,Ze5]
 have hgd:∀ i (hi:i<(rs.drop k).length),(rs.drop k)[i]=rs[k+i]'(by rw[List.length_drop] at hi;omega):=fun i hi=>by rw[List.getElem_drop]
 have hpd:∀ i,plN (plN f rs k) (rs.drop k) i=plN f rs (k+i):=fun i=>Zpy f rs k i hk
 have hsec:∀ i j b,ZjI (ep (k+i)) (l.block.first+(k:Int)) i j b=ZjI (ep (k+i)) l.block.first (k+i) j b:=fun i j b=>by
  unfold ZjI
  rw[show l.block.first+(k:Int)+(i:Int)=l.block.first+((k+i:Nat):Int) by push_cast;omega]
 have hread:∀ i (hi:i<(rs.drop k).length) j,j<pN (rs.drop k)[i]→Zbg (ZbH d (ZbC l k)).1 (atN (ZbH d (ZbC l k)).1 (plN (plN f rs k) (rs.drop k) i+j))=some (ZjI (ep (k+i)) (l.block.first+(k:Int)) i j (rs.drop k)[i]):=fun i hi j hj=>by
  rw[hgd i hi] at hj⊢
  rw[hat,hpd,hrd _ (ZmN _ _),hsec]
  exact hB.live (k+i) _ j hj
 refine⟨hn,hz,hS.none,hS.calm,h.off,by rw[hS.len];exact h.n4,by rw[hS.len];exact h.le,hS.load,?_,hfit,h.epf,h.ep1,⟨?_,?_,?_⟩,?_,plN f rs k,fun i=>ep (k+i),hfrom,?_,?_,?_,?_,hread,?_,?_,?_⟩
 ·rw[hS.none]
  intro u hu
  cases hu
 ·show l.block.first+(k:Int)≤Zbj l
  rw[ZeI hB]
  omega
 ·show Zbj l≤l.block.first+(k:Int)+((rs.length-k:Nat):Int)
  rw[ZeI hB]
  omega
 ·rw[List.length_drop];exact Nat.le_refl _
 ·intro b hb
  exact h.small b (List.mem_of_mem_drop hb)
 ·show l.list.drop k=_
  rw[hB.lst,Zjk]
 ·show l.fin=_
  rw[hB.fin,plN,←ZdT,List.take_append_drop]
 ·have h1:=hB.ring
  have h2:=Zqd f rs k
  have e:Zf9 (plN f rs k) (rs.drop k)=Zf9 f rs:=by rw[plN,←ZdT,List.take_append_drop]
  rw[e]
  unfold Zay at h1⊢
  rw[hS.len]
  omega
 ·intro i
  refine⟨(hB.epf (k+i)).1,(hB.epf (k+i)).2.1,fun hc=>(hB.epf (k+i)).2.2 ?_⟩
  have hc':Zbj l≤l.block.first+(k:Int)+(i:Int):=hc
  have h1:=h.cnt
  rw[ZeI hB] at hc'
  push_cast
  omega
 ·intro i hi j _ hj
  have h1:=hread i hi j hj
  refine⟨?_,fun u hu=>by rw[hS.none] at hu;cases hu⟩
  rcases Zgy h1 with h2|h2
  ·exact h2
  ·rw[hS.none] at h2
   cases h2
 ·rw[hS.none]
  intro u hu
  cases hu
 ·intro t raw ht hv ho hkd
  have hv2:Ver d t raw:=by
   rw[hsv] at hv
   exact ZjH h.calm ht hv
  rcases hB.old t raw ht hv2 ho hkd with h1|⟨i,hi,j,h1,h2,h4⟩
  ·left
   rcases h1 with h1|h1
   ·exact .inl h1
   ·right
    refine⟨h1.1,?_⟩
    show(ZbR raw).seq<l.block.first+(k:Int)
    have:=h1.2
    omega
  ·by_cases hik:k≤i
   ·right
    have hi':i-k<(rs.drop k).length:=by rw[List.length_drop];omega
    refine⟨i-k,hi',j,?_,?_,?_⟩
    ·rw[hgd _ hi']
     simpa [show k+(i-k)=i by omega] using h1
    ·rw[hat,hpd,show k+(i-k)=i by omega]
     exact h2
    ·show raw=ZjI (ep (k+(i-k))) (l.block.first+(k:Int)) (i-k) j _
     rw[hsec,hgd _ hi']
     simpa [show k+(i-k)=i by omega] using h4
   ·left
    rw[h4]
    have hsl:Zb9 ⟨2,ep i,l.block.first+(i:Int),(j:Int),(pN rs[i]:Int)⟩ (Zcl rs[i] j)=0:=by
     have hs:=h.small rs[i] (List.getElem_mem hi)
     have h34:pN rs[i]≤34:=by unfold pN ZaI;omega
     have hf1:Za2 (j:Int) 1=true:=by simp only[Za2,Zae2,Zde];omega
     have hf2:Za2 (pN rs[i]:Int) 1=true:=by simp only[Za2,Zae2,Zde];omega
     have hf3:Za2 (l.block.first+(i:Int)) 7=true:=by
      have g1:=Zhu (ZaR hfit (t:=4) (by omega))
      have g2:=Zhu (ZaR h.fits (t:=2) (by omega))
      simp only[ZbZ] at g1 g2
      have g3:(ZbC l k).count=l.block.first+(rs.length:Int):=ZeI hB
      rw[g3] at g1
      simp only[Za2,Zae2,Zde]
      have h256:(256:Int)^7=72057594037927936:=by decide
      omega
     have hff:Zd3 ⟨2,ep i,l.block.first+(i:Int),(j:Int),(pN rs[i]:Int)⟩=true:=by
      simp only[Zd3,(hB.epf i).1,hf1,hf2,hf3,Bool.and_true]
      decide
     have hp1:=ZhT rs[i]
     have hpl:=Zfv (b:=rs[i]) (t:=j)
     rw[Zb9,if_neg (by rw[hff];decide),if_neg (by simp only;omega),if_neg (by omega)]
    obtain⟨_,hh,_⟩:=Zg6 hsl
    rw[ZjI,hh]
    have hep:=(hB.epf i).2.1
    by_cases hlt:ep i<l.block.epoch
    ·exact .inl hlt
    ·exact .inr ⟨by show ep i=l.block.epoch;omega,by show l.block.first+(i:Int)<l.block.first+(k:Int);omega⟩
def Zfr (d:Zaz) (l:ZaZ) (i n:Nat):Bool:=
 decide ((ZbF d (l.fin+i)).2.2=0)&&(decide ((ZbF d (l.fin+i)).1.kind=2)&&(decide ((ZbF d (l.fin+i)).1.seq=Zbj l)&&(decide ((ZbF d (l.fin+i)).1.part=(i:Int))&&
  (!(decide (0<i)&&decide ((ZbF d (l.fin+i)).1.parts≠(n:Int)))&&(!(decide (l.block.count≤(ZbF d (l.fin+i)).1.seq)&&decide ((ZbF d (l.fin+i)).1.epoch≠l.block.epoch))&&
    decide ((l.fin:Int)+(ZbF d (l.fin+i)).1.parts-l.block.from'≤(Zay d:Int)))))))
def Zce (d:Zaz) (l:ZaZ):Nat→Nat→Nat→Nat
 |0,_,n=>n
 |f+1,i,n=>if i<n then(if Zfr d l i n=true then Zce d l f (i+1) (ZbF d (l.fin+i)).1.parts.toNat else 0) else n
def Zc9 (d:Zaz) (l:ZaZ):Nat:=Zce d l 300 0 1
def Zg5 (d:Zaz):Nat→ZaZ→ZaZ
 |0,l=>l
 |f+1,l=>if Zc9 d l=0 then l else Zg5 d f {l with list:=l.list++[(l.fin,Zc9 d l)],fin:=l.fin+Zc9 d l}
def Zqw (b:ZcS):ZaZ:=⟨b,[],b.from'.toNat,false⟩
def Zdy (d:Zaz) (b:ZcS):ZaZ:=Zg5 d (Zay d+1) (Zqw b)
def Zb3 (d:Zaz) (b:ZcS):ZcS:=⟨b.gen+1,b.epoch+1,b.first,b.from',Zbj (Zdy d b)⟩
theorem ZiI {f:Nat→Option Bool} {us:List (Nat×List UInt8)} {s:List (List UInt8×Bool)} {t:Nat} {raw:List UInt8}:∀ k,(ZdB f us s k)[t]?=some (raw,false)→s[t]?=some (raw,false)∨(t,raw)∈us
 |0,h=> .inl h
 |k+1,h=>by
  rw[ZdB] at h
  split at h
  ·rename_i u b hu hb
   by_cases e:u.1=t
   ·by_cases hl:t<(ZdB f us s k).length
    ·rw[e,List.getElem?_set_self hl] at h
     have h2:u.2=raw:=(Prod.mk.inj (Zsi h)).1
     right
     rw[←e,←h2]
     exact List.mem_of_getElem? hu
    ·rw[List.getElem?_eq_none (by rw[List.length_set];omega)] at h
     cases h
   ·rw[List.getElem?_set_ne e] at h
    exact ZiI k h
  ·exact ZiI k h
theorem Zg7 {f:Nat→Option Bool} {us:List (Nat×List UInt8)} {s:List (List UInt8×Bool)} {t:Nat} (hn:∀ u∈us,u.1≠t):∀ k,(ZdB f us s k)[t]?=s[t]?
 |0=>rfl
 |k+1=>by
  rw[ZdB]
  split
  ·rename_i u b hu hb
   rw[List.getElem?_set_ne (hn u (List.mem_of_getElem? hu))]
   exact Zg7 hn k
  ·exact Zg7 hn k
theorem Zm1 {d:Zaz} {m tn t:Nat} {raw:List UInt8} (h:Ver (ZaN d m tn) t raw):Ver d t raw:=by
 rcases h with h|h
 ·exact ZiI _ h
 ·cases h
theorem Zi1 (d:Zaz) (m tn:Nat):(ZaN d m tn).sure.length=d.sure.length:=ZeL _ _ _ _
theorem ZhH (d:Zaz) (m tn:Nat):Calm (ZaN d m tn):=⟨rfl,rfl,fun u hu=>by cases hu⟩
theorem ZhI {d:Zaz} {m tn t:Nat} (hn:∀ u∈d.unsure,u.1≠t):Zbg (ZaN d m tn) t=Zbg d t:=by
 unfold Zbg
 rw[Zjh hn,show lastW (ZaN d m tn).unsure t=none from rfl,show(ZaN d m tn).sure[t]?=d.sure[t]? from Zg7 hn _]
theorem Zn5 {d:Zaz} {t:Nat} {raw:List UInt8} (h:d.unsure=[]) (hr:Zbg d t=some raw):d.sure[t]?=some (raw,false):=by
 rcases Zgy hr with h1|h1
 ·exact h1
 ·rw[h] at h1;cases h1
theorem Zky {f7:Int} {b:List UInt8} {i j:Nat} {ep:Int} (he:Za2 ep 4=true) (hs:Za2 (f7+(i:Int)) 7=true) (hb:1≤b.length∧b.length≤16384) (hj:j<pN b):Zb8 (ZjI ep f7 i j b)=0∧ZbR (ZjI ep f7 i j b)=⟨2,ep,f7+(i:Int),j,pN b⟩∧ZbE (ZjI ep f7 i j b)=Zcl b j:=by
 have h34:pN b≤34:=by unfold pN ZaI;omega
 have hf1:Za2 (j:Int) 1=true:=by simp only[Za2,Zae2,Zde];omega
 have hf2:Za2 (pN b:Int) 1=true:=by simp only[Za2,Zae2,Zde];omega
 have hff:Zd3 ⟨2,ep,f7+(i:Int),(j:Int),(pN b:Int)⟩=true:=by
  simp only[Zd3,he,hf1,hf2,hs,Bool.and_true]
  decide
 have hpl:=Zfv (b:=b) (t:=j)
 have hsl:Zb9 ⟨2,ep,f7+(i:Int),(j:Int),(pN b:Int)⟩ (Zcl b j)=0:=by
  rw[Zb9,if_neg (by rw[hff];decide),if_neg (by simp only;omega),if_neg (by omega)]
 exact Zg6 hsl
theorem Zja (P:Nat→Prop) (n s:Nat) (hs:s≤n) (h:∀ i,i<s→P i):∃ k,s≤k∧k≤n∧(∀ i,i<k→P i)∧(k<n→¬P k):=by
 obtain⟨m,hm⟩:∃ m,m=n-s:=⟨_,rfl⟩
 induction m generalizing s with
 |zero=>exact⟨s,Nat.le_refl _,hs,h,fun h2=>by omega⟩
 |succ m ih=>
  by_cases hp:P s
  ·obtain⟨k,h1,h2,h3,h4⟩:=ih (s+1) (by omega) (fun i hi=>by
    rcases Nat.lt_succ_iff_lt_or_eq.1 hi with h5|rfl
    ·exact h i h5
    ·exact hp) (by omega)
   exact⟨k,by omega,h2,h3,h4⟩
  ·exact⟨s,Nat.le_refl _,hs,h,fun _=>hp⟩
def Zgi (b:ZcS) (f:Nat) (rs:List (List UInt8)) (i:Nat):ZaZ:=⟨b,Zjj f (rs.take i),plN f rs i,false⟩
theorem Zg1 (b:ZcS) (f:Nat) (rs:List (List UInt8)) {i:Nat} (h:i≤rs.length):Zbj (Zgi b f rs i)=b.first+(i:Int):=by
 rw[Zbj,Zgi,ZeF,List.length_take,Nat.min_eq_left h]
theorem ZnY (b:ZcS) (f:Nat) (rs:List (List UInt8)) {i:Nat} (h:i<rs.length):Zgi b f rs (i+1)={Zgi b f rs i with list:=(Zgi b f rs i).list++[((Zgi b f rs i).fin,pN rs[i])],fin:=(Zgi b f rs i).fin+pN rs[i]}:=by
 unfold Zgi
 rw[Ziz f rs h,List.take_succ_eq_append_getElem h,Zii]
 rfl
def ZpW (d:Zaz) (l:ZaZ) (rs:List (List UInt8)) (f:Nat) (ep:Nat→Int) (i:Nat) (j:Nat):Prop:=∀ (h:i<rs.length),j<pN rs[i]→Zbg d (atN d (plN f rs i+j))=some (ZjI (ep i) l.block.first i j rs[i])
variable {d d':Zaz} {l:ZaZ} {rs:List (List UInt8)} {sy f:Nat} {ep:Nat→Int}
theorem Zjv (h:LogOK d l rs sy) (hB:Zmx d l rs sy f ep) {i:Nat} (hi:i<rs.length) {j:Nat} (hj:j<pN rs[i]) (hf:Za2 (l.block.first+(i:Int)) 7=true) (hl:ZpW d' l rs f ep i j):ZbF d' (plN f rs i+j)=(⟨2,ep i,l.block.first+(i:Int),j,pN rs[i]⟩,Zcl rs[i] j,0):=by
 have hs:=Zky (hB.epf i).1 hf (h.small _ (List.getElem_mem hi)) hj
 rw[ZbF,hl hi hj]
 simp only[hs.1,if_true,hs.2.1,hs.2.2]
theorem ZqR (h:LogOK d l rs sy) (hB:Zmx d l rs sy f ep) (hlen:d'.sure.length=d.sure.length) {i:Nat} (hi:i<rs.length) {j:Nat} (hj:j<pN rs[i]) (hf:Za2 (l.block.first+(i:Int)) 7=true) (hl:ZpW d' l rs f ep i j) (n:Nat) (hn:0<j→n=pN rs[i]):Zfr d' (Zgi l.block f rs i) j n=true∧(ZbF d' ((Zgi l.block f rs i).fin+j)).1.parts.toNat=pN rs[i]:=by
 have hp:=Zjv h hB hi hj hf hl
 have hnx:=Zg1 l.block f rs (Nat.le_of_lt hi)
 have he:=Ziy f rs hi
 have hr:=hB.ring
 have hfr:=hB.frm
 have hrn:Zay d'=Zay d:=by unfold Zay;rw[hlen]
 constructor
 ·unfold Zfr
  rw[show(Zgi l.block f rs i).fin=plN f rs i from rfl,hp,hnx]
  simp only[Zae2,Zde,Bool.not_eq_true',Bool.and_eq_false_iff,decide_eq_false_iff_not]
  refine⟨trivial,trivial,trivial,trivial,?_,?_,?_⟩
  ·by_cases h0:0<j
   ·right
    rw[hn h0]
    simp
   ·exact .inl h0
  ·by_cases hc:l.block.count≤l.block.first+(i:Int)
   ·right
    rw[(hB.epf i).2.2 hc]
    simp[Zgi]
   ·exact .inl hc
  ·show((plN f rs i:Nat):Int)+(pN rs[i]:Int)-l.block.from'≤_
   rw[hfr,hrn]
   omega
 ·rw[show(Zgi l.block f rs i).fin=plN f rs i from rfl,hp]
  simp
theorem Zib (h:LogOK d l rs sy) (hB:Zmx d l rs sy f ep) (hlen:d'.sure.length=d.sure.length) {i:Nat} (hi:i<rs.length) (hf:Za2 (l.block.first+(i:Int)) 7=true) (K:Nat) (hK:K≤pN rs[i]) (hl:∀ j,j<K→ZpW d' l rs f ep i j):∀ r j F n,j+r=K→(0<j→n=pN rs[i])→(j=0→n=1)→Zce d' (Zgi l.block f rs i) (F+r) j n=Zce d' (Zgi l.block f rs i) F (j+r) (if 0<j+r then pN rs[i] else n)
 |0,j,F,n,hr,h1,h2=>by
  by_cases h0:0<j
  ·rw[Nat.add_zero,Nat.add_zero,if_pos h0,h1 h0]
  ·rw[Nat.add_zero,Nat.add_zero,if_neg h0]
 |r+1,j,F,n,hr,h1,h2=>by
  have hjn:j<n:=by
   have hp:=ZhT rs[i]
   by_cases h0:0<j
   ·rw[h1 h0];omega
   ·rw[h2 (by omega)];omega
  obtain⟨g1,g2⟩:=ZqR h hB hlen hi (show j<pN rs[i] by omega) hf (hl j (by omega)) n h1
  rw[←Nat.add_assoc,Zce,if_pos hjn,if_pos g1,g2,Zib h hB hlen hi hf K hK hl r (j+1) F (pN rs[i]) (by omega) (fun _=>rfl) (fun h0=>by omega),if_pos (by omega),show j+1+r=j+(r+1) by omega,if_pos (by omega)]
theorem Zkh (h:LogOK d l rs sy) (hB:Zmx d l rs sy f ep) (hlen:d'.sure.length=d.sure.length) {i:Nat} (hi:i<rs.length) (hf:Za2 (l.block.first+(i:Int)) 7=true) (hl:∀ j,ZpW d' l rs f ep i j):Zc9 d' (Zgi l.block f rs i)=pN rs[i]:=by
 have hp:=ZhT rs[i]
 have hs:=h.small rs[i] (List.getElem_mem hi)
 have h34:pN rs[i]≤34:=by unfold pN ZaI;omega
 have hg:=Zib h hB hlen hi hf (pN rs[i]) Zlr (fun j _=>hl j) (pN rs[i]) 0 (300-pN rs[i]) 1 (by omega) (fun h0=>by omega) (fun _=>rfl)
 rw[show 300-pN rs[i]+pN rs[i]=300 by omega,Nat.zero_add,if_pos (by omega)] at hg
 rw[Zc9,hg]
 obtain⟨F,hF⟩:∃ F,300-pN rs[i]=F+1:=⟨300-pN rs[i]-1,by omega⟩
 rw[hF,Zce,if_neg (by omega)]
theorem Zqa (h:LogOK d l rs sy) (hB:Zmx d l rs sy f ep) (hv:∀ t raw,Ver d' t raw→Ver d t raw) (hf:∀ i,i<rs.length→Za2 (l.block.first+(i:Int)) 7=true) {k:Nat} (hk:sy≤k) (hkl:k≤rs.length) {j:Nat} (hbad:∀ (hk:k<rs.length),j<pN rs[k]→¬Zbg d' (atN d' (plN f rs k+j))=some (ZjI (ep k) l.block.first k j rs[k])) (n:Nat) (hjn:∀ (hk:k<rs.length),j<pN rs[k]):Zfr d' (Zgi l.block f rs k) j n=false:=by
 rw[Bool.eq_false_iff]
 intro hok
 unfold Zfr at hok
 rw[Zg1 l.block f rs hkl,show(Zgi l.block f rs k).fin=plN f rs k from rfl] at hok
 simp only[Zae2,Zde,Bool.not_eq_true',Bool.and_eq_false_iff,decide_eq_false_iff_not] at hok
 obtain⟨h0,h1,h2,h3,-,h5,-⟩:=hok
 unfold ZbF at h0 h1 h2 h3 h5
 cases hr:Zbg d' (atN d' (plN f rs k+j)) with
 |none=>rw[hr] at h0;simp at h0
 |some raw=>
  rw[hr] at h0 h1 h2 h3 h5
  by_cases he:Zb8 raw=0
  ·simp only[he,if_true] at h0 h1 h2 h3 h5
   have h6: ¬l.block.count≤(ZbR raw).seq∨(ZbR raw).epoch=l.block.epoch:=by
    rcases h5 with h5|h5
    ·exact .inl h5
    ·exact .inr (by simpa [Zgi] using h5)
   have hc:l.block.count≤l.block.first+(k:Int):=by have:=h.cnt;omega
   rcases hB.old _ raw (ZmN _ _) (hv _ _ (Zgy hr)) he h1 with hs|⟨i,hi,j',g1,g2,g3⟩
   ·unfold Zrc at hs
    rw[h2] at h6 hs
    rcases hs with hs|hs
    ·rcases h6 with h6|h6
     ·exact h6 hc
     ·omega
    ·have:=hs.2
     omega
   ·have hs:=Zky (hB.epf i).1 (hf i hi) (h.small _ (List.getElem_mem hi)) g1
    rw[←g3] at hs
    rw[hs.2.1] at h2 h3
    have e1:i=k:=by simp only at h2;omega
    have e2:j'=j:=by simp only at h3;omega
    subst e1 e2
    exact hbad hi (hjn hi) (by rw[hr,g3])
  ·simp only[he,if_false] at h0
theorem ZlX (h:LogOK d l rs sy) (hB:Zmx d l rs sy f ep) (hlen:d'.sure.length=d.sure.length) (hv:∀ t raw,Ver d' t raw→Ver d t raw) (hf:∀ i,i<rs.length→Za2 (l.block.first+(i:Int)) 7=true) {k:Nat} (hk:sy≤k) (hkl:k≤rs.length) (hbad:k<rs.length→¬∀ j,ZpW d' l rs f ep k j):Zc9 d' (Zgi l.block f rs k)=0:=by
 by_cases hlt:k<rs.length
 ·have hs:=h.small rs[k] (List.getElem_mem hlt)
  have h34:pN rs[k]≤34:=by unfold pN ZaI;omega
  obtain⟨j,h1,h2,h3,h4⟩:=Zja (fun j=>ZpW d' l rs f ep k j) (pN rs[k]) 0 (Nat.zero_le _) (fun i hi=>by omega)
  have hj:j<pN rs[k]:=by
   rcases Nat.lt_or_ge j (pN rs[k]) with h5|h5
   ·exact h5
   ·exfalso
    exact hbad hlt (fun j' hh hj'=>h3 j' (by omega) hh hj')
  have hnl:=h4 hj
  have hg:=Zib h hB hlen hlt (hf k hlt) j (by omega) h3 j 0 (300-j) 1 (by omega) (fun h0=>by omega) (fun _=>rfl)
  rw[show 300-j+j=300 by omega,Nat.zero_add] at hg
  rw[Zc9,hg]
  obtain⟨F,hF⟩:∃ F,300-j=F+1:=⟨300-j-1,by omega⟩
  have hno:=Zqa h hB hv hf hk hkl (j:=j) (fun hh hj' e=>hnl (fun _ _=>e)) (if 0<j then pN rs[k] else 1) (fun _=>hj)
  rw[hF,Zce,if_pos (by split<;>omega),if_neg (by rw[hno];decide)]
 ·have hno:=Zqa h hB hv hf hk hkl (j:=0) (fun hh=>absurd hh hlt) 1 (fun hh=>absurd hh hlt)
  rw[Zc9,Zce,if_pos (by omega),if_neg (by rw[hno];decide)]
theorem Zof (h:LogOK d l rs sy) (hB:Zmx d l rs sy f ep) (hlen:d'.sure.length=d.sure.length) (hf:∀ i,i<rs.length→Za2 (l.block.first+(i:Int)) 7=true) {k:Nat} (hkl:k≤rs.length) (hgood:∀ i,i<k→∀ j,ZpW d' l rs f ep i j):∀ r i F,i+r=k→Zg5 d' (F+r) (Zgi l.block f rs i)=Zg5 d' F (Zgi l.block f rs k)
 |0,i,F,hr=>by
  have:i=k:=by omega
  subst this
  rfl
 |r+1,i,F,hr=>by
  have hi:i<rs.length:=by omega
  have hw:=Zkh h hB hlen hi (hf i hi) (hgood i (by omega))
  have hp:=ZhT rs[i]
  rw[←Nat.add_assoc,Zg5,hw,if_neg (by omega),←ZnY l.block f rs hi]
  exact Zof h hB hlen hf hkl hgood r (i+1) F (by omega)
theorem LogOK.crash {d:Zaz} {l:ZaZ} {rs:List (List UInt8)} {sy:Nat} (h:LogOK d l rs sy) (m tn:Nat) (hfit:ZaT ⟨l.block.gen+1,l.block.epoch+1,l.block.first,l.block.from',l.block.first+(rs.length:Int)⟩=true) (hep:Za2 (l.block.epoch+1) 4=true):
  Zb1 (ZaN d m tn) 2=some l.block∧∃ k,sy≤k∧k≤rs.length∧(d.unsure=[]→k=rs.length)∧Zbj (Zdy (ZaN d m tn) l.block)=l.block.first+(k:Int)∧(Zdy (ZaN d m tn) l.block).block=l.block∧
   ZaT (Zb3 (ZaN d m tn) l.block)=true∧ZbI (ZaN d m tn) (Zb3 (ZaN d m tn) l.block)=true∧(ZbH (ZaN d m tn) (Zb3 (ZaN d m tn) l.block)).2=0∧(ZbH (ZaN d m tn) (Zb3 (ZaN d m tn) l.block)).1.unsure=[]∧
   LogOK (ZbH (ZaN d m tn) (Zb3 (ZaN d m tn) l.block)).1 {Zdy (ZaN d m tn) l.block with block:=Zb3 (ZaN d m tn) l.block} (rs.take k) k:=by
 obtain⟨f,ep,hB⟩:=h.body
 have hlen:=Zi1 d m tn
 have hcal:=ZhH d m tn
 have hver:∀ t raw,Ver (ZaN d m tn) t raw→Ver d t raw:=fun t raw hv=>Zm1 hv
 have hc:=h.cnt
 have hf7:∀ i,i<rs.length→Za2 (l.block.first+(i:Int)) 7=true:=fun i hi=>by
  have g1:=Zhu (ZaR hfit (t:=4) (by omega))
  have g2:=Zhu (ZaR h.fits (t:=2) (by omega))
  simp only[ZbZ] at g1 g2
  simp only[Za2,Zae2,Zde]
  have h256:(256:Int)^7=72057594037927936:=by decide
  omega
 have hld:Zb1 (ZaN d m tn) 2=some l.block:=by
  rw[Zil h.calm.dn hcal.dn (fun t ht=>ZhI (fun u hu=>by have:=h.usup u hu;omega))]
  exact h.load
 have hat:∀ p,atN (ZaN d m tn) p=atN d p:=fun p=>ZiT hlen p
 obtain⟨k,h1,h2,h3,h4⟩:=Zja (fun i=>∀ j,ZpW (ZaN d m tn) l rs f ep i j) rs.length sy hc.2.2 (fun i hi j hh hj=>by
  rw[hat]
  obtain⟨g1,g2⟩:=hB.dur i hh j hi hj
  rw[ZhI g2]
  exact hB.live i hh j hj)
 have hring:Zay (ZaN d m tn)=Zay d:=by unfold Zay;rw[hlen]
 have hkr:k≤Zay d:=by
  have g1:=ZgK f rs
  have g2:=hB.ring
  omega
 have hborn:Zqw l.block=Zgi l.block f rs 0:=by
  rw[Zqw,Zgi,hB.frm,ZpA]
  simp[Zjj]
 have hscan:Zdy (ZaN d m tn) l.block=Zgi l.block f rs k:=by
  have hg:=Zof h hB hlen hf7 h2 h3 k 0 (Zay d+1-k) (by omega)
  rw[show Zay d+1-k+k=Zay d+1 by omega] at hg
  rw[Zdy,hring,hborn,hg]
  obtain⟨F,hF⟩:∃ F,Zay d+1-k=F+1:=⟨Zay d-k,by omega⟩
  rw[hF,Zg5,if_pos (ZlX h hB hlen hver hf7 h1 h2 h4)]
 have hnx:Zbj (Zdy (ZaN d m tn) l.block)=l.block.first+(k:Int):=by rw[hscan,Zg1 l.block f rs h2]
 have hfitB:ZaT (Zb3 (ZaN d m tn) l.block)=true:=by
  have g:=fun t (ht:t<5)=>ZaR hfit ht
  have g0:=g 0 (by omega)
  have g1:=g 1 (by omega)
  have g2:=g 2 (by omega)
  have g3:=g 3 (by omega)
  have g4:=Zhu (g 4 (by omega))
  simp only[ZbZ] at g0 g1 g2 g3 g4
  have g5:=Zhu g2
  have g6:Za2 (l.block.first+(k:Int)) 7=true:=by
   simp only[Za2,Zae2,Zde]
   have h256:(256:Int)^7=72057594037927936:=by decide
   omega
  simp only[ZaT,Zb3,hnx,g0,g1,g2,g3,g6,Bool.and_true]
 have hn:ZbI (ZaN d m tn) (Zb3 (ZaN d m tn) l.block)=true:=by
  unfold ZbI
  rw[hld]
  simp[Zb3]
 have h3l:3≤d.sure.length:=by have:=h.n4;omega
 obtain⟨hz,hS⟩:=Zfy hcal (by rw[hlen];omega) hfitB hn
 have hsv:=Zg4 hcal hfitB hn
 refine⟨hld,k,h1,h2,?_,hnx,by rw[hscan];rfl,hfitB,hn,hz,hS.none,?_⟩
 ·intro hu
  rcases Nat.lt_or_ge k rs.length with hlt|hge
  ·exfalso
   apply h4 hlt
   intro j hh hj
   rw[h.calm.crash hu]
   exact hB.live k hh j hj
  ·omega
 ·have hlen2:(ZbH (ZaN d m tn) (Zb3 (ZaN d m tn) l.block)).1.sure.length=d.sure.length:=by rw[hS.len,hlen]
  have hat2:∀ p,atN (ZbH (ZaN d m tn) (Zb3 (ZaN d m tn) l.block)).1 p=atN d p:=fun p=>ZiT hlen2 p
  have hsl:=Zhg (Zb3 (ZaN d m tn) l.block).gen
  have hget:∀ i (hi:i<(rs.take k).length),(rs.take k)[i]=rs[i]'(by rw[List.length_take] at hi;omega):=fun i hi=>List.getElem_take
  have hil:∀ i,i<(rs.take k).length→i<k∧i<rs.length:=fun i hi=>by rw[List.length_take] at hi;omega
  have hread:∀ i (hi:i<(rs.take k).length) j,j<pN (rs.take k)[i]→Zbg (ZbH (ZaN d m tn) (Zb3 (ZaN d m tn) l.block)).1 (atN (ZbH (ZaN d m tn) (Zb3 (ZaN d m tn) l.block)).1 (plN f (rs.take k) i+j))=some (ZjI (if i<k then ep i else l.block.epoch+1) l.block.first i j (rs.take k)[i]):=fun i hi j hj=>by
   obtain⟨q1,q2⟩:=hil i hi
   rw[hget i hi] at hj⊢
   rw[if_pos q1,hat2,Zpz f rs (by omega),hS.read,if_neg (by have:=ZmN d (plN f rs i+j);omega)]
   have:=h3 i q1 j q2 hj
   rwa [hat] at this
  have hblk:({Zdy (ZaN d m tn) l.block with block:=Zb3 (ZaN d m tn) l.block}:ZaZ)=⟨Zb3 (ZaN d m tn) l.block,Zjj f (rs.take k),Zf9 f (rs.take k),false⟩:=by
   rw[hscan]
   rfl
  rw[hblk]
  refine⟨hS.calm,rfl,by rw[hlen2];exact h.n4,by rw[hlen2];exact h.le,hS.load,?_,hfitB,hep,by show 1≤l.block.epoch+1;have:=h.ep1;omega,⟨?_,?_,?_⟩,?_,f,fun i=>if i<k then ep i else l.block.epoch+1,hB.frm,rfl,rfl,?_,?_,hread,?_,?_,?_⟩
  ·rw[hS.none]
   intro u hu
   cases hu
  ·show l.block.first≤Zbj (Zdy (ZaN d m tn) l.block)
   rw[hnx]
   omega
  ·show Zbj (Zdy (ZaN d m tn) l.block)≤l.block.first+(k:Int)
   rw[hnx]
   exact Int.le_refl _
  ·rw[List.length_take];omega
  ·intro b hb
   exact h.small b (List.mem_of_mem_take hb)
  ·have g1:=hB.ring
   have g2:=Zgw f rs h2
   rw[Ze5] at g2
   show plN f rs k≤_
   unfold Zay at g1⊢
   rw[hlen2]
   omega
  ·intro i
   by_cases hi:i<k
   ·simp only[if_pos hi]
    refine⟨(hB.epf i).1,by show ep i≤l.block.epoch+1;have:=(hB.epf i).2.1;omega,fun hc2=>?_⟩
    have hc3:Zbj (Zdy (ZaN d m tn) l.block)≤l.block.first+(i:Int):=hc2
    rw[hnx] at hc3
    omega
   ·simp only[if_neg hi]
    exact⟨hep,Int.le_refl _,fun _=>rfl⟩
  ·intro i hi j _ hj
   exact⟨Zn5 hS.none (hread i hi j hj),fun u hu=>by rw[hS.none] at hu;cases hu⟩
  ·rw[hS.none]
   intro u hu
   cases hu
  ·intro t raw ht hv ho hk
   left
   have hv2:Ver d t raw:=hver t raw (by rw[hsv] at hv;exact ZjH hcal ht hv)
   left
   show(ZbR raw).epoch<l.block.epoch+1
   rcases hB.old t raw ht hv2 ho hk with g|⟨i,hi,j,g1,g2,g3⟩
   ·rcases g with g|g
    ·omega
    ·have:=g.1;omega
   ·have hs:=Zky (hB.epf i).1 (hf7 i hi) (h.small _ (List.getElem_mem hi)) g1
    rw[g3,hs.2.1]
    have:=(hB.epf i).2.1
    show ep i<l.block.epoch+1
    omega
open Go.ChangeShapes Go.WideShapes Go.ChangeAt Go.RowKit
def ZdR (d:Zaz) (l:ZaZ) (k:Nat):Zaz×ZaZ×Int:=
 if Zhw d l=true then(d,{l with down:=true},8)
 else if (ZbH d (ZbC l k)).2≠0 then((ZbH d (ZbC l k)).1,{l with down:=l.down||decide ((ZbH d (ZbC l k)).2=8)},(ZbH d (ZbC l k)).2)
 else((ZbH d (ZbC l k)).1,{l with block:=ZbC l k,list:=l.list.drop k},0)
theorem ZrU {B:Nat} {W:World} {c k:Nat} {l:List (Nat×Nat)} {ao:Option Addr} (hG:Gath Zn6 [] 106 B W (.slice ao l.length c) l) (hk:k≤l.length) (hB:B≤W.heap.size) (hnb:l.length≤100000) (so:Option Addr) (sn sc:Nat) (hsn:sn=l.length-k) (hso:(so=none∧ao=none∧sc=0)∨(∃ a,ao=some a∧((sn=0∧so=ao)∨so=some (a.add (k*2))))):
  ∃ v' W',(Builtin.append_ #[96,96] 96 #[.slice (some ⟨W.heap.size,0,none⟩) 0 0,.slice so sn sc]).run Tryz.prog (W.alloc (.cells #[] 106))= .ok v' W'∧Gath Zn6 [] 106 B W' v' (l.drop k)∧(W.alloc (.cells #[] 106)).grownBy W' (some W.heap.size):=by
 obtain⟨i0,z,hi,hz,hs0,hzs,hby⟩:=Zlj
 have hbel:Below W.heap.size W (W.alloc (.cells #[] 106)):=Zbr.alloc Zlr _
 have hmade:(W.alloc (.cells #[] 106)).ownsRow B 106 2 (.slice (some ⟨W.heap.size,0,none⟩) 0 0) 0 []:=ZfQ (World.ownsRow_made W #[] 0 Zlr (by unfold maxLen;omega) rfl) hB
 obtain⟨cs,⟨hl,ho⟩,h2⟩:=hG
 rcases ho with⟨he,h0⟩|⟨g,cap,cur,he,hg,hh,hle,hcm,hcs,hct⟩
 ·obtain⟨rfl,hl0,rfl⟩:ao=none∧l.length=0∧c=0:=by simpa using he
  have hx:l=[]:=List.eq_nil_of_length_eq_zero hl0
  subst hx
  rcases hso with⟨rfl,_,rfl⟩|⟨a,ha,_⟩
  ·have hs:sn=0:=by simpa using hsn
   subst hs
   exact⟨_,_,run_append_owned_none (P:=Tryz.prog) (W.alloc (.cells #[] 106)) B 96 96 106 i0 2 Tryz.underlying96 hi _ 0 [] hmade,⟨[],by show(W.alloc (.cells #[] 106)).ownsRow B 106 2 _ _ [];simpa using hmade,fun i hi=>absurd hi (by simp)⟩,World.grownBy.refl _ _⟩
  ·cases ha
 ·obtain⟨rfl,rfl⟩:ao=some ⟨g,0,none⟩∧c=cap:=by simpa using he
  obtain⟨a',ha',hadd⟩:∃ a':Addr,so=some a'∧(0<sn→a'=⟨g,k*2,none⟩):=by
   rcases hso with⟨_,ha,_⟩|⟨a,ha,⟨h0,rfl⟩|rfl⟩
   ·cases ha
   ·exact⟨_,rfl,fun h=>by omega⟩
   ·cases ha
    exact⟨_,rfl,fun _=>by rw[ZbB,Nat.zero_add]⟩
  subst ha'
  have hcl:cs.length=l.length*2:=hl
  have hone:∀ u∈cs.drop (k*2),u.oneCell'=true:=by
   intro u hu
   obtain⟨t,ht,rfl⟩:=List.getElem_of_mem (List.mem_of_mem_drop hu)
   obtain⟨kk,h3,_⟩:=h2 (t/2) (by omega)
   have h4:=h3 (t%2) (Nat.mod_lt _ (by decide))
   rw[show t/2*Zn6.size+t%2=t by show t/2*2+t%2=t;omega,List.getElem?_eq_getElem ht] at h4
   refine Zn6.one kk (l[t/2]'(by omega)) _ (List.mem_of_getElem? (i:=t%2) ?_)
   rw[h4,Array.getElem?_toList]
  have hmul:sn*i0.bytes≤100000*1000:=Nat.mul_le_mul (by omega) hby
  obtain⟨v',W',hrun,hown,hgr,_⟩:=run_append_own (P:=Tryz.prog) (w:=W.alloc (.cells #[] 106)) B 96 96 106 i0 z 2 i0.bytes Tryz.underlying96 hi hz hs0 rfl hzs (by decide) (.slice (some ⟨W.heap.size,0,none⟩) 0 0) 0 [] hmade a' sn sc (cs.drop (k*2)) (by rw[List.length_drop,hcl,hsn,Nat.sub_mul])
   (fun j u hj=>by
    have hj':j<(cs.drop (k*2)).length:=by
     rcases Nat.lt_or_ge j (cs.drop (k*2)).length with h|h
     ·exact h
     ·rw[List.getElem?_eq_none h] at hj;cases hj
    rw[List.length_drop] at hj'
    rw[hadd (by omega),ZbB]
    have hb2:Blk (W.alloc (.cells #[] 106)) g cur 106:=(show Blk W g cur 106 from hh).on hbel
    rw[hb2.cell,←hj,List.getElem?_drop,←hct,List.getElem?_take,if_pos (by omega),Array.getElem?_toList])
   hone (by unfold maxLen;omega) (by rw[Nat.zero_add];omega) (by have:=hbel.size;omega)
  have hdl:(l.drop k).length=0+sn:=by rw[List.length_drop];omega
  refine⟨v',W',hrun,⟨cs.drop (k*2),by rw[hdl];show W'.ownsRow B 106 2 v' (0+sn) _;simpa using hown,fun i hi=>?_⟩,hgr⟩
  obtain⟨kk,h3,_⟩:=h2 (k+i) (by rw[List.length_drop] at hi;omega)
  refine⟨(),fun j hj=>?_,trivial⟩
  rw[List.getElem?_drop,List.getElem_drop]
  have h4:=h3 j hj
  rw[show k*2+(i*Zn6.size+j)=(k+i)*Zn6.size+j by show k*2+(i*2+j)=(k+i)*2+j;omega]
  exact h4
theorem Zix {B:Nat} {W:World} {b0:Nat} {cs:Array Value} {T:TypeId} (hb:Blk W b0 cs T) (hB:B≤b0) (j:Nat) (v:Value):W.grownBy (W.setCell ⟨b0,j,none⟩ v) (some b0)∧Blk (W.setCell ⟨b0,j,none⟩ v) b0 (cs.setIfInBounds j v) T∧Only [T] B W (W.setCell ⟨b0,j,none⟩ v):=
 ⟨Zag W b0 j v,hb.set j v,Only.but (Zag W b0 j v) hb List.mem_cons_self hB⟩
theorem Zgt {S:List TypeId} {B:Nat} {w W W':World} {b0:Nat} (h:Only S B w W) (hg:W.grownBy W' (some b0)) (hB:B≤w.heap.size) (hb:w.heap.size≤b0):Only S B w W':=by
 have h2:=h.bel.size
 refine⟨h.bel.trans (Zam hg (by omega) (by omega)),fun b hb2 hn=>?_⟩
 rw[hg.block b (by omega) (fun e=>by have:=Zsi e;omega)]
 exact h.keep b hb2 hn
theorem Zpk {B:Nat} {W:World} {L D:Nat} {l:ZaZ} {v v':Value} {l2:List (Nat×Nat)} {b:ZcS} (h1:Blk W L (Zej D l.block v l.fin l.down) 98) (hG:Gath Zn6 [] 106 B W v' l2) (hB:B≤L) (hf:ZaT b=true) (hc:l2.length≤100000):
  IsLog B ((((((W.setCell ⟨L,1,none⟩ (.int .i64 b.gen)).setCell ⟨L,2,none⟩ (.int .i64 b.epoch)).setCell ⟨L,3,none⟩ (.int .i64 b.first)).setCell ⟨L,4,none⟩ (.int .i64 b.from')).setCell ⟨L,5,none⟩ (.int .i64 b.count)).setCell ⟨L,6,none⟩ v') L D {l with block:=b,list:=l2}∧
  Only rgT B W ((((((W.setCell ⟨L,1,none⟩ (.int .i64 b.gen)).setCell ⟨L,2,none⟩ (.int .i64 b.epoch)).setCell ⟨L,3,none⟩ (.int .i64 b.first)).setCell ⟨L,4,none⟩ (.int .i64 b.from')).setCell ⟨L,5,none⟩ (.int .i64 b.count)).setCell ⟨L,6,none⟩ v'):=by
 have a1:=h1.set 1 (.int .i64 b.gen)
 have a2:=a1.set 2 (.int .i64 b.epoch)
 have a3:=a2.set 3 (.int .i64 b.first)
 have a4:=a3.set 4 (.int .i64 b.from')
 have a5:=a4.set 5 (.int .i64 b.count)
 have a6:=a5.set 6 v'
 have g1:=Zag W L 1 (.int .i64 b.gen)
 have g2:=Zah g1 (Zag (W.setCell ⟨L,1,none⟩ (.int .i64 b.gen)) L 2 (.int .i64 b.epoch))
 have g3:=Zah g2 (Zag _ L 3 (.int .i64 b.first))
 have g4:=Zah g3 (Zag _ L 4 (.int .i64 b.from'))
 have g5:=Zah g4 (Zag _ L 5 (.int .i64 b.count))
 have g6:=Zah g5 (Zag _ L 6 v')
 exact⟨⟨⟨v',by simpa [Zej] using a6,hG.step (Same.but g6 h1 (by decide))⟩,hB,hf,hc⟩,Only.but g6 h1 (by decide) hB⟩
theorem Zc5 {w:World} {X:Nat} {v0 v1 v2 v3 v4:Value} {T:TypeId} (h:Blk w X #[v0,v1,v2,v3,v4] T):w.cell? ⟨X,0,none⟩=some v0∧w.cell? ⟨X,1,none⟩=some v1∧w.cell? ⟨X,2,none⟩=some v2∧w.cell? ⟨X,3,none⟩=some v3∧w.cell? ⟨X,4,none⟩=some v4:=⟨h.cell 0,h.cell 1,h.cell 2,h.cell 3,h.cell 4⟩
theorem Znz (w:World) (B L D:Nat) (l:ZaZ) (d:Zaz) (hl:IsLog B w L D l) (hd:IsDev B w D d) (h2:2≤d.sure.length) (k:Nat) (hk0:k<l.list.length) (sq:Int) (hsq:sq=l.block.first+(k:Int)) (_hfin:l.fin≤900000000)
  (hpl:∀ x∈l.list,x.1≤900000000) (hf:ZaT (ZbC l k)=true) (hnx:d.down=false→ZbI d (ZbC l k)=true):
  Calls Tryz.prog 115 #[.pointer (some ⟨L,0,none⟩),.int .i64 sq] w fun e w'=>e= .returned (.int .i64 (ZdR d l k).2.2)∧IsLog B w' L D (ZdR d l k).2.1∧IsDev B w' D (ZdR d l k).1∧Only lgT B w w':=by
 have hk:k≤l.list.length:=Nat.le_of_lt hk0
 have HC:=Zhd (ZeG w B L D l d hl hd)
 cases ho:Zhw d l with
 |true=>
  have HX:=Zhd (show ZdR d l k=(d,{l with down:=true},8) by simp[ZdR,ho])
  rw[ho] at HC
  clear hl hd ho hsq hf hnx hpl
  go_enter Tryz.func115,Tryz.ntmps115
  go_wp2_with (go_at_call 48;refine HC.out.mono ?_;rintro e W1 ⟨rfl,hl1,hd1,ho1⟩;have H1:=Zhd (Zan hl1 (Zan hd1 ho1));clear hl1 hd1 ho1;(try simp))
  go_ret
  rw[HX.out]
  exact⟨rfl,H1.out⟩
 |false=>
  have hdl:=ZfJ ho
  rw[ho] at HC
  rw[ZfI l false hdl.2] at HC
  have HD0:=Zhd (Zan ho (Zan hdl (Zan hf (Zan (hnx hdl.1) hpl))))
  have hfr:=Zhu (ZaR hl.fits (t:=2) (by omega))
  have hge:=Zhu (ZaR hl.fits (t:=0) (by omega))
  simp only[ZbZ] at hfr hge
  have hcl:=hl.cnt
  have hgone:sq-l.block.first=(k:Int):=by omega
  have hsn:decide (Zbj l<sq)=false:=Zdf (by unfold Zbj;omega)
  have hsf:decide (sq<l.block.first)=false:=Zdf (by omega)
  have HSQ:=Zhd hsq
  have HWB:=Zhd hd.Ble
  clear hl hd ho hsq hf hnx hpl hdl
  go_enter Tryz.func115,Tryz.ntmps115
  go_upto_region 11 with(first
   |(go_at_call 48;refine HC.out.mono ?_;rintro e W1 ⟨rfl,hl1,hd1,ho1⟩;have H1:=Zhd (Zan hl1 (Zan hd1 ho1));clear hl1 hd1 ho1;(try simp))
   |(go_at_call 20;refine(ZeH W2 B L D l H2.out.1).mono ?_;rintro e W2 ⟨rfl,rfl⟩)
   |(go_at_call 21;refine(ZbT W1 B L D l H1.out.1).mono ?_;rintro e W2 ⟨rfl,hb2⟩;obtain⟨v2,g1,g2⟩:=(H1.out.1.on hb2).ex;have z1:W2.cell? ⟨L,1,none⟩=some (.int .i64 l.block.gen):=g1.cell 1;have z2:W2.cell? ⟨L,2,none⟩=some (.int .i64 l.block.epoch):=g1.cell 2;have z3:W2.cell? ⟨L,3,none⟩=some (.int .i64 l.block.first):=g1.cell 3;have z4:W2.cell? ⟨L,4,none⟩=some (.int .i64 l.block.from'):=g1.cell 4;have z5:W2.cell? ⟨L,5,none⟩=some (.int .i64 l.block.count):=g1.cell 5;have H2:=Zhd (Zan (H1.out.1.on hb2) (Zan (H1.out.2.1.on hb2) (H1.out.2.2.trans (Only.below hb2 (by have:=H1.out.2.1.Ble;omega)))));clear hb2 g1 g2;rw[show l.block.first+(l.list.length:Int)=Zbj l from rfl])
   |(refine wpList_store_row rfl 95 _ _ rfl W2.heap.size (ZaM l.block) rfl rfl 95 (ZaM Zal) (Zha W2 _) ZbJ rfl (Zbm _) ?_;have hq:=Zeu W2 l.block;(try change wpList _ _ _ _ _ ((W2.alloc (.cells (ZaM Zal) 95)).setRow W2.heap.size (ZaM l.block)));generalize (W2.alloc (.cells (ZaM Zal) 95)).setRow W2.heap.size (ZaM l.block)=W3 at hq⊢;obtain⟨b0,hb0⟩:∃ b0,b0=W2.heap.size:=⟨_,rfl⟩;rw[←hb0] at hq⊢;have y2:W3.cell? ⟨b0,2,none⟩=some (.int .i64 l.block.first):=hq.1.cell 2;have y0:W3.cell? ⟨b0,0,none⟩=some (.int .i64 l.block.gen):=hq.1.cell 0;have f0:=hq.1.free 0;have HQ:=Zhd (Zan hq hb0);clear hq hb0 z1 z2 z3 z4 z5))
  have hb3:Blk W3 b0 (ZaM l.block) 95:=HQ.out.1.1
  have hs4:=hb3.set 0 (.int .i64 (l.block.gen+1))
  have hg4:=Zag W3 b0 0 (.int .i64 (l.block.gen+1))
  have hbw:Below W2.heap.size W2 (W3.setCell ⟨b0,0,none⟩ (.int .i64 (l.block.gen+1))):=by
   have h0:=HQ.out.2
   have h1:=HQ.out.1.2
   have h2:=h1.trans (Zam hg4 Zlr (by have:=h1.size;omega))
   rw[←h0]
   exact h2
  generalize W3.setCell ⟨b0,0,none⟩ (.int .i64 (l.block.gen+1))=W4 at*
  have hl4:=H2.out.1.on hbw
  obtain⟨v4,g1,g2⟩:=hl4.ex
  have hbd:=Below.drew (Below.refl W4.heap.size W4)
  have hN:=ZbT W4.drew B L D l (hl4.on hbd)
  have hLb:b0≠L:=fun e=>by
   have h1:=(H2.out.1.ex).choose_spec.1.lt
   have:=HQ.out.2
   omega
  have H4:=Zhd (Zan hl4 (Zan (H2.out.2.1.on hbw) (Zan (H2.out.2.2.trans (Only.below hbw (by have:=H2.out.2.1.Ble;omega))) (Zan hs4 (Zan g1 (Zan g2 hbw))))))
  have c7:W4.drew.cell? ⟨L,7,none⟩=some (.int .i64 (l.fin:Int)):=(g1.on hbd).cell 7
  have hbb:Blk W4.drew b0 #[.int .i64 (l.block.gen+1),.int .i64 l.block.epoch,.int .i64 l.block.first,.int .i64 l.block.from',.int .i64 l.block.count] 95:=by simpa [ZaM] using hs4.on hbd
  have HBB:=Zhd hbb
  have HN:=Zhd hN
  clear hb3 hs4 hg4 hbw hl4 g1 g2 hN y0 y2 f0
  clear hbb
  go_cut [] (fun wx=>Hid (IsLog B wx L D l∧IsDev B wx D d∧Only lgT B w wx∧Blk wx b0 (ZaM ⟨l.block.gen+1,l.block.epoch,sq,(l.fin:Int),Zbj l⟩) 95))
  case first=>
   go_region_with (first|(go_at_call 21;refine HN.out.mono ?_;rintro e W5 ⟨rfl,hb5⟩;rw[show l.block.first+(l.list.length:Int)=Zbj l from rfl];have c75:=Zab hb5 c7;have hbb5:=HBB.out.on hb5;have k2:W5.cell? ⟨b0,2,none⟩=some (.int .i64 l.block.first):=hbb5.cell 2;have k3:W5.cell? ⟨b0,3,none⟩=some (.int .i64 l.block.from'):=hbb5.cell 3;have k4:W5.cell? ⟨b0,4,none⟩=some (.int .i64 l.block.count):=hbb5.cell 4;have q2:=hbb5.free 2;have q3:=hbb5.free 3;have q4:=hbb5.free 4;have H5:=Zhd (Zan hbb5 hb5);clear hb5 hbb5))
   all_goals
    go_wp2_with fail
    go_meet
    have h5:=H5.out.1
    have hb0B:B≤b0:=by have:=HQ.out.2;have:=H2.out.2.1.Ble;omega
    obtain⟨a1,a2,a3⟩:=Zix h5 hb0B 2 (.int .i64 sq)
    obtain⟨b1,b2,b3⟩:=Zix a2 hb0B 4 (.int .i64 (Zbj l))
    obtain⟨c1,c2,c3⟩:=Zix b2 hb0B 3 (.int .i64 (l.fin:Int))
    have hO:=(a3.trans b3).trans c3
    have hw0:w.heap.size≤b0:=by have:=HQ.out.2;have:=H2.out.2.2.bel.size;omega
    have hw5:=H4.out.2.2.1.trans (Only.below (Zaa (Below.drew Zbr) H5.out.2 Zlr) H4.out.2.1.Ble)
    have hwB:=(H1.out.2.1.Ble)
    refine Zhd ⟨((H4.out.1.on (Below.drew Zbr)).on H5.out.2).only hO (by decide) (by decide),ZdF ((H4.out.2.1.on (Below.drew Zbr)).on H5.out.2) hO (by decide) (by decide) (by decide) (by decide),?_,?_⟩
    ·exact Zgt (Zgt (Zgt hw5 a1 HWB.out hw0) b1 HWB.out hw0) c1 HWB.out hw0
    ·simpa [ZaM] using c2
  case rest=>
   obtain⟨hl6,hd6,ho6,hb6⟩:=hcut.out
   have H6:=Zhd hcut.out
   clear hcut
   obtain⟨v6,g1,g2⟩:=hl6.ex
   obtain⟨ao,c,rfl,hsq6,hab⟩:=g2.seq
   have c6:wc.cell? ⟨L,6,none⟩=some (.slice ao l.list.length c):=g1.cell 6
   have HS6:=Zhd (Zan hsq6 g1)
   have hle6:=hsq6.hle
   clear g1 g2 hsq6 hab hl6 hd6 ho6
   go_upto_if 53 with fail
   go_cut [] (fun wx=>Hid (IsLog B wx L D l∧IsDev B wx D d∧Only lgT B w wx∧Blk wx b0 (ZaM (ZbC l k)) 95))
   case first=>
    by_cases hkl:k<l.list.length
    ·have hk1:decide (k<l.list.length)=true:=Zdt hkl
     obtain⟨bb,off,rfl⟩:=HS6.out.1.addr hkl
     obtain⟨hx,hc,_⟩:=HS6.out.1.at hkl
     have e0:wc.cell? ⟨bb,off+k*2,none⟩=some (.int .i64 ((l.list[k]).1:Int)):=hc 0 (by decide)
     have f3:=hb6.free 3
     have z3:wc.cell? ⟨b0,3,none⟩=some (.int .i64 (l.fin:Int)):=hb6.cell 3
     clear hc hb6
     go_wp2_with fail
     go_meet
     have hb0B:B≤b0:=by have:=HQ.out.2;have:=H2.out.2.1.Ble;omega
     have hw0:w.heap.size≤b0:=by have:=HQ.out.2;have:=H2.out.2.2.bel.size;omega
     obtain⟨a1,a2,a3⟩:=Zix H6.out.2.2.2 hb0B 3 (.int .i64 ((l.list[k]).1:Int))
     refine Zhd ⟨H6.out.1.only a3 (by decide) (by decide),ZdF H6.out.2.1 a3 (by decide) (by decide) (by decide) (by decide),Zgt H6.out.2.2.1 a1 HWB.out hw0,?_⟩
     have he:ZaM (ZbC l k)=(ZaM ⟨l.block.gen+1,l.block.epoch,sq,(l.fin:Int),Zbj l⟩).setIfInBounds 3 (.int .i64 ((l.list[k]).1:Int)):=by simp[ZaM,ZbC,hkl,HSQ.out]
     rw[he]
     exact a2
    ·exact absurd hk0 hkl
   case rest=>
    rename World=>w7
    obtain⟨hl7,hd7,ho7,hb7⟩:=hcut.out
    have H7:=Zhd hcut.out
    clear hcut c6 hb6
    obtain⟨b',hb'⟩:∃ b',b'=ZbC l k:=⟨_,rfl⟩
    rw[←hb'] at hb7
    have HBQ:=Zhd hb'
    clear hb'
    have hbd:=Below.drew (Below.refl w7.heap.size w7)
    have hs7:Blk w7.drew b0 #[.int .i64 b'.gen,.int .i64 b'.epoch,.int .i64 b'.first,.int .i64 b'.from',.int .i64 b'.count] 95:=hb7.on hbd
    obtain⟨v7,g1,g2⟩:=hl7.ex
    have D0:=Zhd (show w7.drew.cell? ⟨L,0,none⟩=some (.pointer (some ⟨D,0,none⟩))∧w7.drew.cell? ⟨b0,0,none⟩=some (.int .i64 b'.gen)∧w7.drew.cell? ⟨b0,1,none⟩=some (.int .i64 b'.epoch)∧w7.drew.cell? ⟨b0,2,none⟩=some (.int .i64 b'.first)∧w7.drew.cell? ⟨b0,3,none⟩=some (.int .i64 b'.from')∧w7.drew.cell? ⟨b0,4,none⟩=some (.int .i64 b'.count) from⟨(g1.on hbd).cell 0,hs7.cell 0,hs7.cell 1,hs7.cell 2,hs7.cell 3,hs7.cell 4⟩)
    have HS7:=Zhd hs7
    have hsv:=ZiF w7.drew B D d (hd7.on hbd) h2 HD0.out.2.1.1 b' (by rw[HBQ.out];exact HD0.out.2.2.1) (by rw[HBQ.out];exact HD0.out.2.2.2.1)
    obtain⟨sd,se,hse⟩:∃ sd se,ZbH d b'=(sd,se):=⟨_,_,rfl⟩
    rw[hse] at hsv
    have HSE:=Zhd hse
    have HSV:=Zhd hsv
    have hl7d:=hl7.on hbd
    have HL7:=Zhd (Zan hl7d (ho7.trans (Only.below hbd hd7.Ble)))
    clear hl7 hd7 ho7 hb7 hbd hs7 g1 g2 hse hsv hl7d
    by_cases hz:se=0
    ·subst hz
     go_wp2_with fail
     go_region_held3 (fun w'=>w'.cell? ⟨L,0,none⟩=some (.pointer (some ⟨D,0,none⟩))∧w'.cell? ⟨b0,0,none⟩=some (.int .i64 b'.gen)∧w'.cell? ⟨b0,1,none⟩=some (.int .i64 b'.epoch)∧w'.cell? ⟨b0,2,none⟩=some (.int .i64 b'.first)∧w'.cell? ⟨b0,3,none⟩=some (.int .i64 b'.from')∧w'.cell? ⟨b0,4,none⟩=some (.int .i64 b'.count))
      (first|exact D0.out|exact D8.out|exact D9.out|go_keep)
      (first
       |(go_at_call 50;refine(Zgr W8 B L D l _ H8.out.2.1 H8.out.1 _).mono ?_;rintro e W9 ⟨rfl,hl9,hd9,ho9⟩;obtain⟨v9,g1,g2⟩:=hl9.ex;have hb9:=ho9.blk H8.out.2.2.2 (by decide);have D9:=Zhd (show W9.cell? ⟨L,0,none⟩=some (.pointer (some ⟨D,0,none⟩))∧W9.cell? ⟨b0,0,none⟩=some (.int .i64 b'.gen)∧W9.cell? ⟨b0,1,none⟩=some (.int .i64 b'.epoch)∧W9.cell? ⟨b0,2,none⟩=some (.int .i64 b'.first)∧W9.cell? ⟨b0,3,none⟩=some (.int .i64 b'.from')∧W9.cell? ⟨b0,4,none⟩=some (.int .i64 b'.count) from⟨g1.cell 0,hb9.cell 0,hb9.cell 1,hb9.cell 2,hb9.cell 3,hb9.cell 4⟩);have H9:=Zhd (Zan hl9 (Zan hd9 (Zan (H8.out.2.2.1.trans ho9) hb9)));clear hl9 hd9 ho9 g1 g2 hb9)
       |(go_at_call 47;refine HSV.out.mono ?_;rintro e W8 ⟨rfl,hd8,ho8⟩;have hl8:=HL7.out.1.only ho8 (by decide) (by decide);obtain⟨v8,g1,g2⟩:=hl8.ex;have hb8:=ho8.blk HS7.out (by decide);have D8:=Zhd (show W8.cell? ⟨L,0,none⟩=some (.pointer (some ⟨D,0,none⟩))∧W8.cell? ⟨b0,0,none⟩=some (.int .i64 b'.gen)∧W8.cell? ⟨b0,1,none⟩=some (.int .i64 b'.epoch)∧W8.cell? ⟨b0,2,none⟩=some (.int .i64 b'.first)∧W8.cell? ⟨b0,3,none⟩=some (.int .i64 b'.from')∧W8.cell? ⟨b0,4,none⟩=some (.int .i64 b'.count) from⟨g1.cell 0,hb8.cell 0,hb8.cell 1,hb8.cell 2,hb8.cell 3,hb8.cell 4⟩);have H8:=Zhd (Zan hd8 (Zan hl8 (Zan (HL7.out.2.trans (ho8.mono (by decide))) hb8)));clear hd8 hl8 ho8 g1 g2 hb8))
     go_split_ands
     have hdn:({l with down:=l.down||decide ((0:Int)=8)}:ZaZ)=l:=by
      have e:=HD0.out.2.1.2
      rw[e]
      exact ZfI l _ e
     have hl9:=H9.out.1
     rw[hdn] at hl9
     obtain⟨v9,g1,g2⟩:=hl9.ex
     obtain⟨ao,c,rfl,hsq9,hab⟩:=g2.seq
     have hbd:=Below.drew (Below.refl W9.heap.size W9)
     have hB9:=H9.out.2.1.Ble
     have g1d:=g1.on hbd
     have g2d:=g2.on hbd
     have hb9:=H9.out.2.2.2.on hbd
     have c6:W9.drew.cell? ⟨L,6,none⟩=some (.slice ao l.list.length c):=g1d.cell 6
     have hle9:=hsq9.hle
     have hx7:ZdR d l k=(sd,{l with block:=b',list:=l.list.drop k},0):=by
      rw[ZdR,if_neg (by rw[HD0.out.1];decide),←HBQ.out,HSE.out,if_neg (by simp)]
     have HX:=Zhd hx7
     have HG9:=Zhd (Zan hl9 (Zan g1d (Zan g2d (Zan hb9 hbd))))
     have hbs:∀ w:World,(Instr.buildSlice 96 0 #[]).run Tryz.prog w= .ok (.slice (some ⟨w.heap.size,0,none⟩) 0 0) (w.alloc (.cells #[] 106)):=fun _=>by kernel_rfl
     clear hdn hl9 g1 g2 hsq9 hab hx7
     go_upto_region 17 with fail
     have hcase:(ao=none∧c=0∧k=0∧l.list=[])∨(∃ g,ao=some ⟨g,0,none⟩∧c=k)∨(∃ g,ao=some ⟨g,0,none⟩∧¬c=k):=by
      obtain⟨cs,⟨_,ho⟩,_⟩:=HG9.out.2.2.1
      rcases ho with⟨he,h0⟩|⟨g,cap,cur,he,_⟩
      ·obtain⟨h1,h2,h3⟩:ao=none∧l.list.length=0∧c=0:=by simpa using he
       exact .inl ⟨h1,h3,by omega,List.eq_nil_of_length_eq_zero h2⟩
      ·have h1:ao=some ⟨g,0,none⟩:=by simp at he;exact he.1
       by_cases hck:c=k
       ·exact .inr (.inl ⟨g,h1,hck⟩)
       ·exact .inr (.inr ⟨g,h1,hck⟩)
     have hL9:L<W9.heap.size:=Blk.lt HG9.out.2.1
     have hal:=(Below.refl W9.drew.heap.size W9.drew).alloc Zlr (.cells #[] 106)
     obtain⟨p0,p1,p2,p3,p4⟩:=Zc5 (show Blk (W9.drew) b0 _ _ from hb9)
     have r0:(W9.alloc (.cells #[] 106)).drew.cell? ⟨b0,0,none⟩=some (.int .i64 b'.gen):=Zab hal p0
     have r1:(W9.alloc (.cells #[] 106)).drew.cell? ⟨b0,1,none⟩=some (.int .i64 b'.epoch):=Zab hal p1
     have r2:(W9.alloc (.cells #[] 106)).drew.cell? ⟨b0,2,none⟩=some (.int .i64 b'.first):=Zab hal p2
     have r3:(W9.alloc (.cells #[] 106)).drew.cell? ⟨b0,3,none⟩=some (.int .i64 b'.from'):=Zab hal p3
     have r4:(W9.alloc (.cells #[] 106)).drew.cell? ⟨b0,4,none⟩=some (.int .i64 b'.count):=Zab hal p4
     have r6:(W9.alloc (.cells #[] 106)).drew.cell? ⟨L,6,none⟩=some (.slice ao l.list.length c):=Zab hal c6
     go_cut [] (fun wx=>Hid (IsLog B wx L D {l with block:=b',list:=l.list.drop k}∧IsDev B wx D sd∧Only lgT B w wx))
     case first=>
      rcases hcase with⟨_,_,_,hnil⟩|⟨g,_,hck⟩|⟨g,rfl,hck⟩
      ·rw[hnil] at hk0;exact absurd hk0 (Nat.not_lt_zero _)
      ·have:=hle9;omega
      ·as_aux_lemma=>
       obtain⟨v',W10,hrun,hgath,hgr⟩:=ZrU (B:=B) (W:=W9.drew) HG9.out.2.2.1 hk (by have:=HG9.out.2.2.2.2.size;omega) hcl (some ⟨g,k*2,none⟩) (l.list.length-k) (c-k) rfl (.inr ⟨_,rfl,.inr (by rw[ZbB,Nat.zero_add])⟩)
       obtain⟨ao',c',hv',-,-⟩:=hgath.seq
       subst hv'
       have hLn:L≠W9.drew.heap.size:=Nat.ne_of_lt hL9
       have gL:=((HG9.out.2.1.on hal).but hgr hLn)
       have hbn:b0≠W9.drew.heap.size:=fun e=>by have:=Blk.lt hb9;omega
       have gb:=((hb9.on hal).but hgr hbn)
       have HGL:=Zhd (Zan gL (Zan gb (Zan hgath (Zan hgr hal))))
       obtain⟨q0,q1,q2,q3,q4⟩:=Zc5 (show Blk W10 b0 _ _ from gb)
       have s1:W10.cell? ⟨L,1,none⟩=some (.int .i64 l.block.gen):=gL.cell 1
       have s2:W10.cell? ⟨L,2,none⟩=some (.int .i64 l.block.epoch):=gL.cell 2
       have s3:W10.cell? ⟨L,3,none⟩=some (.int .i64 l.block.first):=gL.cell 3
       have s4:W10.cell? ⟨L,4,none⟩=some (.int .i64 l.block.from'):=gL.cell 4
       have s5:W10.cell? ⟨L,5,none⟩=some (.int .i64 l.block.count):=gL.cell 5
       have s6:W10.cell? ⟨L,6,none⟩=some (.slice (some ⟨g,0,none⟩) l.list.length c):=gL.cell 6
       have t1:=gL.free 1
       have t2:=gL.free 2
       have t3:=gL.free 3
       have t4:=gL.free 4
       have t5:=gL.free 5
       have t6:=gL.free 6
       have HR:=Zhd hrun
       clear hrun hgath hgr gL gb hal
       go_region_law (refine Zdh rfl _ _ _ _ rfl _ _ rfl rfl HR.out ?_)
       all_goals
        go_wp2_with fail
        go_meet
        obtain⟨k1,k2⟩:=Zpk (b:=b') HGL.out.1 HGL.out.2.2.1 HG9.out.1.base (by rw[HBQ.out];exact HD0.out.2.2.1) (by rw[List.length_drop];omega)
        rw[show(l.list.drop k).length=l.list.length-k from List.length_drop] at k1 k2
        have hon9:Only rgT B W9 W10:=(Only.below HG9.out.2.2.2.2 hB9).trans ((Only.below HGL.out.2.2.2.2 (by have:=HG9.out.2.2.2.2.size;omega)).trans ⟨Zam HGL.out.2.2.2.1 (by have:=HG9.out.2.2.2.2.size;omega) (by have:=HG9.out.2.2.2.2.size;have:=HGL.out.2.2.2.2.size;omega),fun b hb hn=>HGL.out.2.2.2.1.block b hb (fun e=>hn (by cases e;exact⟨_,_,Zha W9.drew _,by decide⟩))⟩)
        have hon:=hon9.trans k2
        exact Zhd ⟨k1,ZdF H9.out.2.1 hon (by decide) (by decide) (by decide) (by decide),H9.out.2.2.1.trans (hon.mono (by decide))⟩
     case rest=>
      obtain⟨q1,q2,q3⟩:=hcut.out
      clear c6 hb9 hbs hcase hL9 hal p0 p1 p2 p3 p4 r0 r1 r2 r3 r4 r6 hcut
      go_wp2_with fail
      go_ret
      rw[HX.out]
      exact⟨rfl,q1,q2,q3⟩
    ·have hzn:(se==0)=false:=by simpa using hz
     have HZ:=Zhd hz
     clear hz
     go_wp2_with fail
     go_region_held3 (fun w'=>w'.cell? ⟨L,0,none⟩=some (.pointer (some ⟨D,0,none⟩))∧w'.cell? ⟨b0,0,none⟩=some (.int .i64 b'.gen)∧w'.cell? ⟨b0,1,none⟩=some (.int .i64 b'.epoch)∧w'.cell? ⟨b0,2,none⟩=some (.int .i64 b'.first)∧w'.cell? ⟨b0,3,none⟩=some (.int .i64 b'.from')∧w'.cell? ⟨b0,4,none⟩=some (.int .i64 b'.count))
      (first|exact D0.out|exact D8.out|exact D9.out|go_keep)
      (first
       |(go_at_call 50;refine(Zgr W8 B L D l _ H8.out.2.1 H8.out.1 _).mono ?_;rintro e W9 ⟨rfl,hl9,hd9,ho9⟩;obtain⟨v9,g1,g2⟩:=hl9.ex;have hb9:=ho9.blk H8.out.2.2.2 (by decide);have D9:=Zhd (show W9.cell? ⟨L,0,none⟩=some (.pointer (some ⟨D,0,none⟩))∧W9.cell? ⟨b0,0,none⟩=some (.int .i64 b'.gen)∧W9.cell? ⟨b0,1,none⟩=some (.int .i64 b'.epoch)∧W9.cell? ⟨b0,2,none⟩=some (.int .i64 b'.first)∧W9.cell? ⟨b0,3,none⟩=some (.int .i64 b'.from')∧W9.cell? ⟨b0,4,none⟩=some (.int .i64 b'.count) from⟨g1.cell 0,hb9.cell 0,hb9.cell 1,hb9.cell 2,hb9.cell 3,hb9.cell 4⟩);have H9:=Zhd (Zan hl9 (Zan hd9 (Zan (H8.out.2.2.1.trans ho9) hb9)));clear hl9 hd9 ho9 g1 g2 hb9)
       |(go_at_call 47;refine HSV.out.mono ?_;rintro e W8 ⟨rfl,hd8,ho8⟩;have hl8:=HL7.out.1.only ho8 (by decide) (by decide);obtain⟨v8,g1,g2⟩:=hl8.ex;have hb8:=ho8.blk HS7.out (by decide);have D8:=Zhd (show W8.cell? ⟨L,0,none⟩=some (.pointer (some ⟨D,0,none⟩))∧W8.cell? ⟨b0,0,none⟩=some (.int .i64 b'.gen)∧W8.cell? ⟨b0,1,none⟩=some (.int .i64 b'.epoch)∧W8.cell? ⟨b0,2,none⟩=some (.int .i64 b'.first)∧W8.cell? ⟨b0,3,none⟩=some (.int .i64 b'.from')∧W8.cell? ⟨b0,4,none⟩=some (.int .i64 b'.count) from⟨g1.cell 0,hb8.cell 0,hb8.cell 1,hb8.cell 2,hb8.cell 3,hb8.cell 4⟩);have H8:=Zhd (Zan hd8 (Zan hl8 (Zan (HL7.out.2.trans (ho8.mono (by decide))) hb8)));clear hd8 hl8 ho8 g1 g2 hb8))
     go_split_ands
     go_wp2_with fail
     go_ret
     have hX:ZdR d l k=(sd,{l with down:=l.down||decide (se=8)},se):=by
      rw[ZdR,if_neg (by rw[HD0.out.1];decide),←HBQ.out,HSE.out,if_pos HZ.out]
     rw[hX]
     exact⟨rfl,H9.out.1,H9.out.2.1,H9.out.2.2.1⟩
def ZeQ (rs:List (List UInt8)):Nat:=(rs.map pN).sum
theorem ZkP:∀ (p:Nat) (rs:List (List UInt8)),Zf9 p rs=p+ZeQ rs
 |p,[]=>by simp[Zf9,ZeQ]
 |p,b::rs=>by
  rw[Zf9,ZkP (p+pN b) rs]
  simp[ZeQ]
  omega
theorem ZgB (rs qs:List (List UInt8)):ZeQ (rs++qs)=ZeQ rs+ZeQ qs:=by simp[ZeQ]
theorem Zoq:∀ (rs:List (List UInt8)),rs.length≤ZeQ rs
 |[]=>by simp[ZeQ]
 |b::rs=>by
  have h1:=Zoq rs
  have h2:=ZhT b
  simp only[ZeQ,List.map_cons,List.sum_cons,List.length_cons] at h1⊢
  omega
theorem Zpv {b:List UInt8} (h:b.length≤16384):pN b≤34:=by unfold pN ZaI;omega
structure LogBd (d:Zaz) (l:ZaZ) (rs:List (List UInt8)) (n:Nat):Prop where
 gen:l.block.gen≤(n:Int)
 epoch:l.block.epoch≤(n:Int)
 first:l.block.first+(rs.length:Int)≤(n:Int)
 fin:l.fin≤n
 un:d.unsure.length≤n
theorem LogBd.mono {d:Zaz} {l:ZaZ} {rs:List (List UInt8)} {n m:Nat} (h:LogBd d l rs n) (hm:n≤m):LogBd d l rs m:=
 ⟨by have:=h.gen;omega,by have:=h.epoch;omega,by have:=h.first;omega,by have:=h.fin;omega,by have:=h.un;omega⟩
theorem LogOK.room {d:Zaz} {l:ZaZ} {rs:List (List UInt8)} {sy:Nat} (h:LogOK d l rs sy):ZbU d l=(Zay d:Int)-(ZeQ rs:Int)∧(ZeQ rs:Int)≤(Zay d:Int):=by
 obtain⟨f,ep,hB⟩:=h.body
 have h1:=ZkR hB
 have h2:=hB.ring
 rw[ZkP] at h1 h2
 omega
theorem LogOK.list_len {d:Zaz} {l:ZaZ} {rs:List (List UInt8)} {sy:Nat} (h:LogOK d l rs sy):l.list.length=rs.length∧Zbj l=l.block.first+(rs.length:Int)∧rs.length≤4096:=by
 obtain⟨f,ep,hB⟩:=h.body
 refine⟨by rw[hB.lst,ZeF],ZeI hB,?_⟩
 have h1:=h.room
 have h2:=Zoq rs
 have h3:=h.le
 have h4:=h.n4
 unfold Zay at h1
 omega
theorem LogOK.nums {d:Zaz} {l:ZaZ} {rs:List (List UInt8)} {sy:Nat} (h:LogOK d l rs sy):0≤l.block.gen∧1≤l.block.epoch∧0≤l.block.first∧0≤l.block.from'∧l.block.from'≤(l.fin:Int):=by
 obtain⟨f,ep,hB⟩:=h.body
 have g0:=Zhu (ZaR h.fits (t:=0) (by omega))
 have g2:=Zhu (ZaR h.fits (t:=2) (by omega))
 have g3:=Zhu (ZaR h.fits (t:=3) (by omega))
 simp only[ZbZ] at g0 g2 g3
 have h1:=hB.frm
 have h2:=hB.fin
 have h3:=ZgK f rs
 exact⟨g0.1,h.ep1,g2.1,g3.1,by omega⟩
theorem LogOK.can {d:Zaz} {l:ZaZ} {rs:List (List UInt8)} {sy n:Nat} (h:LogOK d l rs sy) (hb:LogBd d l rs n) (hn:n≤700000):Zd8 d l:=by
 have h1:=h.list_len
 have h2:=h.nums
 refine⟨by have:=h.n4;omega,by have:=hb.fin;omega,h.epf,?_,by omega,by have:=hb.un;omega⟩
 rw[h1.2.1]
 simp only[Za2,Zae2,Zde]
 have h256:(256:Int)^7=72057594037927936:=by decide
 have:=hb.first
 omega
theorem Zp0 {d:Zaz} {l:ZaZ} {rs:List (List UInt8)} {sy n:Nat} (_h:LogOK d l rs sy) (hb:LogBd d l rs n) {b:List UInt8} (hl:b.length≤16384):LogBd (ZhG d l b) (ZoI l b) (rs++[b]) (n+34):=by
 have h1:=Zpv hl
 have h2:=Zgc d l b (ZaI b.length)
 refine⟨by have:=hb.gen;show l.block.gen≤_;omega,by have:=hb.epoch;show l.block.epoch≤_;omega,?_,?_,?_⟩
 ·show l.block.first+((rs++[b]).length:Int)≤_
  rw[Zla,List.length_singleton]
  have:=hb.first
  omega
 ·show l.fin+ZaI b.length≤_
  have:=hb.fin
  have:ZaI b.length≤34:=h1
  omega
 ·show(ZaK d l b (ZaI b.length)).unsure.length≤_
  have:=hb.un
  have:ZaI b.length≤34:=h1
  omega
theorem Zov {d:Zaz} {l:ZaZ} {rs:List (List UInt8)} {sy n:Nat} (h:LogOK d l rs sy) (hb:LogBd d l rs n):LogBd (ZaE d) l rs n:=
 ⟨hb.gen,hb.epoch,hb.first,hb.fin,by rw[(h.sync).2.2.2.1];exact Nat.zero_le _⟩
theorem Zbv {n:Int} (h0:0≤n) (h1:n≤1000000000):Za2 n 7=true∧Za2 n 4=true:=by
 have h256:(256:Int)^7=72057594037927936:=by decide
 have h4:(256:Int)^4=4294967296:=by decide
 simp only[Za2,Zae2,Zde]
 omega
theorem Zqz {d:Zaz} {l:ZaZ} {rs:List (List UInt8)} {sy n k:Nat} (h:LogOK d l rs sy) (hb:LogBd d l rs n) (hn:n≤700000) (hk:k≤rs.length):
  ZaT (ZbC l k)=true∧ZbI d (ZbC l k)=true∧ZdR d l k=((ZbH d (ZbC l k)).1,{l with block:=ZbC l k,list:=l.list.drop k},0)∧(∀ x∈l.list,x.1≤900000000)∧
   (ZdR d l k).1.unsure=[]∧(ZdR d l k).1.sure.length=d.sure.length∧LogOK (ZdR d l k).1 (ZdR d l k).2.1 (rs.drop k) (rs.length-k)∧LogBd (ZdR d l k).1 (ZdR d l k).2.1 (rs.drop k) (n+1):=by
 have h1:=h.list_len
 have h2:=h.nums
 obtain⟨f,ep,hB⟩:=h.body
 have hpl:∀ x∈l.list,x.1≤l.fin:=fun x hx=>by
  rw[hB.lst] at hx
  obtain⟨i,hi,rfl⟩:=List.mem_iff_getElem.1 hx
  have hi2:i<rs.length:=by rw[ZeF] at hi;exact hi
  have e:=Zgq f rs i hi2
  rw[List.getElem?_eq_getElem hi] at e
  rw[Zsi e,hB.fin]
  have:=Ziy f rs hi2
  show plN f rs i≤_
  omega
 have hfr:0≤(ZbC l k).from'∧(ZbC l k).from'≤(l.fin:Int):=by
  unfold ZbC
  split
  ·rename_i hlt
   have:=hpl l.list[k] (List.getElem_mem _)
   simp only
   omega
  ·simp only
   omega
 have hfit:ZaT (ZbC l k)=true:=by
  have a1:=(Zbv (n:=l.block.gen+1) (by omega) (by have:=hb.gen;omega)).1
  have a2:=(Zbv (n:=l.block.epoch) (by omega) (by have:=hb.epoch;omega)).1
  have a3:=(Zbv (n:=l.block.first+(k:Int)) (by omega) (by have:=hb.first;omega)).1
  have a4:=(Zbv (n:=(ZbC l k).from') hfr.1 (by have:=hb.fin;omega)).1
  have a5:=(Zbv (n:=Zbj l) (by rw[h1.2.1];omega) (by rw[h1.2.1];have:=hb.first;omega)).1
  unfold ZaT
  rw[a4]
  show(Za2 (l.block.gen+1) 7&&Za2 l.block.epoch 7&&Za2 (l.block.first+(k:Int)) 7&&true&&Za2 (Zbj l) 7)=true
  rw[a1,a2,a3,a5]
  rfl
 obtain⟨q1,q2,q3,q4⟩:=h.drop hk hfit
 have hdp:ZdR d l k=((ZbH d (ZbC l k)).1,{l with block:=ZbC l k,list:=l.list.drop k},0):=by
  rw[ZdR,if_neg (by rw[Zfb h.calm h.off];decide),if_neg (by rw[q2];exact fun h=>h rfl)]
 have hS:=(Zfy h.calm (by have:=h.n4;omega) hfit q1).2
 refine⟨hfit,q1,hdp,fun x hx=>by have:=hpl x hx;have:=hb.fin;omega,by rw[hdp];exact q3,by rw[hdp];exact hS.len,by rw[hdp];exact q4,?_⟩
 rw[hdp]
 refine⟨by show l.block.gen+1≤_;have:=hb.gen;omega,by show l.block.epoch≤_;have:=hb.epoch;omega,?_,by show l.fin≤_;have:=hb.fin;omega,by show(ZbH d (ZbC l k)).1.unsure.length≤_;rw[q3];exact Nat.zero_le _⟩
 show l.block.first+(k:Int)+((rs.drop k).length:Int)≤_
 rw[List.length_drop]
 have:=hb.first
 omega
theorem ZoT (n:Nat):Calm (Zem n):=⟨rfl,rfl,fun u hu=>by cases hu⟩
theorem ZmU {n:Nat} (h4:4≤n) (hn:n≤4096):LogOK (Zdv n) ⟨b0,[],0,false⟩ [] 0:=by
 have hz:=Zj1 (n:=n) (by omega)
 have hS:=(Zfy (ZoT n) (by simp[Zem];omega) (b:=b0) (by decide) (Zew (by omega)).2.2).2
 rw[hz] at hS
 have hlen:(Zdv n).sure.length=n:=by simp[Zdv]
 refine⟨hS.calm,rfl,by rw[hlen];exact h4,by rw[hlen];exact hn,hS.load,fun u hu=>(by cases hu),by decide,by decide,by decide,⟨by decide,by decide,by decide⟩,fun b hb=>(by cases hb),0,fun _=>1,rfl,rfl,rfl,?_,fun i=>⟨by decide,by decide,fun _=>rfl⟩,fun i hi=>absurd hi (by simp),fun i hi=>absurd hi (by simp),fun u hu=>(by cases hu),?_⟩
 ·show 0≤_
  omega
 ·intro t raw ht hv ho hk
  exfalso
  rcases hv with hv|hv
  ·have e:(Zdv n).sure[t]?=some ZfF∨(Zdv n).sure[t]?=none:=by
    unfold Zdv
    simp only
    rw[List.getElem?_set_ne (by omega),List.getElem?_replicate]
    by_cases hlt:t<n
    ·left;rw[if_pos hlt]
    ·right;rw[if_neg hlt]
   rcases e with e|e
   ·rw[e] at hv
    have e2:List.replicate 512 0=raw:=congrArg Prod.fst (Zsi hv)
    rw[←e2,ZjZ] at ho
    exact absurd ho (by decide)
   ·rw[e] at hv
    cases hv
  ·cases hv
theorem ZmS (n:Nat):LogBd (Zdv n) ⟨b0,[],0,false⟩ [] 1:=⟨by decide,by decide,by decide,by decide,by show([]:List (Nat×List UInt8)).length≤1;simp⟩
def cpL (L:List ZaP) (left:Lit→Bool) (g:ZaP→ZaP):List ZaP:=(L.filter fun s=> !left (.string (Zax s.f))).map g
theorem ZmL {L:List ZaP} {left:Lit→Bool} {g:ZaP→ZaP} (hk:L.Pairwise fun a b=>Zax a.f≠Zax b.f) (hg:∀ s∈L,(g s).f=s.f) (key:List UInt8):
  atL (cpL L left g) key=(match atL L key with|some s=>if left (.string key)=true then none else some (g s)|none=>none):=by
 induction L with
 |nil=>rfl
 |cons a L ih=>
  obtain⟨h1,h2⟩:=List.pairwise_cons.1 hk
  have ih:=ih h2 (fun s hs=>hg s (List.mem_cons_of_mem _ hs))
  have hga:=hg a (List.mem_cons_self ..)
  by_cases ha:Zax a.f=key
  ·have hn:atL L key=none:=List.find?_eq_none.2 fun y hy=>by simp;exact fun e=>h1 y hy (ha.trans e.symm)
   have e1:atL (a::L) key=some a:=by simp[atL,ha]
   rw[e1]
   show atL _ key=if left (.string key)=true then none else some (g a)
   by_cases hl:left (.string key)=true
   ·rw[cpL,List.filter_cons_of_neg (by simp[ha,hl])]
    rw[hn] at ih
    rw[if_pos hl];exact ih
   ·rw[cpL,List.filter_cons_of_pos (by simp[ha,hl]),List.map_cons,if_neg hl]
    simp[atL,hga,ha]
  ·have e1:atL (a::L) key=atL L key:=by simp[atL,ha]
   rw[e1,←ih]
   by_cases hl:left (.string (Zax a.f))=true
   ·rw[cpL,List.filter_cons_of_neg (by simp[hl])];rfl
   ·rw[cpL,List.filter_cons_of_pos (by simp[hl]),List.map_cons]
    simp only[atL,cpL]
    rw[List.find?_cons_of_neg (by simp[hga,ha])]
theorem MapL.same_at {w:World} {M:Nat} {L T:List ZaP} (h:MapL w M L) (hl:L.length=T.length) (ha:∀ key,(atL L key).map (·.b)=(atL T key).map (·.b)):MapL w M T:=by
 obtain⟨n,D,h1,h2,h3,h4⟩:=h
 refine⟨n,D,h1,h2,h3.trans hl,fun key z=>?_⟩
 rw[h4]
 have:=ha key
 cases h5:atL L key<;>cases h6:atL T key<;>rw[h5,h6] at this<;>simp at this⊢
 rw[this]
theorem Zrh {L:List ZaP} {left:Lit→Bool} {g g':ZaP→ZaP} (hk:L.Pairwise fun a b=>Zax a.f≠Zax b.f) {s:ZaP} (hs:s∈L) (hl:left (.string (Zax s.f))=true):
  (cpL L (fun q=>left q&& !q.sameKey (.string (Zax s.f))) g').length=(cpL L left g).length+1:=by
 simp only[cpL,List.length_map]
 induction L with
 |nil=>cases hs
 |cons a L ih=>
  obtain⟨h1,h2⟩:=List.pairwise_cons.1 hk
  rcases List.mem_cons.1 hs with e|hs'
  ·subst e
   have hsame:∀ t∈L,(!(left (.string (Zax t.f))&& !(Lit.string (Zax t.f)).sameKey (.string (Zax s.f))))= !left (.string (Zax t.f)):=fun t ht=>by
    rw[Zbb]
    have: ¬Zax t.f=Zax s.f:=fun e=>h1 t ht e.symm
    simp[this]
   rw[List.filter_cons_of_pos (by rw[Zbb];simp),List.filter_cons_of_neg (by simp[hl]),List.length_cons,List.filter_congr hsame]
  ·have ih:=ih h2 hs'
   have hne: ¬Zax a.f=Zax s.f:=h1 s hs'
   by_cases hla:left (.string (Zax a.f))=true
   ·rw[List.filter_cons_of_neg (by rw[Zbb];simp[hla,hne]),List.filter_cons_of_neg (by simp[hla])]
    exact ih
   ·rw[List.filter_cons_of_pos (by rw[Zbb];simp[hla]),List.filter_cons_of_pos (by simp[hla]),List.length_cons,List.length_cons,ih]
theorem Zli {α β:Type} {R:α→α→Prop} {Q:β→β→Prop} {g:α→β}:∀ {l:List α},l.Pairwise R→(∀ a∈l,∀ b∈l,R a b→Q (g a) (g b))→(l.map g).Pairwise Q
 |[],_,_=>List.Pairwise.nil
 |a::l,h,hq=>by
  obtain⟨h1,h2⟩:=List.pairwise_cons.1 h
  refine List.pairwise_cons.2 ⟨fun b hb=>?_,Zli h2 (fun x hx y hy=>hq x (List.mem_cons_of_mem _ hx) y (List.mem_cons_of_mem _ hy))⟩
  obtain⟨x,hx,rfl⟩:=List.mem_map.1 hb
  exact hq a (List.mem_cons_self ..) x (List.mem_cons_of_mem _ hx) (h1 x hx)
theorem Zp3 {L:List ZaP} {left:Lit→Bool} {g:ZaP→ZaP} {x:ZaP} (h:x∈cpL L left g):∃ s∈L,left (.string (Zax s.f))=false∧x=g s:=by
 obtain⟨s,hs,rfl⟩:=List.mem_map.1 h
 obtain⟨h1,h2⟩:=List.mem_filter.1 hs
 exact⟨s,h1,by simpa using h2,rfl⟩
theorem Zpw {L:List ZaP} (h:L.Pairwise fun a b=>a.b≠b.b) {x y:ZaP} (hx:x∈L) (hy:y∈L) (hne:Zax x.f≠Zax y.f):x.b≠y.b:=by
 induction L with
 |nil=>cases hx
 |cons a L ih=>
  obtain⟨h1,h2⟩:=List.pairwise_cons.1 h
  rcases List.mem_cons.1 hx with ex|hx'
  ·rcases List.mem_cons.1 hy with ey|hy'
   ·exact absurd (by rw[ex,ey]) hne
   ·rw[ex];exact h1 y hy'
  ·rcases List.mem_cons.1 hy with ey|hy'
   ·rw[ey];exact fun e=>h1 x hx' e.symm
   ·exact ih h2 hx' hy'
theorem Zqx {B:Nat} {W1 W2 W3:World} {D k M X:Nat} {most stale:Int} {L:List ZaP} {left:Lit→Bool} {g:ZaP→ZaP} {s:ZaP} {kk:ZaU} (hk:L.Pairwise fun a b=>Zax a.f≠Zax b.f) (hord:L.Pairwise fun a b=>a.used<b.used) (hu:∀ t∈L,t.used≤k)
  (hg:∀ t∈L,(g t).f=t.f∧(g t).used=t.used) (hs:s∈L) (hl:left (.string (Zax s.f))=true)
  (hC:IsCache B W1 D most stale k (cpL L left g)) (hDb:Blk W1 D #[.int .i64 most,.int .i64 stale,.map (some M),.int .i64 k] 78) (hMB:B≤M) (hML:MapL W1 M (cpL L left g))
  (h12:Below W1.heap.size W1 W2) (hX:W1.heap.size≤X) (hXb:Blk W2 X (Zdb ⟨X,kk,s.f,s.used⟩) 82) (hF:IsFact (Zak fT W2) W2 kk s.f) (hfB:Zbl s.f=true) (hlen:Zmy s.f)
  (hM3:MapL W3 M (ZdH (cpL L left g) (Zax s.f)++[⟨X,kk,s.f,s.used⟩])) (g3:W2.grownBy W3 (some M)):
  ∃ g',(∀ t∈L,(g' t).f=t.f∧(g' t).used=t.used)∧IsCache B W3 D most stale k (cpL L (fun q=>left q&& !q.sameKey (.string (Zax s.f))) g')∧Blk W3 D #[.int .i64 most,.int .i64 stale,.map (some M),.int .i64 k] 78∧MapL W3 M (cpL L (fun q=>left q&& !q.sameKey (.string (Zax s.f))) g'):=by
 have hDM:=Zbo hDb hML
 have hM2:=hML.on (h12.block M hML.lt)
 have hXM:=Zbo hXb hM2
 refine⟨fun t=>if Zax t.f=Zax s.f then⟨X,kk,s.f,s.used⟩ else g t,?_⟩
 have hg':∀ t∈L,((if Zax t.f=Zax s.f then(⟨X,kk,s.f,s.used⟩:ZaP) else g t)).f=t.f∧((if Zax t.f=Zax s.f then(⟨X,kk,s.f,s.used⟩:ZaP) else g t)).used=t.used:=fun t ht=>by
  by_cases he:Zax t.f=Zax s.f
  ·rw[if_pos he,Zih hk ht hs he];exact⟨rfl,rfl⟩
  ·rw[if_neg he];exact hg t ht
 have hD3:Blk W3 D #[.int .i64 most,.int .i64 stale,.map (some M),.int .i64 k] 78:=(hDb.on h12).but g3 hDM
 have hnone:atL (cpL L left g) (Zax s.f)=none:=by rw[ZmL hk (fun t ht=>(hg t ht).1),ZbX hk hs];simp[hl]
 rw[Ziw hnone] at hM3
 have hMM:MapL W3 M (cpL L (fun q=>left q&& !q.sameKey (.string (Zax s.f))) (fun t=>if Zax t.f=Zax s.f then⟨X,kk,s.f,s.used⟩ else g t)):=by
  refine hM3.same_at (by rw[Zla,List.length_singleton];exact(Zrh hk hs hl).symm) (fun key=>?_)
  rw[ZkK,ZmL hk (fun t ht=>(hg t ht).1),ZmL hk (fun t ht=>(hg' t ht).1)]
  by_cases hks:key=Zax s.f
  ·subst hks
   rw[ZbX hk hs,Zbb]
   simp[hl]
  ·have hks': ¬Zax s.f=key:=fun e=>hks e.symm
   cases hat:atL L key with
   |none=>simp[hks']
   |some t=>
    have htk:=(ZfG hat).2
    have: ¬Zax t.f=Zax s.f:=fun e=>hks (htk.symm.trans e)
    rw[Zbb]
    by_cases hlt:left (.string key)=true<;>simp[hlt,hks,hks',this]
 refine⟨hg',⟨⟨M,hD3,hMB,hMM⟩,hC.base,fun x hx=>?_,?_,?_,fun x hx=>?_,?_⟩,hD3,hMM⟩
 ·obtain⟨t,ht,hlt,rfl⟩:=Zp3 hx
  by_cases he:Zax t.f=Zax s.f
  ·rw[if_pos he]
   refine⟨?_,hXb.but g3 hXM,hF.step (fun b hb ht=>g3.block b hb (fun e=>Zdj hM2 ht (Zsi e))),hfB,hlen⟩
   have:=hC.base;have:=hDb.lt
   show B≤X
   omega
  ·rw[if_neg he]
   have hlt2:left (.string (Zax t.f))=false:=by rw[Zbb] at hlt;simpa [he] using hlt
   have hin:g t∈cpL L left g:=List.mem_map.2 ⟨t,List.mem_filter.2 ⟨ht,by simp[hlt2]⟩,rfl⟩
   obtain⟨p,q,i,d⟩:=hC.slot _ hin
   have q2:=q.on h12
   exact⟨p,q2.but g3 (Zbo q2 hM2),(i.step (Same.below h12 _)).step (fun b hb ht=>g3.block b hb (fun e=>Zdj hM2 ht (Zsi e))),d⟩
 ·refine Zli (R:=fun a b=>Zax a.f≠Zax b.f) (hk.sublist List.filter_sublist) (fun a ha b hb hab=>?_)
  obtain⟨ha1,ha2⟩:=List.mem_filter.1 ha
  obtain⟨hb1,hb2⟩:=List.mem_filter.1 hb
  have old:∀ t∈L,(!(left (.string (Zax t.f))&& !(Lit.string (Zax t.f)).sameKey (.string (Zax s.f))))=true→¬Zax t.f=Zax s.f→(g t).b<W1.heap.size∧g t∈cpL L left g:=fun t ht h1 he=>by
   have hlt2:left (.string (Zax t.f))=false:=by rw[Zbb] at h1;simpa [he] using h1
   have hin:g t∈cpL L left g:=List.mem_map.2 ⟨t,List.mem_filter.2 ⟨ht,by simp[hlt2]⟩,rfl⟩
   exact⟨(hC.slot _ hin).2.1.lt,hin⟩
  by_cases ea:Zax a.f=Zax s.f
  ·have eb: ¬Zax b.f=Zax s.f:=fun e=>hab (ea.trans e.symm)
   rw[if_pos ea,if_neg eb]
   have:=(old b hb1 hb2 eb).1
   show X≠(g b).b
   omega
  ·by_cases eb:Zax b.f=Zax s.f
   ·rw[if_neg ea,if_pos eb]
    have:=(old a ha1 ha2 ea).1
    show(g a).b≠X
    omega
   ·rw[if_neg ea,if_neg eb]
    refine Zpw hC.apart (old a ha1 ha2 ea).2 (old b hb1 hb2 eb).2 ?_
    rw[(hg a ha1).1,(hg b hb1).1];exact hab
 ·refine Zli (R:=fun a b=>Zax a.f≠Zax b.f) (hk.sublist List.filter_sublist) (fun a ha b hb hab=>?_)
  rw[(hg' a (List.mem_filter.1 ha).1).1,(hg' b (List.mem_filter.1 hb).1).1];exact hab
 ·obtain⟨t,ht,_,rfl⟩:=Zp3 hx
  rw[(hg' t ht).2];exact hu t ht
 ·refine Zli (R:=fun a b=>a.used<b.used) (hord.sublist List.filter_sublist) (fun a ha b hb hab=>?_)
  rw[(hg' a (List.mem_filter.1 ha).1).2,(hg' b (List.mem_filter.1 hb).1).2];exact hab
structure CpSt (w wr:World) (M r n D M2:Nat) (Dm:DataW Unit) (most stale:Int) (k:Nat) (L:List ZaP) (left:Lit→Bool) (cnt:Nat) (g:ZaP→ZaP):Prop where
 rg:wr.ranges Tryz.prog 9 Zgj M r n Dm left cnt
 bel:Below w.heap.size w wr
 same:∀ t∈L,(g t).f=t.f∧(g t).used=t.used
 ca:IsCache w.heap.size wr D most stale k (cpL L left g)
 blk:Blk wr D #[.int .i64 most,.int .i64 stale,.map (some M2),.int .i64 k] 78
 ml:MapL wr M2 (cpL L left g)
theorem ZoU (w:World) (B C:Nat) (most stale:Int) (k:Nat) (L:List ZaP) (hC:IsCache B w C most stale k L) (hL:L.length<100000):
  Calls Tryz.prog 31 #[.pointer (some ⟨C,0,none⟩)] w fun e w'=>(∃ D g,e= .returned (.pointer (some ⟨D,0,none⟩))∧(∀ t∈L,(g t).f=t.f∧(g t).used=t.used)∧IsCache w.heap.size w' D most stale k (L.map g))∧Below w.heap.size w w':=by
 obtain⟨M,hCb,hMB,hML⟩:=hC.ex
 have HM0:=Zhd (show w.drew.cell? ⟨C,0,none⟩=some (.int .i64 most) from hCb.cell 0)
 have HM1:=Zhd (show w.drew.cell? ⟨C,1,none⟩=some (.int .i64 stale) from hCb.cell 1)
 have HM3:=Zhd (show w.drew.cell? ⟨C,3,none⟩=some (.int .i64 k) from hCb.cell 3)
 have HLN:=Zhd hL
 clear hL
 obtain⟨n,Dm,h1,h2,h3,h4⟩:=hML
 have HC:=Zhd (Zan hC (Zan hCb (Zan hMB (Zan h2 (Zan h3 h4)))))
 have HO:=Zhd h1
 have hmm:=@run_makeMap Tryz.prog
 clear hC hCb hMB h1 h2 h3 h4
 go_enter Tryz.func31,Tryz.ntmps31
 go_wp2_with fail
 refine Zcs (m:=50) (by kernel_rfl) (fun x y=>Below x.heap.size x y) (fun i v xw=>match i with|0=>v= .pointer (some ⟨C,0,none⟩)|1=>v= .pointer (some ⟨C,0,none⟩)|2=>v= .pointer (some ⟨C,0,none⟩)|3=>v= .int .i64 most|4=>v= .pointer (some ⟨C,0,none⟩)|5=>v= .pointer (some ⟨C,0,none⟩)|6=>v= .pointer (some ⟨C,1,none⟩)|7=>v= .int .i64 stale|8=>∃ m,v= .map (some m)∧w.heap.size≤m∧MapL xw m []|9=>v= .pointer (some ⟨C,0,none⟩)|10=>v= .pointer (some ⟨C,0,none⟩)|11=>v= .pointer (some ⟨C,3,none⟩)|12=>v= .int .i64 ((k:Int))|13=>∃ m,v= .agg #[.int .i64 most,.int .i64 stale,.map (some m),.int .i64 k]∧w.heap.size≤m∧MapL xw m []|14=>∃ d m,v= .pointer (some ⟨d,0,none⟩)∧w.heap.size≤m∧MapL xw m []∧Blk xw d #[.int .i64 most,.int .i64 stale,.map (some m),.int .i64 k] 78∧w.heap.size≤d|15=>∃ d m,v= .pointer (some ⟨d,0,none⟩)∧w.heap.size≤m∧MapL xw m []∧Blk xw d #[.int .i64 most,.int .i64 stale,.map (some m),.int .i64 k] 78∧w.heap.size≤d|_=>True) rfl (by kernel_rfl) (fun _ _ _ h1 h2=>Zaa h1 h2 Zlr) Zbr (by intro i v x y h hxy;match i,h with|0,h=>exact h|1,h=>exact h|2,h=>exact h|3,h=>exact h|4,h=>exact h|5,h=>exact h|6,h=>exact h|7,h=>exact h|8,⟨m,e,h1,h2⟩=>exact⟨m,e,h1,h2.on (hxy.block m h2.lt)⟩|9,h=>exact h|10,h=>exact h|11,h=>exact h|12,h=>exact h|13,⟨m,e,h1,h2⟩=>exact⟨m,e,h1,h2.on (hxy.block m h2.lt)⟩|14,⟨d,m,e,h1,h2,h3,h4⟩=>exact⟨d,m,e,h1,h2.on (hxy.block m h2.lt),h3.on hxy,h4⟩|15,⟨d,m,e,h1,h2,h3,h4⟩=>exact⟨d,m,e,h1,h2.on (hxy.block m h2.lt),h3.on hxy,h4⟩|_+16,_=>trivial) (Zc8 16 (by kernel_rfl) (fun _ _ h=>h)) ?_ ?_
 rotate_left
 ·intro a W hR hS hdep
  have e0:a.tmps.getD 0 undef= .pointer (some ⟨C,0,none⟩):=hS.keep 0 (by kernel_rfl)
  obtain⟨D5,M5,q,hnm5,hmm5,hdb5,hnd5⟩:=hdep 15 (by decide+kernel)
  have e3:a.tmps.getD 3 undef= .pointer (some ⟨D5,0,none⟩):=q
  clear q
  obtain⟨T,df⟩:=a
  obtain rfl:df=[]:=hS.defers
  have hT:=Zcy T 50 hS.size;simp only[List.range,List.range.loop,List.map_cons,List.map_nil] at hT
  have k0:T.getD 0 undef= .pointer (some ⟨C,0,none⟩):=e0
  have k3:T.getD 3 undef= .pointer (some ⟨D5,0,none⟩):=e3
  clear hS hdep
  rw[hT]
  rw[k0]
  clear k0 e0
  rw[k3]
  clear k3 e3
  clear hT
  generalize T.getD 1 undef=u1
  generalize T.getD 2 undef=u2
  generalize T.getD 4 undef=u4
  generalize T.getD 5 undef=u5
  generalize T.getD 6 undef=u6
  generalize T.getD 7 undef=u7
  generalize T.getD 8 undef=u8
  generalize T.getD 9 undef=u9
  generalize T.getD 10 undef=u10
  generalize T.getD 11 undef=u11
  generalize T.getD 12 undef=u12
  generalize T.getD 13 undef=u13
  generalize T.getD 14 undef=u14
  generalize T.getD 15 undef=u15
  generalize T.getD 16 undef=u16
  generalize T.getD 17 undef=u17
  generalize T.getD 18 undef=u18
  generalize T.getD 19 undef=u19
  generalize T.getD 20 undef=u20
  generalize T.getD 21 undef=u21
  generalize T.getD 22 undef=u22
  generalize T.getD 23 undef=u23
  generalize T.getD 24 undef=u24
  generalize T.getD 25 undef=u25
  generalize T.getD 26 undef=u26
  generalize T.getD 27 undef=u27
  generalize T.getD 28 undef=u28
  generalize T.getD 29 undef=u29
  generalize T.getD 30 undef=u30
  generalize T.getD 31 undef=u31
  generalize T.getD 32 undef=u32
  generalize T.getD 33 undef=u33
  generalize T.getD 34 undef=u34
  generalize T.getD 35 undef=u35
  generalize T.getD 36 undef=u36
  generalize T.getD 37 undef=u37
  generalize T.getD 38 undef=u38
  generalize T.getD 39 undef=u39
  generalize T.getD 40 undef=u40
  generalize T.getD 41 undef=u41
  generalize T.getD 42 undef=u42
  generalize T.getD 43 undef=u43
  generalize T.getD 44 undef=u44
  generalize T.getD 45 undef=u45
  generalize T.getD 46 undef=u46
  generalize T.getD 47 undef=u47
  generalize T.getD 48 undef=u48
  generalize T.getD 49 undef=u49
  have hbx:=Zaa (B:=w.heap.size) (Below.drew Zbr) hR Zlr
  clear hR
  have q2:W.cell? ⟨C,2,none⟩=some (.map (some M)):=(HC.out.2.1.on hbx).cell 2
  have HO2:=Zhd (show W.ownsMap Tryz.prog 9 Zgj M n Dm from by obtain⟨es,clock,a1,a2⟩:=HO.out;exact⟨es,clock,(hbx.block M HO.out.lt).trans a1,a2⟩)
  have HBX:=Zhd hbx
  have H5:=Zhd (Zan hnm5 (Zan hmm5 (Zan hdb5 hnd5)))
  clear hmm hbx hnm5 hmm5 hdb5 hnd5
  go_wp2_with (at_range;go_loud (refine wpList_range_own _ rfl _ 76 rfl 9 79 Zj2 Tryz.underlying76 Zgj M n Dm rfl HO2.out ?_;intro W6 hrg0 hg0 hs0))
  try go_frame
  clear q2
  have hb6:Below w.heap.size w W6:=HBX.out.grown hg0 HBX.out.size (fun k e=>by cases e)
  have h6:Below W.heap.size W W6:=Zbr.grown hg0 Zlr (fun k e=>by cases e)
  have hst:CpSt w W6 M W.heap.size n D5 M5 Dm most stale k L (Maps.has Dm) (Maps.size Dm) id:=by
   have hall:∀ s∈L,Maps.has Dm (.string (Zax s.f))=true:=fun s hs=>by
    have:=HC.out.2.2.2.2.2 (Zax s.f)
    rw[ZbX HC.out.1.keys hs] at this
    exact Maps.has_true_of_atKey this
   have e:cpL L (Maps.has Dm) id=[]:=by
    rw[cpL,List.map_eq_nil_iff,List.filter_eq_nil_iff]
    intro s hs;simp[hall s hs]
   have hD6:=H5.out.2.2.1.on h6
   have hM6:=H5.out.2.1.on (h6.block M5 H5.out.2.1.lt)
   refine⟨hrg0,hb6,fun t _=>⟨rfl,rfl⟩,?_,hD6,by rw[e];exact hM6⟩
   rw[e]
   exact⟨⟨M5,hD6,H5.out.1,hM6⟩,H5.out.2.2.2,by simp,List.Pairwise.nil,List.Pairwise.nil,by simp,List.Pairwise.nil⟩
  have HST:=Zhd hst
  have HRW:=Zhd HBX.out.size
  clear hrg0 hg0 hs0 hb6 h6 hst
  obtain⟨r,hr⟩:∃ r,r=W.heap.size:=⟨_,rfl⟩
  rw[←hr] at HST HRW⊢
  clear hr
  go_loopw [4] (fun _ wr=>Hid (∃ left cnt g,CpSt w wr M r n D5 M5 Dm most stale k L left cnt g)) (fun _ wr=>wr.rangeLeft M r)
  case atStart=>exact Zhd ⟨_,_,_,HST.out⟩
  case round=>
   obtain⟨left,cnt,g,hst⟩:=hrel.out
   have HF:=Zhd hst
   clear hrel hst
   go_wp2_with (at_next;refine wpList_next_ranges _ rfl _ rfl 9 Zj2 Zgj Value.string ZoK ZkD ZfR M r n Dm left cnt rfl HF.out.rg ?_ ?_)
   ·intro hc0 hl0
    have hfe:cpL L left g=L.map g:=by
     rw[cpL,List.filter_eq_self.2 (fun s _=>by simp[hl0])]
    have hca:=HF.out.ca
    rw[hfe] at hca
    have HE:=Zhd hca
    clear hl0 hfe hca
    go_wp2_with fail
    go_ret
    exact⟨⟨D5,g,rfl,HF.out.same,HE.out⟩,HF.out.bel⟩
   ·intro x o kl y1 y2 w1 cnt1 hxk hlk hRy hat hrg1 hlt hg1 hs1 hen
    obtain rfl:=Ze8 hxk
    obtain⟨s,hsL,rfl,hxs⟩:=Zku (y:=(y1,y2)) HC.out.2.2.2.2.2 hRy hat
    simp only[ZoK] at hen⊢
    have hic:=ZeE HF.out.rg
    obtain⟨hca1,_⟩:=HF.out.ca.iter hg1 hic.1 hic.2 HRW.out HF.out.rg.lt
    have hbl1:Blk w1 D5 #[.int .i64 most,.int .i64 stale,.map (some M5),.int .i64 k] 78:=HF.out.blk.but hg1 (by rintro rfl;exact hic.1 _ _ _ HF.out.blk)
    have hml1:MapL w1 M5 (cpL L left g):=HF.out.ml.on (hg1.block M5 HF.out.ml.lt (fun e=>by
     obtain⟨_,_,⟨es,clock,h1,_⟩,_⟩:=HF.out.ml
     have e:=Zsi e
     subst e
     exact hic.2 _ _ h1))
    have hbw1:Below w.heap.size w w1:=HF.out.bel.grown hg1 HF.out.bel.size (fun k e=>by cases e;exact HRW.out)
    have HP1:=Zhd (Zan hbw1 (Zan hca1 (Zan hbl1 hml1)))
    have HR1:=Zhd (Zan hrg1 hlt)
    have HSL:=Zhd (Zan hsL hxs)
    have hsl:=(HC.out.1.slot s hsL)
    have hit:=hsl.2.1.on hbw1
    have HSF:=Zhd (Zan (hsl.2.2.1.on hbw1) hsl.2.2.2.2)
    have HSX:=Zhd (Zan hsL hsl.2.2.2.1)
    have HLK:=Zhd (show left (.string (Zax s.f))=true by rw[←hxs];exact hlk)
    have HLC:=Zhd (show(cpL L left g).length<100000 by
     have:(cpL L left g).length≤L.length:=by rw[cpL,List.length_map];exact List.length_filter_le _ _
     have:=HLN.out
     omega)
    have HD2:=Zhd (show w1.drew.cell? ⟨D5,2,none⟩=some (.map (some M5)) from hbl1.cell 2)
    have HS13:=Zhd (show w1.drew.cell? ⟨s.b,13,none⟩=some (.int .i64 (s.used:Int)) from hit.cell 13)
    have HS0:=Zhd (show w1.drew.cell? ⟨s.b,0,none⟩=some (.slice s.h.na s.h.nl s.h.nc) from hit.cell 0)
    have HS1:=Zhd (show w1.drew.cell? ⟨s.b,1,none⟩=some (.int .i64 s.f.typ) from hit.cell 1)
    have HS2:=Zhd (show w1.drew.cell? ⟨s.b,2,none⟩=some (.int .i64 s.f.kind) from hit.cell 2)
    have HS3:=Zhd (show w1.drew.cell? ⟨s.b,3,none⟩=some (.int .i64 s.f.rank) from hit.cell 3)
    have HS4:=Zhd (show w1.drew.cell? ⟨s.b,4,none⟩=some (.int .i64 s.f.got) from hit.cell 4)
    have HS5:=Zhd (show w1.drew.cell? ⟨s.b,5,none⟩=some (.int .i64 s.f.ttl) from hit.cell 5)
    have HS6:=Zhd (show w1.drew.cell? ⟨s.b,6,none⟩=some (.slice s.h.sa s.h.sl s.h.sc) from hit.cell 6)
    have HS7:=Zhd (show w1.drew.cell? ⟨s.b,7,none⟩=some (.slice s.h.za s.h.zl s.h.zc) from hit.cell 7)
    have HS8:=Zhd (show w1.drew.cell? ⟨s.b,8,none⟩=some (.slice s.h.d.ba s.h.d.bl s.h.d.bc) from hit.cell 8)
    have HS9:=Zhd (show w1.drew.cell? ⟨s.b,9,none⟩=some (.slice s.h.d.ha s.h.d.hl s.h.d.hc) from hit.cell 9)
    have HS10:=Zhd (show w1.drew.cell? ⟨s.b,10,none⟩=some (.slice s.h.d.ma s.h.d.ml s.h.d.mc) from hit.cell 10)
    have HS11:=Zhd (show w1.drew.cell? ⟨s.b,11,none⟩=some (.slice s.h.d.na s.h.d.nl s.h.d.nc) from hit.cell 11)
    have HS12:=Zhd (show w1.drew.cell? ⟨s.b,12,none⟩=some (.slice s.h.d.ta s.h.d.tl s.h.d.tc) from hit.cell 12)
    clear hxk hlk hRy hat hrg1 hlt hg1 hs1 hsL hxs hic hca1 hbl1 hml1 hbw1 hsl hit
    go_wp2_with fail
    clear hen
    refine Zcg (m:=50) 16 (by kernel_rfl) (fun x y=>Below x.heap.size x y) (fun i v xw=>match i with|0=>v= .pointer (some ⟨D5,0,none⟩)|1=>v= .pointer (some ⟨D5,0,none⟩)|2=>v= .pointer (some ⟨D5,2,none⟩)|3=>v= .map (some M5)|4=>v= .string x|5=>v= .pointer (some ⟨s.b,0,none⟩)|6=>v= .pointer (some ⟨s.b,0,none⟩)|7=>v= .pointer (some ⟨s.b,0,none⟩)|8=>v= .agg #[.slice s.h.na s.h.nl s.h.nc,.int .i64 s.f.typ,.int .i64 s.f.kind,.int .i64 s.f.rank,.int .i64 s.f.got,.int .i64 s.f.ttl,.slice s.h.sa s.h.sl s.h.sc,.slice s.h.za s.h.zl s.h.zc,.slice s.h.d.ba s.h.d.bl s.h.d.bc,.slice s.h.d.ha s.h.d.hl s.h.d.hc,.slice s.h.d.ma s.h.d.ml s.h.d.mc,.slice s.h.d.na s.h.d.nl s.h.d.nc,.slice s.h.d.ta s.h.d.tl s.h.d.tc]|9=>∃ kk,v= .agg (Zaj kk s.f)∧OwnF w1.heap.size xw kk s.f|10=>v= .pointer (some ⟨s.b,0,none⟩)|11=>v= .pointer (some ⟨s.b,0,none⟩)|12=>v= .pointer (some ⟨s.b,13,none⟩)|13=>v= .int .i64 ((s.used:Int))|14=>∃ kk,v= .agg (Zdb ⟨0,kk,s.f,s.used⟩)∧OwnF w1.heap.size xw kk s.f|15=>∃ X kk,v= .pointer (some ⟨X,0,none⟩)∧w1.heap.size≤X∧Blk xw X (Zdb ⟨X,kk,s.f,s.used⟩) 82∧OwnF w1.heap.size xw kk s.f|_=>True) rfl (by kernel_rfl) (by kernel_rfl) (fun _ _ _ h1 h2=>Zaa h1 h2 Zlr) Zbr (by intro i v x y h hxy;match i,h with|0,h=>exact h|1,h=>exact h|2,h=>exact h|3,h=>exact h|4,h=>exact h|5,h=>exact h|6,h=>exact h|7,h=>exact h|8,h=>exact h|9,⟨kk,e,h⟩=>exact⟨kk,e,h.on hxy⟩|10,h=>exact h|11,h=>exact h|12,h=>exact h|13,h=>exact h|14,⟨kk,e,h⟩=>exact⟨kk,e,h.on hxy⟩|15,⟨X,kk,e,h1,h2,h3⟩=>exact⟨X,kk,e,h1,h2.on hxy,h3.on hxy⟩|_+16,_=>trivial) (ZdS (by kernel_rfl)) ?_ ?_
    rotate_left
    ·intro a W hR hS hdep
     have e3:a.tmps.getD 3 undef= .pointer (some ⟨D5,0,none⟩):=hS.keep 3 (by kernel_rfl)
     have e36:a.tmps.getD 36 undef= .map (some M5):=hdep 3 (by decide+kernel)
     have e37:a.tmps.getD 37 undef= .string x:=hdep 4 (by decide+kernel)
     obtain⟨X15,k15,q,hx15,hb15,ho15⟩:=hdep 15 (by decide+kernel)
     have e48:a.tmps.getD 48 undef= .pointer (some ⟨X15,0,none⟩):=q
     clear q
     obtain⟨T,df⟩:=a
     obtain rfl:df=[]:=hS.defers
     have hT:=ZdJ hS 50 rfl [33,34,35,36,37,38,39,40,41,42,43,44,45,46,47,48] (by kernel_rfl)
     simp only[List.foldl_cons,List.foldl_nil,List.setIfInBounds_toArray,List.set_cons_succ,List.set_cons_zero] at hT
     have k36:T.getD 36 undef= .map (some M5):=e36
     have k37:T.getD 37 undef= .string x:=e37
     have k48:T.getD 48 undef= .pointer (some ⟨X15,0,none⟩):=e48
     clear hS hdep
     rw[hT]
     rw[k36]
     clear k36 e36
     rw[k37]
     clear k37 e37
     rw[k48]
     clear k48 e48
     clear hT
     generalize T.getD 33 undef=u33
     generalize T.getD 34 undef=u34
     generalize T.getD 35 undef=u35
     generalize T.getD 38 undef=u38
     generalize T.getD 39 undef=u39
     generalize T.getD 40 undef=u40
     generalize T.getD 41 undef=u41
     generalize T.getD 42 undef=u42
     generalize T.getD 43 undef=u43
     generalize T.getD 44 undef=u44
     generalize T.getD 45 undef=u45
     generalize T.getD 46 undef=u46
     generalize T.getD 47 undef=u47
     have hbx:=Zaa (B:=w1.heap.size) (Below.drew Zbr) hR Zlr
     have hMW:=HP1.out.2.2.2.on (hbx.block M5 HP1.out.2.2.2.lt)
     obtain⟨W4,hrun,hM4,hg4,_⟩:=hMW.store (HP1.out.2.1.on hbx).keys HLC.out ⟨X15,k15,s.f,s.used⟩ (by show(Zax s.f).length≤_;have:=Zcz HSX.out.2;rw[Zax,Zdc];omega)
     rw[show(⟨(Zax s.f).toArray⟩:ByteArray)=x by rw[←HSL.out.2]] at hrun
     clear hR
     go_wp2_with fail
     have hg:=HR1.out.1
     have hm1:=HP1.out.2.2.2
     obtain⟨g',hg',hca',hbl',hml'⟩:=Zqx HC.out.1.keys HC.out.1.order HC.out.1.used HF.out.same HSL.out.1 HLK.out HP1.out.2.1 HP1.out.2.2.1 H5.out.1 hm1 hbx hx15 hb15 (ho15.mono (fun b _ ht=>ht.1)) HSX.out.2 HSF.out.2 hM4 hg4
     have hM5:M≠M5:=by have:=HO.out.lt;have:=H5.out.1;omega
     have hr5:r≠M5:=by
      rintro rfl
      obtain⟨_,_,⟨es,clock,h1,_⟩,_⟩:=hm1
      exact(ZeE hg).2 _ _ h1
     have hrg4:=ZcO hg ((hg4.block M (by have:=hg.owns.lt;have:=hbx.size;omega) (fun e=>hM5 (Zsi e))).trans (hbx.block M hg.owns.lt)) ((hg4.block r (by have:=hg.lt;have:=hbx.size;omega) (fun e=>hr5 (Zsi e))).trans (hbx.block r hg.lt))
     have hbW:=(Zaa HP1.out.1 hbx Zlr).grown hg4 (Zaa HP1.out.1 hbx Zlr).size (fun j e=>by cases e;exact H5.out.1)
     refine⟨Zhd ⟨_,_,g',hrg4,hbW,hg',?_,hbl',?_⟩,?_⟩
     ·rw[HSL.out.2];exact hca'
     ·rw[HSL.out.2];exact hml'
     ·rw[hrg4.left_eq,HF.out.rg.left_eq];exact HR1.out.2
    refine Zac rfl rfl (fun a W hR hS hdep K hK=>?_) ?_
    ·have e3:a.tmps[3]?.getD undef= .pointer (some ⟨D5,0,none⟩):=Zad (hS.keep 3 (by kernel_rfl))
     go_simp
     exact hK _ _ Zbr (by first|rfl|simp)
    refine Zac rfl rfl (fun a W hR hS hdep K hK=>?_) ?_
    ·have e33:a.tmps[33]?.getD undef= .pointer (some ⟨D5,0,none⟩):=Zad (hdep 0 (by decide+kernel))
     go_simp
     exact hK _ _ Zbr (by first|rfl|simp)
    refine Zac rfl rfl (fun a W hR hS hdep K hK=>?_) ?_
    ·have e34:a.tmps[34]?.getD undef= .pointer (some ⟨D5,0,none⟩):=Zad (hdep 1 (by decide+kernel))
     go_simp
     exact hK _ _ Zbr (by first|rfl|simp)
    refine Zac rfl rfl (fun a W hR hS hdep K hK=>?_) ?_
    ·have e35:a.tmps[35]?.getD undef= .pointer (some ⟨D5,2,none⟩):=Zad (hdep 2 (by decide+kernel))
     have m0:=Zab hR HD2.out
     go_simp
     exact hK _ _ Zbr (by first|rfl|simp)
    refine Zac rfl rfl (fun a W hR hS hdep K hK=>?_) ?_
    ·have e4:a.tmps[4]?.getD undef= .string x:=Zad (hS.keep 4 (by kernel_rfl))
     go_simp
     exact hK _ _ Zbr (by first|rfl|simp)
    refine Zac rfl rfl (fun a W hR hS hdep K hK=>?_) ?_
    ·have e5:a.tmps[5]?.getD undef= .pointer (some ⟨s.b,0,none⟩):=Zad (hS.keep 5 (by kernel_rfl))
     go_simp
     exact hK _ _ Zbr (by first|rfl|simp)
    refine Zac rfl rfl (fun a W hR hS hdep K hK=>?_) ?_
    ·have e38:a.tmps[38]?.getD undef= .pointer (some ⟨s.b,0,none⟩):=Zad (hdep 5 (by decide+kernel))
     go_simp
     exact hK _ _ Zbr (by first|rfl|simp)
    refine Zac rfl rfl (fun a W hR hS hdep K hK=>?_) ?_
    ·have e39:a.tmps[39]?.getD undef= .pointer (some ⟨s.b,0,none⟩):=Zad (hdep 6 (by decide+kernel))
     go_simp
     exact hK _ _ Zbr (by first|rfl|simp)
    refine Zac rfl rfl (fun a W hR hS hdep K hK=>?_) ?_
    ·have e40:a.tmps[40]?.getD undef= .pointer (some ⟨s.b,0,none⟩):=Zad (hdep 7 (by decide+kernel))
     have m0:=Zab hR HS0.out
     have m1:=Zab hR HS1.out
     have m2:=Zab hR HS2.out
     have m3:=Zab hR HS3.out
     have m4:=Zab hR HS4.out
     have m5:=Zab hR HS5.out
     have m6:=Zab hR HS6.out
     have m7:=Zab hR HS7.out
     have m8:=Zab hR HS8.out
     have m9:=Zab hR HS9.out
     have m10:=Zab hR HS10.out
     have m11:=Zab hR HS11.out
     have m12:=Zab hR HS12.out
     go_simp
     exact hK _ _ Zbr (by first|rfl|simp)
    refine Zac rfl rfl (fun a W hR hS hdep K hK=>?_) ?_
    ·have e41:a.tmps[41]?.getD undef= .agg #[.slice s.h.na s.h.nl s.h.nc,.int .i64 s.f.typ,.int .i64 s.f.kind,.int .i64 s.f.rank,.int .i64 s.f.got,.int .i64 s.f.ttl,.slice s.h.sa s.h.sl s.h.sc,.slice s.h.za s.h.zl s.h.zc,.slice s.h.d.ba s.h.d.bl s.h.d.bc,.slice s.h.d.ha s.h.d.hl s.h.d.hc,.slice s.h.d.ma s.h.d.ml s.h.d.mc,.slice s.h.d.na s.h.d.nl s.h.d.nc,.slice s.h.d.ta s.h.d.tl s.h.d.tc]:=Zad (hdep 8 (by decide+kernel))
     go_simp
     have hbx:=Zaa (B:=w1.heap.size) (Below.drew Zbr) hR Zlr
     refine(Zgp _ _ s.h s.f (HSF.out.1.on hbx) HSF.out.2).mono ?_
     rintro e W' ⟨⟨kk,rfl,ho⟩,hb⟩
     exact hK _ _ hb ⟨kk,rfl,ho.mono (fun b _ ht=>⟨ht.1,Nat.le_trans hbx.size ht.2⟩)⟩
    refine Zac rfl rfl (fun a W hR hS hdep K hK=>?_) ?_
    ·have e5:a.tmps[5]?.getD undef= .pointer (some ⟨s.b,0,none⟩):=Zad (hS.keep 5 (by kernel_rfl))
     go_simp
     exact hK _ _ Zbr (by first|rfl|simp)
    refine Zac rfl rfl (fun a W hR hS hdep K hK=>?_) ?_
    ·have e43:a.tmps[43]?.getD undef= .pointer (some ⟨s.b,0,none⟩):=Zad (hdep 10 (by decide+kernel))
     go_simp
     exact hK _ _ Zbr (by first|rfl|simp)
    refine Zac rfl rfl (fun a W hR hS hdep K hK=>?_) ?_
    ·have e44:a.tmps[44]?.getD undef= .pointer (some ⟨s.b,0,none⟩):=Zad (hdep 11 (by decide+kernel))
     go_simp
     exact hK _ _ Zbr (by first|rfl|simp)
    refine Zac rfl rfl (fun a W hR hS hdep K hK=>?_) ?_
    ·have e45:a.tmps[45]?.getD undef= .pointer (some ⟨s.b,13,none⟩):=Zad (hdep 12 (by decide+kernel))
     have m0:=Zab hR HS13.out
     go_simp
     exact hK _ _ Zbr (by first|rfl|simp)
    refine Zac rfl rfl (fun a W hR hS hdep K hK=>?_) ?_
    ·obtain⟨k9,q,ho9⟩:=hdep 9 (by decide+kernel)
     have e42:a.tmps[42]?.getD undef= .agg #[.slice k9.na k9.nl k9.nc,.int .i64 s.f.typ,.int .i64 s.f.kind,.int .i64 s.f.rank,.int .i64 s.f.got,.int .i64 s.f.ttl,.slice k9.sa k9.sl k9.sc,.slice k9.za k9.zl k9.zc,.slice k9.d.ba k9.d.bl k9.d.bc,.slice k9.d.ha k9.d.hl k9.d.hc,.slice k9.d.ma k9.d.ml k9.d.mc,.slice k9.d.na k9.d.nl k9.d.nc,.slice k9.d.ta k9.d.tl k9.d.tc]:=Zad q
     clear q
     have e46:a.tmps[46]?.getD undef= .int .i64 ((s.used:Int)):=Zad (hdep 13 (by decide+kernel))
     go_simp
     exact hK _ _ Zbr ⟨k9,rfl,ho9⟩
    refine Zac rfl rfl (fun a W hR hS hdep K hK=>?_) ?_
    ·obtain⟨k14,q,ho14⟩:=hdep 14 (by decide+kernel)
     have e47:a.tmps[47]?.getD undef= .agg #[.slice k14.na k14.nl k14.nc,.int .i64 s.f.typ,.int .i64 s.f.kind,.int .i64 s.f.rank,.int .i64 s.f.got,.int .i64 s.f.ttl,.slice k14.sa k14.sl k14.sc,.slice k14.za k14.zl k14.zc,.slice k14.d.ba k14.d.bl k14.d.bc,.slice k14.d.ha k14.d.hl k14.d.hc,.slice k14.d.ma k14.d.ml k14.d.mc,.slice k14.d.na k14.d.nl k14.d.nc,.slice k14.d.ta k14.d.tl k14.d.tc,.int .i64 ((s.used:Int))]:=Zad q
     clear q
     go_simp
     have hbx:=Zaa (B:=w1.heap.size) (Below.drew Zbr) hR Zlr
     exact hK _ _ (Zbr.alloc Zlr _) ⟨_,k14,rfl,hbx.size,Zha _ _,ho14.on (Zbr.alloc Zlr _)⟩
    exact fun j h1 h2=>absurd h1 (by omega)
 refine Zac rfl rfl (fun a W hR hS hdep K hK=>?_) ?_
 ·have e0:a.tmps[0]?.getD undef= .pointer (some ⟨C,0,none⟩):=Zad (hS.keep 0 (by kernel_rfl))
  go_simp
  exact hK _ _ Zbr (by first|rfl|simp)
 refine Zac rfl rfl (fun a W hR hS hdep K hK=>?_) ?_
 ·have e8:a.tmps[8]?.getD undef= .pointer (some ⟨C,0,none⟩):=Zad (hdep 0 (by decide+kernel))
  go_simp
  exact hK _ _ Zbr (by first|rfl|simp)
 refine Zac rfl rfl (fun a W hR hS hdep K hK=>?_) ?_
 ·have e9:a.tmps[9]?.getD undef= .pointer (some ⟨C,0,none⟩):=Zad (hdep 1 (by decide+kernel))
  go_simp
  exact hK _ _ Zbr (by first|rfl|simp)
 refine Zac rfl rfl (fun a W hR hS hdep K hK=>?_) ?_
 ·have e10:a.tmps[10]?.getD undef= .pointer (some ⟨C,0,none⟩):=Zad (hdep 2 (by decide+kernel))
  have m0:=Zab hR HM0.out
  go_simp
  exact hK _ _ Zbr (by first|rfl|simp)
 refine Zac rfl rfl (fun a W hR hS hdep K hK=>?_) ?_
 ·have e0:a.tmps[0]?.getD undef= .pointer (some ⟨C,0,none⟩):=Zad (hS.keep 0 (by kernel_rfl))
  go_simp
  exact hK _ _ Zbr (by first|rfl|simp)
 refine Zac rfl rfl (fun a W hR hS hdep K hK=>?_) ?_
 ·have e12:a.tmps[12]?.getD undef= .pointer (some ⟨C,0,none⟩):=Zad (hdep 4 (by decide+kernel))
  go_simp
  exact hK _ _ Zbr (by first|rfl|simp)
 refine Zac rfl rfl (fun a W hR hS hdep K hK=>?_) ?_
 ·have e13:a.tmps[13]?.getD undef= .pointer (some ⟨C,0,none⟩):=Zad (hdep 5 (by decide+kernel))
  go_simp
  exact hK _ _ Zbr (by first|rfl|simp)
 refine Zac rfl rfl (fun a W hR hS hdep K hK=>?_) ?_
 ·have e14:a.tmps[14]?.getD undef= .pointer (some ⟨C,1,none⟩):=Zad (hdep 6 (by decide+kernel))
  have m0:=Zab hR HM1.out
  go_simp
  exact hK _ _ Zbr (by first|rfl|simp)
 refine Zac rfl rfl (fun a W hR hS hdep K hK=>?_) ?_
 ·go_simp
  have hbx:=Zaa (B:=w.heap.size) (Below.drew Zbr) hR Zlr
  exact hK _ _ (Zbr.alloc Zlr _) ⟨_,rfl,hbx.size,0,_,World.ownsMap_made W _ _ _,by decide,rfl,fun key z=>rfl⟩
 refine Zac rfl rfl (fun a W hR hS hdep K hK=>?_) ?_
 ·have e0:a.tmps[0]?.getD undef= .pointer (some ⟨C,0,none⟩):=Zad (hS.keep 0 (by kernel_rfl))
  go_simp
  exact hK _ _ Zbr (by first|rfl|simp)
 refine Zac rfl rfl (fun a W hR hS hdep K hK=>?_) ?_
 ·have e17:a.tmps[17]?.getD undef= .pointer (some ⟨C,0,none⟩):=Zad (hdep 9 (by decide+kernel))
  go_simp
  exact hK _ _ Zbr (by first|rfl|simp)
 refine Zac rfl rfl (fun a W hR hS hdep K hK=>?_) ?_
 ·have e18:a.tmps[18]?.getD undef= .pointer (some ⟨C,0,none⟩):=Zad (hdep 10 (by decide+kernel))
  go_simp
  exact hK _ _ Zbr (by first|rfl|simp)
 refine Zac rfl rfl (fun a W hR hS hdep K hK=>?_) ?_
 ·have e19:a.tmps[19]?.getD undef= .pointer (some ⟨C,3,none⟩):=Zad (hdep 11 (by decide+kernel))
  have m0:=Zab hR HM3.out
  go_simp
  exact hK _ _ Zbr (by first|rfl|simp)
 refine Zac rfl rfl (fun a W hR hS hdep K hK=>?_) ?_
 ·have e11:a.tmps[11]?.getD undef= .int .i64 most:=Zad (hdep 3 (by decide+kernel))
  have e15:a.tmps[15]?.getD undef= .int .i64 stale:=Zad (hdep 7 (by decide+kernel))
  obtain⟨M2,q,hnm,hmm2⟩:=hdep 8 (by decide+kernel)
  have e16:a.tmps[16]?.getD undef= .map (some M2):=Zad q
  clear q
  have e20:a.tmps[20]?.getD undef= .int .i64 ((k:Int)):=Zad (hdep 12 (by decide+kernel))
  go_simp
  exact hK _ _ Zbr ⟨M2,rfl,hnm,hmm2⟩
 refine Zac rfl rfl (fun a W hR hS hdep K hK=>?_) ?_
 ·obtain⟨M3,q,hnm3,hmm3⟩:=hdep 13 (by decide+kernel)
  have e21:a.tmps[21]?.getD undef= .agg #[.int .i64 most,.int .i64 stale,.map (some M3),.int .i64 k]:=Zad q
  clear q
  go_simp
  have hbx:=Zaa (B:=w.heap.size) (Below.drew Zbr) hR Zlr
  exact hK _ _ (Zbr.alloc Zlr _) ⟨_,M3,rfl,hnm3,hmm3.on (((Below.refl W.heap.size W).alloc Zlr _).block M3 hmm3.lt),Zha _ _,hbx.size⟩
 refine Zac rfl rfl (fun a W hR hS hdep K hK=>?_) ?_
 ·obtain⟨D4,M4,q,hnm4,hmm4,hdb4,hnd4⟩:=hdep 14 (by decide+kernel)
  have e22:a.tmps[22]?.getD undef= .pointer (some ⟨D4,0,none⟩):=Zad q
  clear q
  go_simp
  exact hK _ _ Zbr ⟨D4,M4,rfl,hnm4,hmm4,hdb4,hnd4⟩
 exact fun j h1 h2=>absurd h1 (by simp only[List.size_toArray,List.length_cons,List.length_nil];omega)
theorem Zls {w:World} {g:Nat} {s:ByteArray} (hN:Blk w g #[.string s] 9) (hs:s.size≤9223372036854775807):Strs w (some ⟨g,0,none⟩) 1 1 [s]∧rowIn (Zak fT w) (some ⟨g,0,none⟩) 1:=
 ⟨⟨⟨rfl,Nat.le_refl _,by show(1:Nat)≤_;decide,by show(1:Nat)≤_;decide,(fun h=>nomatch h),fun _=>⟨g,0,rfl,fun i hi=>by
   obtain rfl:i=0:=by simp at hi;omega
   exact hN.cell 0⟩⟩,fun x hx=>by rw[List.mem_singleton] at hx;subst hx;exact hs⟩,fun _ a e=>by cases e;exact⟨_,_,hN,by decide⟩⟩
theorem ZfO (w:World) (K C L:Nat) (pl no te:Int) (me dn:Bool) (hK:Blk w K (ZaQ C L pl no te me dn) 62) (B:Nat) (most stale:Int) (k:Nat) (Ls:List ZaP) (hC:IsCache B w C most stale k Ls) (hL:Ls.length<100000):
  Calls Tryz.prog 11 #[.pointer (some ⟨K,0,none⟩)] w fun e w'=>(∃ D g,e= .returned (.pointer (some ⟨D,0,none⟩))∧(∀ t∈Ls,(g t).f=t.f∧(g t).used=t.used)∧IsCache w.heap.size w' D most stale k (Ls.map g))∧Below w.heap.size w w':=by
 have c0:w.cell? ⟨K,0,none⟩=some (.pointer (some ⟨C,0,none⟩)):=hK.cell 0
 have HC:=Zhd (ZoU w B C most stale k Ls hC hL)
 clear hK hC hL
 go_enter Tryz.func11,Tryz.ntmps11
 go_wp2_with (go_at_call 31;refine HC.out.mono ?_;rintro e W1 ⟨⟨D,g,rfl,h1,h2⟩,hb⟩;have H1:=Zhd (Zan h1 (Zan h2 hb));clear h1 h2 hb)
 go_ret
 exact⟨⟨D,g,rfl,H1.out.1,H1.out.2.1⟩,H1.out.2.2⟩
theorem Zqo:ZaG [⟨#[97]⟩]=true:=by decide+kernel
theorem Zl1 (w:World) (B K C L D n:Nat) (hn:8≤n) (hn4:n≤4096) (hK:Blk w K (ZaQ C L ((n:Int)-2) 0 0 false false) 62) (hB:B≤K) (hBw:B≤w.heap.size) (hl:IsLog B w L D ⟨b0,[],0,false⟩) (hd:IsDev B w D (Zdv n))
  (most stale:Int) (hC:IsCache B w C most stale 0 []) (hm:1≤most) (h:ZaU) (nm:List ByteArray) (b:UInt8) (hs:ZaG nm=true) (hf:IsFact (Zak fT w) w h (adF nm b)):
  Calls Tryz.prog 8 #[.pointer (some ⟨K,0,none⟩),.agg (Zaj h (adF nm b)),.int .i64 1] w fun e w'=>e= .returned (.bool true)∧(∃ no te x,Blk w' K (ZaQ C L ((n:Int)-2) no te false false) 62∧IsCache B w' C most stale 1 [x])∧Kfr B w w':=by
 have hen:=Zqp hs b
 have hat:atT 0 1=1:=by decide
 have hok:=ZmU (n:=n) (by omega) hn4
 have hr:=hok.room
 have hlen:(Zdv n).sure.length=n:=by simp[Zdv]
 have hrn:Zay (Zdv n)=n-2:=by unfold Zay;rw[hlen]
 have hpn:pN (ZcY (adF nm b))=1:=by unfold pN ZaI;omega
 have hs0:ZeQ []=0:=rfl
 obtain⟨ha,-⟩:=hok.app (b:=ZcY (adF nm b)) ⟨hen.2.1,by omega⟩ (by rw[hpn];omega)
 refine ZkZ w B K C L D ((n:Int)-2) 0 0 false hK hB hBw _ _ hl hd most stale 0 [] hC (by decide) (by decide) h (adF nm b) hf (ZmG hs b) 1 hen.1 ?_ _ ?_
 ·rw[hat]
  have:Znn [] (adF nm b) 1=true:=rfl
  simp[ZmB,ZmH hs b,Za6,this]
 ·rw[hat]
  intro W hp
  obtain⟨bb,k2,hca⟩:=hp.ca
  refine(ZgQ W B K C L D ((n:Int)-2) 1 0 hp.blk hB _ _ hp.log hp.dev (hok.can (ZmS n) (by omega)) _ (ZcY (adF nm b)) rfl hp.rc hen.2.1 (by omega) (by omega) ?_ _ _ _ ha).mono ?_
  ·have htd:((n:Int)-2).tdiv 3=((n:Int)-2)/3:=Int.tdiv_eq_ediv_of_nonneg (by omega)
   rw[htd,show(ZaI (ZcY (adF nm b)).length:Int)=1 by have:ZaI (ZcY (adF nm b)).length=1:=hpn;omega,IntWalk.i64_in _ (by omega),IntWalk.i64_in _ (by omega)]
   exact Zdf (by omega)
  ·rintro e w' ⟨rfl,hk',hl',hd',ho'⟩
   have htr:ZfB most (ZdH [] (Zax (adF nm b))++[(⟨bb,k2,adF nm b,0+1⟩:ZaP)])=[⟨bb,k2,adF nm b,1⟩]:=by
    simp only[ZdH,List.filter_nil,List.nil_append,ZfB,List.length_singleton]
    exact if_pos (by omega)
   rw[htr] at hca
   exact⟨⟨_,rfl⟩,⟨1,0,_,hk',hca.only ho' (by decide) (by decide) (by decide)⟩,hp.fr.trans (Kfr.only ho' (by decide))⟩
theorem ZdM (w:World):Calls Tryz.prog 6 #[] w fun e w'=>e= .returned (.bool true)∧Below w.heap.size w w':=by
 have HN:=Zhd (ZkO w 8 (by decide) (by decide))
 have hbs:∀ w,(Instr.buildSlice 31 1 #[(0,Value.string ⟨#[97]⟩)]).run Tryz.prog w= .ok (.slice (some ⟨w.heap.size,0,none⟩) 1 1) (w.alloc (.cells #[.string ⟨#[97]⟩] 9)):=fun _=>by kernel_rfl
 go_enter Tryz.func6,Tryz.ntmps6
 go_wp2_with (first
  |(go_at_call 16;refine(ZnB W6 _ E 5 0 1 _ H6.out.1).mono ?_;rintro e W6 ⟨rfl,rfl⟩)
  |(go_at_call 11;refine(ZfO W5 K C L _ no te false false H5.out.1 w.heap.size 5 0 1 [x] H5.out.2.1 (by simp)).mono ?_;rintro e W6 ⟨⟨E,g,rfl,-,hc6⟩,hb6⟩;have H6:=Zhd (Zan hc6 (Zaa H5.out.2.2 hb6 Zlr));clear hc6 hb6)
  |(go_at_call 8;refine(Zl1 W4 w.heap.size K C L D 8 (by decide) (by decide) (H2.out.1.on H4.out.2) H2.out.2.1 (by have:=H2.out.2.2.2.2.2.bel.size;have:=H1.out.2.size;have:=H4.out.2.size;omega) (H2.out.2.2.1.on H4.out.2) (H2.out.2.2.2.1.on H4.out.2) 5 0 (H2.out.2.2.2.2.1.on H4.out.2) (by decide) h _ 1 Zqo H4.out.1).mono ?_;rintro e W5 ⟨rfl,⟨no,te,x,hk5,hc5⟩,hf5⟩;have H5:=Zhd (show Blk W5 K _ _∧IsCache w.heap.size W5 C 5 0 1 [x]∧Below w.heap.size w W5 from⟨hk5,hc5,((H1.out.2.trans H2.out.2.2.2.2.2.bel).trans (H4.out.2.mono (by have:=H2.out.2.2.2.2.2.bel.size;have:=H1.out.2.size;omega))).trans hf5.bel⟩);clear hk5 hc5 hf5)
  |(go_at_call 7;have hst:=Zls (show Blk (W2.alloc (.cells #[.string ⟨#[97]⟩] 9)) W2.heap.size #[.string ⟨#[97]⟩] 9 from Zha W2 _) (by decide);refine(ZgE _ _ 1 1 _ hst.1 hst.2 1).mono ?_;rintro e W4 ⟨⟨h,rfl,hf4⟩,hb4⟩;have H4:=Zhd (Zan hf4 (Zaa ((Below.refl W2.heap.size W2).alloc Zlr _) hb4 Zlr));clear hst hf4 hb4)
  |(go_at_call 5;refine(ZgP W1 D 8 w.heap.size (by decide) H1.out.1 5 0 (by decide) (by decide) (by decide)).mono ?_;rintro e W2 ⟨⟨K,C,L,rfl,hk2,hK2,hc2,hl2⟩,hd2,ho2⟩;have H2:=Zhd (show Blk W2 K _ _∧w.heap.size≤K∧IsLog w.heap.size W2 L D _∧IsDev w.heap.size W2 D _∧IsCache w.heap.size W2 C 5 0 0 []∧Only dvT w.heap.size W1 W2 from⟨hk2,by have:=H1.out.2.size;omega,hl2.mono H1.out.2.size,hd2,ZgF hc2 H1.out.2.size,ho2⟩);clear hk2 hK2 hc2 hl2 hd2 ho2)
  |(go_at_call 4;refine HN.out.mono ?_;rintro e W1 ⟨⟨D,rfl,hd⟩,hb1⟩;have H1:=Zhd (Zan hd hb1);clear hd hb1))
 go_ret
 exact⟨rfl,H6.out.2⟩
inductive Zj4 where
 |put (f:Zas)
 |clock (t:Int)
instance:Inhabited ZaU:=⟨⟨none,0,0,none,0,0,none,0,0,⟨none,0,0,none,0,0,none,0,0,none,0,0,none,0,0⟩⟩⟩
def Zmz (h:ZaU):Zj4→Array Value
 | .put f=>ZbK h f
 | .clock t=>Zar 3 t (.slice none 0 0)
def Zqi (S:Nat→Prop) (w:World) (h:ZaU):Zj4→Prop
 | .put f=>IsFact S w h f
 | .clock _=>True
def ZlS:Kind Zj4 where
 H:=ZaU
 size:=16
 cells:=Zmz
 is:=Zqi
 hsize:=fun _ x=>by cases x<;>rfl
 pos:=by decide
 one:=fun h x u hu=>by
  cases x<;>simp[Zmz,ZbK,Zar] at hu<;>(rcases hu with rfl|rfl|rfl|rfl|rfl|rfl|rfl|rfl|rfl|rfl|rfl|rfl|rfl|rfl|rfl|rfl<;>rfl)
 mono:=fun {S S' w h x} hi hS=>by cases x<;>first|trivial|exact IsFact.mono hi hS
 keep:=fun {S w w' h x} hi hs=>by cases x<;>first|trivial|exact IsFact.keep hi hs
theorem Zo1:∃ (i0:TypeInfo) (z:Value),Tryz.prog.info? 66=some i0∧i0.zero=some z∧i0.size=16∧z.cells.size=16∧i0.bytes≤1000:=by
 obtain⟨i0,hi⟩:∃ i0,Tryz.prog.info? 66=some i0:=Option.isSome_iff_exists.1 (by kernel_rfl)
 have h1:(Tryz.prog.info? 66).map (fun i=>(i.zero.map (·.cells.size),i.size,decide (i.bytes≤1000)))=some (some 16,16,true):=by kernel_rfl
 rw[hi] at h1
 simp at h1
 obtain⟨⟨z,hz,hz2⟩,h2,h3⟩:=h1
 exact⟨i0,z,hi,hz,h2,hz2,h3⟩
structure ZrK (B:Nat) (W:World) (v:Value) (u:List Zj4) (h:ZaU) (x:Zj4) (v':Value) (W':World):Prop where
 run:(Builtin.append_ #[174,174] 174 #[v,.slice (some ⟨W.heap.size,0,none⟩) 1 1]).run Tryz.prog (W.alloc (.cells (Zmz h x) 66))= .ok v' W'
 gath:Gath ZlS (37::fT) 66 B W' v' (u++[x])
 grown:(W.alloc (.cells (Zmz h x) 66)).grownBy W' v.ownBlock
 row:∀ b,v.ownBlock=some b→∃ cs,Blk (W.alloc (.cells (Zmz h x) 66)) b cs 66∧B≤b
theorem Zrm {B:Nat} {W:World} {v:Value} {u:List Zj4} (hB:B≤W.heap.size) (hu:u.length≤900000) (hG:Gath ZlS (37::fT) 66 B W v u) (h:ZaU) (x:Zj4) (hx:Zqi (Zak (37::fT) W) W h x):∃ v' W',ZrK B W v u h x v' W':=by
 have hal:Below W.heap.size W (W.alloc (.cells (Zmz h x) 66)):=Zbr.alloc Zlr _
 obtain⟨i0,z,hi,hz,hs0,hzs,hby⟩:=Zo1
 obtain⟨v',W',hrun,hgath,hgr,hr,_⟩:=(hG.on hal).push (ts:=174) (by decide) i0 z Tryz.underlying174 hi hz hs0 hzs hby (by omega) (by have:=hal.size;omega) h x (ZlS.step hx (Same.below hal _)) ⟨W.heap.size,0,none⟩ 1 (fun j _=>by rw[ZbB,Nat.zero_add];exact World.cell?_alloc_new W _ _ j) 174
 exact⟨v',W',hrun,hgath,hgr,hr⟩
variable {P:Program}
theorem Zhx (w:World) (a:Addr) (ty:TypeId) (cs:Array Value) (d:TypeDesc) (hc:∀ j v,cs[j]?=some v→w.cell? (a.add j)=some v)
  (hu:P.underlying ty=some d) (hd:(match d with| .struct _| .array _ _=>true|_=>false)=true) (hi:(P.info? ty).map (·.size)=some cs.size):
  (loadVar ty a).run P w= .ok (.agg cs) w:=by
 have hl:(loadCells a cs.toList.length).run P w= .ok cs.toList.toArray w:=
  run_loadCells_list (P:=P) w a cs.toList (fun j v hv=>hc j v (by simpa using hv))
 cases hq:P.info? ty with
 |none=>simp[hq] at hi
 |some i=>
  have hs:i.size=cs.size:=by simpa [hq] using hi
  have hagg:(isAgg ty).run P w= .ok true w:=by
   unfold isAgg
   rw[Sem.run_bind,run_underlying hu w]
   cases d<;>simp_all
  simp only[Array.length_toList,Array.toArray_toList] at hl
  simp[loadVar,Sem.run_bind,hagg,sizeOf,typeInfo,hq,hs,hl]
theorem Zdz {ops:Array Oper} {rest:List Oper} {o:Oper} {a:Act} {w:World} {Q:Exit→Act→World→Prop} (hgd:o.guard=none) (ty:TypeId) (x:Operand) (ho:o.op= .load ty x)
  (b off:Nat) (hx:a.eval x= .pointer (some ⟨b,off,none⟩)) (cs:Array Value) (d:TypeDesc) (hc:∀ j v,cs[j]?=some v→w.cell? ⟨b,off+j,none⟩=some v)
  (hu:P.underlying ty=some d) (hd:(match d with| .struct _| .array _ _=>true|_=>false)=true) (hi:(P.info? ty).map (·.size)=some cs.size)
  (h:wpList P ops Q rest (a.put o.dst (.agg cs)) w):wpList P ops Q (o::rest) a w:=
 wpList_plain hgd fun _ hK=>by
  have hl:=Zhx w ⟨b,off,none⟩ ty cs d (fun j v hv=>by
   have hadd:(⟨b,off,none⟩:Addr).add j=⟨b,off+j,none⟩:=by unfold Addr.add;split<;>simp_all
   rw[hadd]
   exact hc j v hv) hu hd hi
  unfold Oper.wp execOp
  simp only[ho,hx,Instr.loadAt,Instr.sureAddr,Sem.run_bind,Sem.run_pure,Result.andThen_ok,hl]
  exact hK _ _ h
theorem ZeA {α:Type} {K:Kind α} {S:Nat→Prop} {w:World} {b off n c k:Nat} {xs:List α} (h:Seq K S w (some ⟨b,off,none⟩) n c xs) (hk:k<xs.length):
  ∃ hh,(∀ j v,(K.cells hh xs[k])[j]?=some v→w.cell? ⟨b,off+k*K.size+j,none⟩=some v)∧K.is S w hh xs[k]:=by
 obtain⟨b',off',e,_,hc⟩:=h.hcells (by have:=h.hlen;omega)
 cases e
 obtain⟨hh,h1,h2⟩:=hc k hk
 refine⟨hh,fun j v hv=>?_,h2⟩
 have hj:j<K.size:=by
  rw[←K.hsize hh xs[k]]
  exact(Array.getElem?_eq_some_iff.1 hv).1
 rw[h1 j hj,hv]
theorem Zdq {ev:Array Value} (h:ev.size=16):(Tryz.prog.info? 66).map (·.size)=some ev.size:=by rw[h];exact Za5
theorem Zkf (W:World) (ev:Array Value):Blk ((W.alloc (.cells (Zar 0 0 (.slice none 0 0)) 66)).setRow W.heap.size ev) W.heap.size ev 66∧Below W.heap.size W ((W.alloc (.cells (Zar 0 0 (.slice none 0 0)) 66)).setRow W.heap.size ev):=by
 have hA:Blk (W.alloc (.cells (Zar 0 0 (.slice none 0 0)) 66)) W.heap.size (Zar 0 0 (.slice none 0 0)) 66:=Zha W _
 have hal:Below W.heap.size W (W.alloc (.cells (Zar 0 0 (.slice none 0 0)) 66)):=Zbr.alloc Zlr _
 exact⟨ZaA hA ev,hal.trans (Zam (Zav _ W.heap.size ev) Zlr hal.size)⟩
theorem ZlB (w:World) (s t:ZaP) (hs:Blk w s.b (Zdb s) 82) (ht:Blk w t.b (Zdb t) 82) (h1:s.used<4000000000000000000) (h2:t.used<4000000000000000000):
  Calls Tryz.prog 33 #[.pointer (some ⟨s.b,0,none⟩),.pointer (some ⟨t.b,0,none⟩)] w fun e w'=>e= .returned (.int .i64 ((s.used:Int)-t.used))∧∃ n,w'=w.drewN n:=by
 have HM0:=Zhd (show w.drew.cell? ⟨s.b,13,none⟩=some (.int .i64 (s.used:Int)) from hs.cell 13)
 have HM1:=Zhd (show w.drew.cell? ⟨t.b,13,none⟩=some (.int .i64 (t.used:Int)) from ht.cell 13)
 clear hs ht
 go_enter Tryz.func33,Tryz.ntmps33
 go_wp2_with fail
 have m0:=HM0.out
 have m1:=HM1.out
 go_region
 go_wp2_with fail
 go_ret
 exact⟨rfl,1,rfl⟩
open Go.ChangeShapes Go.WideShapes Go.ChangeAt Go.RowKit Go.Shelf Go.Sort Go.Lib
abbrev InL (T:List ZaP):={s:ZaP//s∈T}
def Zqe (T:List ZaP) (x:InL T):Value:= .pointer (some ⟨x.1.b,0,none⟩)
def ZhE (T:List ZaP) (x y:InL T):Int:=(x.1.used:Int)-y.1.used
theorem ltU {T:List ZaP} (x y:InL T):ltOf (ZhE T) x y=decide (x.1.used<y.1.used):=by
 have:((x.1.used:Int)-y.1.used<0)↔x.1.used<y.1.used:=by omega
 show decide (((x.1.used:Int)-y.1.used)<0)=_
 exact decide_eq_decide.2 this
theorem ZoD (T:List ZaP):SWO (ltOf (ZhE T)):=by
 refine⟨fun x=>?_,fun x y z h1 h2=>?_,fun x y z h1 h2=>?_⟩
 ·simp[ltU]
 ·simp only[ltU,Zde] at h1 h2⊢;omega
 ·simp only[ltU,decide_eq_false_iff_not] at h1 h2⊢;omega
theorem ZpR {L:List ZaP} (h:L.Pairwise fun a b=>a.used<b.used) {x y:ZaP} (hx:x∈L) (hy:y∈L) (he:x.used=y.used):x=y:=by
 induction L with
 |nil=>cases hx
 |cons a L ih=>
  obtain⟨h1,h2⟩:=List.pairwise_cons.1 h
  rcases List.mem_cons.1 hx with ex|hx'
  ·rcases List.mem_cons.1 hy with ey|hy'
   ·rw[ex,ey]
   ·have:=h1 y hy';rw[←ex] at this;omega
  ·rcases List.mem_cons.1 hy with ey|hy'
   ·have:=h1 x hx';rw[←ey] at this;omega
   ·exact ih h2 hx' hy'
theorem Zlx:∀ {L T:List ZaP},L.Pairwise (fun a b=>a.used<b.used)→T.Pairwise (fun a b=>a.used≤b.used)→T.Perm L→T=L
 |[],T,_,_,hp=>hp.eq_nil
 |a::L,[],_,_,hp=>absurd hp.symm.eq_nil (by simp)
 |a::L,b::T,h1,h2,hp=>by
  obtain⟨p1,p2⟩:=List.pairwise_cons.1 h1
  obtain⟨q1,q2⟩:=List.pairwise_cons.1 h2
  have hb:b∈a::L:=hp.subset (List.mem_cons_self ..)
  have ha:a∈b::T:=hp.symm.subset (List.mem_cons_self ..)
  have e:b=a:=by
   rcases List.mem_cons.1 hb with e|hb'
   ·exact e
   ·rcases List.mem_cons.1 ha with e|ha'
    ·exact e.symm
    ·have:=p1 b hb';have:=q1 a ha';omega
  subst e
  rw[Zlx p2 q2 (List.Perm.cons_inv hp)]
theorem ZfZ {α:Type} [Inhabited α] (enc:α→Value) (w:World) (blk off m:Nat) (dk:Array α) (os:Array Obj) {b:Nat} (hb:b<w.heap.size) (hne:b≠blk):(sortWorld enc w blk off m dk os).heap[b]?=w.heap[b]?:=by
 unfold sortWorld
 rw[heap_grow_old _ _ (by simp[Go.Sort.ahead];exact hb)]
 simp[putRow,mapBlock,Go.Sort.ahead,Array.getElem?_modify,Ne.symm hne]
theorem ZkB (c0:Array Value) (w:World) (L T:List ZaP) (hp:T.Perm L) (hne:T≠[]) (ho:L.Pairwise fun a b=>a.used<b.used) (hu:∀ s∈L,s.used<4000000000000000000) (hI:∀ s∈L,Blk w s.b (Zdb s) 82) (blk cap:Nat) (hblk:blk<w.heap.size) (hsb:∀ s∈L,s.b≠blk) (hsz:T.length<1000000)
  (hB0:Blk w blk c0 79) (hR:∀ i (h:i<T.length),w.cell? ⟨blk,0+i,none⟩=some (.pointer (some ⟨T[i].b,0,none⟩))∧w.frozen? ⟨blk,0+i,none⟩=false):
  Calls Tryz.prog 32 #[.slice (some ⟨blk,0,none⟩) T.length cap,.func (.func 33) #[] #[]] w fun e w'=>e= .returned (.tuple #[])∧(∀ i (h:i<L.length),w'.cell? ⟨blk,0+i,none⟩=some (.pointer (some ⟨L[i].b,0,none⟩)))∧w.grownBy w' (some blk)∧∃ c1,Blk w' blk c1 79:=by
 haveI:Inhabited (InL T):=⟨⟨T.head hne,List.head_mem hne⟩⟩
 have hd:(T.attach.toArray).size=T.length:=by simp
 have hH:Holds (Zqe T) w blk 0 T.attach.toArray:=fun j hj=>by
  rw[hd] at hj
  have h1:=hR j hj
  rw[getElem!_pos _ j (by simpa using hj)]
  simpa [Zqe] using h1
 have h:=Any.slices_SortFunc_total Tryz.sortF (Zqe T) (fun _=>rfl) (ZhE T) (ZoD T) 33 #[] blk 0 cap T.attach.toArray w (enters_of Tryz.func33 (by kernel_rfl) rfl)
  (CmpReads.lays (fun m os dk hs x y=>by
   have hx:=hp.subset x.2
   have hy:=hp.subset y.2
   have bx:Blk (sortWorld (Zqe T) w blk 0 m dk os) x.1.b (Zdb x.1) 82:=(ZfZ _ _ _ _ _ _ _ (hI _ hx).lt (hsb _ hx)).trans (hI _ hx)
   have by_:Blk (sortWorld (Zqe T) w blk 0 m dk os) y.1.b (Zdb y.1) 82:=(ZfZ _ _ _ _ _ _ _ (hI _ hy).lt (hsb _ hy)).trans (hI _ hy)
   exact ZlB _ x.1 y.1 bx by_ (hu _ hx) (hu _ hy)))
  hH hblk (by rw[hd];omega) (fun x y h1 h2=>Subtype.ext (ZpR ho (hp.subset x.2) (hp.subset y.2) (by simp only[ltU,decide_eq_false_iff_not] at h1 h2;omega)))
 rw[hd] at h
 change Calls Tryz.prog 32 _ _ _ at h
 refine h.mono ?_
 rintro e w' ⟨he,n,os,hw⟩
 have hsorted:=List.pairwise_mergeSort (le:=fun x y:InL T=> !(ltOf (ZhE T)) y x) (fun x y z h1 h2=>by simp only[ltU,Bool.not_eq_true',decide_eq_false_iff_not] at h1 h2⊢;omega) (fun x y=>by simp only[ltU,Bool.or_eq_true,Bool.not_eq_true',decide_eq_false_iff_not];omega) T.attach
 have hperm:=List.mergeSort_perm T.attach (fun x y:InL T=> !(ltOf (ZhE T)) y x)
 have hL:(T.attach.mergeSort fun x y:InL T=> !(ltOf (ZhE T)) y x).map (·.1)=L:=by
  refine Zlx ho ?_ (((hperm.map (·.1)).trans (by simp)).trans hp)
  refine List.pairwise_map.2 (hsorted.imp fun {x y} hxy=>?_)
  simp only[ltU,Bool.not_eq_true',decide_eq_false_iff_not] at hxy;omega
 have hlen:=congrArg List.length hL
 rw[List.length_map] at hlen
 refine⟨he,fun i hi=>?_,⟨by rw[hw];rfl,by rw[hw];rfl,by rw[hw];rfl,?_,fun b hb hne=>?_⟩,?_⟩
 ·rw[hw]
  have hh:=(holds_sortWorld (Zqe T) w blk 0 n T.attach.toArray (T.attach.mergeSort fun x y:InL T=> !(ltOf (ZhE T)) y x).toArray os hblk hH (by simp)) i (by simp at hlen⊢;omega)
  have hi':i<(T.attach.mergeSort fun x y:InL T=> !(ltOf (ZhE T)) y x).length:=by omega
  rw[getElem!_pos _ i (by simpa using hi')] at hh
  have hLi:L[i]=((T.attach.mergeSort fun x y:InL T=> !(ltOf (ZhE T)) y x)[i]'hi').1:=by
   simp only[←hL,List.getElem_map]
  rw[hLi]
  have:=hh.1
  simpa [Zqe] using this
 ·rw[hw];exact SW.le ⟨n,_,rfl⟩
 ·rw[hw];exact ZfZ _ _ _ _ _ _ _ hb (fun e=>hne (by rw[e]))
 ·refine⟨putCells (Zqe T) 0 (T.attach.mergeSort fun x y:InL T=> !(ltOf (ZhE T)) y x).toArray c0,?_⟩
  rw[hw]
  show(sortWorld _ _ _ _ _ _ _).heap[blk]?=_
  unfold sortWorld
  rw[heap_grow_old _ _ (by simp[Go.Sort.ahead];exact hblk)]
  have hB0':w.heap[blk]?=some (.cells c0 79 (0,0)):=hB0
  simp[putRow,mapBlock,Go.Sort.ahead,Array.getElem?_modify,hB0',onCells]
def ZpC:Kind ZaP where
 H:=Unit
 size:=1
 cells:=fun _ s=>#[.pointer (some ⟨s.b,0,none⟩)]
 is:=fun _ _ _ _=>True
 hsize:=fun _ _=>rfl
 pos:=by decide
 one:=fun h x u hu=>by
  simp at hu
  rw[hu];rfl
 mono:=fun h _=>h
 keep:=fun h _=>h
def ZjJ (L:List ZaP) (left:Lit→Bool):List ZaP:=L.filter fun s=> !left (.string (Zax s.f))
theorem Zoj {L:List ZaP} {left:Lit→Bool} (hk:L.Pairwise fun a b=>Zax a.f≠Zax b.f) {s:ZaP} (hs:s∈L) (hl:left (.string (Zax s.f))=true) {T:List ZaP} (hT:T.Perm (ZjJ L left)):
  (T++[s]).Perm (ZjJ L (fun q=>left q&& !q.sameKey (.string (Zax s.f)))):=by
 refine(hT.append_right [s]).trans ?_
 clear hT
 simp only[ZjJ]
 induction L with
 |nil=>cases hs
 |cons a L ih=>
  obtain⟨h1,h2⟩:=List.pairwise_cons.1 hk
  rcases List.mem_cons.1 hs with e|hs'
  ·subst e
   have hsame:∀ t∈L,(!(left (.string (Zax t.f))&& !(Lit.string (Zax t.f)).sameKey (.string (Zax s.f))))= !left (.string (Zax t.f)):=fun t ht=>by
    rw[Zbb]
    have: ¬Zax t.f=Zax s.f:=fun e=>h1 t ht e.symm
    simp[this]
   have e1:(!left (.string (Zax s.f)))=false:=by simp[hl]
   have e2:(!(left (.string (Zax s.f))&& !(Lit.string (Zax s.f)).sameKey (.string (Zax s.f))))=true:=by rw[Zbb];simp
   simp only[List.filter_cons,e1,e2,if_true,Bool.false_eq_true,if_false]
   rw[List.filter_congr hsame]
   exact List.perm_append_singleton _ _
  ·have ih:=ih h2 hs'
   have hne: ¬Zax a.f=Zax s.f:=h1 s hs'
   have hsk:(Lit.string (Zax a.f)).sameKey (.string (Zax s.f))=false:=by rw[Zbb];simp[hne]
   cases hla:left (.string (Zax a.f)) with
   |true=>
    simp only[List.filter_cons,hla,hsk,Bool.not_true,Bool.not_false,Bool.and_self,Bool.false_eq_true,if_false]
    exact ih
   |false=>
    simp only[List.filter_cons,hla,hsk,Bool.not_false,Bool.false_and,if_true,List.cons_append]
    exact ih.cons a
theorem ZpK {L:List ZaP} {left:Lit→Bool} (h:∀ kl,left kl=false):ZjJ L left=L:=List.filter_eq_self.2 fun s _=>by simp[h]
theorem Zoi {L:List ZaP} {left:Lit→Bool} (h:∀ s∈L,left (.string (Zax s.f))=true):ZjJ L left=[]:=by
 rw[ZjJ,List.filter_eq_nil_iff]
 intro s hs;simp[h s hs]
theorem ZpD:∃ (i0:TypeInfo) (z:Value),Tryz.prog.info? 79=some i0∧i0.zero=some z∧i0.size=1∧z.cells.size=1∧i0.bytes≤1000:=by
 have h:(Tryz.prog.info? 79).map (fun i=>(i.zero.map (·.cells.size),i.size,decide (i.bytes≤1000)))=some (some 1,1,true):=by kernel_rfl
 obtain⟨i0,hi,hii⟩:=Option.map_eq_some_iff.1 h
 simp only[Prod.mk.injEq,Zde] at hii
 obtain⟨z,hz,hzs⟩:=Option.map_eq_some_iff.1 hii.1
 exact⟨i0,z,hi,hz,hii.2.1,hzs,hii.2.2⟩
structure AlSt (w wr:World) (M r n:Nat) (D:DataW Unit) (L:List ZaP) (left:Lit→Bool) (cnt:Nat) (v:Value):Prop where
 rg:wr.ranges Tryz.prog 9 Zgj M r n D left cnt
 bel:Below w.heap.size w wr
 row:∃ T:List ZaP,T.Perm (ZjJ L left)∧Gath ZpC [] 79 w.heap.size wr v T
theorem ZkC (w:World) (B:Nat) (v:Value) (L T:List ZaP) (hp:T.Perm L) (hG:Gath ZpC [] 79 B w v T) (ho:L.Pairwise fun a b=>a.used<b.used) (hu:∀ s∈L,s.used<4000000000000000000) (hI:∀ s∈L,Blk w s.b (Zdb s) 82) (hsz:L.length<100000) (hBw:B≤w.heap.size):
  Calls Tryz.prog 32 #[v,.func (.func 33) #[] #[]] w fun e w'=>e= .returned (.tuple #[])∧(∃ ao c,v= .slice ao L.length c∧Seq ZpC (Zak [79] w') w' ao L.length c L)∧Below B w w':=by
 have hlen:=hp.length_eq
 obtain⟨cs,⟨hl,ho1⟩,hcs⟩:=hG
 rcases ho1 with⟨rfl,h0⟩|⟨g,cap,cur,rfl,hg,hh,hn,hc,hs,ht⟩
 ·have hT0:T=[]:=List.eq_nil_of_length_eq_zero h0
  subst hT0
  have hL0:L=[]:=List.eq_nil_of_length_eq_zero hlen.symm
  subst hL0
  have h:=AnyF.slices_SortFunc_none {Tryz.sortF with} none 0 (.func (.func 33) #[] #[]) w
  change Calls Tryz.prog 32 _ _ _ at h
  refine h.mono ?_
  rintro e w' ⟨he,rfl⟩
  exact⟨he,⟨none,0,rfl,Seq.nil _ _ (by omega) (fun _=>rfl)⟩,Below.refl _ _⟩
 ·by_cases hT1:T=[]
  ·subst hT1
   have hL0:L=[]:=List.eq_nil_of_length_eq_zero hlen.symm
   subst hL0
   have h:=AnyF.slices_SortFunc_none {Tryz.sortF with} (some ⟨g,0,none⟩) cap (.func (.func 33) #[] #[]) w
   change Calls Tryz.prog 32 _ _ _ at h
   refine h.mono ?_
   rintro e w' ⟨he,rfl⟩
   exact⟨he,⟨_,cap,rfl,Seq.nil _ _ (by unfold maxLen at hc;omega) (fun e=>by cases e)⟩,Below.refl _ _⟩
  ·have hB0:Blk w g cur 79:=hh
   have hsb:∀ s∈L,s.b≠g:=fun s hs e=>by
    have h1:w.heap[s.b]?=_:=hI s hs
    rw[e,hh] at h1
    simp at h1
   refine(ZkB cur w L T hp hT1 ho hu hI g cap hB0.lt hsb (by omega) hB0 (fun i hi=>?_)).mono ?_
   ·obtain⟨_,k1,_⟩:=hcs i hi
    have k2:=k1 0 (by decide)
    refine⟨?_,hB0.free _⟩
    rw[Nat.zero_add,Lib.cell_of_heap hh,←Array.getElem?_toList]
    have k3:cs[i]?=some (.pointer (some ⟨T[i].b,0,none⟩)):=by simpa [ZpC] using k2
    rw[←ht,List.getElem?_take,if_pos (by simp[ZpC];omega)] at k3
    exact k3
   ·rintro e w' ⟨he,hcell,hgr,c1,hc1⟩
    refine⟨he,⟨_,cap,by rw[hlen],⟨rfl,by omega,(by unfold maxLen at hc;omega),fun e=>(by cases e),fun h0=>⟨g,0,rfl,⟨_,_,hc1,List.mem_cons_self⟩,fun i hi=>⟨(),fun j hj=>?_,trivial⟩⟩⟩⟩,Zbr.grown hgr hBw (fun k e=>by cases e;exact hg)⟩
    have hj0:j=0:=by have:j<1:=hj;omega
    subst hj0
    have:=hcell i hi
    simpa [ZpC] using this
structure ZrI (w wr:World) (ao:Option Addr) (c:Nat) (L:List ZaP) (v:Value) (j:Nat):Prop where
 bel:Below w.heap.size w wr
 keys:Seq ZpC (Zak [79] wr) wr ao L.length c L
 out:Gath Zht fT 37 w.heap.size wr v ((L.take j).map (·.f))
theorem Zne:∃ (i0:TypeInfo) (z:Value),Tryz.prog.info? 37=some i0∧i0.zero=some z∧i0.size=13∧z.cells.size=13∧i0.bytes≤1000:=by
 have h:(Tryz.prog.info? 37).map (fun i=>(i.zero.map (·.cells.size),i.size,decide (i.bytes≤1000)))=some (some 13,13,true):=by kernel_rfl
 obtain⟨i0,hi,hii⟩:=Option.map_eq_some_iff.1 h
 simp only[Prod.mk.injEq,Zde] at hii
 obtain⟨z,hz,hzs⟩:=Option.map_eq_some_iff.1 hii.1
 exact⟨i0,z,hi,hz,hii.2.1,hzs,hii.2.2⟩
theorem ZmJ (w:World) (B C:Nat) (most stale:Int) (k:Nat) (L:List ZaP) (hC:IsCache B w C most stale k L) (hk:k<4000000000000000000) (hL:L.length<100000):
  Calls Tryz.prog 12 #[.pointer (some ⟨C,0,none⟩)] w fun e w'=>(∃ ao c,e= .returned (.slice ao L.length c)∧Seq Zht (Zak (37::fT) w') w' ao L.length c (L.map (·.f))∧∀ a,ao=some a→w.heap.size≤a.block)∧Below w.heap.size w w':=by
 obtain⟨M,hCb,hMB,hML⟩:=hC.ex
 have m2:w.cell? ⟨C,2,none⟩=some (.map (some M)):=hCb.cell 2
 have HLN:=Zhd (Zan hk hL)
 clear hL hk
 obtain⟨n,D,h1,h2,h3,h4⟩:=hML
 have HC:=Zhd (Zan hC (Zan hCb (Zan hMB (Zan h2 (Zan h3 h4)))))
 have HO:=Zhd h1
 clear hC hCb hMB h1 h2 h3 h4
 go_enter Tryz.func12,Tryz.ntmps12
 go_wp2_with (at_range;go_loud (refine wpList_range_own _ rfl _ 76 rfl 9 79 Zj2 Tryz.underlying76 Zgj M n D rfl HO.out ?_;intro W6 hrg0 hg0 hs0))
 try go_frame
 clear m2
 have hb6:Below w.heap.size w W6:=Zbr.grown hg0 Zlr (fun k e=>by cases e)
 have HST:Hid (AlSt w W6 M w.heap.size n D L (Maps.has D) (Maps.size D) (.slice none 0 0)):=Zhd (by
  have hall:∀ s∈L,Maps.has D (.string (Zax s.f))=true:=fun s hs=>by
   have:=HC.out.2.2.2.2.2 (Zax s.f)
   rw[ZbX HC.out.1.keys hs] at this
   exact Maps.has_true_of_atKey this
  exact⟨hrg0,hb6,[],by rw[Zoi hall],Gath.nil _ _ _ _ _⟩)
 clear hrg0 hg0 hs0 hb6
 go_loopw [3] (fun v wr=>Hid (∃ left cnt,AlSt w wr M w.heap.size n D L left cnt v)) (fun _ wr=>wr.rangeLeft M w.heap.size)
 case atStart=>exact Zhd ⟨_,_,HST.out⟩
 case round=>
  obtain⟨left,cnt,hst⟩:=hrel.out
  have HF:=Zhd hst
  clear hrel hst
  go_wp2_with (at_next;refine wpList_next_ranges _ rfl _ rfl 9 Zj2 Zgj Value.string ZoK ZkD ZfR M w.heap.size n D left cnt rfl HF.out.rg ?_ ?_)
  ·intro hc0 hl0
   obtain⟨T,hT,hrow⟩:=HF.out.row
   rw[ZpK hl0] at hT
   have HSR:=Zhd (ZkC wr w.heap.size u3 L T hT hrow HC.out.1.order (fun s hs=>by have:=HC.out.1.used s hs;have:=HLN.out.1;omega) (fun s hs=>(HC.out.1.slot s hs).2.1.on HF.out.bel) HLN.out.2 HF.out.bel.size)
   obtain⟨ao0,c0,hv0,-,-⟩:=hrow.seq
   rw[hT.length_eq] at hv0
   clear hl0 hT hrow
   subst hv0
   go_wp2_with (go_at_call 32;go_loud (refine HSR.out.mono ?_;rintro e W2 ⟨rfl,⟨ao,c,hv,hsq⟩,hb2⟩;injection hv with hv1 hv2 hv3;clear hv2;have HSQ:=Zhd (show Seq ZpC (Zak [79] W2) W2 ao0 L.length c0 L from by rw[hv1,hv3];exact hsq);have HB2:=Zhd (show Below w.heap.size w W2 from HF.out.bel.trans hb2);clear hsq hb2 hv1 hv3))
   have hLL:L.length<9223372036854775807:=by have:=HLN.out.2;omega
   obtain⟨m,hm⟩:∃ m,m=L.length:=⟨_,rfl⟩
   have HM:=Zhd hm
   rw[←hm] at HSQ hLL⊢
   clear hm
   have HA2:Hid (ZrI w W2 ao0 c0 L (.slice none 0 0) 0):=Zhd ⟨HB2.out,by rw[←HM.out];exact HSQ.out,Gath.nil _ _ _ _ _⟩
   clear HSR
   go_loopw [6,28] (fun v i wr=>∃ j:Nat,j≤m∧i= .int .i64 j∧Hid (ZrI w wr ao0 c0 L v j)) (fun _ i _=>m-(intOf i).toNat)
   case atStart=>exact⟨0,Nat.zero_le _,rfl,HA2⟩
   case round=>
    rename World=>w3
    obtain⟨j,hj,rfl,hinv⟩:=hrel
    by_cases hlt:j<m
    ·have hjL:j<L.length:=by rw[←HM.out];exact hlt
     obtain⟨b0,off,rfl⟩:=HSQ.out.addr hlt
     obtain⟨s,hs⟩:∃ s,s=L[j]:=⟨_,rfl⟩
     obtain⟨uu,hc,-⟩:=hinv.out.keys.at hjL
     have hc0:=hc 0 (by decide)
     rw[←hs] at hc0
     have q:w3.cell? ⟨b0,off+j,none⟩=some (.pointer (some ⟨s.b,0,none⟩)):=by simpa [ZpC] using hc0
     have hsl:=HC.out.1.slot s (by rw[hs];exact List.getElem_mem _)
     have hit:=hsl.2.1.on hinv.out.bel
     have HF3:=Zhd (Zan (hsl.2.2.1.on hinv.out.bel) hsl.2.2.2.2)
     have HTK:=Zhd (show(L.take j).map (·.f)++[s.f]=(L.take (j+1)).map (·.f) by rw[List.take_succ_eq_append_getElem hjL,List.map_append,hs];rfl)
     have HJ:=Zhd (show((L.take j).map (·.f)).length≤1000000 by have:=HLN.out.2;rw[List.length_map,List.length_take];omega)
     have q0:w3.cell? ⟨s.b,0,none⟩=some (.slice s.h.na s.h.nl s.h.nc):=hit.cell 0
     have q1:w3.cell? ⟨s.b,1,none⟩=some (.int .i64 s.f.typ):=hit.cell 1
     have q2:w3.cell? ⟨s.b,2,none⟩=some (.int .i64 s.f.kind):=hit.cell 2
     have q3:w3.cell? ⟨s.b,3,none⟩=some (.int .i64 s.f.rank):=hit.cell 3
     have q4:w3.cell? ⟨s.b,4,none⟩=some (.int .i64 s.f.got):=hit.cell 4
     have q5:w3.cell? ⟨s.b,5,none⟩=some (.int .i64 s.f.ttl):=hit.cell 5
     have q6:w3.cell? ⟨s.b,6,none⟩=some (.slice s.h.sa s.h.sl s.h.sc):=hit.cell 6
     have q7:w3.cell? ⟨s.b,7,none⟩=some (.slice s.h.za s.h.zl s.h.zc):=hit.cell 7
     have q8:w3.cell? ⟨s.b,8,none⟩=some (.slice s.h.d.ba s.h.d.bl s.h.d.bc):=hit.cell 8
     have q9:w3.cell? ⟨s.b,9,none⟩=some (.slice s.h.d.ha s.h.d.hl s.h.d.hc):=hit.cell 9
     have q10:w3.cell? ⟨s.b,10,none⟩=some (.slice s.h.d.ma s.h.d.ml s.h.d.mc):=hit.cell 10
     have q11:w3.cell? ⟨s.b,11,none⟩=some (.slice s.h.d.na s.h.d.nl s.h.d.nc):=hit.cell 11
     have q12:w3.cell? ⟨s.b,12,none⟩=some (.slice s.h.d.ta s.h.d.tl s.h.d.tc):=hit.cell 12
     clear hs hc hc0 hsl hit hjL uu
     have HOW:=Zhd (Zgp w3 _ s.h s.f HF3.out.1 HF3.out.2)
     simp only[Zaj] at HOW
     go_wp2_with fail
     clear q q0 q1 q2 q3 q4 q5 q6 q7 q8 q9 q10 q11 q12
     refine HOW.out.mono ?_
     rintro e w5 ⟨⟨kn,rfl,hkn⟩,hb5⟩
     have hal:Below w5.heap.size w5 (w5.alloc (.cells (Zaj kn s.f) 37)):=Zbr.alloc Zlr _
     have hbw:Below w3.heap.size w3 (w5.alloc (.cells (Zaj kn s.f) 37)):=Zaa hb5 hal Zlr
     have hko:=hkn.on hal
     obtain⟨i0,z,hi,hz,hs0,hzs,hby⟩:=Zne
     obtain⟨v',w6,hrun,hgath,hgr,hrow,_⟩:=(hinv.out.out.on hbw).push (ts:=41) (by decide) i0 z Tryz.underlying41 hi hz hs0 hzs hby HJ.out (by have:=hinv.out.bel.size;have:=hbw.size;omega) kn s.f (hko.mono (fun b _ ht=>ht.1)) ⟨w5.heap.size,0,none⟩ 1 (fun j _=>by rw[ZbB,Nat.zero_add];exact World.cell?_alloc_new w5 _ _ j) 41
     rw[HTK.out] at hgath
     have HST:=Zhd (show ZrI w w6 (some ⟨b0,off,none⟩) c0 L v' (j+1) from⟨(Zaa hinv.out.bel hbw Zlr).grown hgr (Zaa hinv.out.bel hbw Zlr).size (fun b e=>(hrow b e).elim fun _ h=>h.2),((hinv.out.keys.on hbw).mono (fun b hb ht=>Zbt (w:=w3) ht (hbw.block b (ZdI ht)))).step (Same.grown hgr (fun b ht e=>by
      obtain⟨cs,hB,_⟩:=hrow b e.symm
      exact Zbe hB (by decide) ht rfl)),hgath⟩)
     have HRUN:=Zhd hrun
     clear hal hbw hko hi hz hs0 hzs hby hrun hgath hgr hrow hkn hb5 HOW
     simp only[Zaj] at HRUN
     go_wp2_with (at_builtin;refine Zao rfl _ _ _ rfl _ _ rfl rfl HRUN.out ?_)
     go_roundw
     case rel=>exact⟨j+1,by omega,by go_num,HST⟩
     case measure=>simp[intOf];omega
    ·obtain rfl:j=m:=by omega
     have HE:=Zhd hinv.out
     clear hinv
     obtain⟨ao,c,hv,hsq,hba⟩:=HE.out.out.seq
     have hln:((L.take j).map (·.f)).length=L.length:=by rw[List.length_map,List.length_take,←HM.out];omega
     have htk:(L.take j).map (·.f)=L.map (·.f):=by rw[HM.out,List.take_length]
     rw[hln] at hv hsq
     rw[htk] at hsq
     have HR:=Zhd (Zan hsq hba)
     clear hln htk hsq hba
     subst hv
     go_wp2_with fail
     go_ret
     exact⟨⟨_,_,rfl,HR.out.1,HR.out.2⟩,HE.out.bel⟩
  ·intro x o kl y1 y2 w1 cnt1 hxk hlk hRy hat hrg1 hlt hg1 hs1 hen
   obtain rfl:=Ze8 hxk
   obtain⟨s,hsL,rfl,hxs⟩:=Zku (y:=(y1,y2)) HC.out.2.2.2.2.2 hRy hat
   simp only[ZoK] at hen⊢
   have hbw1:Below w.heap.size w w1:=HF.out.bel.grown hg1 HF.out.bel.size (fun k e=>by cases e;exact Nat.le_refl _)
   have hic:=ZeE HF.out.rg
   obtain⟨T,hT,hrow⟩:=HF.out.row
   have hlk':left (.string (Zax s.f))=true:=by rw[←hxs];exact hlk
   have hp:=Zoj HC.out.1.keys hsL hlk' hT
   rw[←hxs] at hp
   have hlenT:T.length≤1000000:=by
    have h1:=hT.length_eq
    have h2:(ZjJ L left).length≤L.length:=List.length_filter_le _ _
    have:=HLN.out.2
    omega
   have hrow1:=hrow.step (Same.grown hg1 (fun b hb e=>by
    have e:=Zsi e
    obtain⟨cs,t,h,_⟩:=hb
    subst e
    exact hic.1 _ _ _ h))
   have hal:Below w1.heap.size w1 (w1.alloc (.cells #[.pointer (some ⟨s.b,0,none⟩)] 79)):=Zbr.alloc Zlr _
   obtain⟨i0,z,hi,hz,hs0,hzs,hby⟩:=ZpD
   obtain⟨v',w6,hrun,hgath,hgr,hrw,_⟩:=(hrow1.on hal).push (ts:=75) (by decide) i0 z Tryz.underlying75 hi hz hs0 hzs hby hlenT (by have:=hbw1.size;have:=hal.size;omega) () s trivial ⟨w1.heap.size,0,none⟩ 1 (fun j _=>by rw[ZbB,Nat.zero_add];exact World.cell?_alloc_new w1 _ _ j) 75
   have HRUN:=Zhd hrun
   have HPP:=Zhd (Zan hp (Zan hgath (Zan hgr hrw)))
   have HB1:=Zhd (Zan hbw1 hal)
   have HR1:=Zhd (Zan hrg1 hlt)
   clear hxk hlk hRy hat hrg1 hlt hg1 hs1 hsL hxs hic hbw1 hal hrun hgath hgr hrw hp hT hrow hrow1 hlk' hi hz hs0 hzs hby
   go_wp2_with (at_builtin;refine Zao rfl _ _ _ rfl _ _ rfl rfl HRUN.out ?_)
   have hM1:(w1.alloc (.cells #[.pointer (some ⟨s.b,0,none⟩)] 79)).heap[M]?=w1.heap[M]?:=HB1.out.2.block M HR1.out.1.owns.lt
   have hr1:(w1.alloc (.cells #[.pointer (some ⟨s.b,0,none⟩)] 79)).heap[w.heap.size]?=w1.heap[w.heap.size]?:=HB1.out.2.block _ HR1.out.1.lt
   have hrg6:=ZcO HR1.out.1 (w':=w6) ((HPP.out.2.2.1.block M (by have:=HR1.out.1.owns.lt;have:=HB1.out.2.size;omega) (fun e=>by
     obtain⟨cs,hB,_⟩:=HPP.out.2.2.2 M e.symm
     obtain⟨es,clock,h,_⟩:=HR1.out.1.owns
     have hB':_=_:=hB
     rw[hM1,h] at hB'
     cases hB')).trans hM1) ((HPP.out.2.2.1.block _ (by have:=HR1.out.1.lt;have:=HB1.out.2.size;omega) (fun e=>by
     obtain⟨cs,hB,_⟩:=HPP.out.2.2.2 _ e.symm
     have hB':_=_:=hB
     rw[hr1] at hB'
     exact(ZeE HR1.out.1).1 _ _ _ hB')).trans hr1)
   have HG6:=Zhd hrg6
   clear hrg6 hM1 hr1
   go_roundw
   case rel=>
    have hx:=Zaa HB1.out.1 HB1.out.2 Zlr
    have hy:=hx.grown HPP.out.2.2.1 hx.size (fun b e=>(HPP.out.2.2.2 b e).elim fun _ h=>h.2)
    exact Zhd ⟨_,_,HG6.out,hy,⟨_,HPP.out.1,HPP.out.2.1⟩⟩
   case measure=>rw[HG6.out.left_eq,HF.out.rg.left_eq];exact HR1.out.2
def Zhs:Zj4→List UInt8
 | .put f=>ZcY f
 | .clock t=>Zbq t
def Zj3:Zj4→Prop
 | .put f=>Zh6 f=0
 | .clock t=>Za6 t=true∧Za2 t 7=true
theorem Zna {w:World} {h:ZaU} {x:Zj4} (hx:Zqi (Zak eT w) w h x) (hok:Zj3 x):RecIs w (Zmz h x) (Zhs x):=by
 cases x with
 |put f=>exact Zn7 w h f hx hok
 |clock t=>exact Zjy w t hok.1 hok.2
theorem Zke {x:Zj4} (h:Zj3 x):1≤(Zhs x).length∧(Zhs x).length≤16384:=by
 cases x with
 |put f=>exact⟨(ZdX (Zdw (Zef h).1)).2,(Zef h).2⟩
 |clock t=>show 1≤(Zbq t).length∧(Zbq t).length≤16384;rw[ZbN];omega
def ZcJ (Ls:List ZaP) (no:Int):List Zj4:=Ls.map (fun s=>Zj4.put s.f)++[.clock no]
theorem Zor {bs:List (List UInt8)} (h:∀ b∈bs,b.length≤16384):ZeQ bs≤bs.length*34:=by
 induction bs with
 |nil=>simp[ZeQ]
 |cons b bs ih=>
  have h1:=Zpv (h b List.mem_cons_self)
  have h2:=ih (fun x hx=>h x (List.mem_cons_of_mem _ hx))
  simp only[ZeQ,List.map_cons,List.sum_cons,List.length_cons] at h2⊢
  omega
theorem ZjP (bs:List (List UInt8)) {n:Nat} (h:n<bs.length):ZeQ (bs.take (n+1))=ZeQ (bs.take n)+pN bs[n]:=by
 rw[List.take_succ_eq_append_getElem h,ZgB]
 simp[ZeQ]
theorem ZkX (w:World) (K C L:Nat) (pl no te:Int) (me dn:Bool) (hK:Blk w K (ZaQ C L pl no te me dn) 62) (cB:Nat) (most stale:Int) (kk:Nat) (Ls:List ZaP) (hC:IsCache cB w C most stale kk Ls) (hkk:kk<4000000000000000000) (hL:Ls.length≤5000) (hok:∀ x∈ZcJ Ls no,Zj3 x):
  Calls Tryz.prog 116 #[.pointer (some ⟨K,0,none⟩)] w fun e w'=>(∃ ao c,e= .returned (.tuple #[.slice ao (ZcJ Ls no).length c,.int .i64 (ZeQ ((ZcJ Ls no).map Zhs):Int)])∧Seq ZlS (Zak eT w') w' ao (ZcJ Ls no).length c (ZcJ Ls no))∧Below w.heap.size w w':=by
 have HA:=Zhd (ZmJ w cB C most stale kk Ls hC hkk (by omega))
 have c0:w.cell? ⟨K,0,none⟩=some (.pointer (some ⟨C,0,none⟩)):=hK.cell 0
 have HK:=Zhd (Zan hK hok)
 obtain⟨m,hm⟩:∃ m,m=Ls.length:=⟨_,rfl⟩
 rw[←hm] at HA hL
 have HM:=Zhd hm
 clear hK hC hkk hok hm
 go_enter Tryz.func116,Tryz.ntmps116
 go_wp2_with (go_at_call 12;refine HA.out.mono ?_;rintro e W1 ⟨⟨ao,c,rfl,hs,-⟩,hb⟩;have H1:=Zhd (Zan hs hb);clear hs hb;(try simp))
 go_loopw [2,17] (fun s i wr=>∃ n:Nat,n≤m∧i= .int .i64 (n:Int)∧Hid (Gath ZlS (37::fT) 66 w.heap.size wr s ((ZcJ Ls no).take n)∧Below w.heap.size w wr∧Seq Zht (Zak (37::fT) wr) wr ao m c (Ls.map (·.f)))) (fun _ i _=>m-(intOf i).toNat)
 case atStart=>exact⟨0,Nat.zero_le _,rfl,Zhd ⟨Gath.nil _ _ _ _ _,H1.out.2,H1.out.1⟩⟩
 case round=>
  obtain⟨n,hn,rfl,hinv⟩:=hrel
  rename Value=>sv
  by_cases hlt:n<m
  ·obtain⟨b,off,rfl⟩:=hinv.out.2.2.addr (k:=n) hlt
   have hnl:n<(Ls.map (·.f)).length:=by rw[List.length_map,←HM.out];exact hlt
   obtain⟨h,hcs,hf⟩:=ZeA hinv.out.2.2 hnl
   obtain⟨f,hfe⟩:∃ f,f=(Ls.map (·.f))[n]:=⟨_,rfl⟩
   rw[←hfe] at hcs hf
   have hal:Below wr.heap.size wr (wr.alloc (.cells (Zaj h f) 37)):=Zbr.alloc Zlr _
   have hw1:(wr.alloc (.cells (Zaj h f) 37)).heap.size=wr.heap.size+1:=by simp
   have hwz:=hinv.out.2.1.size
   obtain⟨v',W2,hp⟩:=Zrm (B:=w.heap.size) (W:=wr.alloc (.cells (Zaj h f) 37)) (by omega) (by simp;omega) (hinv.out.1.on hal) h (.put f) (Zht.step (x:=f) hf (Same.below hal _))
   have hon:=ZcB (S:=[66]) hp.grown hp.row (by decide) (by simp;omega)
   have hal2:=hal.trans (((Below.refl _ (wr.alloc (.cells (Zaj h f) 37))).alloc Zlr (.cells (Zmz h (.put f)) 66)).mono hal.size)
   have hrun:=hp.run
   rw[hw1] at hrun
   have htk:(ZcJ Ls no).take n++[Zj4.put f]=(ZcJ Ls no).take (n+1):=by
    have hl2:n<(ZcJ Ls no).length:=by rw[ZcJ,Zla,List.length_map,←HM.out];omega
    rw[List.take_succ_eq_append_getElem hl2]
    congr 2
    rw[hfe]
    simp only[ZcJ,List.getElem_map]
    rw[List.getElem_append_left (by rw[List.length_map,←HM.out];exact hlt),List.getElem_map]
   have hgt:=hp.gath
   rw[htk] at hgt
   have HP:=Zhd (Zan hgt (Zan hon hal2))
   have HC:=Zhd hcs
   have HRUN:=Zhd hrun
   clear hcs hf hal hw1 hwz hp hon hal2 hrun htk hgt hfe hnl
   simp only[Zaj,Zmz,ZbK] at HRUN
   go_wp2_with (first
    |(at_builtin;refine Zao rfl _ _ _ rfl _ _ rfl rfl HRUN.out ?_)
    |(refine Zdz rfl 37 _ rfl b (off+n*13) rfl #[.slice h.na h.nl h.nc,.int .i64 f.typ,.int .i64 f.kind,.int .i64 f.rank,.int .i64 f.got,.int .i64 f.ttl,.slice h.sa h.sl h.sc,.slice h.za h.zl h.zc,.slice h.d.ba h.d.bl h.d.bc,.slice h.d.ha h.d.hl h.d.hc,.slice h.d.ma h.d.ml h.d.mc,.slice h.d.na h.d.nl h.d.nc,.slice h.d.ta h.d.tl h.d.tc] _ HC.out Tryz.underlying37 rfl Zcj ?_))
   go_roundw
   case measure=>simp[intOf];omega
   case rel=>
    have hsz:=HP.out.2.2.size
    exact⟨n+1,hlt,by simp,Zhd ⟨HP.out.1,(hinv.out.2.1.trans (HP.out.2.2.mono (by have:=hinv.out.2.1.size;omega))).trans HP.out.2.1.bel,(hinv.out.2.2.step (Same.below HP.out.2.2 _)).step (HP.out.2.1.same (by decide))⟩⟩
  ·obtain rfl:n=m:=by omega
   have hbw:=hinv.out.2.1
   have hK1:=Blk.on HK.out.1 hbw
   have c3:wr.cell? ⟨K,3,none⟩=some (.int .i64 no):=hK1.cell 3
   have hlen:(ZcJ Ls no).length=n+1:=by rw[ZcJ,Zla,List.length_map,←HM.out];rfl
   obtain⟨v',W2,hp⟩:=Zrm (B:=w.heap.size) (W:=wr) (by have:=hbw.size;omega) (by rw[List.length_take];omega) hinv.out.1 (default:ZaU) (.clock no) trivial
   have hon:=ZcB (S:=[66]) hp.grown hp.row (by decide) (by have:=hbw.size;simp;omega)
   have hal:Below wr.heap.size wr (wr.alloc (.cells (Zmz (default:ZaU) (.clock no)) 66)):=Zbr.alloc Zlr _
   have htk:(ZcJ Ls no).take n++[Zj4.clock no]=ZcJ Ls no:=by
    rw[ZcJ,List.take_append_of_le_length (by rw[List.length_map,←HM.out];exact Nat.le_refl _),List.take_of_length_le (by rw[List.length_map,←HM.out];exact Nat.le_refl _)]
   have hgt:=hp.gath
   rw[htk] at hgt
   obtain⟨ao2,c2,hv',hs2,-⟩:=hgt.seq
   subst hv'
   rw[hlen] at hs2
   have HP:=Zhd (Zan hp.run (Zan hs2 ((hbw.trans (hal.mono hbw.size)).trans hon.bel)))
   clear hp hs2 hal hK1 hon htk hgt hbw
   rw[hlen] at HP
   have HLEN:=Zhd hlen
   obtain⟨q,hq⟩:∃ q,q=n+1:=⟨_,rfl⟩
   rw[←hq] at HP HLEN
   clear hlen
   go_wp2_with (at_builtin;refine Zao rfl _ _ _ rfl _ _ rfl rfl HP.out.1 ?_)
   go_loopw [3,37] (fun p i wr=>∃ n:Nat,n≤q∧p= .int .i64 (ZeQ (((ZcJ Ls no).take n).map Zhs):Int)∧i= .int .i64 (n:Int)∧Hid (Below w.heap.size w wr∧Seq ZlS (Zak (66::37::fT) wr) wr ao2 q c2 (ZcJ Ls no))) (fun _ i _=>q-(intOf i).toNat)
   case atStart=>exact⟨0,by omega,rfl,rfl,Zhd ⟨HP.out.2.2,HP.out.2.1⟩⟩
   case round=>
    obtain⟨k,hk,rfl,rfl,hinv2⟩:=hrel
    rename World=>w3
    by_cases hlt2:k<q
    ·obtain⟨b,off,rfl⟩:=hinv2.out.2.addr (k:=k) hlt2
     have hkl:k<(ZcJ Ls no).length:=by rw[HLEN.out];exact hlt2
     obtain⟨h,hcs,hx⟩:=ZeA hinv2.out.2 hkl
     have hok:=HK.out.2 _ (List.getElem_mem hkl)
     have hl34:=Zpv (Zke hok).2
     have hst:=ZjP ((ZcJ Ls no).map Zhs) (n:=k) (by rw[List.length_map];exact hkl)
     have hsl:=Zor (bs:=((ZcJ Ls no).take k).map Zhs) (fun bb hbb=>by
      obtain⟨x,hx2,rfl⟩:=List.mem_map.1 hbb
      exact(Zke (HK.out.2 x (List.mem_of_mem_take hx2))).2)
     rw[List.getElem_map,←List.map_take,←List.map_take] at hst
     rw[List.length_map,List.length_take] at hsl
     obtain⟨ev,hev⟩:∃ ev,ev=Zmz h (ZcJ Ls no)[k]:=⟨_,rfl⟩
     have hes:ev.size=16:=by rw[hev];exact ZlS.hsize h _
     have heo:ev.all (·.oneCell')=true:=Array.all_eq_true_iff_forall_mem.2 (fun v hv=>ZlS.one h (ZcJ Ls no)[k] v (by rw[hev] at hv;simpa [ZlS] using hv))
     have hrc:=Zna (w:=w3) (h:=h) hx hok
     rw[←hev] at hrc
     have hcs2:∀ j v,ev[j]?=some v→w3.cell? ⟨b,off+k*16+j,none⟩=some v:=fun j v hv=>hcs j v (by rw[hev] at hv;exact hv)
     obtain⟨bs,hbs⟩:∃ bs,bs=Zhs (ZcJ Ls no)[k]:=⟨_,rfl⟩
     rw[←hbs] at hrc hst hl34
     obtain⟨pp,hpp⟩:∃ pp:Nat,pp=ZeQ (((ZcJ Ls no).take k).map Zhs):=⟨_,rfl⟩
     rw[←hpp] at hst hsl⊢
     have HE:=Zhd (Zan hes (Zan heo (Zan hrc (Zan hcs2 hst))))
     have hpb:pp≤200000:=by omega
     obtain⟨pn,hpn⟩:∃ pn:Nat,pn=ZaI bs.length:=⟨_,rfl⟩
     have hpnb:pn≤34:=by rw[hpn];exact hl34
     have HPN:=Zhd hpn
     clear hcs hx hok hst hsl hes heo hrc hcs2 hbs hev hl34 hpp hpn hkl
     go_wp2_with (first
      |(go_at_call 62;refine((HE.out.2.2.1.on H4.out.2) W4 Zlr (Same.refl _ _)).mono ?_;rintro e W5 ⟨⟨ao5,c5,rfl,-⟩,hb⟩;rw[←HPN.out];have H5:=Zhd (Zaa H4.out.2 hb Zlr);clear hb)
      |(refine wpList_load_row rfl 66 _ rfl w3.heap.size rfl 66 ev (0,0) _ H4.out.1 Tryz.underlying66 rfl (Zdq HE.out.1) ?_)
      |(refine wpList_store_row rfl 66 _ _ rfl w3.heap.size ev rfl rfl 66 (Zar 0 0 (.slice none 0 0)) (Zha w3 _) (Zdq HE.out.1) HE.out.1.symm HE.out.2.1 ?_;have hqq:=Zkf w3 ev;(try change wpList _ _ _ _ _ ((w3.alloc (.cells (Zar 0 0 (.slice none 0 0)) 66)).setRow w3.heap.size ev));generalize (w3.alloc (.cells (Zar 0 0 (.slice none 0 0)) 66)).setRow w3.heap.size ev=W4 at hqq⊢;have H4:=Zhd hqq;clear hqq)
      |(refine Zdz rfl 66 _ rfl b (off+k*16) rfl ev _ HE.out.2.2.2.1 Tryz.underlying66 rfl (Zdq HE.out.1) ?_))
     go_roundw
     case measure=>simp[intOf];omega
     case rel=>
      have hb5:=H5.out
      refine⟨k+1,hlt2,?_,by simp,Zhd ⟨Zaa hinv2.out.1 hb5 Zlr,hinv2.out.2.step (Same.below hb5 _)⟩⟩
      rw[HE.out.2.2.2.2,HPN.out]
      simp[pN]
    ·obtain rfl:k=q:=by omega
     go_wp2_with fail
     go_ret2
     rw[HLEN.out]
     refine⟨⟨_,_,?_,hinv2.out.2⟩,hinv2.out.1⟩
     rw[List.take_of_length_le (by rw[HLEN.out];exact Nat.le_refl _),hq]
     rfl
open Go.RowKit
inductive LogE where
 |put (f:Zas)
 |clock (t:Int)
def LogE.bytes:LogE→List UInt8
 | .put f=>ZcY f
 | .clock t=>Zbq t
def LogE.ok:LogE→Prop
 | .put f=>Zh6 f=0∧Zmy f
 | .clock t=>Za6 t=true
def ZiP (F:List Zas) (k:List UInt8):List Zas:=F.filter fun f=>decide (Zax f≠k)
def Zhn (most:Int) (F:List Zas):List Zas:=if (F.length:Int)≤most then F else F.tail
def Zcu (most:Int) (F:List Zas):LogE→List Zas
 | .put f=>Zhn most (ZiP F (Zax f)++[f])
 | .clock _=>F
def ZcF (most:Int) (es:List LogE):List Zas:=es.foldl (Zcu most) []
def Zox (a:Int):LogE→Int
 | .put f=>max a f.got
 | .clock t=>max a t
def ZoJ (es:List LogE):Int:=es.foldl Zox 0
def Zbi (Ls:List ZaP):List Zas:=Ls.map (·.f)
theorem Znh (Ls:List ZaP) (k:List UInt8):Zbi (ZdH Ls k)=ZiP (Zbi Ls) k:=by
 simp only[Zbi,ZdH,ZiP,List.filter_map]
 rfl
theorem ZlV (most:Int) (Ls:List ZaP):Zbi (ZfB most Ls)=Zhn most (Zbi Ls):=by
 unfold ZfB Zhn Zbi
 rw[List.length_map]
 split
 ·rfl
 ·rw[List.map_tail]
theorem Zi8 (most:Int) (Ls:List ZaP) (b u:Nat) (h:ZaU) (f:Zas):Zbi (ZfB most (ZdH Ls (Zax f)++[⟨b,h,f,u⟩]))=Zcu most (Zbi Ls) (.put f):=by
 rw[ZlV,Zcu,←Znh]
 simp[Zbi]
theorem Ze6 (most:Int) (es:List LogE) (e:LogE):ZcF most (es++[e])=Zcu most (ZcF most es) e:=by simp[ZcF]
theorem Zps (es:List LogE) (e:LogE):ZoJ (es++[e])=Zox (ZoJ es) e:=by simp[ZoJ]
theorem Zq0 (a:Int) (e:LogE):a≤Zox a e:=by cases e<;>simp only[Zox]<;>omega
theorem Zqb (F:List Zas) (k:List UInt8):(ZiP F k).length≤F.length:=List.length_filter_le _ _
theorem Zlq {most:Int} (_h1:1≤most) {F:List Zas} (hF:(F.length:Int)≤most) (e:LogE):((Zcu most F e).length:Int)≤most:=by
 cases e with
 |put f=>
  have h2:=Zqb F (Zax f)
  simp only[Zcu,Zhn]
  split
  ·assumption
  ·rw[List.length_tail,Zla,List.length_singleton]
   omega
 |clock t=>exact hF
theorem ZkT {most:Int} (h1:1≤most):∀ (es:List LogE) {F:List Zas},(F.length:Int)≤most→((es.foldl (Zcu most) F).length:Int)≤most
 |[],_,hF=>hF
 |e::es,_,hF=>ZkT h1 es (Zlq h1 hF e)
theorem Zmf {most:Int} (h1:1≤most) (es:List LogE):((ZcF most es).length:Int)≤most:=ZkT h1 es (by simp;omega)
def Keyed (F:List Zas):Prop:=F.Pairwise fun a b=>Zax a≠Zax b
theorem ZnS {F:List Zas} (h:Keyed F) (k:List UInt8):Keyed (ZiP F k):=h.filter _
theorem Zqc {F:List Zas} {k:List UInt8} (h:∀ f∈F,Zax f≠k):ZiP F k=F:=List.filter_eq_self.2 fun f hf=>by simpa using h f hf
theorem Zkr {F:List Zas} {k:List UInt8} {f:Zas} (h:f∈ZiP F k):f∈F∧Zax f≠k:=by
 have:=List.mem_filter.1 h
 exact⟨this.1,by simpa using this.2⟩
theorem ZkS {most:Int}:∀ (F G:List Zas),Keyed (G++F)→((G++F).length:Int)≤most→(F.map LogE.put).foldl (Zcu most) G=G++F
 |[],G,_,_=>by simp
 |f::F,G,hk,hl=>by
  have hk1:∀ g∈G,Zax g≠Zax f:=fun g hg=>(List.pairwise_append.1 hk).2.2 g hg f List.mem_cons_self
  rw[List.map_cons,List.foldl_cons,Zcu,Zqc hk1,Zhn,if_pos (by rw[Zla] at hl⊢;simp only[List.length_cons,List.length_nil] at hl⊢;omega)]
  rw[ZkS F (G++[f]) (by simpa using hk) (by simpa using hl)]
  simp
def ZdL (F:List Zas) (no:Int):List LogE:=F.map LogE.put++[.clock no]
theorem Zme {most:Int} {F:List Zas} (hk:Keyed F) (hl:(F.length:Int)≤most) (no:Int):ZcF most (ZdL F no)=F:=by
 rw[ZdL,Ze6,Zcu,ZcF,ZkS F [] (by simpa using hk) (by simpa using hl),List.nil_append]
theorem ZiR (Ls:List ZaP) (no:Int):(ZcJ Ls no).map Zhs=(ZdL (Zbi Ls) no).map LogE.bytes:=by
 simp[ZcJ,ZdL,Zbi,Zhs,LogE.bytes,Function.comp_def]
theorem Zmq {most:Int} (_h1:1≤most) {F:List Zas} (_hk:Keyed F) (hF:(F.length:Int)≤most) (e:LogE):Zcu most (Zcu most F e) e=Zcu most F e:=by
 cases e with
 |clock t=>rfl
 |put f=>
  have h2:=Zqb F (Zax f)
  have hno:∀ g∈ZiP F (Zax f),Zax g≠Zax f:=fun g hg=>(Zkr hg).2
  have key:∀ G:List Zas,(∀ g∈G,Zax g≠Zax f)→(G.length+1:Int)≤most→Zcu most (G++[f]) (.put f)=G++[f]:=by
   intro G hG hl
   have e1:ZiP (G++[f]) (Zax f)=G:=by
    rw[ZiP,List.filter_append,←ZiP,Zqc hG]
    simp
   rw[Zcu,e1,Zhn,if_pos (by rw[Zla,List.length_singleton];omega)]
  by_cases hl:((ZiP F (Zax f)++[f]).length:Int)≤most
  ·have e2:Zcu most F (.put f)=ZiP F (Zax f)++[f]:=by rw[Zcu,Zhn,if_pos hl]
   rw[e2,key _ hno (by rw[Zla,List.length_singleton] at hl;omega)]
  ·rw[Zla,List.length_singleton] at hl
   obtain⟨g,G,hg⟩:∃ g G,ZiP F (Zax f)=g::G:=by
    cases h:ZiP F (Zax f) with
    |nil=>rw[h] at hl;simp at hl;omega
    |cons g G=>exact⟨g,G,rfl⟩
   have e2:Zcu most F (.put f)=G++[f]:=by
    rw[Zcu,Zhn,if_neg (by rw[Zla,List.length_singleton];omega),hg]
    rfl
   rw[hg] at hno h2
   rw[e2,key G (fun x hx=>hno x (List.mem_cons_of_mem _ hx)) (by simp only[List.length_cons] at h2;omega)]
theorem Zhm {t:Int} (h:Za6 t=true):Za2 t 7=true:=by
 have h2:=Zca h
 exact ZeU (by omega) (by have e7:(256:Int)^7=72057594037927936:=(by decide);omega)
theorem LogE.small {e:LogE} (h:e.ok):1≤e.bytes.length∧e.bytes.length≤16384:=by
 cases e with
 |put f=>exact⟨(ZdX (Zdw (Zef h.1).1)).2,(Zef h.1).2⟩
 |clock t=>
  show 1≤(Zbq t).length∧(Zbq t).length≤16384
  rw[ZbN]
  omega
theorem ZmI {Ls:List ZaP} {no:Int} (h:∀ e∈ZdL (Zbi Ls) no,e.ok):∀ x∈ZcJ Ls no,Zj3 x:=by
 intro x hx
 rcases List.mem_append.1 hx with hx|hx
 ·obtain⟨s,hs,rfl⟩:=List.mem_map.1 hx
  exact(h (.put s.f) (List.mem_append_left _ (List.mem_map.2 ⟨s.f,List.mem_map.2 ⟨s,hs,rfl⟩,rfl⟩))).1
 ·rw[List.mem_singleton.1 hx]
  have ht:=h (.clock no) (List.mem_append_right _ List.mem_cons_self)
  exact⟨ht,Zhm ht⟩
theorem ZcM (Ls:List ZaP):(Zbi Ls).length=Ls.length:=List.length_map _
structure LogR (d:Zaz) (l:ZaZ) (es:List LogE) (sy n:Nat):Prop where
 ok:LogOK d l (es.map LogE.bytes) sy
 bd:LogBd d l (es.map LogE.bytes) n
 es:∀ e∈es,e.ok
theorem LogR.mono {d:Zaz} {l:ZaZ} {es:List LogE} {sy n m:Nat} (h:LogR d l es sy n) (hm:n≤m):LogR d l es sy m:=⟨h.ok,h.bd.mono hm,h.es⟩
def ZjO (es:List LogE):Nat:=ZeQ (es.map LogE.bytes)
def ZiQ (e:LogE):Nat:=ZaI e.bytes.length
theorem LogR.room {d:Zaz} {l:ZaZ} {es:List LogE} {sy n:Nat} (h:LogR d l es sy n):ZbU d l=(Zay d:Int)-(ZjO es:Int)∧(ZjO es:Int)≤(Zay d:Int):=h.ok.room
theorem Zlu (es fs:List LogE):ZjO (es++fs)=ZjO es+ZjO fs:=by simp[ZjO,ZgB]
theorem ZiM (e:LogE):ZjO [e]=ZiQ e:=by simp[ZjO,ZeQ,ZiQ,pN]
theorem LogR.app {d:Zaz} {l:ZaZ} {es:List LogE} {sy n:Nat} (h:LogR d l es sy n) {x:LogE} (hx:x.ok) (hr:(ZiQ x:Int)≤ZbU d l):
  Zf5 d l x.bytes=(ZhG d l x.bytes,ZoI l x.bytes,Zbj l,0)∧LogR (ZhG d l x.bytes) (ZoI l x.bytes) (es++[x]) sy (n+34):=by
 have hs:=x.small hx
 obtain⟨ha,hok⟩:=h.ok.app hs hr
 refine⟨ha,?_,?_,?_⟩
 ·rw[List.map_append];exact hok
 ·rw[List.map_append];exact Zp0 h.ok h.bd hs.2
 ·intro e he
  rcases List.mem_append.1 he with he|he
  ·exact h.es e he
  ·rw[List.mem_singleton.1 he];exact hx
theorem LogR.full {d:Zaz} {l:ZaZ} {es:List LogE} {sy n:Nat} (h:LogR d l es sy n) {x:LogE} (hx:x.ok) (hr:ZbU d l<(ZiQ x:Int)):
  Zf5 d l x.bytes=(d,l,0,10):=by
 have hs:=x.small hx
 rw[Zf5,if_neg (by rw[Zfb h.ok.calm h.ok.off];decide),if_neg (by omega),if_pos (show ZbU d l<(ZaI x.bytes.length:Int) from hr)]
theorem LogR.can {d:Zaz} {l:ZaZ} {es:List LogE} {sy n:Nat} (h:LogR d l es sy n) (hn:n≤700000):Zd8 d l:=h.ok.can h.bd hn
theorem LogR.sync {d:Zaz} {l:ZaZ} {es:List LogE} {sy n:Nat} (h:LogR d l es sy n):
  ZeW d l=0∧Zel d l=l∧ZeV d l=ZaE d∧(ZaE d).unsure=[]∧LogR (ZaE d) l es es.length n∧(ZaE d).sure.length=d.sure.length:=by
 obtain⟨s1,s2,s3,s4,s5⟩:=h.ok.sync
 refine⟨s1,s2,s3,s4,⟨?_,Zov h.ok h.bd,h.es⟩,h.ok.calm.sync_len⟩
 rw[List.length_map] at s5
 exact s5
theorem Zjf {w:World} {K C L:Nat} {pl no te:Int} {me dn:Bool} (h:Blk w K (ZaQ C L pl no te me dn) 62) (v:Int):Blk (w.setCell ⟨K,4,none⟩ (.int .i64 v)) K (ZaQ C L pl no v me dn) 62:=by
 have:=h.set 4 (.int .i64 v)
 simpa [ZaQ] using this
theorem Znw (w:World) (B K C L D:Nat) (pl no te now:Int) (hK:Blk w K (ZaQ C L pl no te false false) 62) (hB:B≤K) (hBw:B≤w.heap.size) (l:ZaZ) (d:Zaz) (hl:IsLog B w L D l) (hd:IsDev B w D d) (hle: ¬te<atT no now) (hsy:ZeW d l=0):
  Calls Tryz.prog 9 #[.pointer (some ⟨K,0,none⟩),.int .i64 now] w fun e w'=>e= .returned (.int .i64 0)∧Blk w' K (ZaQ C L pl (atT no now) te false false) 62∧IsLog B w' L D (Zel d l)∧IsDev B w' D (ZeV d l)∧Only kT B w w':=by
 have hbd:=Below.drew (Below.refl w.heap.size w)
 have k1:=hK.on hbd
 have D0:=Zhd (show w.drew.cell? ⟨K,4,none⟩=some (.int .i64 te) from k1.cell 4)
 have HAT:=Zhd (Zkm w.drew B K C L pl no te false false k1 hB now)
 obtain⟨nn,hnn⟩:∃ nn,nn=atT no now:=⟨_,rfl⟩
 rw[←hnn] at HAT hle⊢
 have hlb:decide (te<nn)=false:=Zdf hle
 have H1:=Zhd (Zan hbd (Zan hB (Zan hBw (Zan hl (Zan hd hsy)))))
 clear hbd k1 hK hB hBw hl hd hle hsy hnn
 go_enter Tryz.func9,Tryz.ntmps9
 go_upto_region 3 with fail
 go_cut [15] (fun c wx=>c= .bool false∧Hid (Blk wx K (ZaQ C L pl nn te false false) 62∧Only [62] B w wx))
 case first=>
  go_region_held3 (fun w'=>w'.cell? ⟨K,4,none⟩=some (.int .i64 te))
   (first|exact D0.out|exact D3.out|go_keep)
   (first|(go_at_call 27;refine HAT.out.mono ?_;rintro e W3 ⟨rfl,hk3,ho3⟩;have D3:=Zhd (show W3.cell? ⟨K,4,none⟩=some (.int .i64 te) from hk3.cell 4);have H3:=Zhd (Zan hk3 ho3);clear hk3 ho3))
  all_goals
   go_split_ands
   go_wp2_with fail
   go_meet
   exact⟨rfl,Zhd ⟨H3.out.1,(Only.below H1.out.1 H1.out.2.2.1).trans H3.out.2⟩⟩
 case rest=>
  obtain⟨rfl,hcw⟩:=hcut
  have hk:=hcw.out.1
  have y6:wc.cell? ⟨K,6,none⟩=some (.bool false):=hk.cell 6
  have y5:wc.cell? ⟨K,5,none⟩=some (.bool false):=hk.cell 5
  have y1:wc.cell? ⟨K,1,none⟩=some (.pointer (some ⟨L,0,none⟩)):=hk.cell 1
  have ho:=hcw.out.2
  have hl2:=H1.out.2.2.2.1.only ho (by decide) (by decide)
  have hd2:=ZdF H1.out.2.2.2.2.1 ho (by decide) (by decide) (by decide) (by decide)
  have H2:=Zhd (Zan hk (Zan ho (Zan hl2 hd2)))
  clear hcw hk ho hl2 hd2
  go_wp2_with (first
   |(go_at_call 29;refine(Zfj W3 K C L pl nn te false false H3.out.2.2.1 0).mono ?_;rintro e W4 ⟨rfl,hk4,hg4⟩;have H4:=Zhd (Zan hk4 hg4);clear hk4 hg4)
   |(go_at_call 30;have hsy:=ZgT wc B L D l d H2.out.2.2.1 H2.out.2.2.2;rw[H1.out.2.2.2.2.2] at hsy;refine hsy.mono ?_;rintro e W3 ⟨rfl,hl3,hd3,ho3⟩;have H3:=Zhd (Zan hl3 (Zan hd3 (Zan (ho3.blk H2.out.1 (by decide)) ho3)));clear hsy hl3 hd3 ho3))
  go_ret
  obtain⟨hl3,hd3,hk3,ho3⟩:=H3.out
  have h4:Only [62] B W3 W4:=Only.but H4.out.2 hk3 List.mem_cons_self H1.out.2.1
  exact⟨rfl,by simpa using H4.out.1,hl3.only h4 (by decide) (by decide),ZdF hd3 h4 (by decide) (by decide) (by decide) (by decide),(H2.out.2.1.mono (by decide)).trans ((ho3.mono (by decide)).trans (h4.mono (by decide)))⟩
structure ZrJ (B:Nat) (w w':World) (K C L D:Nat) (pl no:Int) (Ls:List ZaP) (d:Zaz) (n:Nat) (l':ZaZ) (d':Zaz):Prop where
 blk:Blk w' K (ZaQ C L pl no no false false) 62
 log:IsLog B w' L D l'
 dev:IsDev B w' D d'
 ok:LogOK d' l' ((ZcJ Ls no).map Zhs) (ZcJ Ls no).length
 bd:LogBd d' l' ((ZcJ Ls no).map Zhs) (n+40*(ZcJ Ls no).length)
 un:d'.unsure=[]
 len:d'.sure.length=d.sure.length
 fr:Only kT B w w'
theorem Zje (w:World) (B K C L D:Nat) (pl no te:Int) (hK:Blk w K (ZaQ C L pl no te false false) 62) (hB:B≤K) (cB:Nat) (most stale:Int) (kk:Nat) (Ls:List ZaP) (hC:IsCache cB w C most stale kk Ls) (hkk:kk<4000000000000000000) (hL:Ls.length≤5000) (hoe:∀ x∈ZcJ Ls no,Zj3 x)
  (l:ZaZ) (d:Zaz) (hl:IsLog B w L D l) (hd:IsDev B w D d) (rs:List (List UInt8)) (sy n:Nat) (hok:LogOK d l rs sy) (hbd:LogBd d l rs n) (hn:n≤300000) (hrm:(ZeQ ((ZcJ Ls no).map Zhs):Int)≤ZbU d l):
  Calls Tryz.prog 64 #[.pointer (some ⟨K,0,none⟩)] w fun e w'=>e= .returned (.int .i64 0)∧∃ l' d',ZrJ B w w' K C L D pl no Ls d n l' d':=by
 have HA:=Zhd (ZkX w K C L pl no te false false hK cB most stale kk Ls hC hkk hL hoe)
 have c5:w.cell? ⟨K,5,none⟩=some (.bool false):=hK.cell 5
 have hcan:=hok.can hbd (by omega)
 have hnx:=hok.list_len.2.1
 obtain⟨q,hq⟩:∃ q,q=(ZcJ Ls no).length:=⟨_,rfl⟩
 have hq1:1≤q∧q≤5001:=by rw[hq,ZcJ,Zla,List.length_map,List.length_singleton];omega
 obtain⟨bl,hbl⟩:∃ bl,bl=(ZcJ Ls no).map Zhs:=⟨_,rfl⟩
 have hbq:bl.length=q:=by rw[hbl,List.length_map,hq]
 have hbs:∀ b∈bl,1≤b.length∧b.length≤16384:=fun b hb=>by
  rw[hbl] at hb
  obtain⟨x,hx,rfl⟩:=List.mem_map.1 hb
  exact Zke (hoe x hx)
 have hsb:=Zor (fun b hb=>(hbs b hb).2)
 rw[←hbl] at hrm HA
 rw[←hq] at HA
 obtain⟨sp,hsp⟩:∃ sp,sp=ZeQ bl:=⟨_,rfl⟩
 rw[←hsp] at hrm HA hsb
 have hrb:decide (ZbU d l<(sp:Int))=false:=Zdf (by omega)
 have H0:=Zhd (show Blk w K (ZaQ C L pl no te false false) 62∧B≤K∧IsLog B w L D l∧IsDev B w D d∧Zd8 d l∧LogOK d l rs sy∧LogBd d l rs n from⟨hK,hB,hl,hd,hcan,hok,hbd⟩)
 have HQ:=Zhd (show q=(ZcJ Ls no).length∧bl=(ZcJ Ls no).map Zhs∧bl.length=q∧sp=ZeQ bl∧(∀ x∈ZcJ Ls no,Zj3 x)∧(∀ b∈bl,1≤b.length∧b.length≤16384) from⟨hq,hbl,hbq,hsp,hoe,hbs⟩)
 have HR:=Zhd (show(sp:Int)≤ZbU d l∧Zbj l=l.block.first+(rs.length:Int)∧n≤300000∧q≤5001 from⟨hrm,hnx,hn,hq1.2⟩)
 clear hK hB hC hkk hl hd hcan hok hbd hoe hnx hq hbl hbq hbs hsp hrm hn hL hsb
 go_enter Tryz.func64,Tryz.ntmps64
 go_upto_region 9 with(first
  |(go_at_call 21;refine(ZbT W2 B L D l (H0.out.2.2.1.on H2.out.1)).mono ?_;rintro e W3 ⟨rfl,hb⟩;rw[show l.block.first+(l.list.length:Int)=Zbj l from rfl];have H3:=Zhd (Zan (Zaa H2.out.1 hb Zlr) (Zaa H2.out.2 hb Zlr));clear hb)
  |(go_at_call 63;refine(Zek W1 B L D l d (H0.out.2.2.1.on H1.out.2) (H0.out.2.2.2.1.on H1.out.2) (by have:=H0.out.2.2.2.2.1.len;omega) (by have:=H0.out.2.2.2.2.1.fin;omega)).mono ?_;rintro e W2 ⟨rfl,hb⟩;have hbw:=Zaa H1.out.2 hb Zlr;have c1:W2.cell? ⟨K,1,none⟩=some (.pointer (some ⟨L,0,none⟩)):=(Blk.on H0.out.1 hbw).cell 1;have H2:=Zhd (Zan hbw hb);clear hb hbw)
  |(go_at_call 116;refine HA.out.mono ?_;rintro e W1 ⟨⟨ao,c,rfl,hs⟩,hb⟩;have c1:W1.cell? ⟨K,1,none⟩=some (.pointer (some ⟨L,0,none⟩)):=(Blk.on H0.out.1 hb).cell 1;have H1:=Zhd (Zan hs hb);clear hs hb))
 go_wp2_with fail
 go_loopw [2,49] (fun r i wr=>∃ k:Nat,k≤q∧r= .int .i64 0∧i= .int .i64 (k:Int)∧Hid (Seq ZlS (Zak eT wr) wr ao q c (ZcJ Ls no)∧Only kT B w wr∧∃ lk dk,IsLog B wr L D lk∧IsDev B wr D dk∧LogOK dk lk (rs++bl.take k) sy∧LogBd dk lk (rs++bl.take k) (n+34*k)∧lk.block.first=l.block.first∧dk.sure.length=d.sure.length∧Blk wr K (ZaQ C L pl no te false false) 62)) (fun _ i _=>q-(intOf i).toNat)
 case atStart=>
  refine⟨0,by omega,rfl,rfl,Zhd ⟨H1.out.1.step (Same.below H3.out.2 _),Only.below H3.out.1 H0.out.2.2.2.1.Ble,l,d,H0.out.2.2.1.on H3.out.1,H0.out.2.2.2.1.on H3.out.1,?_,?_,rfl,rfl,H0.out.1.on H3.out.1⟩⟩
  ·simpa using H0.out.2.2.2.2.2.1
  ·simpa using H0.out.2.2.2.2.2.2
 case round=>
  obtain⟨k,hk,rfl,rfl,hinv⟩:=hrel
  rename World=>w3
  by_cases hlt:k<q
  ·obtain⟨hsq,hon,lk,dk,hlk,hdk,hokk,hbdk,hfk,hlenk,hkk⟩:=hinv.out
   obtain⟨b,off,rfl⟩:=hsq.addr (k:=k) hlt
   have hkl:k<(ZcJ Ls no).length:=by rw[←HQ.out.1];exact hlt
   have hkb:k<bl.length:=by rw[HQ.out.2.2.1];exact hlt
   obtain⟨h,hcs,hx⟩:=ZeA hsq hkl
   have hoe:=HQ.out.2.2.2.2.1 _ (List.getElem_mem hkl)
   obtain⟨ev,hev⟩:∃ ev,ev=Zmz h (ZcJ Ls no)[k]:=⟨_,rfl⟩
   have hes:ev.size=16:=by rw[hev];exact ZlS.hsize h _
   have heo:ev.all (·.oneCell')=true:=Array.all_eq_true_iff_forall_mem.2 (fun v hv=>ZlS.one h (ZcJ Ls no)[k] v (by rw[hev] at hv;simpa [ZlS] using hv))
   have hrc:=Zna (w:=w3) (h:=h) hx hoe
   rw[←hev] at hrc
   have hcs2:∀ j v,ev[j]?=some v→w3.cell? ⟨b,off+k*16+j,none⟩=some v:=fun j v hv=>hcs j v (by rw[hev] at hv;exact hv)
   obtain⟨bs,hbs⟩:∃ bs,bs=bl[k]:=⟨_,rfl⟩
   have hbe:Zhs (ZcJ Ls no)[k]=bs:=by
    rw[hbs]
    simp only[HQ.out.2.1,List.getElem_map]
   rw[hbe] at hrc
   have hbsz:=HQ.out.2.2.2.2.2 bs (by rw[hbs];exact List.getElem_mem _)
   have htk:bl.take (k+1)=bl.take k++[bs]:=by rw[List.take_succ_eq_append_getElem hkb,hbs]
   have hroom:(pN bs:Int)≤ZbU dk lk:=by
    have r1:=hokk.room
    have r2:=H0.out.2.2.2.2.2.1.room
    have e1:Zay dk=Zay d:=by unfold Zay;rw[hlenk]
    have e2:=ZjP bl hkb
    have e3:ZeQ bl=ZeQ (bl.take (k+1))+ZeQ (bl.drop (k+1)):=by rw[←ZgB,List.take_append_drop]
    rw[ZgB,e1] at r1
    rw[←hbs] at e2
    have:=HR.out.1
    rw[HQ.out.2.2.2.1] at this
    omega
   obtain⟨hap,hok2⟩:=hokk.app hbsz hroom
   have hbd2:=Zp0 hokk hbdk hbsz.2
   have hcan:=hokk.can hbdk (by have:=HR.out.2.2;omega)
   have HE:=Zhd (Zan hes (Zan heo (Zan hrc (Zan hcs2 (Zan hbsz hap)))))
   have HI:=Zhd (Zan hsq (Zan hon (Zan hlk (Zan hdk (Zan hkk hcan)))))
   rw[List.append_assoc,←htk] at hok2 hbd2
   have hfirst:(ZoI lk bs).block.first=l.block.first:=hfk
   have hlen2:(ZhG dk lk bs).sure.length=d.sure.length:=by rw[show(ZhG dk lk bs).sure.length=dk.sure.length from Zcf _ _ _ _];exact hlenk
   have HN:=Zhd (Zan hok2 (Zan hbd2 (Zan hfirst hlen2)))
   clear hinv hsq hon hlk hdk hokk hbdk hfk hlenk hkk hcs hx hoe hev hes heo hrc hcs2 hbs hbe hbsz htk hroom hap hok2 hbd2 hcan hkl hkb hfirst hlen2
   go_wp2_with (first
    |(go_at_call 65;have hka:=Ze0 W4 B K C L D pl no te false false lk dk (Blk.on HI.out.2.2.2.2.1 H4.out.2) H0.out.2.1 (HI.out.2.2.1.on H4.out.2) (HI.out.2.2.2.1.on H4.out.2) HI.out.2.2.2.2.2 ev bs HE.out.1 (HE.out.2.2.1.on H4.out.2) HE.out.2.2.2.2.1.1 HE.out.2.2.2.2.1.2;rw[HE.out.2.2.2.2.2] at hka;refine hka.mono ?_;rintro e W5 ⟨rfl,hk5,hl5,hd5,ho5⟩;have hk5':Blk W5 K (ZaQ C L pl no te false false) 62:=hk5;have H5:=Zhd (Zan hk5' (Zan hl5 (Zan hd5 ho5)));clear hka hk5 hk5' hl5 hd5 ho5)
    |(refine wpList_load_row rfl 66 _ rfl w3.heap.size rfl 66 ev (0,0) _ H4.out.1 Tryz.underlying66 rfl (Zdq HE.out.1) ?_)
    |(refine wpList_store_row rfl 66 _ _ rfl w3.heap.size ev rfl rfl 66 (Zar 0 0 (.slice none 0 0)) (Zha w3 _) (Zdq HE.out.1) HE.out.1.symm HE.out.2.1 ?_;have hqq:=Zkf w3 ev;(try change wpList _ _ _ _ _ ((w3.alloc (.cells (Zar 0 0 (.slice none 0 0)) 66)).setRow w3.heap.size ev));generalize (w3.alloc (.cells (Zar 0 0 (.slice none 0 0)) 66)).setRow w3.heap.size ev=W4 at hqq⊢;have H4:=Zhd hqq;clear hqq)
    |(refine Zdz rfl 66 _ rfl b (off+k*16) rfl ev _ HE.out.2.2.2.1 Tryz.underlying66 rfl (Zdq HE.out.1) ?_))
   go_roundw
   case measure=>simp[intOf];omega
   case rel=>
    have hB3:B≤w3.heap.size:=HI.out.2.2.2.1.Ble
    have ho5:=(Only.below (S:=kT) H4.out.2 hB3).trans H5.out.2.2.2
    exact⟨k+1,hlt,rfl,by simp,Zhd ⟨HI.out.1.step (ho5.same (by decide)),HI.out.2.1.trans ho5,_,_,H5.out.2.1,H5.out.2.2.1,HN.out.1,HN.out.2.1.mono (by omega),HN.out.2.2.1,HN.out.2.2.2,H5.out.1⟩⟩
  ·obtain rfl:k=q:=by omega
   obtain⟨-,hon,lk,dk,hlk,hdk,hokk,hbdk,hfk,hlenk,hkk⟩:=hinv.out
   rw[List.take_of_length_le (by rw[HQ.out.2.2.1];exact Nat.le_refl _)] at hokk hbdk
   have z3:w3.cell? ⟨K,3,none⟩=some (.int .i64 no):=hkk.cell 3
   have z4:w3.cell? ⟨K,4,none⟩=some (.int .i64 te):=hkk.cell 4
   have u4:=hkk.free 4
   have hk4:=Zjf hkk no
   have hs4:Only [62] B w3 (w3.setCell ⟨K,4,none⟩ (.int .i64 no)):=Only.but (Zag w3 K 4 (.int .i64 no)) hkk List.mem_cons_self H0.out.2.1
   have z1:(w3.setCell ⟨K,4,none⟩ (.int .i64 no)).cell? ⟨K,1,none⟩=some (.pointer (some ⟨L,0,none⟩)):=hk4.cell 1
   have H4:=Zhd (Zan hk4 (Zan (hlk.only hs4 (by decide) (by decide)) (Zan (ZdF hdk hs4 (by decide) (by decide) (by decide) (by decide)) (hon.trans (hs4.mono (by decide))))))
   obtain⟨s1,s2,s3,s4,s5⟩:=hokk.sync
   have hbd2:=Zov hokk hbdk
   have hsl:(ZaE dk).sure.length=dk.sure.length:=hokk.calm.sync_len
   have hq5:=HR.out.2.2
   obtain⟨q1,q2,q3,q4,q5,q6,q7,q8⟩:=Zqz s5 hbd2 (by omega) (k:=rs.length) (by rw[Zla];omega)
   rw[List.drop_left] at q7 q8
   rw[show(rs++bl).length-rs.length=k by rw[Zla,HQ.out.2.2.1];omega] at q7
   have hll:=hokk.list_len.1
   have hlt2:rs.length<lk.list.length:=by rw[hll,Zla,HQ.out.2.2.1];omega
   have hfin:lk.fin≤900000000:=by have:=hbdk.fin;omega
   have h2s:2≤(ZaE dk).sure.length:=by rw[hsl];have:=hokk.n4;omega
   have hz:(ZdR (ZaE dk) lk rs.length).2.2=0:=by rw[q3]
   have HSY:=Zhd (Zan s1 (Zan s2 s3))
   have HDR:=Zhd (fun W (a:IsLog B W L D lk) (b:IsDev B W D (ZaE dk))=>Znz W B L D lk (ZaE dk) a b h2s rs.length hlt2 (Zbj l) (by rw[HR.out.2.1,hfk]) hfin q4 q1 (fun _=>q2))
   rw[hz] at HDR
   have HF:=Zhd (Zan q5 (Zan (q6.trans (hsl.trans hlenk)) (Zan q7 q8)))
   clear hinv hon hlk hdk hokk hbdk hfk hlenk hkk hk4 hs4 s1 s2 s3 s4 s5 hbd2 hsl q1 q2 q3 q4 q5 q6 q7 q8 hll hlt2 hfin h2s hz
   go_wp2_with (first
    |(go_at_call 29;refine(Zfj W7 K C L pl no no false false H7.out.1 0).mono ?_;rintro e W8 ⟨rfl,hk8,hg8⟩;have H8:=Zhd (Zan hk8 hg8);clear hk8 hg8)
    |(go_at_call 115;refine(HDR.out W6 H6.out.2.1 H6.out.2.2.1).mono ?_;rintro e W7 ⟨rfl,hl7,hd7,ho7⟩;have H7:=Zhd (Zan (ho7.blk H6.out.1 (by decide)) (Zan hl7 (Zan hd7 (H6.out.2.2.2.trans (ho7.mono (by decide))))));clear hl7 hd7 ho7)
    |(go_at_call 29;refine(Zfj W5 K C L pl no no false false H5.out.1 0).mono ?_;rintro e W6 ⟨rfl,hk6,hg6⟩;have hon:Only [62] B W5 W6:=Only.but hg6 H5.out.1 List.mem_cons_self H0.out.2.1;have z1:W6.cell? ⟨K,1,none⟩=some (.pointer (some ⟨L,0,none⟩)):=hk6.cell 1;have H6:=Zhd (Zan hk6 (Zan (H5.out.2.1.only hon (by decide) (by decide)) (Zan (ZdF H5.out.2.2.1 hon (by decide) (by decide) (by decide) (by decide)) (H5.out.2.2.2.trans (hon.mono (by decide))))));clear hk6 hg6 hon)
    |(go_at_call 30;have hsy:=ZgT (w3.setCell ⟨K,4,none⟩ (.int .i64 no)) B L D lk dk H4.out.2.1 H4.out.2.2.1;rw[HSY.out.1,HSY.out.2.1,HSY.out.2.2] at hsy;refine hsy.mono ?_;rintro e W5 ⟨rfl,hl5,hd5,ho5⟩;have H5:=Zhd (Zan (ho5.blk H4.out.1 (by decide)) (Zan hl5 (Zan hd5 (H4.out.2.2.2.trans (ho5.mono (by decide))))));clear hsy hl5 hd5 ho5))
   go_ret
   have hon:Only [62] B W7 W8:=Only.but H8.out.2 H7.out.1 List.mem_cons_self H0.out.2.1
   refine⟨rfl,_,_,H8.out.1,H7.out.2.1.only hon (by decide) (by decide),ZdF H7.out.2.2.1 hon (by decide) (by decide) (by decide) (by decide),?_,?_,HF.out.1,HF.out.2.1,H7.out.2.2.2.trans (hon.mono (by decide))⟩
   ·rw[←HQ.out.2.1,←HQ.out.1];exact HF.out.2.2.1
   ·rw[←HQ.out.2.1,←HQ.out.1];exact HF.out.2.2.2.mono (by omega)
theorem Zig (w:World) (B K C L D:Nat) (pl no te:Int) (hK:Blk w K (ZaQ C L pl no te false false) 62) (cB:Nat) (most stale:Int) (kk:Nat) (Ls:List ZaP) (hC:IsCache cB w C most stale kk Ls) (hkk:kk<4000000000000000000) (hL:Ls.length≤5000) (hoe:∀ x∈ZcJ Ls no,Zj3 x)
  (l:ZaZ) (d:Zaz) (hl:IsLog B w L D l) (hd:IsDev B w D d) (hcan:Zd8 d l) (hrm:ZbU d l<(ZeQ ((ZcJ Ls no).map Zhs):Int)):
  Calls Tryz.prog 64 #[.pointer (some ⟨K,0,none⟩)] w fun e w'=>e= .returned (.int .i64 10)∧Below w.heap.size w w':=by
 have HA:=Zhd (ZkX w K C L pl no te false false hK cB most stale kk Ls hC hkk hL hoe)
 have c5:w.cell? ⟨K,5,none⟩=some (.bool false):=hK.cell 5
 obtain⟨q,hq⟩:∃ q,q=(ZcJ Ls no).length:=⟨_,rfl⟩
 have hq1:1≤q∧q≤5001:=by rw[hq,ZcJ,Zla,List.length_map,List.length_singleton];omega
 rw[←hq] at HA
 obtain⟨sp,hsp⟩:∃ sp,sp=ZeQ ((ZcJ Ls no).map Zhs):=⟨_,rfl⟩
 rw[←hsp] at hrm HA
 have hrb:decide (ZbU d l<(sp:Int))=true:=Zdt hrm
 have H0:=Zhd (show Blk w K (ZaQ C L pl no te false false) 62∧IsLog B w L D l∧IsDev B w D d∧Zd8 d l from⟨hK,hl,hd,hcan⟩)
 clear hK hC hkk hl hd hcan hoe hq hsp hrm hL
 go_enter Tryz.func64,Tryz.ntmps64
 go_wp2_with (first
  |(go_at_call 63;refine(Zek W1 B L D l d (H0.out.2.1.on H1.out) (H0.out.2.2.1.on H1.out) (by have:=H0.out.2.2.2.len;omega) (by have:=H0.out.2.2.2.fin;omega)).mono ?_;rintro e W2 ⟨rfl,hb⟩;have H2:=Zhd (Zaa H1.out hb Zlr);clear hb)
  |(go_at_call 116;refine HA.out.mono ?_;rintro e W1 ⟨⟨ao,c,rfl,-⟩,hb⟩;have c1:W1.cell? ⟨K,1,none⟩=some (.pointer (some ⟨L,0,none⟩)):=(Blk.on H0.out.1 hb).cell 1;have H1:=Zhd hb;clear hb))
 go_ret
 exact⟨rfl,H2.out⟩
theorem Zfk (w:World) (B K C L D:Nat) (pl no te:Int) (hK:Blk w K (ZaQ C L pl no te false false) 62) (hB:B≤K) (l:ZaZ) (d:Zaz) (hl:IsLog B w L D l) (hd:IsDev B w D d) (hc:Zd8 d l) (ev:Array Value) (bs:List UInt8) (hev:ev.size=16) (hr:RecIs w ev bs) (hb0:1≤bs.length) (hb1:bs.length≤16384)
  (hpl:0≤pl∧pl≤100000) (hrm:decide (IntKind.i64.wrap (ZbU d l-(ZaI bs.length:Int))<IntKind.i64.wrap (pl.tdiv 3))=true)
  (ec za:Int) (mb:Bool) (hec:ec=0∨ec=10) (hza:(za=0∧mb=false)∨(za=10∧mb=true)) (R Q:Int→ZaZ→Zaz→Prop)
  (hcm:∀ W,Below w.heap.size w W→Calls Tryz.prog 64 #[.pointer (some ⟨K,0,none⟩)] W fun e w'=>e= .returned (.int .i64 ec)∧∃ te2 l2 d2,Blk w' K (ZaQ C L pl no te2 false false) 62∧IsLog B w' L D l2∧IsDev B w' D d2∧Only kT B W w'∧Zd8 d2 l2∧R te2 l2 d2)
  (hap:∀ te2 l2 d2,R te2 l2 d2→∃ d1 l1 s1,Zf5 d2 l2 bs=(d1,l1,s1,za)∧Q te2 l1 d1):
  Calls Tryz.prog 28 #[.pointer (some ⟨K,0,none⟩),.agg ev] w fun e w'=>e= .returned (.int .i64 za)∧∃ te1 l1 d1,Blk w' K (ZaQ C L pl no te1 mb false) 62∧IsLog B w' L D l1∧IsDev B w' D d1∧Only kT B w w'∧Q te1 l1 d1:=by
 have hb1':Below w.heap.size w (w.alloc (.cells ev 66)):=Zbr.alloc Zlr _
 have a1:Blk (w.alloc (.cells ev 66)) w.heap.size ev 66:=Zha w _
 have k1:=hK.on hb1'
 have y5:(w.alloc (.cells ev 66)).cell? ⟨K,5,none⟩=some (.bool false):=k1.cell 5
 have y6:(w.alloc (.cells ev 66)).cell? ⟨K,6,none⟩=some (.bool false):=k1.cell 6
 have hs:=(hr.on hb1') _ Zlr (Same.refl _ _)
 have hsz:(Tryz.prog.info? 66).map (·.size)=some ev.size:=by rw[hev];exact Za5
 obtain⟨n,hn⟩:∃ n,n=bs.length:=⟨_,rfl⟩
 rw[←hn] at hs hrm
 obtain⟨p,hp⟩:∃ p:Int,p=(ZaI n:Int):=⟨_,rfl⟩
 rw[←hp] at hs hrm
 have HS:=Zhd hs
 have H1:=Zhd (Zan a1 (Zan hb1' (Zan hK (Zan hB (Zan hl (Zan hd (Zan hc True.intro)))))))
 have HCM:=Zhd (Zan hcm hap)
 have HRM:=Zhd (Zan hrm hpl)
 have HR:=Zhd (Zan hr (Zan hev (Zan hb0 hb1)))
 have HSZ:=Zhd hsz
 clear hs hb1' a1 k1 hK hB hl hd hc hap hrm hpl hr hev hb0 hb1 hsz hn hp hcm
 go_enter Tryz.func28,Tryz.ntmps28
 go_upto_region 8 with(first
  |(refine wpList_load_row rfl 66 _ rfl w.heap.size rfl 66 ev (0,0) _ H1.out.1 Tryz.underlying66 rfl HSZ.out ?_)
  |(go_at_call 62;refine HS.out.mono ?_;rintro e W2 ⟨⟨ao,c,rfl,-⟩,hb⟩;have hbw:=Zaa H1.out.2.1 hb Zlr;have H2:=Zhd (Zan hbw (H1.out.1.on hb));clear hb hbw))
 have hbd:=Below.drew (Below.refl W2.heap.size W2)
 have hbw:=Zaa H2.out.1 hbd Zlr
 have k2:=Blk.on H1.out.2.2.1 hbw
 have D0:=Zhd (show W2.drew.cell? ⟨K,1,none⟩=some (.pointer (some ⟨L,0,none⟩))∧W2.drew.cell? ⟨K,2,none⟩=some (.int .i64 pl) from⟨k2.cell 1,k2.cell 2⟩)
 have HRO:=Zhd (Zek W2.drew B L D l d (H1.out.2.2.2.2.1.on hbw) (H1.out.2.2.2.2.2.1.on hbw) (by have:=H1.out.2.2.2.2.2.2.1.len;omega) (by have:=H1.out.2.2.2.2.2.2.1.fin;omega))
 have HK2:=Zhd (Zan hbd k2)
 clear hbd hbw k2
 go_cut [40] (fun c wx=>c= .bool true∧Hid (Below W2.heap.size W2 wx))
 case first=>
  go_region_held3 (fun w'=>w'.cell? ⟨K,1,none⟩=some (.pointer (some ⟨L,0,none⟩))∧w'.cell? ⟨K,2,none⟩=some (.int .i64 pl))
   (first|exact D0.out|exact D3.out|go_keep)
   (first|(go_at_call 63;refine HRO.out.mono ?_;rintro e W3 ⟨rfl,hb3⟩;have k3:=Blk.on HK2.out.2 hb3;have D3:=Zhd (show W3.cell? ⟨K,1,none⟩=some (.pointer (some ⟨L,0,none⟩))∧W3.cell? ⟨K,2,none⟩=some (.int .i64 pl) from⟨k3.cell 1,k3.cell 2⟩);have H3:=Zhd (Zaa HK2.out.1 hb3 Zlr);clear hb3 k3))
  all_goals
   go_split_ands
   go_wp2_with fail
   go_meet
   exact⟨by rw[HRM.out.1],Zhd H3.out⟩
 case rest=>
  obtain⟨rfl,hcw⟩:=hcut
  have hbw:=Zaa H2.out.1 hcw.out Zlr
  have H4:=Zhd (Zan hbw (H2.out.2.on hcw.out))
  have HBW:=Zhd hbw
  clear hcw hbw y5 y6
  rcases hec with rfl|rfl
  all_goals rcases hza with⟨rfl,rfl⟩|⟨rfl,rfl⟩
  all_goals
   go_wp2_with (first
    |(go_at_call 65;have hka:=Ze0 W4 B K C L D pl no te2 false false l2 d2 H5.out.1 H1.out.2.2.2.1 H5.out.2.1 H5.out.2.2.1 H5.out.2.2.2.2.2.2.1 ev bs HR.out.2.1 H5.out.2.2.2.2.2.1 HR.out.2.2.1 HR.out.2.2.2;obtain⟨d1,l1,s1,hap,hq⟩:=HCM.out.2 te2 l2 d2 H5.out.2.2.2.2.2.2.2;rw[hap] at hka;refine hka.mono ?_;rintro e W5 ⟨rfl,hk5,hl5,hd5,ho5⟩;have hk5':Blk W5 K (ZaQ C L pl no te2 false false) 62:=hk5;have z5:W5.cell? ⟨K,5,none⟩=some (.bool false):=hk5'.cell 5;have u5:=hk5'.free 5;have H6:=Zhd (Zan hk5' (Zan hl5 (Zan hd5 (Zan (H5.out.2.2.2.1.trans ho5) hq))));clear hka hk5 hk5' hl5 hd5 ho5 hap hq)
    |(refine wpList_load_row rfl 66 _ rfl w.heap.size rfl 66 ev (0,0) _ H5.out.2.2.2.2.1 Tryz.underlying66 rfl HSZ.out ?_)
    |(go_at_call 64;refine(HCM.out.1 wc HBW.out).mono ?_;rintro e W4 ⟨rfl,te2,l2,d2,hk4,hl4,hd4,ho4,hc4,hr4⟩;have hrr:=(HR.out.1.on HBW.out).step ho4.bel.size (ho4.same (T:=eT) (by decide));have H5:=Zhd (Zan hk4 (Zan hl4 (Zan hd4 (Zan ((Only.below HBW.out H1.out.2.2.2.2.2.1.Ble).trans ho4) (Zan (ho4.blk H4.out.2 (by decide)) (Zan hrr (Zan hc4 hr4)))))));clear hk4 hl4 hd4 ho4 hrr hc4 hr4))
   go_ret
  all_goals first
   |(have hs:=H6.out.1.set 5 (.bool false)
     have hon:Only [62] B W5 (W5.setCell ⟨K,5,none⟩ (.bool false)):=Only.but (Zag W5 K 5 (.bool false)) H6.out.1 List.mem_cons_self H1.out.2.2.2.1
     exact⟨rfl,te2,l1,d1,by simpa [ZaQ] using hs,H6.out.2.1.only hon (by decide) (by decide),ZdF H6.out.2.2.1 hon (by decide) (by decide) (by decide) (by decide),H6.out.2.2.2.1.trans (hon.mono (by decide)),H6.out.2.2.2.2⟩)
   |(have hs:=H6.out.1.set 5 (.bool true)
     have hon:Only [62] B W5 (W5.setCell ⟨K,5,none⟩ (.bool true)):=Only.but (Zag W5 K 5 (.bool true)) H6.out.1 List.mem_cons_self H1.out.2.2.2.1
     exact⟨rfl,te2,l1,d1,by simpa [ZaQ] using hs,H6.out.2.1.only hon (by decide) (by decide),ZdF H6.out.2.2.1 hon (by decide) (by decide) (by decide) (by decide),H6.out.2.2.2.1.trans (hon.mono (by decide)),H6.out.2.2.2.2⟩)
structure ZrO (d:Zaz) (l:ZaZ) (es:List LogE) (sy:Nat) (F:List Zas) (no:Int) (x:LogE) (za:Int) (mb:Bool) (es0 es1:List LogE) (sy1:Nat):Prop where
 src:(es0=es∧sy1=sy∧(((Zay d:Int)/3≤ZbU d l-(ZiQ x:Int))∨ZbU d l<(ZjO (ZdL F no):Int)))∨(es0=ZdL F no∧sy1=(ZdL F no).length∧(ZjO (ZdL F no):Int)≤ZbU d l∧ZbU d l-(ZiQ x:Int)<(Zay d:Int)/3)
 out:(za=0∧mb=false∧es1=es0++[x]∧ZjO es0+ZiQ x≤Zay d)∨(za=10∧mb=true∧es1=es0∧Zay d<ZjO es0+ZiQ x)
structure WriteAt (B:Nat) (w:World) (K C L D:Nat) (no te:Int) (l:ZaZ) (d:Zaz) (F:List Zas) (ev:Array Value) (x:LogE):Prop where
 blk:Blk w K (ZaQ C L ((d.sure.length:Int)-2) no te false false) 62
 base:B≤K
 log:IsLog B w L D l
 dev:IsDev B w D d
 ca:∃ cB most stale kk Ls,IsCache cB w C most stale kk Ls∧kk<4000000000000000000∧Zbi Ls=F
 size:ev.size=16
 rc:RecIs w ev x.bytes
theorem WriteAt.below {B:Nat} {w w':World} {K C L D:Nat} {no te:Int} {l:ZaZ} {d:Zaz} {F:List Zas} {ev:Array Value} {x:LogE} (h:WriteAt B w K C L D no te l d F ev x) (hb:Below w.heap.size w w'):WriteAt B w' K C L D no te l d F ev x:=by
 obtain⟨cB,most,stale,kk,Ls,a,b,c⟩:=h.ca
 exact⟨h.blk.on hb,h.base,h.log.on hb,h.dev.on hb,⟨cB,most,stale,kk,Ls,a.on hb,b,c⟩,h.size,h.rc.on hb⟩
theorem ZoO (F:List Zas) (no:Int):(ZdL F no).length=F.length+1:=by simp[ZdL]
theorem Zl2 {d:Zaz} {l:ZaZ} {es:List LogE} {sy n:Nat} (h:LogR d l es sy n) (hn:n≤300000) (F:List Zas) (no:Int) (x:LogE) (hx:x.ok) (hall:∀ e∈ZdL F no,e.ok) (hF:F.length≤5000):
  ∃ za mb es0 es1 sy1,ZrO d l es sy F no x za mb es0 es1 sy1∧∀ (w:World) (B K C L D:Nat) (te:Int) (ev:Array Value),WriteAt B w K C L D no te l d F ev x→
    Calls Tryz.prog 28 #[.pointer (some ⟨K,0,none⟩),.agg ev] w fun e w'=>e= .returned (.int .i64 za)∧∃ te1 l1 d1,Blk w' K (ZaQ C L ((d.sure.length:Int)-2) no te1 mb false) 62∧IsLog B w' L D l1∧IsDev B w' D d1∧Only kT B w w'∧(LogR d1 l1 es1 sy1 (n+40*(F.length+3))∧d1.sure.length=d.sure.length∧(te1=te∨te1=no)):=by
 have hroom:=h.room
 have hsx:=x.small hx
 have hcan:=h.can (by omega)
 have hn4:=h.ok.n4
 have hle:=h.ok.le
 have hp34:ZiQ x≤34:=Zpv hsx.2
 have hring:(Zay d:Int)=(d.sure.length:Int)-2:=by unfold Zay;omega
 have htd:IntKind.i64.wrap (((d.sure.length:Int)-2).tdiv 3)=(Zay d:Int)/3:=by
  rw[Int.tdiv_eq_ediv_of_nonneg (by omega),hring]
  exact IntWalk.i64_in _ (by omega)
 have hwr:IntKind.i64.wrap (ZbU d l-(ZaI x.bytes.length:Int))=ZbU d l-(ZiQ x:Int):=IntWalk.i64_in _ (by have:ZaI x.bytes.length=ZiQ x:=rfl;omega)
 have hlen1:∀ (d2:Zaz) (l2:ZaZ),(ZhG d2 l2 x.bytes).sure.length=d2.sure.length:=fun _ _=>Zcf _ _ _ _
 by_cases hrm:ZbU d l-(ZiQ x:Int)<(Zay d:Int)/3
 ·have hdec:decide (IntKind.i64.wrap (ZbU d l-(ZaI x.bytes.length:Int))<IntKind.i64.wrap (((d.sure.length:Int)-2).tdiv 3))=true:=by rw[hwr,htd];exact Zdt hrm
  by_cases hfit:(ZjO (ZdL F no):Int)≤ZbU d l
  ·have hcm:∀ (w:World) (B K C L D:Nat) (te:Int) (ev:Array Value),WriteAt B w K C L D no te l d F ev x→Calls Tryz.prog 64 #[.pointer (some ⟨K,0,none⟩)] w fun e w'=>e= .returned (.int .i64 0)∧∃ te2 l2 d2,Blk w' K (ZaQ C L ((d.sure.length:Int)-2) no te2 false false) 62∧IsLog B w' L D l2∧IsDev B w' D d2∧Only kT B w w'∧Zd8 d2 l2∧(LogR d2 l2 (ZdL F no) (ZdL F no).length (n+40*(F.length+1))∧d2.sure.length=d.sure.length∧te2=no):=by
    intro w B K C L D te ev hw
    obtain⟨cB,most,stale,kk,Ls,hC,hkk,hf⟩:=hw.ca
    have hLl:Ls.length=F.length:=by rw[←hf,ZcM]
    have hab:(ZcJ Ls no).map Zhs=(ZdL F no).map LogE.bytes:=by rw[ZiR,hf]
    have hal:(ZcJ Ls no).length=(ZdL F no).length:=by
     have:=congrArg List.length hab
     simpa using this
    refine(Zje w B K C L D _ no te hw.blk hw.base cB most stale kk Ls hC hkk (by omega) (ZmI (by rw[hf];exact hall)) l d hw.log hw.dev _ sy n h.ok h.bd hn (by rw[hab];exact hfit)).mono ?_
    rintro e w' ⟨rfl,l2,d2,hc⟩
    have hlr:LogR d2 l2 (ZdL F no) (ZdL F no).length (n+40*(F.length+1)):=by
     refine⟨?_,?_,hall⟩
     ·have:=hc.ok;rw[hab,hal] at this;exact this
     ·have:=hc.bd;rw[hab,hal,ZoO] at this;exact this
    exact⟨rfl,no,l2,d2,hc.blk,hc.log,hc.dev,hc.fr,hlr.can (by omega),hlr,hc.len,rfl⟩
   have hring2:∀ d2:Zaz,d2.sure.length=d.sure.length→Zay d2=Zay d:=fun d2 e=>by unfold Zay;rw[e]
   by_cases hap:ZjO (ZdL F no)+ZiQ x≤Zay d
   ·refine⟨0,false,ZdL F no,ZdL F no++[x],(ZdL F no).length,⟨.inr ⟨rfl,rfl,hfit,hrm⟩,.inl ⟨rfl,rfl,rfl,hap⟩⟩,fun w B K C L D te ev hw=>?_⟩
    refine Zfk w B K C L D _ no te hw.blk hw.base l d hw.log hw.dev hcan ev x.bytes hw.size hw.rc hsx.1 hsx.2 (by omega) hdec 0 0 false (.inl rfl) (.inl ⟨rfl,rfl⟩) (fun te2 l2 d2=>LogR d2 l2 (ZdL F no) (ZdL F no).length (n+40*(F.length+1))∧d2.sure.length=d.sure.length∧te2=no) (fun te1 l1 d1=>LogR d1 l1 (ZdL F no++[x]) (ZdL F no).length (n+40*(F.length+3))∧d1.sure.length=d.sure.length∧(te1=te∨te1=no)) (fun W hb=>hcm W B K C L D te ev (hw.below hb)) ?_
    rintro te2 l2 d2 ⟨hlr,hl2,rfl⟩
    have hr2:=hlr.room
    rw[hring2 d2 hl2] at hr2
    obtain⟨a,b⟩:=hlr.app hx (by omega)
    exact⟨_,_,_,a,b.mono (by omega),by rw[hlen1];exact hl2,.inr rfl⟩
   ·refine⟨10,true,ZdL F no,ZdL F no,(ZdL F no).length,⟨.inr ⟨rfl,rfl,hfit,hrm⟩,.inr ⟨rfl,rfl,rfl,by omega⟩⟩,fun w B K C L D te ev hw=>?_⟩
    refine Zfk w B K C L D _ no te hw.blk hw.base l d hw.log hw.dev hcan ev x.bytes hw.size hw.rc hsx.1 hsx.2 (by omega) hdec 0 10 true (.inl rfl) (.inr ⟨rfl,rfl⟩) (fun te2 l2 d2=>LogR d2 l2 (ZdL F no) (ZdL F no).length (n+40*(F.length+1))∧d2.sure.length=d.sure.length∧te2=no) (fun te1 l1 d1=>LogR d1 l1 (ZdL F no) (ZdL F no).length (n+40*(F.length+3))∧d1.sure.length=d.sure.length∧(te1=te∨te1=no)) (fun W hb=>hcm W B K C L D te ev (hw.below hb)) ?_
    rintro te2 l2 d2 ⟨hlr,hl2,rfl⟩
    have hr2:=hlr.room
    rw[hring2 d2 hl2] at hr2
    exact⟨_,_,_,hlr.full hx (by omega),hlr.mono (by omega),hl2,.inr rfl⟩
  ·have hcm:∀ (w:World) (B K C L D:Nat) (te:Int) (ev:Array Value),WriteAt B w K C L D no te l d F ev x→Calls Tryz.prog 64 #[.pointer (some ⟨K,0,none⟩)] w fun e w'=>e= .returned (.int .i64 10)∧∃ te2 l2 d2,Blk w' K (ZaQ C L ((d.sure.length:Int)-2) no te2 false false) 62∧IsLog B w' L D l2∧IsDev B w' D d2∧Only kT B w w'∧Zd8 d2 l2∧(l2=l∧d2=d∧te2=te):=by
    intro w B K C L D te ev hw
    obtain⟨cB,most,stale,kk,Ls,hC,hkk,hf⟩:=hw.ca
    have hLl:Ls.length=F.length:=by rw[←hf,ZcM]
    have hab:(ZcJ Ls no).map Zhs=(ZdL F no).map LogE.bytes:=by rw[ZiR,hf]
    refine(Zig w B K C L D _ no te hw.blk cB most stale kk Ls hC hkk (by omega) (ZmI (by rw[hf];exact hall)) l d hw.log hw.dev hcan (by rw[hab];exact Int.not_le.1 hfit)).mono ?_
    rintro e w' ⟨rfl,hb⟩
    exact⟨rfl,te,l,d,hw.blk.on hb,hw.log.on hb,hw.dev.on hb,Only.below hb hw.dev.Ble,hcan,rfl,rfl,rfl⟩
   by_cases hap:ZjO es+ZiQ x≤Zay d
   ·refine⟨0,false,es,es++[x],sy,⟨.inl ⟨rfl,rfl,.inr (Int.not_le.1 hfit)⟩,.inl ⟨rfl,rfl,rfl,hap⟩⟩,fun w B K C L D te ev hw=>?_⟩
    refine Zfk w B K C L D _ no te hw.blk hw.base l d hw.log hw.dev hcan ev x.bytes hw.size hw.rc hsx.1 hsx.2 (by omega) hdec 10 0 false (.inr rfl) (.inl ⟨rfl,rfl⟩) (fun te2 l2 d2=>l2=l∧d2=d∧te2=te) (fun te1 l1 d1=>LogR d1 l1 (es++[x]) sy (n+40*(F.length+3))∧d1.sure.length=d.sure.length∧(te1=te∨te1=no)) (fun W hb=>hcm W B K C L D te ev (hw.below hb)) ?_
    rintro te2 l2 d2 ⟨rfl,rfl,rfl⟩
    obtain⟨a,b⟩:=h.app hx (by omega)
    exact⟨_,_,_,a,b.mono (by omega),hlen1 _ _,.inl rfl⟩
   ·refine⟨10,true,es,es,sy,⟨.inl ⟨rfl,rfl,.inr (Int.not_le.1 hfit)⟩,.inr ⟨rfl,rfl,rfl,by omega⟩⟩,fun w B K C L D te ev hw=>?_⟩
    refine Zfk w B K C L D _ no te hw.blk hw.base l d hw.log hw.dev hcan ev x.bytes hw.size hw.rc hsx.1 hsx.2 (by omega) hdec 10 10 true (.inr rfl) (.inr ⟨rfl,rfl⟩) (fun te2 l2 d2=>l2=l∧d2=d∧te2=te) (fun te1 l1 d1=>LogR d1 l1 es sy (n+40*(F.length+3))∧d1.sure.length=d.sure.length∧(te1=te∨te1=no)) (fun W hb=>hcm W B K C L D te ev (hw.below hb)) ?_
    rintro te2 l2 d2 ⟨rfl,rfl,rfl⟩
    exact⟨_,_,_,h.full hx (by omega),h.mono (by omega),rfl,.inl rfl⟩
 ·have hdec:decide (IntKind.i64.wrap (ZbU d l-(ZaI x.bytes.length:Int))<IntKind.i64.wrap (((d.sure.length:Int)-2).tdiv 3))=false:=by rw[hwr,htd];exact Zdf hrm
  have hr0:(ZiQ x:Int)≤ZbU d l:=by omega
  obtain⟨ha,hb⟩:=h.app hx hr0
  refine⟨0,false,es,es++[x],sy,⟨.inl ⟨rfl,rfl,.inl (by omega)⟩,.inl ⟨rfl,rfl,rfl,by omega⟩⟩,fun w B K C L D te ev hw=>?_⟩
  refine(ZgQ w B K C L D _ no te hw.blk hw.base l d hw.log hw.dev hcan ev x.bytes hw.size hw.rc hsx.1 hsx.2 (by omega) hdec _ _ _ ha).mono ?_
  rintro e w' ⟨rfl,a,b,c,q⟩
  exact⟨rfl,te,_,_,a,b,c,q,hb.mono (by omega),hlen1 _ _,.inl rfl⟩
end Go.Proofs.YtjpefpclmndgeaaGreat

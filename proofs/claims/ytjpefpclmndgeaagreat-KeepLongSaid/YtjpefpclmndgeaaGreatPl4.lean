/- Contracts of the given program's functions, in the order in which they are proved. -/
import Derived.Deep.CutBlock
import Derived.Deep.DeepCutAuto
import Derived.Laws.Rows
import Derived.Deep.RegionHeld3
import Derived.Deep.RegionLaw
import Derived.Test.YtjpefpclmndgeaaGreatPl3
namespace Go.Proofs.YtjpefpclmndgeaaGreat
set_option maxHeartbeats 64000000
set_option maxRecDepth 100000
open Go.ChangeShapes Go.WideShapes Go.ChangeAt Go.RowKit
def ZaH (l:List Int) (size:Nat):List UInt8:=l.flatMap fun n=>Za1 n size
theorem Zl7 (l:List Int) (size:Nat) {k:Nat} (h:k<l.length):ZaH (l.take (k+1)) size=ZaH (l.take k) size++Za1 l[k] size:=by
 rw[List.take_succ_eq_append_getElem h,ZaH,List.flatMap_append]
 simp[ZaH]
theorem ZbL (l:List Int) (size:Nat):(ZaH l size).length=l.length*size:=by
 induction l with
 |nil=>simp[ZaH]
 |cons n l ih=>
  rw[ZaH,List.flatMap_cons,Zla,Zap,List.length_cons,Nat.succ_mul]
  rw[ZaH] at ih
  omega
def ZjR (t:ByteArray):List UInt8:=Za1 (t.size:Int) 1++t.data.toList
def ZaX (l:List ByteArray):List UInt8:=l.flatMap ZjR
theorem ZkF (l:List ByteArray) {k:Nat} (h:k<l.length):ZaX (l.take (k+1))=(ZaX (l.take k)++Za1 (l[k].size:Int) 1)++l[k].data.toList:=by
 rw[List.take_succ_eq_append_getElem h,ZaX,List.flatMap_append]
 simp[ZaX,ZjR]
theorem IsWR.step {N:Nat} {w w':World} {R M:Nat} {b b':List UInt8} {rs:List (List UInt8×Nat)} (h:IsWR N w R M b rs) (hw:IsW N w' R M b') (ho:Only wrT N w w'):IsWR N w' R M b' rs:=⟨hw,h.m.only ho,h.base,h.low,h.cnt⟩
theorem ZcP (w:World) (N R M:Nat) (b:List UInt8) (hW:IsW N w R M b) (ao:Option Addr) (len cap:Nat) (l:List Int) (hl:ZoN w ao len cap l) (hni:rowIn (fun b=>b<N∨¬Zak wrT w b) ao len) (size:Nat) (hs7:size≤7) (hf:∀ n∈l,1≤size∧Za2 n size=true) (hb:b.length≤90000000) (hlen7:len≤100000):
  Calls Tryz.prog 181 #[.pointer (some ⟨R,0,none⟩),.slice ao len cap,.int .i64 (size:Int)] w fun e w'=>e= .returned (.tuple #[])∧IsW N w' R M (b++ZaH l size)∧Only wrT N w w':=by
 have hlen:l.length=len:=by have:=hl.hlen;simpa using this
 have hcap:=hl.hcap
 have hle:=hl.hle
 have HA:=Zhd (Zan hl (Zan hlen (Zan hni (Zan hf (Zan hb hs7)))))
 have HW:=Zhd hW
 clear hl hlen hni hf hb hW hs7
 go_enter Tryz.func181,Tryz.ntmps181
 go_wp2_with fail
 go_loopw [7,10] (fun _ i wr=>∃ k:Nat,k≤len∧i= .int .i64 (k:Int)∧Hid (IsW N wr R M (b++ZaH (l.take k) size)∧Only wrT N w wr)) (fun _ i _=>len-(intOf i).toNat)
 case atStart=>exact⟨0,Nat.zero_le _,rfl,Zhd ⟨by simpa [ZaH] using HW.out,Only.refl _ _ _⟩⟩
 case round=>
  obtain⟨k,hk,rfl,hinv⟩:=hrel
  by_cases hlt:k<len
  ·have hkx:k<l.length:=by rw[HA.out.2.1];exact hlt
   have hsm:Same (fun b=>b<N∨¬Zak wrT w b) w wr:=fun b hb hs=>hs.elim (hinv.out.2.bel.block b) (fun k=>hinv.out.2.keep b hb k)
   have hrow:=HA.out.1.keep HA.out.2.2.1 hsm
   obtain⟨bb,off,rfl,hc⟩:=hrow.hcells (by omega)
   have c0:wr.cell? ⟨bb,off+k,none⟩=some (.int .i64 l[k]):=by have:=hc k (by simpa using hkx);simpa using this
   obtain⟨x,hx⟩:∃ x,x=l[k]:=⟨_,rfl⟩
   rw[←hx] at c0
   have hfx:=HA.out.2.2.2.1 l[k] (List.getElem_mem hkx)
   rw[←hx] at hfx
   have hsn:=Zl7 l size hkx
   rw[←hx] at hsn
   have hlx:(b++ZaH (l.take k) size).length≤100000000:=by
    rw[Zla,ZbL,List.length_take]
    have h1:min k l.length*size≤100000*7:=Nat.mul_le_mul (by omega) HA.out.2.2.2.2.2
    have:=HA.out.2.2.2.2.1
    omega
   have HN:=Zhd (Zbz wr N R M _ hinv.out.1 x size hfx.1 HA.out.2.2.2.2.2 hfx.2 hlx)
   have HS:=Zhd hsn
   clear hsm hrow hc hx hfx hsn hlx hkx
   go_wp2_with (go_at_call 98;refine HN.out.mono ?_;rintro e W2 ⟨rfl,hw2,ho2⟩;have H2:=Zhd (Zan hw2 ho2);clear hw2 ho2)
   go_roundw
   case rel=>exact⟨k+1,by omega,by go_num,Zhd ⟨by rw[HS.out,←List.append_assoc];exact H2.out.1,hinv.out.2.trans H2.out.2⟩⟩
   case measure=>simp[intOf];omega
  ·have hkl:k=l.length:=by rw[HA.out.2.1];omega
   have ho:=hinv.out
   rw[hkl,List.take_length] at ho
   have HO:=Zhd ho
   clear ho hkl
   go_wp2_with fail
   go_end0
   exact⟨rfl,HO.out⟩
def inW (N M:Nat) (w:World) (b:Nat):Prop:=b<N∨(¬Zak wrT w b∧b≠M)
theorem inW.step {N M:Nat} {w w':World} (ho:OnlyM wrT N M w w') {b:Nat} (hb:b<w.heap.size) (h:inW N M w b):inW N M w' b:=by
 refine h.imp id (fun k=>⟨fun ht=>k.1 ?_,k.2⟩)
 obtain⟨cs,t,e,hm⟩:=ht
 rw[ho.keep b hb k.1 k.2] at e
 exact⟨cs,t,e,hm⟩
structure DW (N M:Nat) (w:World) (h:ZaJ) (d:Zaq):Prop where
 data:IsData w h d
 ins:DataIn (inW N M w) h
theorem DW.step {N M:Nat} {w w':World} {h:ZaJ} {d:Zaq} (k:DW N M w h d) (ho:OnlyM wrT N M w w'):DW N M w' h d:=
 ⟨k.data.keep k.ins ho.same,k.ins.mono k.data (fun _ hb=>inW.step ho hb)⟩
structure Zq9 (host mail:Bool) (size:Nat) (d:Zaq):Prop where
 bytes:d.bytes.length≤65535
 texts:d.texts.length≤64∧∀ t∈d.texts,t.size≤255
 nums:d.nums.length≤100∧∀ n∈d.nums,1≤size∧Za2 n size=true
 host:host=true→ZaG d.host=true
 mail:mail=true→ZaG d.mail=true
 size:size≤7
def Zcd (host short:Bool) (ss:List ByteArray) (x:List (List UInt8×Nat)×List UInt8):List (List UInt8×Nat)×List UInt8:=if host then nameW short ss x.1 x.2 else x
def ZdP (host mail short:Bool) (size:Nat) (first:Bool) (d:Zaq) (rs:List (List UInt8×Nat)) (b:List UInt8):List (List UInt8×Nat)×List UInt8:=
 if first then Zcd mail short d.mail (Zcd host short d.host (rs,((b++d.bytes)++ZaX d.texts)++ZaH d.nums size))
 else(fun x=>(x.1,x.2++ZaH d.nums size)) (Zcd mail short d.mail (Zcd host short d.host (rs,(b++d.bytes)++ZaX d.texts)))
theorem Zbd (short:Bool):∀ (ss:List ByteArray) (rs:List (List UInt8×Nat)) (b:List UInt8),(nameW short ss rs b).2.length≤b.length+Za0 ss+2∧(nameW short ss rs b).1.length≤rs.length+ss.length
 |[],rs,b=>by simp[nameW,Zap];omega
 |l::ss,rs,b=>by
  rw[nameW]
  have hd:=ZcX l
  have h1:=Zbd short ss rs ((b++Za1 (l.size:Int) 1)++l.data.toList)
  have h2:=Zbd short ss (if b.length<16384 then(Zb4 (l::ss),b.length)::rs else rs) ((b++Za1 (l.size:Int) 1)++l.data.toList)
  have h3:(if b.length<16384 then(Zb4 (l::ss),b.length)::rs else rs).length≤rs.length+1:=by split<;>simp
  simp only[Zla,Zap,hd] at h1 h2
  simp only[Za0,List.length_cons]
  split
  ·split
   ·simp only[Zla,Zap];omega
   ·omega
  ·omega
theorem Zf1 {ss:List ByteArray} (k:Nat) (h:ss.length≤64∧∀ t∈ss,t.size≤255):(ZaX (ss.take k)).length≤16400:=by
 have:∀ (l:List ByteArray),(∀ t∈l,t.size≤255)→(ZaX l).length≤256*l.length:=by
  intro l
  induction l with
  |nil=>intro _;simp[ZaX]
  |cons t l ih=>
   intro hl
   have h1:=hl t (by simp)
   have h2:=ih (fun x hx=>hl x (by simp[hx]))
   have hd:=ZcX t
   rw[ZaX,List.flatMap_cons,Zla,ZjR,Zla,Zap,List.length_cons]
   rw[ZaX] at h2
   omega
 have h1:=this (ss.take k) (fun t ht=>h.2 t (List.mem_of_mem_take ht))
 rw[List.length_take] at h1
 omega
theorem Zd5 {N M:Nat} {w:World} {ao:Option Addr} {n:Nat} (h:rowIn (inW N M w) ao n):rowIn (fun b=>b<N∨¬Zak wrT w b) ao n:=fun h0 a ha=>(h h0 a ha).imp id (·.1)
theorem ZlN (w:World) (N R M:Nat) (b:List UInt8) (rs:List (List UInt8×Nat)) (hW:IsWR N w R M b rs) (k:Int) (h:ZaJ) (d:Zaq) (hd:DW N M w h d) (hok:ZaB k d=true) (b0:Int) (host mail short:Bool) (nums:Int) (size:Nat) (texts first:Bool) (hp:Zq9 host mail size d)
  (hsh:∀ w',Calls Tryz.prog 152 #[.int .i64 k] w' fun e w2=>e= .returned (.agg (ZaF b0 host mail short nums (size:Int) texts first))∧Below w'.heap.size w' w2) (hb:b.length≤50000000) (hr:rs.length≤800000):
  Calls Tryz.prog 168 #[.pointer (some ⟨R,0,none⟩),.int .i64 k,.agg (Zae h)] w fun e w'=>e= .returned (.int .i64 0)∧IsWR N w' R M (ZdP host mail short size first d rs b).2 (ZdP host mail short size first d rs b).1∧OnlyM wrT N M w w':=by
 obtain⟨ba,bl,bc,ha,hl,hc,ma,ml,mc,na,nl,nc,ta,tl,tc⟩:=h
 have hal:Below w.heap.size w (w.alloc (.cells (Zae ⟨ba,bl,bc,ha,hl,hc,ma,ml,mc,na,nl,nc,ta,tl,tc⟩) 35)):=Zbr.alloc Zlr _
 have hA:Blk (w.alloc (.cells (Zae ⟨ba,bl,bc,ha,hl,hc,ma,ml,mc,na,nl,nc,ta,tl,tc⟩) 35)) w.heap.size (Zae ⟨ba,bl,bc,ha,hl,hc,ma,ml,mc,na,nl,nc,ta,tl,tc⟩) 35:=Zha w _
 have hN:=hW.iw.lt
 have htl0:tl≤64:=by have h1:d.texts.length=tl:=hd.data.len.texts;have:=hp.texts.1;omega
 have hbl0:bl≤65535:=by have h1:d.bytes.length=bl:=hd.data.len.bytes;have:=hp.bytes;omega
 have hd0:=hd.step (OnlyM.below (M:=M) hal hN)
 have HSO:=Zhd (ZfK _ k _ d hd0.data)
 rw[hok] at HSO
 have HA:=Zhd (Zan hal (Zan hA (Zan hd0 (Zan hN (Zan hp (Zan hb hr))))))
 have HW:=Zhd hW
 have HSH:=Zhd hsh
 simp only[Zae] at HSO HA⊢
 simp only[ZaF] at HSH
 clear hal hA hN hd0 hd hok hp hb hr hW hsh
 go_enter Tryz.func168,Tryz.ntmps168
 go_upto_region 4 with(first|(go_at_call 106;refine HSO.out.mono ?_;rintro e W1 ⟨rfl,hb1⟩;have H1:=Zhd hb1;clear hb1)|(go_at_call 152;refine(HSH.out W1).mono ?_;rintro e W2 ⟨rfl,hb2⟩;have H2:=Zhd hb2;clear hb2))
 have hal:Below W2.heap.size W2 (W2.alloc (.cells (ZaF b0 host mail short nums (size:Int) texts first) 211)):=Zbr.alloc Zlr _
 have hS:Blk (W2.alloc (.cells (ZaF b0 host mail short nums (size:Int) texts first) 211)) W2.heap.size (ZaF b0 host mail short nums (size:Int) texts first) 211:=Zha W2 _
 simp only[ZaF] at hal hS
 generalize W2.alloc (.cells #[.int .i64 b0,.bool host,.bool mail,.bool short,.int .i64 nums,.int .i64 (size:Int),.bool texts,.bool first] 211)=W3 at hal hS⊢
 have h13:=Zaa (Zaa H1.out H2.out Zlr) hal Zlr
 have hw3:=Zaa HA.out.1 h13 Zlr
 have hN3:N≤w.heap.size:=HA.out.2.2.2.1
 have hA3:=HA.out.2.1.on h13
 have hI3:=HW.out.on hw3
 have hD3:=HA.out.2.2.1.step (OnlyM.below (M:=M) h13 (by have:=HA.out.1.size;omega))
 have x0:W3.cell? ⟨w.heap.size,0,none⟩=some (.slice ba bl bc):=hA3.cell 0
 have HZ:=Zhd (Zan hI3 (Zan hD3 (Zan hA3 (Zan hS (Zan (hI3.m.ne hA3) (Zan (hI3.m.ne hS) hw3))))))
 have HRW:=Zhd (ZdY W3 N R M b hI3.iw ba bl bc d.bytes hD3.data.bytes (by have:=HA.out.2.2.2.2.2.1;omega))
 clear hal hS h13 hw3 hN3 hA3 hI3 hD3
 go_wp2_with (go_at_call 145;refine HRW.out.mono ?_;rintro e W4 ⟨rfl,hw4,ho4⟩;have hom:OnlyM wrT N M W3 W4:= .of ho4;have hb4:=hom.blk HZ.out.2.2.1 (by decide) HZ.out.2.2.2.2.1;have x4:W4.cell? ⟨w.heap.size,4,none⟩=some (.slice ta tl tc):=hb4.cell 4;have H4:=Zhd (Zan (HZ.out.1.step hw4 ho4) hom);clear hw4 ho4 hom hb4)
 go_loopw [9,27] (fun _ i wr=>∃ j:Nat,j≤tl∧i= .int .i64 (j:Int)∧Hid (IsWR N wr R M ((b++d.bytes)++ZaX (d.texts.take j)) rs∧OnlyM wrT N M W3 wr)) (fun _ i _=>tl-(intOf i).toNat)
 case atStart=>exact⟨0,Nat.zero_le _,rfl,Zhd ⟨by simpa [ZaX] using H4.out.1,H4.out.2⟩⟩
 case round=>
  obtain⟨j,hj,rfl,hinv⟩:=hrel
  have hdd:=HZ.out.2.1.step hinv.out.2
  have htl:d.texts.length=tl:=hdd.data.len.texts
  by_cases hlt:j<tl
  ·have hkx:j<d.texts.length:=by rw[htl];exact hlt
   have hsn:=ZkF d.texts hkx
   have hlen0:(ZaX (d.texts.take j)).length≤16400:=Zf1 j HA.out.2.2.2.2.1.texts
   obtain⟨bb,off,rfl,hcl⟩:=hdd.data.texts.row.hcells (show 0<tl by omega)
   have c0:wr.cell? ⟨bb,off+j,none⟩=some (.string d.texts[j]):=by have:=hcl j (by simpa using hkx);simpa using this
   have hx255:=HA.out.2.2.2.2.1.texts.2 d.texts[j] (List.getElem_mem hkx)
   obtain⟨x,hx⟩:∃ x,x=d.texts[j]:=⟨_,rfl⟩
   rw[←hx] at c0 hsn hx255
   have hbyl:=HA.out.2.2.2.2.1.bytes
   have hbl0:=HA.out.2.2.2.2.2.1
   have HN:=Zhd (Zbz wr N R M _ hinv.out.1.iw (x.size:Int) 1 (by omega) (by omega) (Zia (by omega)) (by rw[Zla,Zla];omega))
   have HX:=Zhd (Zan hsn (Zan hx255 (Zan hlen0 (Zan hbyl hbl0))))
   clear hsn hlen0 hcl hx255 hx hbyl hbl0 hkx hdd htl
   go_wp2_with (first|(go_at_call 98;refine HN.out.mono ?_;rintro e W5 ⟨rfl,hw5,ho5⟩;obtain⟨xc,W6,hcv,hx1,hx2,hx3,hx4,hx5⟩:=Zc1 (P:=Tryz.prog) W5 9 22 5 x Tryz.underlying9 Tryz.underlying22 Tryz.underlying5 (by have:=HX.out.2.1;omega);have H6:=Zhd (Zan (hw5.on hx3) (Zan ho5 (Zan hx3 (Zfc hx5 (ZcX x) hx1 hx2 (by have:=HX.out.2.1;omega)))));clear hw5 ho5 hx1 hx2 hx3 hx4 hx5)|(go_at_call 145;refine(ZdY W6 N R M _ H6.out.1 _ x.size xc x.data.toList H6.out.2.2.2 (by rw[Zla,Zla,Zla,Zap];have:=HX.out.2;omega)).mono ?_;rintro e W7 ⟨rfl,hw7,ho7⟩;have H7:=Zhd (Zan hw7 ho7);clear hw7 ho7 hcv))
   go_roundw
   case rel=>
    have z1:=hinv.out.2.bel.size
    have z2:=H6.out.2.1.bel.size
    have z3:=HZ.out.2.2.2.2.2.2.size
    have z4:=HA.out.2.2.2.1
    have ho:Only wrT N wr W7:=(H6.out.2.1.trans (Only.below H6.out.2.2.1 (by omega))).trans H7.out.2
    refine⟨j+1,by omega,by go_num,Zhd ⟨hinv.out.1.step ?_ ho,hinv.out.2.trans (.of ho)⟩⟩
    rw[HX.out.1,←List.append_assoc,←List.append_assoc]
    exact H7.out.1
   case measure=>simp[intOf];omega
  ·have hjl:j=d.texts.length:=by omega
   have hin:=hinv.out.1
   rw[hjl,List.take_length] at hin
   have hbx:=hinv.out.2.blk HZ.out.2.2.1 (by decide) HZ.out.2.2.2.2.1
   have hsx:=hinv.out.2.blk HZ.out.2.2.2.1 (by decide) HZ.out.2.2.2.2.2.1
   have s1:wr.cell? ⟨W2.heap.size,1,none⟩=some (.bool host):=hsx.cell 1
   have s2:wr.cell? ⟨W2.heap.size,2,none⟩=some (.bool mail):=hsx.cell 2
   have s3:wr.cell? ⟨W2.heap.size,3,none⟩=some (.bool short):=hsx.cell 3
   have s5:wr.cell? ⟨W2.heap.size,5,none⟩=some (.int .i64 (size:Int)):=hsx.cell 5
   have s7:wr.cell? ⟨W2.heap.size,7,none⟩=some (.bool first):=hsx.cell 7
   have b1:wr.cell? ⟨w.heap.size,1,none⟩=some (.slice ha hl hc):=hbx.cell 1
   have b2:wr.cell? ⟨w.heap.size,2,none⟩=some (.slice ma ml mc):=hbx.cell 2
   have b3:wr.cell? ⟨w.heap.size,3,none⟩=some (.slice na nl nc):=hbx.cell 3
   have hlen0:(ZaX d.texts).length≤16400:=by have:=Zf1 d.texts.length HA.out.2.2.2.2.1.texts;rwa [List.take_length] at this
   have HI:=Zhd (Zan hin (Zan hdd (Zan hbx (Zan hsx (Zan hinv.out.2 hlen0)))))
   clear hjl hin hdd htl hbx hsx hj hlen0
   have hB0:(((b++d.bytes)++ZaX d.texts):List UInt8).length≤50082000:=by
    rw[Zla,Zla]
    have:=HI.out.2.2.2.2.2
    have:=HA.out.2.2.2.2.1.bytes
    have:=HA.out.2.2.2.2.2.1
    omega
   have hr0:=HA.out.2.2.2.2.2.2
   obtain⟨B0,hBe⟩:∃ q,q=((b++d.bytes)++ZaX d.texts):=⟨_,rfl⟩
   have hI0:=HI.out.1
   rw[←hBe] at hB0 hI0
   have HE:=Zhd hBe
   have G0:Hid (IsWR N wr R M B0 rs∧OnlyM wrT N M W3 wr∧B0.length≤50082000∧rs.length≤800000):=Zhd ⟨hI0,HI.out.2.2.2.2.1,hB0,hr0⟩
   clear hBe hI0 hB0 hr0
   cases first<;>cases host<;>cases mail
   ·have T0:=Zhd True.intro
    go_wp2_with (first|(go_at_call 181;have hguard:=T0.out;clear hguard;refine(ZcP wr N R M B0 G0.out.1.iw na nl nc d.nums (HZ.out.2.1.step G0.out.2.1).data.nums (Zd5 (HZ.out.2.1.step G0.out.2.1).ins.iN) size HA.out.2.2.2.2.1.size HA.out.2.2.2.2.1.nums.2 (by have:=G0.out.2.2.1;omega) (by have h1:d.nums.length=nl:=(HZ.out.2.1.step G0.out.2.1).data.len.nums;have:=HA.out.2.2.2.2.1.nums.1;omega)).mono ?_;rintro e Y1 ⟨rfl,hwy,hoy1⟩;have hoy:=G0.out.2.1.trans (.of hoy1);have hbx:=hoy.blk HZ.out.2.2.1 (by decide) HZ.out.2.2.2.2.1;have hsx:=hoy.blk HZ.out.2.2.2.1 (by decide) HZ.out.2.2.2.2.2.1;have s1_1:Y1.cell? ⟨W2.heap.size,1,none⟩=some (.bool false):=hsx.cell 1;have s2_1:Y1.cell? ⟨W2.heap.size,2,none⟩=some (.bool false):=hsx.cell 2;have s3_1:Y1.cell? ⟨W2.heap.size,3,none⟩=some (.bool short):=hsx.cell 3;have s5_1:Y1.cell? ⟨W2.heap.size,5,none⟩=some (.int .i64 (size:Int)):=hsx.cell 5;have s7_1:Y1.cell? ⟨W2.heap.size,7,none⟩=some (.bool false):=hsx.cell 7;have b1_1:Y1.cell? ⟨w.heap.size,1,none⟩=some (.slice ha hl hc):=hbx.cell 1;have b2_1:Y1.cell? ⟨w.heap.size,2,none⟩=some (.slice ma ml mc):=hbx.cell 2;have b3_1:Y1.cell? ⟨w.heap.size,3,none⟩=some (.slice na nl nc):=hbx.cell 3;clear T0;have T1:=Zhd True.intro;have G1:Hid (IsWR N Y1 R M (B0++ZaH d.nums size) rs∧OnlyM wrT N M W3 Y1∧(B0++ZaH d.nums size).length≤50083000∧rs.length≤800300):=Zhd ⟨G0.out.1.step hwy hoy1,hoy,(by rw[Zla,ZbL];have h1:d.nums.length*size≤100*7:=Nat.mul_le_mul HA.out.2.2.2.2.1.nums.1 HA.out.2.2.2.2.1.size;have:=G0.out.2.2.1;omega),(by have:=G0.out.2.2.2;omega)⟩;clear hwy hoy hoy1 hbx hsx))
    go_ret
    rw[HE.out] at G1
    exact⟨rfl,G1.out.1,(OnlyM.below HZ.out.2.2.2.2.2.2 HA.out.2.2.2.1).trans G1.out.2.1⟩
   ·have T0:=Zhd True.intro
    go_wp2_with (first|(go_at_call 100;have hguard:=T0.out;clear hguard;refine(Zcb wr N R M B0 rs G0.out.1 ma ml mc d.mail (HZ.out.2.1.step G0.out.2.1).data.mail (HA.out.2.2.2.2.1.mail rfl) (Zd5 (HZ.out.2.1.step G0.out.2.1).ins.iM) short (by have:=G0.out.2.2.1;omega) (by have:=G0.out.2.2.2;omega)).mono ?_;rintro e Y1 ⟨rfl,hwy,hoy1⟩;have hoy:=G0.out.2.1.trans hoy1;have hbx:=hoy.blk HZ.out.2.2.1 (by decide) HZ.out.2.2.2.2.1;have hsx:=hoy.blk HZ.out.2.2.2.1 (by decide) HZ.out.2.2.2.2.2.1;have s1_1:Y1.cell? ⟨W2.heap.size,1,none⟩=some (.bool false):=hsx.cell 1;have s2_1:Y1.cell? ⟨W2.heap.size,2,none⟩=some (.bool true):=hsx.cell 2;have s3_1:Y1.cell? ⟨W2.heap.size,3,none⟩=some (.bool short):=hsx.cell 3;have s5_1:Y1.cell? ⟨W2.heap.size,5,none⟩=some (.int .i64 (size:Int)):=hsx.cell 5;have s7_1:Y1.cell? ⟨W2.heap.size,7,none⟩=some (.bool false):=hsx.cell 7;have b1_1:Y1.cell? ⟨w.heap.size,1,none⟩=some (.slice ha hl hc):=hbx.cell 1;have b2_1:Y1.cell? ⟨w.heap.size,2,none⟩=some (.slice ma ml mc):=hbx.cell 2;have b3_1:Y1.cell? ⟨w.heap.size,3,none⟩=some (.slice na nl nc):=hbx.cell 3;have hln:=Zbd short d.mail rs B0;have hsz:=(ZaS (HA.out.2.2.2.2.1.mail rfl)).1;have hsl:=Zbk d.mail;clear T0;have T1:=Zhd True.intro;have G1:Hid (IsWR N Y1 R M (nameW short d.mail rs B0).2 (nameW short d.mail rs B0).1∧OnlyM wrT N M W3 Y1∧(nameW short d.mail rs B0).2.length≤50083000∧(nameW short d.mail rs B0).1.length≤800300):=Zhd ⟨hwy,hoy,(by have:=G0.out.2.2.1;omega),(by have:=G0.out.2.2.2;omega)⟩;clear hwy hoy hoy1 hbx hsx hln hsz hsl)|(go_at_call 181;have hguard:=T1.out;clear hguard;refine(ZcP Y1 N R M (nameW short d.mail rs B0).2 G1.out.1.iw na nl nc d.nums (HZ.out.2.1.step G1.out.2.1).data.nums (Zd5 (HZ.out.2.1.step G1.out.2.1).ins.iN) size HA.out.2.2.2.2.1.size HA.out.2.2.2.2.1.nums.2 (by have:=G1.out.2.2.1;omega) (by have h1:d.nums.length=nl:=(HZ.out.2.1.step G1.out.2.1).data.len.nums;have:=HA.out.2.2.2.2.1.nums.1;omega)).mono ?_;rintro e Y2 ⟨rfl,hwy,hoy1⟩;have hoy:=G1.out.2.1.trans (.of hoy1);have hbx:=hoy.blk HZ.out.2.2.1 (by decide) HZ.out.2.2.2.2.1;have hsx:=hoy.blk HZ.out.2.2.2.1 (by decide) HZ.out.2.2.2.2.2.1;have s1_2:Y2.cell? ⟨W2.heap.size,1,none⟩=some (.bool false):=hsx.cell 1;have s2_2:Y2.cell? ⟨W2.heap.size,2,none⟩=some (.bool true):=hsx.cell 2;have s3_2:Y2.cell? ⟨W2.heap.size,3,none⟩=some (.bool short):=hsx.cell 3;have s5_2:Y2.cell? ⟨W2.heap.size,5,none⟩=some (.int .i64 (size:Int)):=hsx.cell 5;have s7_2:Y2.cell? ⟨W2.heap.size,7,none⟩=some (.bool false):=hsx.cell 7;have b1_2:Y2.cell? ⟨w.heap.size,1,none⟩=some (.slice ha hl hc):=hbx.cell 1;have b2_2:Y2.cell? ⟨w.heap.size,2,none⟩=some (.slice ma ml mc):=hbx.cell 2;have b3_2:Y2.cell? ⟨w.heap.size,3,none⟩=some (.slice na nl nc):=hbx.cell 3;clear T1;have T2:=Zhd True.intro;have G2:Hid (IsWR N Y2 R M ((nameW short d.mail rs B0).2++ZaH d.nums size) (nameW short d.mail rs B0).1∧OnlyM wrT N M W3 Y2∧((nameW short d.mail rs B0).2++ZaH d.nums size).length≤50084000∧(nameW short d.mail rs B0).1.length≤800600):=Zhd ⟨G1.out.1.step hwy hoy1,hoy,(by rw[Zla,ZbL];have h1:d.nums.length*size≤100*7:=Nat.mul_le_mul HA.out.2.2.2.2.1.nums.1 HA.out.2.2.2.2.1.size;have:=G1.out.2.2.1;omega),(by have:=G1.out.2.2.2;omega)⟩;clear hwy hoy hoy1 hbx hsx))
    go_ret
    rw[HE.out] at G2
    exact⟨rfl,G2.out.1,(OnlyM.below HZ.out.2.2.2.2.2.2 HA.out.2.2.2.1).trans G2.out.2.1⟩
   ·have T0:=Zhd True.intro
    go_wp2_with (first|(go_at_call 100;have hguard:=T0.out;clear hguard;refine(Zcb wr N R M B0 rs G0.out.1 ha hl hc d.host (HZ.out.2.1.step G0.out.2.1).data.host (HA.out.2.2.2.2.1.host rfl) (Zd5 (HZ.out.2.1.step G0.out.2.1).ins.iH) short (by have:=G0.out.2.2.1;omega) (by have:=G0.out.2.2.2;omega)).mono ?_;rintro e Y1 ⟨rfl,hwy,hoy1⟩;have hoy:=G0.out.2.1.trans hoy1;have hbx:=hoy.blk HZ.out.2.2.1 (by decide) HZ.out.2.2.2.2.1;have hsx:=hoy.blk HZ.out.2.2.2.1 (by decide) HZ.out.2.2.2.2.2.1;have s1_1:Y1.cell? ⟨W2.heap.size,1,none⟩=some (.bool true):=hsx.cell 1;have s2_1:Y1.cell? ⟨W2.heap.size,2,none⟩=some (.bool false):=hsx.cell 2;have s3_1:Y1.cell? ⟨W2.heap.size,3,none⟩=some (.bool short):=hsx.cell 3;have s5_1:Y1.cell? ⟨W2.heap.size,5,none⟩=some (.int .i64 (size:Int)):=hsx.cell 5;have s7_1:Y1.cell? ⟨W2.heap.size,7,none⟩=some (.bool false):=hsx.cell 7;have b1_1:Y1.cell? ⟨w.heap.size,1,none⟩=some (.slice ha hl hc):=hbx.cell 1;have b2_1:Y1.cell? ⟨w.heap.size,2,none⟩=some (.slice ma ml mc):=hbx.cell 2;have b3_1:Y1.cell? ⟨w.heap.size,3,none⟩=some (.slice na nl nc):=hbx.cell 3;have hln:=Zbd short d.host rs B0;have hsz:=(ZaS (HA.out.2.2.2.2.1.host rfl)).1;have hsl:=Zbk d.host;clear T0;have T1:=Zhd True.intro;have G1:Hid (IsWR N Y1 R M (nameW short d.host rs B0).2 (nameW short d.host rs B0).1∧OnlyM wrT N M W3 Y1∧(nameW short d.host rs B0).2.length≤50083000∧(nameW short d.host rs B0).1.length≤800300):=Zhd ⟨hwy,hoy,(by have:=G0.out.2.2.1;omega),(by have:=G0.out.2.2.2;omega)⟩;clear hwy hoy hoy1 hbx hsx hln hsz hsl)|(go_at_call 181;have hguard:=T1.out;clear hguard;refine(ZcP Y1 N R M (nameW short d.host rs B0).2 G1.out.1.iw na nl nc d.nums (HZ.out.2.1.step G1.out.2.1).data.nums (Zd5 (HZ.out.2.1.step G1.out.2.1).ins.iN) size HA.out.2.2.2.2.1.size HA.out.2.2.2.2.1.nums.2 (by have:=G1.out.2.2.1;omega) (by have h1:d.nums.length=nl:=(HZ.out.2.1.step G1.out.2.1).data.len.nums;have:=HA.out.2.2.2.2.1.nums.1;omega)).mono ?_;rintro e Y2 ⟨rfl,hwy,hoy1⟩;have hoy:=G1.out.2.1.trans (.of hoy1);have hbx:=hoy.blk HZ.out.2.2.1 (by decide) HZ.out.2.2.2.2.1;have hsx:=hoy.blk HZ.out.2.2.2.1 (by decide) HZ.out.2.2.2.2.2.1;have s1_2:Y2.cell? ⟨W2.heap.size,1,none⟩=some (.bool true):=hsx.cell 1;have s2_2:Y2.cell? ⟨W2.heap.size,2,none⟩=some (.bool false):=hsx.cell 2;have s3_2:Y2.cell? ⟨W2.heap.size,3,none⟩=some (.bool short):=hsx.cell 3;have s5_2:Y2.cell? ⟨W2.heap.size,5,none⟩=some (.int .i64 (size:Int)):=hsx.cell 5;have s7_2:Y2.cell? ⟨W2.heap.size,7,none⟩=some (.bool false):=hsx.cell 7;have b1_2:Y2.cell? ⟨w.heap.size,1,none⟩=some (.slice ha hl hc):=hbx.cell 1;have b2_2:Y2.cell? ⟨w.heap.size,2,none⟩=some (.slice ma ml mc):=hbx.cell 2;have b3_2:Y2.cell? ⟨w.heap.size,3,none⟩=some (.slice na nl nc):=hbx.cell 3;clear T1;have T2:=Zhd True.intro;have G2:Hid (IsWR N Y2 R M ((nameW short d.host rs B0).2++ZaH d.nums size) (nameW short d.host rs B0).1∧OnlyM wrT N M W3 Y2∧((nameW short d.host rs B0).2++ZaH d.nums size).length≤50084000∧(nameW short d.host rs B0).1.length≤800600):=Zhd ⟨G1.out.1.step hwy hoy1,hoy,(by rw[Zla,ZbL];have h1:d.nums.length*size≤100*7:=Nat.mul_le_mul HA.out.2.2.2.2.1.nums.1 HA.out.2.2.2.2.1.size;have:=G1.out.2.2.1;omega),(by have:=G1.out.2.2.2;omega)⟩;clear hwy hoy hoy1 hbx hsx))
    go_ret
    rw[HE.out] at G2
    exact⟨rfl,G2.out.1,(OnlyM.below HZ.out.2.2.2.2.2.2 HA.out.2.2.2.1).trans G2.out.2.1⟩
   ·have T0:=Zhd True.intro
    go_wp2_with (first|(go_at_call 100;have hguard:=T0.out;clear hguard;refine(Zcb wr N R M B0 rs G0.out.1 ha hl hc d.host (HZ.out.2.1.step G0.out.2.1).data.host (HA.out.2.2.2.2.1.host rfl) (Zd5 (HZ.out.2.1.step G0.out.2.1).ins.iH) short (by have:=G0.out.2.2.1;omega) (by have:=G0.out.2.2.2;omega)).mono ?_;rintro e Y1 ⟨rfl,hwy,hoy1⟩;have hoy:=G0.out.2.1.trans hoy1;have hbx:=hoy.blk HZ.out.2.2.1 (by decide) HZ.out.2.2.2.2.1;have hsx:=hoy.blk HZ.out.2.2.2.1 (by decide) HZ.out.2.2.2.2.2.1;have s1_1:Y1.cell? ⟨W2.heap.size,1,none⟩=some (.bool true):=hsx.cell 1;have s2_1:Y1.cell? ⟨W2.heap.size,2,none⟩=some (.bool true):=hsx.cell 2;have s3_1:Y1.cell? ⟨W2.heap.size,3,none⟩=some (.bool short):=hsx.cell 3;have s5_1:Y1.cell? ⟨W2.heap.size,5,none⟩=some (.int .i64 (size:Int)):=hsx.cell 5;have s7_1:Y1.cell? ⟨W2.heap.size,7,none⟩=some (.bool false):=hsx.cell 7;have b1_1:Y1.cell? ⟨w.heap.size,1,none⟩=some (.slice ha hl hc):=hbx.cell 1;have b2_1:Y1.cell? ⟨w.heap.size,2,none⟩=some (.slice ma ml mc):=hbx.cell 2;have b3_1:Y1.cell? ⟨w.heap.size,3,none⟩=some (.slice na nl nc):=hbx.cell 3;have hln:=Zbd short d.host rs B0;have hsz:=(ZaS (HA.out.2.2.2.2.1.host rfl)).1;have hsl:=Zbk d.host;clear T0;have T1:=Zhd True.intro;have G1:Hid (IsWR N Y1 R M (nameW short d.host rs B0).2 (nameW short d.host rs B0).1∧OnlyM wrT N M W3 Y1∧(nameW short d.host rs B0).2.length≤50083000∧(nameW short d.host rs B0).1.length≤800300):=Zhd ⟨hwy,hoy,(by have:=G0.out.2.2.1;omega),(by have:=G0.out.2.2.2;omega)⟩;clear hwy hoy hoy1 hbx hsx hln hsz hsl)|(go_at_call 100;have hguard:=T1.out;clear hguard;refine(Zcb Y1 N R M (nameW short d.host rs B0).2 (nameW short d.host rs B0).1 G1.out.1 ma ml mc d.mail (HZ.out.2.1.step G1.out.2.1).data.mail (HA.out.2.2.2.2.1.mail rfl) (Zd5 (HZ.out.2.1.step G1.out.2.1).ins.iM) short (by have:=G1.out.2.2.1;omega) (by have:=G1.out.2.2.2;omega)).mono ?_;rintro e Y2 ⟨rfl,hwy,hoy1⟩;have hoy:=G1.out.2.1.trans hoy1;have hbx:=hoy.blk HZ.out.2.2.1 (by decide) HZ.out.2.2.2.2.1;have hsx:=hoy.blk HZ.out.2.2.2.1 (by decide) HZ.out.2.2.2.2.2.1;have s1_2:Y2.cell? ⟨W2.heap.size,1,none⟩=some (.bool true):=hsx.cell 1;have s2_2:Y2.cell? ⟨W2.heap.size,2,none⟩=some (.bool true):=hsx.cell 2;have s3_2:Y2.cell? ⟨W2.heap.size,3,none⟩=some (.bool short):=hsx.cell 3;have s5_2:Y2.cell? ⟨W2.heap.size,5,none⟩=some (.int .i64 (size:Int)):=hsx.cell 5;have s7_2:Y2.cell? ⟨W2.heap.size,7,none⟩=some (.bool false):=hsx.cell 7;have b1_2:Y2.cell? ⟨w.heap.size,1,none⟩=some (.slice ha hl hc):=hbx.cell 1;have b2_2:Y2.cell? ⟨w.heap.size,2,none⟩=some (.slice ma ml mc):=hbx.cell 2;have b3_2:Y2.cell? ⟨w.heap.size,3,none⟩=some (.slice na nl nc):=hbx.cell 3;have hln:=Zbd short d.mail (nameW short d.host rs B0).1 (nameW short d.host rs B0).2;have hsz:=(ZaS (HA.out.2.2.2.2.1.mail rfl)).1;have hsl:=Zbk d.mail;clear T1;have T2:=Zhd True.intro;have G2:Hid (IsWR N Y2 R M (nameW short d.mail (nameW short d.host rs B0).1 (nameW short d.host rs B0).2).2 (nameW short d.mail (nameW short d.host rs B0).1 (nameW short d.host rs B0).2).1∧OnlyM wrT N M W3 Y2∧(nameW short d.mail (nameW short d.host rs B0).1 (nameW short d.host rs B0).2).2.length≤50084000∧(nameW short d.mail (nameW short d.host rs B0).1 (nameW short d.host rs B0).2).1.length≤800600):=Zhd ⟨hwy,hoy,(by have:=G1.out.2.2.1;omega),(by have:=G1.out.2.2.2;omega)⟩;clear hwy hoy hoy1 hbx hsx hln hsz hsl)|(go_at_call 181;have hguard:=T2.out;clear hguard;refine(ZcP Y2 N R M (nameW short d.mail (nameW short d.host rs B0).1 (nameW short d.host rs B0).2).2 G2.out.1.iw na nl nc d.nums (HZ.out.2.1.step G2.out.2.1).data.nums (Zd5 (HZ.out.2.1.step G2.out.2.1).ins.iN) size HA.out.2.2.2.2.1.size HA.out.2.2.2.2.1.nums.2 (by have:=G2.out.2.2.1;omega) (by have h1:d.nums.length=nl:=(HZ.out.2.1.step G2.out.2.1).data.len.nums;have:=HA.out.2.2.2.2.1.nums.1;omega)).mono ?_;rintro e Y3 ⟨rfl,hwy,hoy1⟩;have hoy:=G2.out.2.1.trans (.of hoy1);have hbx:=hoy.blk HZ.out.2.2.1 (by decide) HZ.out.2.2.2.2.1;have hsx:=hoy.blk HZ.out.2.2.2.1 (by decide) HZ.out.2.2.2.2.2.1;have s1_3:Y3.cell? ⟨W2.heap.size,1,none⟩=some (.bool true):=hsx.cell 1;have s2_3:Y3.cell? ⟨W2.heap.size,2,none⟩=some (.bool true):=hsx.cell 2;have s3_3:Y3.cell? ⟨W2.heap.size,3,none⟩=some (.bool short):=hsx.cell 3;have s5_3:Y3.cell? ⟨W2.heap.size,5,none⟩=some (.int .i64 (size:Int)):=hsx.cell 5;have s7_3:Y3.cell? ⟨W2.heap.size,7,none⟩=some (.bool false):=hsx.cell 7;have b1_3:Y3.cell? ⟨w.heap.size,1,none⟩=some (.slice ha hl hc):=hbx.cell 1;have b2_3:Y3.cell? ⟨w.heap.size,2,none⟩=some (.slice ma ml mc):=hbx.cell 2;have b3_3:Y3.cell? ⟨w.heap.size,3,none⟩=some (.slice na nl nc):=hbx.cell 3;clear T2;have T3:=Zhd True.intro;have G3:Hid (IsWR N Y3 R M ((nameW short d.mail (nameW short d.host rs B0).1 (nameW short d.host rs B0).2).2++ZaH d.nums size) (nameW short d.mail (nameW short d.host rs B0).1 (nameW short d.host rs B0).2).1∧OnlyM wrT N M W3 Y3∧((nameW short d.mail (nameW short d.host rs B0).1 (nameW short d.host rs B0).2).2++ZaH d.nums size).length≤50085000∧(nameW short d.mail (nameW short d.host rs B0).1 (nameW short d.host rs B0).2).1.length≤800900):=Zhd ⟨G2.out.1.step hwy hoy1,hoy,(by rw[Zla,ZbL];have h1:d.nums.length*size≤100*7:=Nat.mul_le_mul HA.out.2.2.2.2.1.nums.1 HA.out.2.2.2.2.1.size;have:=G2.out.2.2.1;omega),(by have:=G2.out.2.2.2;omega)⟩;clear hwy hoy hoy1 hbx hsx))
    go_ret
    rw[HE.out] at G3
    exact⟨rfl,G3.out.1,(OnlyM.below HZ.out.2.2.2.2.2.2 HA.out.2.2.2.1).trans G3.out.2.1⟩
   ·have T0:=Zhd True.intro
    go_wp2_with (first|(go_at_call 181;have hguard:=T0.out;clear hguard;refine(ZcP wr N R M B0 G0.out.1.iw na nl nc d.nums (HZ.out.2.1.step G0.out.2.1).data.nums (Zd5 (HZ.out.2.1.step G0.out.2.1).ins.iN) size HA.out.2.2.2.2.1.size HA.out.2.2.2.2.1.nums.2 (by have:=G0.out.2.2.1;omega) (by have h1:d.nums.length=nl:=(HZ.out.2.1.step G0.out.2.1).data.len.nums;have:=HA.out.2.2.2.2.1.nums.1;omega)).mono ?_;rintro e Y1 ⟨rfl,hwy,hoy1⟩;have hoy:=G0.out.2.1.trans (.of hoy1);have hbx:=hoy.blk HZ.out.2.2.1 (by decide) HZ.out.2.2.2.2.1;have hsx:=hoy.blk HZ.out.2.2.2.1 (by decide) HZ.out.2.2.2.2.2.1;have s1_1:Y1.cell? ⟨W2.heap.size,1,none⟩=some (.bool false):=hsx.cell 1;have s2_1:Y1.cell? ⟨W2.heap.size,2,none⟩=some (.bool false):=hsx.cell 2;have s3_1:Y1.cell? ⟨W2.heap.size,3,none⟩=some (.bool short):=hsx.cell 3;have s5_1:Y1.cell? ⟨W2.heap.size,5,none⟩=some (.int .i64 (size:Int)):=hsx.cell 5;have s7_1:Y1.cell? ⟨W2.heap.size,7,none⟩=some (.bool true):=hsx.cell 7;have b1_1:Y1.cell? ⟨w.heap.size,1,none⟩=some (.slice ha hl hc):=hbx.cell 1;have b2_1:Y1.cell? ⟨w.heap.size,2,none⟩=some (.slice ma ml mc):=hbx.cell 2;have b3_1:Y1.cell? ⟨w.heap.size,3,none⟩=some (.slice na nl nc):=hbx.cell 3;clear T0;have T1:=Zhd True.intro;have G1:Hid (IsWR N Y1 R M (B0++ZaH d.nums size) rs∧OnlyM wrT N M W3 Y1∧(B0++ZaH d.nums size).length≤50083000∧rs.length≤800300):=Zhd ⟨G0.out.1.step hwy hoy1,hoy,(by rw[Zla,ZbL];have h1:d.nums.length*size≤100*7:=Nat.mul_le_mul HA.out.2.2.2.2.1.nums.1 HA.out.2.2.2.2.1.size;have:=G0.out.2.2.1;omega),(by have:=G0.out.2.2.2;omega)⟩;clear hwy hoy hoy1 hbx hsx))
    go_ret
    rw[HE.out] at G1
    exact⟨rfl,G1.out.1,(OnlyM.below HZ.out.2.2.2.2.2.2 HA.out.2.2.2.1).trans G1.out.2.1⟩
   ·have T0:=Zhd True.intro
    go_wp2_with (first|(go_at_call 181;have hguard:=T0.out;clear hguard;refine(ZcP wr N R M B0 G0.out.1.iw na nl nc d.nums (HZ.out.2.1.step G0.out.2.1).data.nums (Zd5 (HZ.out.2.1.step G0.out.2.1).ins.iN) size HA.out.2.2.2.2.1.size HA.out.2.2.2.2.1.nums.2 (by have:=G0.out.2.2.1;omega) (by have h1:d.nums.length=nl:=(HZ.out.2.1.step G0.out.2.1).data.len.nums;have:=HA.out.2.2.2.2.1.nums.1;omega)).mono ?_;rintro e Y1 ⟨rfl,hwy,hoy1⟩;have hoy:=G0.out.2.1.trans (.of hoy1);have hbx:=hoy.blk HZ.out.2.2.1 (by decide) HZ.out.2.2.2.2.1;have hsx:=hoy.blk HZ.out.2.2.2.1 (by decide) HZ.out.2.2.2.2.2.1;have s1_1:Y1.cell? ⟨W2.heap.size,1,none⟩=some (.bool false):=hsx.cell 1;have s2_1:Y1.cell? ⟨W2.heap.size,2,none⟩=some (.bool true):=hsx.cell 2;have s3_1:Y1.cell? ⟨W2.heap.size,3,none⟩=some (.bool short):=hsx.cell 3;have s5_1:Y1.cell? ⟨W2.heap.size,5,none⟩=some (.int .i64 (size:Int)):=hsx.cell 5;have s7_1:Y1.cell? ⟨W2.heap.size,7,none⟩=some (.bool true):=hsx.cell 7;have b1_1:Y1.cell? ⟨w.heap.size,1,none⟩=some (.slice ha hl hc):=hbx.cell 1;have b2_1:Y1.cell? ⟨w.heap.size,2,none⟩=some (.slice ma ml mc):=hbx.cell 2;have b3_1:Y1.cell? ⟨w.heap.size,3,none⟩=some (.slice na nl nc):=hbx.cell 3;clear T0;have T1:=Zhd True.intro;have G1:Hid (IsWR N Y1 R M (B0++ZaH d.nums size) rs∧OnlyM wrT N M W3 Y1∧(B0++ZaH d.nums size).length≤50083000∧rs.length≤800300):=Zhd ⟨G0.out.1.step hwy hoy1,hoy,(by rw[Zla,ZbL];have h1:d.nums.length*size≤100*7:=Nat.mul_le_mul HA.out.2.2.2.2.1.nums.1 HA.out.2.2.2.2.1.size;have:=G0.out.2.2.1;omega),(by have:=G0.out.2.2.2;omega)⟩;clear hwy hoy hoy1 hbx hsx)|(go_at_call 100;have hguard:=T1.out;clear hguard;refine(Zcb Y1 N R M (B0++ZaH d.nums size) rs G1.out.1 ma ml mc d.mail (HZ.out.2.1.step G1.out.2.1).data.mail (HA.out.2.2.2.2.1.mail rfl) (Zd5 (HZ.out.2.1.step G1.out.2.1).ins.iM) short (by have:=G1.out.2.2.1;omega) (by have:=G1.out.2.2.2;omega)).mono ?_;rintro e Y2 ⟨rfl,hwy,hoy1⟩;have hoy:=G1.out.2.1.trans hoy1;have hbx:=hoy.blk HZ.out.2.2.1 (by decide) HZ.out.2.2.2.2.1;have hsx:=hoy.blk HZ.out.2.2.2.1 (by decide) HZ.out.2.2.2.2.2.1;have s1_2:Y2.cell? ⟨W2.heap.size,1,none⟩=some (.bool false):=hsx.cell 1;have s2_2:Y2.cell? ⟨W2.heap.size,2,none⟩=some (.bool true):=hsx.cell 2;have s3_2:Y2.cell? ⟨W2.heap.size,3,none⟩=some (.bool short):=hsx.cell 3;have s5_2:Y2.cell? ⟨W2.heap.size,5,none⟩=some (.int .i64 (size:Int)):=hsx.cell 5;have s7_2:Y2.cell? ⟨W2.heap.size,7,none⟩=some (.bool true):=hsx.cell 7;have b1_2:Y2.cell? ⟨w.heap.size,1,none⟩=some (.slice ha hl hc):=hbx.cell 1;have b2_2:Y2.cell? ⟨w.heap.size,2,none⟩=some (.slice ma ml mc):=hbx.cell 2;have b3_2:Y2.cell? ⟨w.heap.size,3,none⟩=some (.slice na nl nc):=hbx.cell 3;have hln:=Zbd short d.mail rs (B0++ZaH d.nums size);have hsz:=(ZaS (HA.out.2.2.2.2.1.mail rfl)).1;have hsl:=Zbk d.mail;clear T1;have T2:=Zhd True.intro;have G2:Hid (IsWR N Y2 R M (nameW short d.mail rs (B0++ZaH d.nums size)).2 (nameW short d.mail rs (B0++ZaH d.nums size)).1∧OnlyM wrT N M W3 Y2∧(nameW short d.mail rs (B0++ZaH d.nums size)).2.length≤50084000∧(nameW short d.mail rs (B0++ZaH d.nums size)).1.length≤800600):=Zhd ⟨hwy,hoy,(by have:=G1.out.2.2.1;omega),(by have:=G1.out.2.2.2;omega)⟩;clear hwy hoy hoy1 hbx hsx hln hsz hsl))
    go_ret
    rw[HE.out] at G2
    exact⟨rfl,G2.out.1,(OnlyM.below HZ.out.2.2.2.2.2.2 HA.out.2.2.2.1).trans G2.out.2.1⟩
   ·have T0:=Zhd True.intro
    go_wp2_with (first|(go_at_call 181;have hguard:=T0.out;clear hguard;refine(ZcP wr N R M B0 G0.out.1.iw na nl nc d.nums (HZ.out.2.1.step G0.out.2.1).data.nums (Zd5 (HZ.out.2.1.step G0.out.2.1).ins.iN) size HA.out.2.2.2.2.1.size HA.out.2.2.2.2.1.nums.2 (by have:=G0.out.2.2.1;omega) (by have h1:d.nums.length=nl:=(HZ.out.2.1.step G0.out.2.1).data.len.nums;have:=HA.out.2.2.2.2.1.nums.1;omega)).mono ?_;rintro e Y1 ⟨rfl,hwy,hoy1⟩;have hoy:=G0.out.2.1.trans (.of hoy1);have hbx:=hoy.blk HZ.out.2.2.1 (by decide) HZ.out.2.2.2.2.1;have hsx:=hoy.blk HZ.out.2.2.2.1 (by decide) HZ.out.2.2.2.2.2.1;have s1_1:Y1.cell? ⟨W2.heap.size,1,none⟩=some (.bool true):=hsx.cell 1;have s2_1:Y1.cell? ⟨W2.heap.size,2,none⟩=some (.bool false):=hsx.cell 2;have s3_1:Y1.cell? ⟨W2.heap.size,3,none⟩=some (.bool short):=hsx.cell 3;have s5_1:Y1.cell? ⟨W2.heap.size,5,none⟩=some (.int .i64 (size:Int)):=hsx.cell 5;have s7_1:Y1.cell? ⟨W2.heap.size,7,none⟩=some (.bool true):=hsx.cell 7;have b1_1:Y1.cell? ⟨w.heap.size,1,none⟩=some (.slice ha hl hc):=hbx.cell 1;have b2_1:Y1.cell? ⟨w.heap.size,2,none⟩=some (.slice ma ml mc):=hbx.cell 2;have b3_1:Y1.cell? ⟨w.heap.size,3,none⟩=some (.slice na nl nc):=hbx.cell 3;clear T0;have T1:=Zhd True.intro;have G1:Hid (IsWR N Y1 R M (B0++ZaH d.nums size) rs∧OnlyM wrT N M W3 Y1∧(B0++ZaH d.nums size).length≤50083000∧rs.length≤800300):=Zhd ⟨G0.out.1.step hwy hoy1,hoy,(by rw[Zla,ZbL];have h1:d.nums.length*size≤100*7:=Nat.mul_le_mul HA.out.2.2.2.2.1.nums.1 HA.out.2.2.2.2.1.size;have:=G0.out.2.2.1;omega),(by have:=G0.out.2.2.2;omega)⟩;clear hwy hoy hoy1 hbx hsx)|(go_at_call 100;have hguard:=T1.out;clear hguard;refine(Zcb Y1 N R M (B0++ZaH d.nums size) rs G1.out.1 ha hl hc d.host (HZ.out.2.1.step G1.out.2.1).data.host (HA.out.2.2.2.2.1.host rfl) (Zd5 (HZ.out.2.1.step G1.out.2.1).ins.iH) short (by have:=G1.out.2.2.1;omega) (by have:=G1.out.2.2.2;omega)).mono ?_;rintro e Y2 ⟨rfl,hwy,hoy1⟩;have hoy:=G1.out.2.1.trans hoy1;have hbx:=hoy.blk HZ.out.2.2.1 (by decide) HZ.out.2.2.2.2.1;have hsx:=hoy.blk HZ.out.2.2.2.1 (by decide) HZ.out.2.2.2.2.2.1;have s1_2:Y2.cell? ⟨W2.heap.size,1,none⟩=some (.bool true):=hsx.cell 1;have s2_2:Y2.cell? ⟨W2.heap.size,2,none⟩=some (.bool false):=hsx.cell 2;have s3_2:Y2.cell? ⟨W2.heap.size,3,none⟩=some (.bool short):=hsx.cell 3;have s5_2:Y2.cell? ⟨W2.heap.size,5,none⟩=some (.int .i64 (size:Int)):=hsx.cell 5;have s7_2:Y2.cell? ⟨W2.heap.size,7,none⟩=some (.bool true):=hsx.cell 7;have b1_2:Y2.cell? ⟨w.heap.size,1,none⟩=some (.slice ha hl hc):=hbx.cell 1;have b2_2:Y2.cell? ⟨w.heap.size,2,none⟩=some (.slice ma ml mc):=hbx.cell 2;have b3_2:Y2.cell? ⟨w.heap.size,3,none⟩=some (.slice na nl nc):=hbx.cell 3;have hln:=Zbd short d.host rs (B0++ZaH d.nums size);have hsz:=(ZaS (HA.out.2.2.2.2.1.host rfl)).1;have hsl:=Zbk d.host;clear T1;have T2:=Zhd True.intro;have G2:Hid (IsWR N Y2 R M (nameW short d.host rs (B0++ZaH d.nums size)).2 (nameW short d.host rs (B0++ZaH d.nums size)).1∧OnlyM wrT N M W3 Y2∧(nameW short d.host rs (B0++ZaH d.nums size)).2.length≤50084000∧(nameW short d.host rs (B0++ZaH d.nums size)).1.length≤800600):=Zhd ⟨hwy,hoy,(by have:=G1.out.2.2.1;omega),(by have:=G1.out.2.2.2;omega)⟩;clear hwy hoy hoy1 hbx hsx hln hsz hsl))
    go_ret
    rw[HE.out] at G2
    exact⟨rfl,G2.out.1,(OnlyM.below HZ.out.2.2.2.2.2.2 HA.out.2.2.2.1).trans G2.out.2.1⟩
   ·have T0:=Zhd True.intro
    go_wp2_with (first|(go_at_call 181;have hguard:=T0.out;clear hguard;refine(ZcP wr N R M B0 G0.out.1.iw na nl nc d.nums (HZ.out.2.1.step G0.out.2.1).data.nums (Zd5 (HZ.out.2.1.step G0.out.2.1).ins.iN) size HA.out.2.2.2.2.1.size HA.out.2.2.2.2.1.nums.2 (by have:=G0.out.2.2.1;omega) (by have h1:d.nums.length=nl:=(HZ.out.2.1.step G0.out.2.1).data.len.nums;have:=HA.out.2.2.2.2.1.nums.1;omega)).mono ?_;rintro e Y1 ⟨rfl,hwy,hoy1⟩;have hoy:=G0.out.2.1.trans (.of hoy1);have hbx:=hoy.blk HZ.out.2.2.1 (by decide) HZ.out.2.2.2.2.1;have hsx:=hoy.blk HZ.out.2.2.2.1 (by decide) HZ.out.2.2.2.2.2.1;have s1_1:Y1.cell? ⟨W2.heap.size,1,none⟩=some (.bool true):=hsx.cell 1;have s2_1:Y1.cell? ⟨W2.heap.size,2,none⟩=some (.bool true):=hsx.cell 2;have s3_1:Y1.cell? ⟨W2.heap.size,3,none⟩=some (.bool short):=hsx.cell 3;have s5_1:Y1.cell? ⟨W2.heap.size,5,none⟩=some (.int .i64 (size:Int)):=hsx.cell 5;have s7_1:Y1.cell? ⟨W2.heap.size,7,none⟩=some (.bool true):=hsx.cell 7;have b1_1:Y1.cell? ⟨w.heap.size,1,none⟩=some (.slice ha hl hc):=hbx.cell 1;have b2_1:Y1.cell? ⟨w.heap.size,2,none⟩=some (.slice ma ml mc):=hbx.cell 2;have b3_1:Y1.cell? ⟨w.heap.size,3,none⟩=some (.slice na nl nc):=hbx.cell 3;clear T0;have T1:=Zhd True.intro;have G1:Hid (IsWR N Y1 R M (B0++ZaH d.nums size) rs∧OnlyM wrT N M W3 Y1∧(B0++ZaH d.nums size).length≤50083000∧rs.length≤800300):=Zhd ⟨G0.out.1.step hwy hoy1,hoy,(by rw[Zla,ZbL];have h1:d.nums.length*size≤100*7:=Nat.mul_le_mul HA.out.2.2.2.2.1.nums.1 HA.out.2.2.2.2.1.size;have:=G0.out.2.2.1;omega),(by have:=G0.out.2.2.2;omega)⟩;clear hwy hoy hoy1 hbx hsx)|(go_at_call 100;have hguard:=T1.out;clear hguard;refine(Zcb Y1 N R M (B0++ZaH d.nums size) rs G1.out.1 ha hl hc d.host (HZ.out.2.1.step G1.out.2.1).data.host (HA.out.2.2.2.2.1.host rfl) (Zd5 (HZ.out.2.1.step G1.out.2.1).ins.iH) short (by have:=G1.out.2.2.1;omega) (by have:=G1.out.2.2.2;omega)).mono ?_;rintro e Y2 ⟨rfl,hwy,hoy1⟩;have hoy:=G1.out.2.1.trans hoy1;have hbx:=hoy.blk HZ.out.2.2.1 (by decide) HZ.out.2.2.2.2.1;have hsx:=hoy.blk HZ.out.2.2.2.1 (by decide) HZ.out.2.2.2.2.2.1;have s1_2:Y2.cell? ⟨W2.heap.size,1,none⟩=some (.bool true):=hsx.cell 1;have s2_2:Y2.cell? ⟨W2.heap.size,2,none⟩=some (.bool true):=hsx.cell 2;have s3_2:Y2.cell? ⟨W2.heap.size,3,none⟩=some (.bool short):=hsx.cell 3;have s5_2:Y2.cell? ⟨W2.heap.size,5,none⟩=some (.int .i64 (size:Int)):=hsx.cell 5;have s7_2:Y2.cell? ⟨W2.heap.size,7,none⟩=some (.bool true):=hsx.cell 7;have b1_2:Y2.cell? ⟨w.heap.size,1,none⟩=some (.slice ha hl hc):=hbx.cell 1;have b2_2:Y2.cell? ⟨w.heap.size,2,none⟩=some (.slice ma ml mc):=hbx.cell 2;have b3_2:Y2.cell? ⟨w.heap.size,3,none⟩=some (.slice na nl nc):=hbx.cell 3;have hln:=Zbd short d.host rs (B0++ZaH d.nums size);have hsz:=(ZaS (HA.out.2.2.2.2.1.host rfl)).1;have hsl:=Zbk d.host;clear T1;have T2:=Zhd True.intro;have G2:Hid (IsWR N Y2 R M (nameW short d.host rs (B0++ZaH d.nums size)).2 (nameW short d.host rs (B0++ZaH d.nums size)).1∧OnlyM wrT N M W3 Y2∧(nameW short d.host rs (B0++ZaH d.nums size)).2.length≤50084000∧(nameW short d.host rs (B0++ZaH d.nums size)).1.length≤800600):=Zhd ⟨hwy,hoy,(by have:=G1.out.2.2.1;omega),(by have:=G1.out.2.2.2;omega)⟩;clear hwy hoy hoy1 hbx hsx hln hsz hsl)|(go_at_call 100;have hguard:=T2.out;clear hguard;refine(Zcb Y2 N R M (nameW short d.host rs (B0++ZaH d.nums size)).2 (nameW short d.host rs (B0++ZaH d.nums size)).1 G2.out.1 ma ml mc d.mail (HZ.out.2.1.step G2.out.2.1).data.mail (HA.out.2.2.2.2.1.mail rfl) (Zd5 (HZ.out.2.1.step G2.out.2.1).ins.iM) short (by have:=G2.out.2.2.1;omega) (by have:=G2.out.2.2.2;omega)).mono ?_;rintro e Y3 ⟨rfl,hwy,hoy1⟩;have hoy:=G2.out.2.1.trans hoy1;have hbx:=hoy.blk HZ.out.2.2.1 (by decide) HZ.out.2.2.2.2.1;have hsx:=hoy.blk HZ.out.2.2.2.1 (by decide) HZ.out.2.2.2.2.2.1;have s1_3:Y3.cell? ⟨W2.heap.size,1,none⟩=some (.bool true):=hsx.cell 1;have s2_3:Y3.cell? ⟨W2.heap.size,2,none⟩=some (.bool true):=hsx.cell 2;have s3_3:Y3.cell? ⟨W2.heap.size,3,none⟩=some (.bool short):=hsx.cell 3;have s5_3:Y3.cell? ⟨W2.heap.size,5,none⟩=some (.int .i64 (size:Int)):=hsx.cell 5;have s7_3:Y3.cell? ⟨W2.heap.size,7,none⟩=some (.bool true):=hsx.cell 7;have b1_3:Y3.cell? ⟨w.heap.size,1,none⟩=some (.slice ha hl hc):=hbx.cell 1;have b2_3:Y3.cell? ⟨w.heap.size,2,none⟩=some (.slice ma ml mc):=hbx.cell 2;have b3_3:Y3.cell? ⟨w.heap.size,3,none⟩=some (.slice na nl nc):=hbx.cell 3;have hln:=Zbd short d.mail (nameW short d.host rs (B0++ZaH d.nums size)).1 (nameW short d.host rs (B0++ZaH d.nums size)).2;have hsz:=(ZaS (HA.out.2.2.2.2.1.mail rfl)).1;have hsl:=Zbk d.mail;clear T2;have T3:=Zhd True.intro;have G3:Hid (IsWR N Y3 R M (nameW short d.mail (nameW short d.host rs (B0++ZaH d.nums size)).1 (nameW short d.host rs (B0++ZaH d.nums size)).2).2 (nameW short d.mail (nameW short d.host rs (B0++ZaH d.nums size)).1 (nameW short d.host rs (B0++ZaH d.nums size)).2).1∧OnlyM wrT N M W3 Y3∧(nameW short d.mail (nameW short d.host rs (B0++ZaH d.nums size)).1 (nameW short d.host rs (B0++ZaH d.nums size)).2).2.length≤50085000∧(nameW short d.mail (nameW short d.host rs (B0++ZaH d.nums size)).1 (nameW short d.host rs (B0++ZaH d.nums size)).2).1.length≤800900):=Zhd ⟨hwy,hoy,(by have:=G2.out.2.2.1;omega),(by have:=G2.out.2.2.2;omega)⟩;clear hwy hoy hoy1 hbx hsx hln hsz hsl))
    go_ret
    rw[HE.out] at G3
    exact⟨rfl,G3.out.1,(OnlyM.below HZ.out.2.2.2.2.2.2 HA.out.2.2.2.1).trans G3.out.2.1⟩
structure RRP where
 name:List ByteArray
 kind:Int
 cls:Int
 ttl:Int
 data:Zaq
structure RRH where
 na:Option Addr
 nl:Nat
 nc:Nat
 d:ZaJ
structure IsRR (w:World) (h:RRH) (r:RRP):Prop where
 name:Strs w h.na h.nl h.nc r.name
 data:IsData w h.d r.data
 kind:wfi r.kind
 cls:wfi r.cls
 ttl:wfi r.ttl
theorem IsRR.on {w w':World} {h:RRH} {r:RRP} (hr:IsRR w h r) (hb:Below w.heap.size w w'):IsRR w' h r:=⟨hr.name.below hb Zlr,hr.data.on hb,hr.kind,hr.cls,hr.ttl⟩
theorem ZpS (w:World) (N R M:Nat) (b:List UInt8) (hW:IsW N w R M b) (hm:b.length≤140737488355328):
  Calls Tryz.prog 169 #[.pointer (some ⟨R,0,none⟩)] w fun e w'=>e= .returned (.int .i64 (b.length:Int))∧w'=w:=by
 obtain⟨v,h1,h2⟩:=hW.ex
 obtain⟨ao,c,rfl,ho⟩:=Zai h2 hm
 have c0:w.cell? ⟨R,0,none⟩=some (.slice ao b.length c):=h1.cell 0
 clear hW h1 h2 ho
 go_enter Tryz.func169,Tryz.ntmps169
 go_wp2_with fail
 go_ret
 exact⟨rfl,rfl⟩
def Zar (k t:Int) (z:Value):Array Value:=#[.int .i64 k,.int .i64 t,.slice none 0 0,.int .i64 0,.int .i64 0,.int .i64 0,.int .i64 0,.int .i64 0,.slice none 0 0,.slice none 0 0,.slice none 0 0,.slice none 0 0,.slice none 0 0,.slice none 0 0,.slice none 0 0,z]
def ZfE:Array Value:=#[.slice none 0 0,.int .i64 0,.int .i64 0,.int .i64 0,.int .i64 0,.int .i64 0,.slice none 0 0,.slice none 0 0,.slice none 0 0,.slice none 0 0,.slice none 0 0,.slice none 0 0,.slice none 0 0]
def ZbK (h:ZaU) (f:Zas):Array Value:=#[.int .i64 1,.int .i64 0,.slice h.na h.nl h.nc,.int .i64 f.typ,.int .i64 f.kind,.int .i64 f.rank,.int .i64 f.got,.int .i64 f.ttl,.slice h.sa h.sl h.sc,.slice h.za h.zl h.zc,.slice h.d.ba h.d.bl h.d.bc,.slice h.d.ha h.d.hl h.d.hc,.slice h.d.ma h.d.ml h.d.mc,.slice h.d.na h.d.nl h.d.nc,.slice h.d.ta h.d.tl h.d.tc,.slice none 0 0]
theorem ZlF (w:World):Calls Tryz.prog 95 #[.agg ZfE] w fun e w'=>e= .returned (.bool true)∧Below w.heap.size w w':=by
 have hal:Below w.heap.size w (w.alloc (.cells ZfE 37)):=Zbr.alloc Zlr _
 have hal2:Below w.heap.size w ((w.alloc (.cells ZfE 37)).alloc (.cells #[.slice none 0 0,.slice none 0 0,.slice none 0 0,.slice none 0 0,.slice none 0 0] 35)):=hal.alloc (by have:=hal.size;omega) _
 have HB:=Zhd hal2
 clear hal hal2
 simp only[ZfE] at HB⊢
 go_enter Tryz.func95,Tryz.ntmps95
 go_wp2_with fail
 go_ret
 exact⟨rfl,HB.out⟩
theorem Zf7 (w:World) (t:Int):Calls Tryz.prog 53 #[.agg (Zar 3 t (.slice none 0 0))] w fun e w'=>e= .returned (.bool (Za6 t))∧Below w.heap.size w w':=by
 have hal:Below w.heap.size w (w.alloc (.cells (Zar 3 t (.slice none 0 0)) 66)):=Zbr.alloc Zlr _
 have hA:Blk (w.alloc (.cells (Zar 3 t (.slice none 0 0)) 66)) w.heap.size (Zar 3 t (.slice none 0 0)) 66:=Zha w _
 have HA:=Zhd (Zan hal hA)
 have HT:=Zhd (fun w'=>ZcI t w')
 have HC:=Zhd (ZlF (w.alloc (.cells (Zar 3 t (.slice none 0 0)) 66)))
 simp only[ZfE] at HC
 simp only[Zar] at HA HC⊢
 clear hal hA
 cases ht:Za6 t with
 |true=>
  rw[ht] at HT
  clear ht
  go_enter Tryz.func53,Tryz.ntmps53
  go_wp2_with (first|(go_at_call 42;refine(HT.out _).mono ?_;rintro e w2 ⟨rfl,rfl⟩)|(go_at_call 95;refine HC.out.mono ?_;rintro e W2 ⟨rfl,hb2⟩;have hA2:=HA.out.2.on hb2;have x15:=hA2.cell 15;simp at x15;have H2:=Zhd (Zaa HA.out.1 hb2 Zlr);clear hb2 hA2))
  go_ret
  exact⟨rfl,H2.out⟩
 |false=>
  rw[ht] at HT
  clear ht
  go_enter Tryz.func53,Tryz.ntmps53
  go_wp2_with (first|(go_at_call 42;refine(HT.out _).mono ?_;rintro e w2 ⟨rfl,rfl⟩))
  go_ret
  exact⟨rfl,HA.out.1⟩
theorem ZhJ (w:World) (S:Nat→Prop) (h:ZaU) (f:Zas) (hf:IsFact S w h f):Calls Tryz.prog 53 #[.agg (ZbK h f)] w fun e w'=>e= .returned (.bool (Zbl f))∧Below w.heap.size w w':=by
 have hal:Below w.heap.size w (w.alloc (.cells (ZbK h f) 66)):=Zbr.alloc Zlr _
 have HS:=Zhd (ZdE (w.alloc (.cells (ZbK h f) 66)) S h f (hf.on hal))
 have HA:=Zhd hal
 simp only[Zaj] at HS
 simp only[ZbK] at HA HS⊢
 clear hal hf
 go_enter Tryz.func53,Tryz.ntmps53
 go_wp2_with (go_at_call 58;refine HS.out.mono ?_;rintro e W2 ⟨rfl,hb2⟩;have H2:=Zhd (Zaa HA.out hb2 Zlr);clear hb2)
 go_ret
 exact⟨rfl,H2.out⟩
theorem Za5:(Tryz.prog.info? 66).map (·.size)=some 16:=by kernel_rfl
theorem Zc4 {w W W':World} {r E:Nat} (h:w.grownBy W (some r)) (h2:W.grownBy W' (some E)) (hE:w.heap.size≤E):w.grownBy W' (some r):=
 ⟨h2.os.trans h.os,h2.tape.trans h.tape,h2.output.trans h.output,Nat.le_trans h.size h2.size,fun k hk hn=>(h2.block k (Nat.lt_of_lt_of_le hk h.size) (fun e=>by have:=Zsi e;omega)).trans (h.block k hk hn)⟩
theorem Zey (k t:Int):(Zar k t (.slice none 0 0)).all (·.oneCell')=true:=by simp[Zar,Value.oneCell']
theorem Zh7 {tmps:Array Value} {w:World} {R:Nat} {k t:Int} {z:Value} (h2:tmps[2]?=some (.pointer (some ⟨R,0,none⟩))) (hB:Blk w R (Zar k t z) 66):
  (results Tryz.f52 tmps).run Tryz.prog w= .ok (.agg (Zar k t z)) w:=by
 have c0:=hB.cell 0
 have c1:=hB.cell 1
 have c2:=hB.cell 2
 have c3:=hB.cell 3
 have c4:=hB.cell 4
 have c5:=hB.cell 5
 have c6:=hB.cell 6
 have c7:=hB.cell 7
 have c8:=hB.cell 8
 have c9:=hB.cell 9
 have c10:=hB.cell 10
 have c11:=hB.cell 11
 have c12:=hB.cell 12
 have c13:=hB.cell 13
 have c14:=hB.cell 14
 have c15:=hB.cell 15
 simp[Zar] at c0 c1 c2 c3 c4 c5 c6 c7 c8 c9 c10 c11 c12 c13 c14 c15
 simp[results,go_sem,h2,c0,c1,c2,c3,c4,c5,c6,c7,c8,c9,c10,c11,c12,c13,c14,c15,Zar]
theorem ZiW (w:World) (r:Nat) (bo:Option Addr) (bl bc:Nat) (l:List UInt8) (hl:ZbP w bo bl bc l) (hne:∀ a,bo=some a→a.block≠r) (hne2:∀ a,bo=some a→a.block<w.heap.size) (p:Nat) (t:Int) (hp:p≤900000) (hg1:Zdl l p 1=(3,0)) (hg2:Zdl l (p+1) 7=(t,0)) (hr:Blk w r (rdC bo bl bc p) 113):
  Calls Tryz.prog 52 #[.pointer (some ⟨r,0,none⟩)] w fun e w'=>e= .returned (.agg (Zar 3 t (.slice none 0 0)))∧Blk w' r (rdC bo bl bc (p+8)) 113∧w.grownBy w' (some r):=by
 have hal:Below w.heap.size w (w.alloc (.cells (Zar 0 0 (.slice none 0 0)) 66)):=Zbr.alloc Zlr _
 have hA:Blk (w.alloc (.cells (Zar 0 0 (.slice none 0 0)) 66)) w.heap.size (Zar 0 0 (.slice none 0 0)) 66:=Zha w _
 have hE:w.heap.size≠r:=fun e=>by have:=hr.lt;omega
 have hlA:=hl.below hal Zlr
 have hrA:=hr.on hal
 obtain⟨E,hEq⟩:∃ E,E=w.heap.size:=⟨_,rfl⟩
 have h1:=ZcG _ r bo bl bc l hlA p 1 3 (by omega) (by omega) (by omega) hg1 hrA
 have HE:=Zhd (Zan hal (Zan hA (Zan hE (Zan hlA (Zan hrA (Zan hne (Zan hg2 hne2)))))))
 have H1:=Zhd h1
 clear hal hA hlA hrA h1 hl hr hne hne2 hg1 hg2 hEq hE
 go_enter Tryz.func52,Tryz.ntmps52
 go_wp2_with (first
  |(refine wpList_store_row rfl 66 _ _ rfl w.heap.size (Zar 3 t (.slice none 0 0)) rfl rfl 66 (Zar 3 t (.slice none 0 0)) H3.out.2.2 Za5 rfl (Zey 3 t) ?_;have hq:=ZaA H3.out.2.2 (Zar 3 t (.slice none 0 0));have hqg:=Zav (W2.setCell ⟨w.heap.size,1,none⟩ (.int .i64 t)) w.heap.size (Zar 3 t (.slice none 0 0));(try change wpList _ _ _ _ _ ((W2.setCell ⟨w.heap.size,1,none⟩ (.int .i64 t)).setRow w.heap.size (Zar 3 t (.slice none 0 0))));generalize (W2.setCell ⟨w.heap.size,1,none⟩ (.int .i64 t)).setRow w.heap.size (Zar 3 t (.slice none 0 0))=W4 at hq hqg⊢;have H4:=Zhd (Zan hq hqg);clear hq hqg)
  |(go_at_call 92;refine H2.out.1.mono ?_;rintro e W2 ⟨rfl,hr2,hg2⟩;have hb2:=H2.out.2.2.2.but hg2 HE.out.2.2.1;have hb3:Blk (W2.setCell ⟨w.heap.size,1,none⟩ (.int .i64 t)) w.heap.size (Zar 3 t (.slice none 0 0)) 66:=hb2.set 1 (.int .i64 t);have d1:W2.cell? ⟨w.heap.size,1,none⟩=some (.int .i64 0):=hb2.cell 1;have f1:=hb2.free 1;have c0:=hb3.cell 0;have c1:=hb3.cell 1;have c2:=hb3.cell 2;have c3:=hb3.cell 3;have c4:=hb3.cell 4;have c5:=hb3.cell 5;have c6:=hb3.cell 6;have c7:=hb3.cell 7;have c8:=hb3.cell 8;have c9:=hb3.cell 9;have c10:=hb3.cell 10;have c11:=hb3.cell 11;have c12:=hb3.cell 12;have c13:=hb3.cell 13;have c14:=hb3.cell 14;have c15:=hb3.cell 15;simp[Zar] at c0 c1 c2 c3 c4 c5 c6 c7 c8 c9 c10 c11 c12 c13 c14 c15;have H3:=Zhd (Zan hr2 (Zan hg2 hb3));clear hb3 hr2 hg2 hb2)
  |(go_at_call 92;refine H1.out.mono ?_;rintro e W1 ⟨rfl,hr1,hg1⟩;have hb1:=HE.out.2.1.but hg1 HE.out.2.2.1;have hl1:ZbP W1 bo bl bc l:=HE.out.2.2.2.1.grown hg1 (fun a ha h=>HE.out.2.2.2.2.2.1 a ha (Zsi h));have c0:W1.cell? ⟨w.heap.size,0,none⟩=some (.int .i64 0):=hb1.cell 0;have f0:=hb1.free 0;have hs1:=hb1.set 0 (.int .i64 3);have hgs:=Zag W1 w.heap.size 0 (.int .i64 3);have hr1s:=hr1.but hgs (Ne.symm HE.out.2.2.1);have hl1s:ZbP (W1.setCell ⟨w.heap.size,0,none⟩ (.int .i64 3)) bo bl bc l:=hl1.grown hgs (fun a ha h=>Nat.ne_of_lt (HE.out.2.2.2.2.2.2.2 a ha) (Zsi h));have h2:=ZcG _ r bo bl bc l hl1s (p+1) 7 t (by omega) (by omega) (by omega) HE.out.2.2.2.2.2.2.1 hr1s;have H2:=Zhd (Zan h2 (Zan hg1 (Zan hgs hs1)));clear hr1 hg1 hb1 hl1 hs1 hgs hr1s hl1s h2))
 refine bodyPost_ret (Zh7 rfl H4.out.1) rfl ⟨rfl,?_,?_⟩
 ·have h:=((H3.out.1).but (Zag W2 w.heap.size 1 (.int .i64 t)) (Ne.symm HE.out.2.2.1)).but H4.out.2 (Ne.symm HE.out.2.2.1)
  rwa [show p+1+7=p+8 by omega] at h
 ·have g0:=Zaw r HE.out.1
  have g1:=Zc4 (Zah g0 H2.out.2.1) H2.out.2.2.1 Zlr
  have g2:=Zc4 (Zah g1 H3.out.2.1) (Zag W2 w.heap.size 1 (.int .i64 t)) Zlr
  exact Zc4 g2 H4.out.2 Zlr
def ZgN (k:Int):Bool:=decide (k=2∨k=5∨k=12∨k=15∨k=6∨k=33)
def ZgU (k:Int):Bool:=decide (k=6)
def Zhc (k:Int):Bool:=decide (k=2∨k=5∨k=12∨k=15∨k=6)
def ZkA (k:Int):Nat:=if k=15∨k=33 then 2 else if k=6 then 4 else 0
def Zeh (k:Int):Bool:=decide (k=15∨k=33)
def rdW (k:Int) (d:Zaq) (rs:List (List UInt8×Nat)) (b:List UInt8):List (List UInt8×Nat)×List UInt8:=ZdP (ZgN k) (ZgU k) (Zhc k) (ZkA k) (Zeh k) d rs b
theorem ZqH {n:Int} {s:Nat} (h:ZcU n s=true):Za2 n s=true:=h
theorem ZoZ (w:World) (N R M:Nat) (b:List UInt8) (rs:List (List UInt8×Nat)) (hW:IsWR N w R M b rs) (k:Int) (h:ZaJ) (d:Zaq) (hd:DW N M w h d) (hok:ZaB k d=true) (hb:b.length≤50000000) (hr:rs.length≤800000):
  Calls Tryz.prog 168 #[.pointer (some ⟨R,0,none⟩),.int .i64 k,.agg (Zae h)] w fun e w'=>e= .returned (.int .i64 0)∧IsWR N w' R M (rdW k d rs b).2 (rdW k d rs b).1∧OnlyM wrT N M w w':=by
 have go:=fun b0 host mail short nums size texts first hp hsh=>ZlN w N R M b rs hW k h d hd hok b0 host mail short nums size texts first hp hsh hb hr
 rcases Zc2 k with hk|rfl|rfl|hk|rfl|rfl|rfl|rfl|⟨hk1,hk⟩
 ·rw[Zec hk] at hok;cases hok
 ·have h0:=hok
  simp[ZaB,ZaD] at h0
  obtain⟨h1,h2,h3,h4,h5⟩:=h0
  exact go 4 false false false 0 0 false false ⟨by omega,by simp[h5],by simp[h4],by simp,by simp,by omega⟩ ZiJ
 ·have h0:=hok
  simp[ZaB,ZaD] at h0
  obtain⟨h1,h2,h3,h4,h5⟩:=h0
  exact go 16 false false false 0 0 false false ⟨by omega,by simp[h5],by simp[h4],by simp,by simp,by omega⟩ Ze7
 ·have e:rdW k d rs b=ZdP true false true 0 false d rs b:=by
   rcases hk with rfl|rfl|rfl<;>rfl
  have h0:=hok
  have e2:ZaB k d=(ZaG d.host&&ZaD d false true false false false):=by
   rcases hk with rfl|rfl|rfl<;>simp[ZaB]
  rw[e2] at h0
  simp[ZaD] at h0
  obtain⟨h1,h2,h3,h4,h5⟩:=h0
  rw[e]
  exact go 0 true false true 0 0 false false ⟨by simp[h2],by simp[h5],by simp[h4],fun _=>h1,by simp,by omega⟩ (fun w'=>Zhb w' k hk)
 ·have h0:=hok
  simp[ZaB,ZaD,Zgo] at h0
  obtain⟨⟨h1,h4,h6⟩,h2,h3,h5⟩:=h0
  exact go 0 true false true 1 2 false true ⟨by simp[h2],by simp[h5],⟨by omega,fun n hn=>⟨by omega,h6 n hn⟩⟩,fun _=>h1,by simp,by omega⟩ Zg9
 ·have h0:=hok
  simp[ZaB,ZaD,Zgo] at h0
  obtain⟨⟨⟨h1,h3⟩,h4,h6⟩,h2,h5⟩:=h0
  exact go 0 true true true 5 4 false false ⟨by simp[h2],by simp[h5],⟨by omega,fun n hn=>⟨by omega,h6 n hn⟩⟩,fun _=>h1,fun _=>h3,by omega⟩ ZfV
 ·have h0:=hok
  simp[ZaB,ZaD,Zgo] at h0
  obtain⟨⟨h1,h4,h6⟩,h2,h3,h5⟩:=h0
  exact go 0 true false false 3 2 false true ⟨by simp[h2],by simp[h5],⟨by omega,fun n hn=>⟨by omega,h6 n hn⟩⟩,fun _=>h1,by simp,by omega⟩ ZfW
 ·have h0:=hok
  simp[ZaB,ZaD] at h0
  obtain⟨⟨h1,h6,h2,h3,h4,h7⟩,h5⟩:=h0
  exact go 0 false false false 0 0 true false ⟨by simp[h2],⟨h6,h5⟩,by simp[h7],by simp,by simp,by omega⟩ ZfX
 ·have e:rdW k d rs b=ZdP false false false 0 false d rs b:=by
   obtain⟨a1,a2,a3,a4,a5,a6,a7,a8,a9⟩:=hk
   simp[rdW,ZgN,ZgU,Zhc,ZkA,Zeh,a3,a4,a5,a6,a7,a8]
  have h0:=hok
  rw[Zc7 hk1.1 hk1.2 hk] at h0
  simp[ZaD] at h0
  obtain⟨h1,h2,h3,h4,h5⟩:=h0
  rw[e]
  exact go (-1) false false false 0 0 false false ⟨h1,by simp[h5],by simp[h4],by simp,by simp,by omega⟩ (fun w'=>Zdr w' k hk)
theorem Ziq (short:Bool):∀ (ss:List ByteArray) (rs:List (List UInt8×Nat)) (b:List UInt8),b.length≤(nameW short ss rs b).2.length
 |[],rs,b=>by simp[nameW,Zap]
 |l::ss,rs,b=>by
  rw[nameW]
  have h1:=Ziq short ss rs ((b++Za1 (l.size:Int) 1)++l.data.toList)
  have h2:=Ziq short ss (if b.length<16384 then(Zb4 (l::ss),b.length)::rs else rs) ((b++Za1 (l.size:Int) 1)++l.data.toList)
  simp only[Zla,Zap] at h1 h2
  split
  ·split
   ·simp only[Zla,Zap];omega
   ·omega
  ·omega
theorem Zez (host short:Bool) (ss:List ByteArray) (x:List (List UInt8×Nat)×List UInt8) (hs:host=true→ZaG ss=true):x.2.length≤(Zcd host short ss x).2.length∧(Zcd host short ss x).2.length≤x.2.length+257∧(Zcd host short ss x).1.length≤x.1.length+255:=by
 unfold Zcd
 split
 ·rename_i hh
  have h1:=Zbd short ss x.1 x.2
  have h2:=(ZaS (hs hh)).1
  have h3:=Ziq short ss x.1 x.2
  have h4:=Zbk ss
  omega
 ·omega
theorem ZcK {host mail short:Bool} {size:Nat} {first:Bool} {d:Zaq} (hp:Zq9 host mail size d) (hbt:d.bytes.length+(ZaX d.texts).length≤65535) (hnb:d.nums=[]∨(d.bytes=[]∧d.texts=[])) (hhb:host=false∧mail=false∨(d.bytes=[]∧d.texts=[])) (rs:List (List UInt8×Nat)) (b:List UInt8):
  b.length≤(ZdP host mail short size first d rs b).2.length∧(ZdP host mail short size first d rs b).2.length≤b.length+65535∧(ZdP host mail short size first d rs b).1.length≤rs.length+510:=by
 have hn:(ZaH d.nums size).length≤700∧(d.nums=[]→(ZaH d.nums size).length=0):=by
  rw[ZbL]
  have h1:d.nums.length*size≤100*7:=Nat.mul_le_mul hp.nums.1 hp.size
  exact⟨by omega,fun h=>by simp[h]⟩
 have hb0:(d.bytes=[]∧d.texts=[])→d.bytes.length+(ZaX d.texts).length=0:=fun h=>by simp[h.1,h.2,ZaX]
 unfold ZdP
 split
 ·have h1:=Zez host short d.host (rs,((b++d.bytes)++ZaX d.texts)++ZaH d.nums size) hp.host
  have h2:=Zez mail short d.mail (Zcd host short d.host (rs,((b++d.bytes)++ZaX d.texts)++ZaH d.nums size)) hp.mail
  simp only[Zla] at h1
  rcases hhb with⟨rfl,rfl⟩|h
  ·simp only[Zcd,Bool.false_eq_true,if_false,Zla] at h1 h2⊢
   rcases hnb with h|h
   ·have:=hn.2 h;omega
   ·have:=hb0 h;omega
  ·have:=hb0 h;omega
 ·have h1:=Zez host short d.host (rs,(b++d.bytes)++ZaX d.texts) hp.host
  have h2:=Zez mail short d.mail (Zcd host short d.host (rs,(b++d.bytes)++ZaX d.texts)) hp.mail
  simp only[Zla] at h1⊢
  rcases hhb with⟨rfl,rfl⟩|h
  ·simp only[Zcd,Bool.false_eq_true,if_false,Zla] at h1 h2⊢
   rcases hnb with h|h
   ·have:=hn.2 h;omega
   ·have:=hb0 h;omega
  ·have:=hb0 h;omega
theorem Zn3 {k:Int} {d:Zaq} (hok:ZaB k d=true) (rs:List (List UInt8×Nat)) (b:List UInt8):
  b.length≤(rdW k d rs b).2.length∧(rdW k d rs b).2.length≤b.length+65535∧(rdW k d rs b).1.length≤rs.length+510:=by
 have htx:∀ (h:d.texts=[]),d.bytes.length≤65535→d.bytes.length+(ZaX d.texts).length≤65535:=fun h h2=>by rw[h];simpa [ZaX] using h2
 rcases Zc2 k with hk|rfl|rfl|hk|rfl|rfl|rfl|rfl|⟨hk1,hk⟩
 ·rw[Zec hk] at hok;cases hok
 ·have h0:=hok
  simp[ZaB,ZaD] at h0
  obtain⟨h1,h2,h3,h4,h5⟩:=h0
  exact ZcK (host:=false) (mail:=false) (short:=false) (size:=0) (first:=false) ⟨by omega,by simp[h5],by simp[h4],by simp,by simp,by omega⟩ (htx h5 (by omega)) (.inl h4) (.inl ⟨rfl,rfl⟩) rs b
 ·have h0:=hok
  simp[ZaB,ZaD] at h0
  obtain⟨h1,h2,h3,h4,h5⟩:=h0
  exact ZcK (host:=false) (mail:=false) (short:=false) (size:=0) (first:=false) ⟨by omega,by simp[h5],by simp[h4],by simp,by simp,by omega⟩ (htx h5 (by omega)) (.inl h4) (.inl ⟨rfl,rfl⟩) rs b
 ·have e:rdW k d rs b=ZdP true false true 0 false d rs b:=by
   rcases hk with rfl|rfl|rfl<;>rfl
  have h0:=hok
  have e2:ZaB k d=(ZaG d.host&&ZaD d false true false false false):=by
   rcases hk with rfl|rfl|rfl<;>simp[ZaB]
  rw[e2] at h0
  simp[ZaD] at h0
  obtain⟨h1,h2,h3,h4,h5⟩:=h0
  rw[e]
  exact ZcK ⟨by simp[h2],by simp[h5],by simp[h4],fun _=>h1,by simp,by omega⟩ (htx h5 (by simp[h2])) (.inr ⟨h2,h5⟩) (.inr ⟨h2,h5⟩) rs b
 ·have h0:=hok
  simp[ZaB,ZaD,Zgo] at h0
  obtain⟨⟨h1,h4,h6⟩,h2,h3,h5⟩:=h0
  exact ZcK (host:=true) (mail:=false) (short:=true) (size:=2) (first:=true) ⟨by simp[h2],by simp[h5],⟨by omega,fun n hn=>⟨by omega,h6 n hn⟩⟩,fun _=>h1,by simp,by omega⟩ (htx h5 (by simp[h2])) (.inr ⟨h2,h5⟩) (.inr ⟨h2,h5⟩) rs b
 ·have h0:=hok
  simp[ZaB,ZaD,Zgo] at h0
  obtain⟨⟨⟨h1,h3⟩,h4,h6⟩,h2,h5⟩:=h0
  exact ZcK (host:=true) (mail:=true) (short:=true) (size:=4) (first:=false) ⟨by simp[h2],by simp[h5],⟨by omega,fun n hn=>⟨by omega,h6 n hn⟩⟩,fun _=>h1,fun _=>h3,by omega⟩ (htx h5 (by simp[h2])) (.inr ⟨h2,h5⟩) (.inr ⟨h2,h5⟩) rs b
 ·have h0:=hok
  simp[ZaB,ZaD,Zgo] at h0
  obtain⟨⟨h1,h4,h6⟩,h2,h3,h5⟩:=h0
  exact ZcK (host:=true) (mail:=false) (short:=false) (size:=2) (first:=true) ⟨by simp[h2],by simp[h5],⟨by omega,fun n hn=>⟨by omega,h6 n hn⟩⟩,fun _=>h1,by simp,by omega⟩ (htx h5 (by simp[h2])) (.inr ⟨h2,h5⟩) (.inr ⟨h2,h5⟩) rs b
 ·have h0:=hok
  simp[ZaB,ZaD] at h0
  obtain⟨⟨h1,h6,h2,h3,h4,h7⟩,h5⟩:=h0
  have ht:=Zf1 d.texts.length (⟨h6,h5⟩:d.texts.length≤64∧∀ t∈d.texts,t.size≤255)
  rw[List.take_length] at ht
  exact ZcK (host:=false) (mail:=false) (short:=false) (size:=0) (first:=false) ⟨by simp[h2],⟨h6,h5⟩,by simp[h7],by simp,by simp,by omega⟩ (by simp[h2];omega) (.inl h7) (.inl ⟨rfl,rfl⟩) rs b
 ·have e:rdW k d rs b=ZdP false false false 0 false d rs b:=by
   obtain⟨a1,a2,a3,a4,a5,a6,a7,a8,a9⟩:=hk
   simp[rdW,ZgN,ZgU,Zhc,ZkA,Zeh,a3,a4,a5,a6,a7,a8]
  have h0:=hok
  rw[Zc7 hk1.1 hk1.2 hk] at h0
  simp[ZaD] at h0
  obtain⟨h1,h2,h3,h4,h5⟩:=h0
  rw[e]
  exact ZcK ⟨h1,by simp[h5],by simp[h4],by simp,by simp,by omega⟩ (htx h5 h1) (.inl h4) (.inl ⟨rfl,rfl⟩) rs b
structure RW (N M:Nat) (w:World) (h:RRH) (r:RRP):Prop where
 rr:IsRR w h r
 nm:rowIn (inW N M w) h.na h.nl
 ins:DataIn (inW N M w) h.d
theorem RW.step {N M:Nat} {w w':World} {h:RRH} {r:RRP} (k:RW N M w h r) (ho:OnlyM wrT N M w w'):RW N M w' h r:=
 have hd:=DW.step ⟨k.rr.data,k.ins⟩ ho
 ⟨⟨k.rr.name.keep k.nm ho.same,hd.data,k.rr.kind,k.rr.cls,k.rr.ttl⟩,k.nm.mono k.rr.name.row (fun _ hb=>inW.step ho hb),hd.ins⟩
def Zbq (t:Int):List UInt8:=([]++Za1 3 1)++Za1 t 7
theorem ZbN (t:Int):(Zbq t).length=8:=by simp[Zbq,Zap]
theorem Zjx (w:World) (t:Int) (ht:Za2 t 7=true) (u2 u3 u4 u5 u6 u7 u8 u9 ua ub uc ud ue uf:Value):
  Calls Tryz.prog 55 #[.agg #[.int .i64 3,.int .i64 t,u2,u3,u4,u5,u6,u7,u8,u9,ua,ub,uc,ud,ue,uf]] w fun e w'=>(∃ ao c,e= .returned (.slice ao 8 c)∧Own1 [5] w.heap.size w' ao 8 c ((Zbq t).map u8V))∧Below w.heap.size w w':=by
 have hal:Below w.heap.size w (w.alloc (.cells #[.int .i64 3,.int .i64 t,u2,u3,u4,u5,u6,u7,u8,u9,ua,ub,uc,ud,ue,uf] 66)):=Zbr.alloc Zlr _
 have hA:Blk (w.alloc (.cells #[.int .i64 3,.int .i64 t,u2,u3,u4,u5,u6,u7,u8,u9,ua,ub,uc,ud,ue,uf] 66)) w.heap.size #[.int .i64 3,.int .i64 t,u2,u3,u4,u5,u6,u7,u8,u9,ua,ub,uc,ud,ue,uf] 66:=Zha w _
 have HNW:=Zhd (Zhp (w.alloc (.cells #[.int .i64 3,.int .i64 t,u2,u3,u4,u5,u6,u7,u8,u9,ua,ub,uc,ud,ue,uf] 66)))
 obtain⟨N,hN⟩:∃ N,N=(w.alloc (.cells #[.int .i64 3,.int .i64 t,u2,u3,u4,u5,u6,u7,u8,u9,ua,ub,uc,ud,ue,uf] 66)).heap.size:=⟨_,rfl⟩
 rw[←hN] at HNW
 have HA:=Zhd (Zan hal (Zan hA (Zan ht hN)))
 clear hal hA ht hN
 go_enter Tryz.func55,Tryz.ntmps55
 go_wp2_with (first
  |(go_at_call 101;refine(Zf3 W3 N R M (Zbq t) G3.out.1 (by rw[ZbN];omega)).mono ?_;rintro e W4 ⟨⟨ao,c,rfl,ho⟩,hb4⟩;have G4:=Zhd (Zan ho hb4);clear ho hb4)
  |(go_at_call 98;refine(Zbz W2 N R M ([]++Za1 3 1) G2.out.1 t 7 (by omega) (by omega) HA.out.2.2.1 (by simp[Zap])).mono ?_;rintro e W3 ⟨rfl,hw3,ho3⟩;have G3:=Zhd (Zan hw3 (G2.out.2.2.trans ho3.bel));clear hw3 ho3)
  |(go_at_call 98;refine(Zbz W1 N R M [] G1.out.1 3 1 (by omega) (by omega) (by decide) (by simp)).mono ?_;rintro e W2 ⟨rfl,hw2,ho2⟩;have hb:=ho2.blk G1.out.2.1 (by decide);have y0:W2.cell? ⟨w.heap.size,0,none⟩=some (.int .i64 3):=hb.cell 0;have y1:W2.cell? ⟨w.heap.size,1,none⟩=some (.int .i64 t):=hb.cell 1;have G2:=Zhd (Zan hw2 (Zan hb (G1.out.2.2.trans ho2.bel)));clear hw2 ho2 hb)
  |(go_at_call 97;refine HNW.out.mono ?_;rintro e W1 ⟨⟨R,M,rfl,hw1,_⟩,hb1⟩;have hM1:=HA.out.2.1.on (HA.out.2.2.2▸hb1);have c0:W1.cell? ⟨w.heap.size,0,none⟩=some (.int .i64 3):=hM1.cell 0;have G1:=Zhd (Zan hw1 (Zan hM1 hb1));clear hw1 hM1 hb1))
 go_ret
 have e:=G4.out.1
 rw[ZbN] at e
 have hb3:Below w.heap.size w W3:=Zaa HA.out.1 (HA.out.2.2.2▸G3.out.2) Zlr
 have el:=ZbN t
 exact⟨⟨ao,c,by simp[el],e.mono hb3.size⟩,Zaa hb3 G4.out.2 Zlr⟩
theorem Zi6 (w:World) (t:Int) (ht:Za6 t=true) (htf:Za2 t 7=true):
  Calls Tryz.prog 25 #[.agg (Zar 3 t (.slice none 0 0))] w fun e w'=>(∃ ao c,e= .returned (.tuple #[.slice ao 8 c,.int .i64 0])∧Own1 [5] w.heap.size w' ao 8 c ((Zbq t).map u8V))∧Below w.heap.size w w':=by
 obtain⟨W1,hW1⟩:∃ W1,W1=w.alloc (.cells (Zar 3 t (.slice none 0 0)) 66):=⟨_,rfl⟩
 have hb1:Below w.heap.size w W1:=by rw[hW1];exact Zbr.alloc Zlr _
 have a1:Blk W1 w.heap.size (Zar 3 t (.slice none 0 0)) 66:=by rw[hW1];exact Zha w _
 have HT:=Zhd (Zan ht htf)
 have hs:=Zf7 W1 t
 rw[ht] at hs
 rw[hW1] at a1 hb1 hs
 have HS:=Zhd hs
 have H1:=Zhd (Zan a1 hb1)
 clear hs ht htf a1 hb1 hW1
 go_enter Tryz.func25,Tryz.ntmps25
 go_wp2_with (first
  |(refine wpList_load_row rfl 66 _ rfl w.heap.size rfl 66 (Zar 3 t (.slice none 0 0)) (0,0) _ H2.out.1 Tryz.underlying66 rfl Za5 ?_)
  |(refine wpList_load_row rfl 66 _ rfl w.heap.size rfl 66 (Zar 3 t (.slice none 0 0)) (0,0) _ H1.out.1 Tryz.underlying66 rfl Za5 ?_)
  |(go_at_call 55;refine(Zjx W2 t HT.out.2 _ _ _ _ _ _ _ _ _ _ _ _ _ _).mono ?_;rintro e W3 ⟨⟨ao,c,rfl,ho⟩,hb⟩;have H3:=Zhd (Zan ho (Zaa H2.out.2 hb Zlr));clear ho hb)
  |(go_at_call 53;refine HS.out.mono ?_;rintro e W2 ⟨rfl,hb⟩;have H2:=Zhd (Zan (H1.out.1.on hb) (Zaa H1.out.2 hb Zlr));clear hb))
 go_ret2
 exact⟨⟨ao,c,rfl,H3.out.1.mono H2.out.2.size⟩,H3.out.2⟩
def ZaI (n:Nat):Nat:=max ((n+495)/496) 1
theorem ZnW (w:World) (n:Nat) (hn:n≤1000000000000):
  Calls Tryz.prog 159 #[.int .i64 (n:Int)] w fun e w'=>e= .returned (.int .i64 (ZaI n:Int))∧w'=w:=by
 have HP:=Zhd (show max (((n:Int)+496-1)/496) 1=(ZaI n:Int) by rw[ZaI];omega)
 go_enter Tryz.func159,Tryz.ntmps159
 go_wp2_with fail
 go_ret
 exact⟨Zbh HP.out,rfl⟩
def lgT:List TypeId:=[55,134,86,98,106]
def Zay (d:Zaz):Nat:=d.sure.length-2
def atN (d:Zaz) (p:Nat):Nat:=p%Zay d+2
def Zbj (l:ZaZ):Int:=l.block.first+(l.list.length:Int)
def ZbU (d:Zaz) (l:ZaZ):Int:=(Zay d:Int)-((l.fin:Int)-l.block.from')
def Zhw (d:Zaz) (l:ZaZ):Bool:=l.down||d.down
theorem Zqt {d:Zaz} (h:3≤d.sure.length) (p:Nat):atN d p<d.sure.length:=by
 have:p%Zay d<Zay d:=Nat.mod_lt _ (by unfold Zay;omega)
 unfold atN Zay at*
 omega
theorem IsLog.off {B:Nat} {w:World} {L D:Nat} {l:ZaZ} (h:IsLog B w L D l) (b:Bool):IsLog B (w.setCell ⟨L,8,none⟩ (.bool b)) L D {l with down:=b}∧Only lgT B w (w.setCell ⟨L,8,none⟩ (.bool b)):=by
 obtain⟨v,h1,h2⟩:=h.ex
 have hg:=Zag w L 8 (.bool b)
 have h3:=h1.set 8 (.bool b)
 refine⟨⟨⟨v,by simpa [Zej] using h3,h2.step (Same.but hg h1 (by decide))⟩,h.base,h.fits,h.cnt⟩,Only.but hg h1 (by decide) h.base⟩
theorem Zp4 {B:Nat} {w w':World} {D:Nat} {d:Zaz} (hd:IsDev B w D d) {L:Nat} {cs:Array Value} (hg:w.grownBy w' (some L)) (h1:Blk w L cs 98):IsDev B w' D d:=by
 obtain⟨SU,v,k1,k2,k3,k4⟩:=hd.ex
 refine⟨⟨SU,v,k1.but hg (Zea k1 h1 (by decide)),k2.but hg (Zea k2 h1 (by decide)),k3,?_⟩,hd.base,hd.pos,hd.le,hd.lens,hd.ulens,hd.lim,hd.cnt⟩
 exact k4.step (Same.but hg h1 (by decide))
theorem ZeG (w:World) (B L D:Nat) (l:ZaZ) (d:Zaz) (hl:IsLog B w L D l) (hd:IsDev B w D d):
  Calls Tryz.prog 48 #[.pointer (some ⟨L,0,none⟩)] w fun e w'=>e= .returned (.int .i64 (if Zhw d l=true then 8 else 0))∧IsLog B w' L D {l with down:=Zhw d l}∧IsDev B w' D d∧Only lgT B w w':=by
 obtain⟨v,h1,h2⟩:=hl.ex
 have c0:w.cell? ⟨L,0,none⟩=some (.pointer (some ⟨D,0,none⟩)):=h1.cell 0
 have c8:w.cell? ⟨L,8,none⟩=some (.bool l.down):=h1.cell 8
 have f8:w.frozen? ⟨L,8,none⟩=false:=h1.free 8
 have HDN:=Zhd (Zfd w B D d hd)
 have HS:=Zhd (Zan (hl.off true) (Zp4 hd (Zag w L 8 (.bool true)) h1))
 have HL:=Zhd (Zan hl hd)
 clear h1 h2 hl hd
 cases hld:l.down with
 |true=>
  have HE:=Zhd (show Zhw d l=true by rw[Zhw,hld];rfl)
  rw[hld] at c8
  rw[HE.out]
  clear hld
  go_enter Tryz.func48,Tryz.ntmps48
  go_wp2_with fail
  go_ret
  exact⟨rfl,HS.out.1.1,HS.out.2,HS.out.1.2⟩
 |false=>
  rw[hld] at c8
  cases hdn:d.down with
  |true=>
   have HE:=Zhd (show Zhw d l=true by rw[Zhw,hld,hdn];rfl)
   rw[HE.out]
   rw[hdn] at HDN
   clear hld hdn
   go_enter Tryz.func48,Tryz.ntmps48
   go_wp2_with (go_at_call 43;refine HDN.out.mono ?_;rintro e w2 ⟨rfl,rfl⟩)
   go_ret
   exact⟨rfl,HS.out.1.1,HS.out.2,HS.out.1.2⟩
  |false=>
   have HE:=Zhd (show Zhw d l=false by rw[Zhw,hld,hdn];rfl)
   have HQ:=Zhd (show{l with down:=false}=l by rw[←hld])
   rw[HE.out]
   rw[hdn] at HDN
   clear hld hdn
   go_enter Tryz.func48,Tryz.ntmps48
   go_wp2_with (go_at_call 43;refine HDN.out.mono ?_;rintro e w2 ⟨rfl,rfl⟩)
   go_ret
   exact⟨rfl,by rw[HQ.out];exact HL.out.1,HL.out.2,Only.refl _ _ _⟩
theorem Zgr (w:World) (B L D:Nat) (l:ZaZ) (d:Zaz) (hl:IsLog B w L D l) (hd:IsDev B w D d) (k:Int):
  Calls Tryz.prog 50 #[.pointer (some ⟨L,0,none⟩),.int .i64 k] w fun e w'=>e= .returned (.int .i64 k)∧IsLog B w' L D {l with down:=l.down||decide (k=8)}∧IsDev B w' D d∧Only lgT B w w':=by
 obtain⟨v,h1,h2⟩:=hl.ex
 have c8:w.cell? ⟨L,8,none⟩=some (.bool l.down):=h1.cell 8
 have f8:w.frozen? ⟨L,8,none⟩=false:=h1.free 8
 have HS:=Zhd (fun b=>Zan (hl.off b) (Zp4 hd (Zag w L 8 (.bool b)) h1))
 clear h1 h2 hl hd
 cases hld:l.down with
 |true=>
  rw[hld] at c8
  clear hld
  go_enter Tryz.func50,Tryz.ntmps50
  go_wp2_with fail
  go_ret
  exact⟨rfl,(HS.out _).1.1,(HS.out _).2,(HS.out _).1.2⟩
 |false=>
  rw[hld] at c8
  clear hld
  have HB:=Zhd (show(k==8)=(false||decide (k=8)) by rw[Bool.eq_iff_iff];simp)
  go_enter Tryz.func50,Tryz.ntmps50
  go_wp2_with fail
  go_ret
  rw[HB.out]
  exact⟨rfl,(HS.out _).1.1,(HS.out _).2,(HS.out _).1.2⟩
theorem ZdG (w:World) (B L D:Nat) (l:ZaZ) (d:Zaz) (hl:IsLog B w L D l) (hd:IsDev B w D d) (h2:2≤d.sure.length):
  Calls Tryz.prog 114 #[.pointer (some ⟨L,0,none⟩)] w fun e w'=>e= .returned (.int .i64 (Zay d:Int))∧w'=w:=by
 obtain⟨v,h1,h3⟩:=hl.ex
 have c0:w.cell? ⟨L,0,none⟩=some (.pointer (some ⟨D,0,none⟩)):=h1.cell 0
 have hle:=hd.le
 have HL:=Zhd (ZdQ w B D d hd)
 obtain⟨n,hn⟩:∃ n,n=d.sure.length:=⟨_,rfl⟩
 have HR:=Zhd (show(n:Int)-2=(Zay d:Int) by rw[Zay,←hn];omega)
 rw[←hn] at HL hle h2
 clear h1 h3 hl hd hn
 go_enter Tryz.func114,Tryz.ntmps114
 go_wp2_with (go_at_call 19;refine HL.out.mono ?_;rintro e w ⟨rfl,rfl⟩)
 go_ret
 exact⟨Zbh HR.out,rfl⟩
theorem Znx (w:World) (B L D:Nat) (l:ZaZ) (d:Zaz) (hl:IsLog B w L D l) (hd:IsDev B w D d) (h3:3≤d.sure.length) (p:Nat) (hp:p≤1000000000):
  Calls Tryz.prog 90 #[.pointer (some ⟨L,0,none⟩),.int .i64 (p:Int)] w fun e w'=>e= .returned (.int .i64 (atN d p:Int))∧w'=w:=by
 have HR:=Zhd (ZdG w B L D l d hl hd (by omega))
 have hle:=hd.le
 have hrb:1≤Zay d∧Zay d≤4096:=by unfold Zay;omega
 have HE:=Zhd (show((p%Zay d:Nat):Int)+2=(atN d p:Int) by unfold atN;omega)
 obtain⟨r,hr⟩:∃ r,r=Zay d:=⟨_,rfl⟩
 rw[←hr] at HR hrb HE
 have HM:=Zhd (show(p:Int)%(r:Int)=((p%r:Nat):Int) by omega)
 have hb:p%r≤4096:=by have:=Nat.mod_lt p (show 0<r by omega);omega
 clear hl hd hr h3 hle
 go_enter Tryz.func90,Tryz.ntmps90
 go_wp2_with (go_at_call 114;refine HR.out.mono ?_;rintro e w ⟨rfl,rfl⟩)
 go_ret
 exact⟨Zbh (by have:=HM.out;have:=HE.out;omega),rfl⟩
theorem Zek (w:World) (B L D:Nat) (l:ZaZ) (d:Zaz) (hl:IsLog B w L D l) (hd:IsDev B w D d) (h2:2≤d.sure.length) (hf:l.fin≤1000000000):
  Calls Tryz.prog 63 #[.pointer (some ⟨L,0,none⟩)] w fun e w'=>e= .returned (.int .i64 (ZbU d l))∧Below w.heap.size w w':=by
 obtain⟨v,h1,h3⟩:=hl.ex
 have HW:=Zhd (fun w' (hb:Below w.heap.size w w')=>ZdG w' B L D l d (hl.on hb) (hd.on hb) h2)
 have hbd:=Below.drew (Below.refl w.heap.size w)
 have HB:=Zhd hbd
 have c4:w.drew.cell? ⟨L,4,none⟩=some (.int .i64 l.block.from'):=(h1.on hbd).cell 4
 have c7:w.drew.cell? ⟨L,7,none⟩=some (.int .i64 (l.fin:Int)):=(h1.on hbd).cell 7
 have hle:=hd.le
 have hrb:Zay d≤4096:=by unfold Zay;omega
 have hf4:=Zhu (ZaR hl.fits (t:=3) (by omega))
 simp only[ZbZ] at hf4
 have HE:=Zhd (show IntKind.i64.wrap ((Zay d:Int)-IntKind.i64.wrap ((l.fin:Int)-l.block.from'))=ZbU d l by
  rw[IntWalk.i64_in ((l.fin:Int)-l.block.from') (by omega),IntWalk.i64_in _ (by omega)]
  rfl)
 obtain⟨r,hr⟩:∃ r,r=Zay d:=⟨_,rfl⟩
 obtain⟨f,hff⟩:∃ r,r=l.block.from':=⟨_,rfl⟩
 obtain⟨q,hq⟩:∃ r,r=l.fin:=⟨_,rfl⟩
 rw[←hr] at HW hrb HE
 rw[←hff] at c4 hf4 HE
 rw[←hq] at c7 hf HE
 clear h1 h3 hl hd hr hff hq hbd
 go_enter Tryz.func63,Tryz.ntmps63
 go_wp2_with fail
 go_region_held3 (fun w'=>w'=w.drew)
  (first|go_keep|rfl)
  (first|(go_at_call 114;refine(HW.out _ HB.out).mono ?_;rintro e w2 ⟨rfl,rfl⟩))
 all_goals go_split_ands
 all_goals go_wp2_with fail
 all_goals go_ret
 all_goals exact⟨Zbh HE.out,HB.out⟩
theorem ZfI (l:ZaZ) (b:Bool) (h:l.down=b):{l with down:=b}=l:=by rw[←h]
def Zel (d:Zaz) (l:ZaZ):ZaZ:={l with down:=Zhw d l||decide (Zcr d=8)}
def ZeW (d:Zaz) (l:ZaZ):Int:=if Zhw d l=true then 8 else Zcr d
def ZeV (d:Zaz) (l:ZaZ):Zaz:=if Zhw d l=true then d else ZaE d
theorem ZgT (w:World) (B L D:Nat) (l:ZaZ) (d:Zaz) (hl:IsLog B w L D l) (hd:IsDev B w D d):
  Calls Tryz.prog 30 #[.pointer (some ⟨L,0,none⟩)] w fun e w'=>e= .returned (.int .i64 (ZeW d l))∧IsLog B w' L D (Zel d l)∧IsDev B w' D (ZeV d l)∧Only lgT B w w':=by
 have HC:=Zhd (ZeG w B L D l d hl hd)
 cases ho:Zhw d l with
 |true=>
  have HX:=Zhd (show ZeW d l=8∧Zel d l={l with down:=true}∧ZeV d l=d by simp[ZeW,Zel,ZeV,ho])
  rw[ho] at HC
  clear hl hd ho
  go_enter Tryz.func30,Tryz.ntmps30
  go_wp2_with (go_at_call 48;refine HC.out.mono ?_;rintro e W1 ⟨rfl,hl1,hd1,ho1⟩;have H1:=Zhd (Zan hl1 (Zan hd1 ho1));clear hl1 hd1 ho1;(try simp))
  go_ret
  rw[HX.out.1,HX.out.2.1,HX.out.2.2]
  exact⟨rfl,H1.out⟩
 |false=>
  have HX:=Zhd (show ZeW d l=Zcr d∧Zel d l={l with down:=false||decide (Zcr d=8)}∧ZeV d l=ZaE d by simp[ZeW,Zel,ZeV,ho])
  rw[ho] at HC
  clear hl hd ho
  go_enter Tryz.func30,Tryz.ntmps30
  go_wp2_with (first
   |(go_at_call 50;refine(Zgr W2 B L D _ _ H2.out.2.1 H2.out.1 (Zcr d)).mono ?_;rintro e W3 ⟨rfl,hl3,hd3,ho3⟩;have H3:=Zhd (Zan hl3 (Zan hd3 (H2.out.2.2.trans ho3)));clear hl3 hd3 ho3)
   |(go_at_call 66;refine(Zee W1 B D d H1.out.2.1).mono ?_;rintro e W2 ⟨rfl,hd2,ho2⟩;have H2:=Zhd (Zan hd2 (Zan (H1.out.1.only ho2 (by decide) (by decide)) (H1.out.2.2.trans (ho2.mono (by decide)))));clear hd2 ho2)
   |(go_at_call 48;refine HC.out.mono ?_;rintro e W1 ⟨rfl,hl1,hd1,ho1⟩;obtain⟨v1,g1,g2⟩:=hl1.ex;have c0:W1.cell? ⟨L,0,none⟩=some (.pointer (some ⟨D,0,none⟩)):=g1.cell 0;have H1:=Zhd (Zan hl1 (Zan hd1 ho1));clear hl1 hd1 ho1 g1 g2;(try simp)))
  go_ret
  rw[HX.out.1,HX.out.2.1,HX.out.2.2]
  exact⟨rfl,H3.out⟩
theorem Zjz (w:World) (t:Int) (ht:Za6 t=true) (htf:Za2 t 7=true):
  Calls Tryz.prog 62 #[.agg (Zar 3 t (.slice none 0 0))] w fun e w'=>(∃ ao c,e= .returned (.tuple #[.slice ao 8 c,.int .i64 1,.int .i64 0])∧Own1 [5] w.heap.size w' ao 8 c ((Zbq t).map u8V))∧Below w.heap.size w w':=by
 obtain⟨W1,hW1⟩:∃ W1,W1=w.alloc (.cells (Zar 3 t (.slice none 0 0)) 66):=⟨_,rfl⟩
 have hb1:Below w.heap.size w W1:=by rw[hW1];exact Zbr.alloc Zlr _
 have a1:Blk W1 w.heap.size (Zar 3 t (.slice none 0 0)) 66:=by rw[hW1];exact Zha w _
 have hs:=Zi6 W1 t ht htf
 rw[hW1] at a1 hb1 hs
 have HS:=Zhd hs
 have H1:=Zhd (Zan a1 hb1)
 clear hs ht htf a1 hb1 hW1
 go_enter Tryz.func62,Tryz.ntmps62
 go_wp2_with (first
  |(refine wpList_load_row rfl 66 _ rfl w.heap.size rfl 66 (Zar 3 t (.slice none 0 0)) (0,0) _ H1.out.1 Tryz.underlying66 rfl Za5 ?_)
  |(go_at_call 25;refine HS.out.mono ?_;rintro e W3 ⟨⟨ao,c,rfl,ho⟩,hb⟩;have H3:=Zhd (Zan (ho.mono H1.out.2.size) (Zaa H1.out.2 hb Zlr));clear ho hb))
 go_ret3
 exact⟨⟨ao,c,rfl,H3.out.1⟩,H3.out.2⟩
theorem Zfj (w:World) (K C L:Nat) (pl no te:Int) (me dn:Bool) (hk:Blk w K (ZaQ C L pl no te me dn) 62) (e0:Int):
  Calls Tryz.prog 29 #[.pointer (some ⟨K,0,none⟩),.int .i64 e0] w fun e w'=>e= .returned (.int .i64 e0)∧Blk w' K (ZaQ C L pl no te me (dn||(e0==8))) 62∧w.grownBy w' (some K):=by
 have c6:w.cell? ⟨K,6,none⟩=some (.bool dn):=hk.cell 6
 have f6:=hk.free 6
 have hs:=hk.set 6 (.bool (dn||(e0==8)))
 have HS:=Zhd (Zan hs (Zag w K 6 (.bool (dn||(e0==8)))))
 clear hk hs
 cases dn with
 |true=>
  go_enter Tryz.func29,Tryz.ntmps29
  go_wp2_with fail
  go_ret
  exact⟨rfl,by simpa [ZaQ] using HS.out.1,by simpa using HS.out.2⟩
 |false=>
  go_enter Tryz.func29,Tryz.ntmps29
  go_wp2_with fail
  go_ret
  exact⟨rfl,by simpa [ZaQ] using HS.out.1,by simpa using HS.out.2⟩
theorem Zdh {P:Program} {ops:Array Oper} {o:Oper} {a:Act} {w:World} {K:Act→World→Prop} {Q:Exit→Act→World→Prop} {E:Prop} (hgd:o.guard=none) (s x:Operand) (t u:TypeId)
  (ho:o.op= .call {callee:= .builtin .append,args:=#[s,x],argTypes:=#[t,u]}) (v xv:Value) (hs:a.eval s=v) (hx:a.eval x=xv) {v':Value} {w':World}
  (hrun:(Builtin.append_ #[t,u] o.type #[v,xv]).run P w= .ok v' w') (h:K (a.put o.dst v') w'):
  if Region.wanted o (yielded ops a.tmps)=true then Oper.wp P o a w K Q else E:=by
 have hw:Region.wanted o (yielded ops a.tmps)=true:=by simp[Region.wanted,hgd]
 rw[if_pos hw]
 unfold Oper.wp
 simp[execOp,ho,resolve,invoke,builtin,hs,hx,hrun,Result.andThen]
 exact h
def Zcl (b:List UInt8) (i:Nat):List UInt8:=(b.drop (i*496)).take 496
def Zqf (l:ZaZ) (i n:Nat):Zb7:=⟨2,l.block.epoch,Zbj l,i,n⟩
def Zlk (l:ZaZ) (b:List UInt8) (i:Nat):List UInt8:=ZcZ (Zqf l i (ZaI b.length)) (Zcl b i)
def ZaK (d:Zaz) (l:ZaZ) (b:List UInt8):Nat→Zaz
 |0=>d
 |i+1=>ZaL (ZaK d l b i) (atN d (l.fin+i)) (Zlk l b i)
def ZhG (d:Zaz) (l:ZaZ) (b:List UInt8):Zaz:=ZaK d l b (ZaI b.length)
def ZoI (l:ZaZ) (b:List UInt8):ZaZ:={l with list:=l.list++[(l.fin,ZaI b.length)],fin:=l.fin+ZaI b.length}
def Zf5 (d:Zaz) (l:ZaZ) (b:List UInt8):Zaz×ZaZ×Int×Int:=
 if Zhw d l=true then(d,{l with down:=true},0,8)
 else if 16384<b.length then(d,l,0,4)
 else if ZbU d l<(ZaI b.length:Int) then(d,l,0,10)
 else if (ZhG d l b).down=true then(ZhG d l b,{l with down:=true},0,8)
 else(ZhG d l b,ZoI l b,Zbj l,0)
theorem ZoG (d:Zaz) (p:Nat) (b:List UInt8):(ZaL d p b).sure.length=d.sure.length:=by
 unfold ZaL
 split
 ·rfl
 ·split
  ·rw[show({spendP d with unsure:=d.unsure++[(p,b)]}:Zaz).sure=(spendP d).sure from rfl,(ZbO d).1]
  ·rw[(ZbO d).1]
theorem Zcf (d:Zaz) (l:ZaZ) (b:List UInt8) (i:Nat):(ZaK d l b i).sure.length=d.sure.length:=by
 induction i with
 |zero=>rfl
 |succ i ih=>rw[ZaK,ZoG,ih]
theorem ZiB {d:Zaz} {l:ZaZ} {b:List UInt8} {i:Nat} (h:(ZaK d l b i).down=true) (k:Nat):ZaK d l b (i+k)=ZaK d l b i:=by
 induction k with
 |zero=>rfl
 |succ k ih=>rw[←Nat.add_assoc,ZaK,ih,ZaL,if_pos h]
theorem ZoF (d:Zaz) (p:Nat) (b:List UInt8):(ZaL d p b).unsure.length≤d.unsure.length+1:=by
 unfold ZaL
 split
 ·omega
 ·split
  ·simp
  ·rw[(ZbO d).2];omega
theorem Zgc (d:Zaz) (l:ZaZ) (b:List UInt8) (i:Nat):(ZaK d l b i).unsure.length≤d.unsure.length+i:=by
 induction i with
 |zero=>simp[ZaK]
 |succ i ih=>
  rw[ZaK]
  have:=ZoF (ZaK d l b i) (atN d (l.fin+i)) (Zlk l b i)
  omega
theorem Zmv {d:Zaz} (h:d.down=false) (p:Nat) (b:List UInt8):(ZbM d=0∧(ZaL d p b).down=false)∨(ZbM d=8∧(ZaL d p b).down=true):=by
 unfold ZbM ZaL Zbu
 rw[h]
 by_cases h1:d.limit=1
 ·right
  simp[h1,spendP]
 ·left
  simp[h1,spendP]
  split
  ·exact h
  ·simp
theorem ZfJ {d:Zaz} {l:ZaZ} (h:Zhw d l=false):d.down=false∧l.down=false:=by
 unfold Zhw at h
 cases h1:l.down<;>cases h2:d.down<;>simp_all
theorem Zlj:∃ (i0:TypeInfo) (z:Value),Tryz.prog.info? 106=some i0∧i0.zero=some z∧i0.size=2∧z.cells.size=2∧i0.bytes≤1000:=by
 obtain⟨i0,hi⟩:∃ i0,Tryz.prog.info? 106=some i0:=Option.isSome_iff_exists.1 (by kernel_rfl)
 have h1:(Tryz.prog.info? 106).map (fun i=>(i.zero.map (·.cells.size),i.size,decide (i.bytes≤1000)))=some (some 2,2,true):=by kernel_rfl
 rw[hi] at h1
 simp at h1
 obtain⟨⟨z,hz,hz2⟩,h2,h3⟩:=h1
 exact⟨i0,z,hi,hz,h2,hz2,h3⟩
structure Zql (B:Nat) (W:World) (v:Value) (u:List (Nat×Nat)) (x:Nat×Nat) (v':Value) (W':World):Prop where
 run:(Builtin.append_ #[96,96] 96 #[v,.slice (some ⟨W.heap.size,0,none⟩) 1 1]).run Tryz.prog (W.alloc (.cells #[.int .i64 (x.1:Int),.int .i64 (x.2:Int)] 106))= .ok v' W'
 gath:Gath Zn6 [] 106 B W' v' (u++[x])
 grown:(W.alloc (.cells #[.int .i64 (x.1:Int),.int .i64 (x.2:Int)] 106)).grownBy W' v.ownBlock
 row:∀ k,v.ownBlock=some k→∃ cs,Blk (W.alloc (.cells #[.int .i64 (x.1:Int),.int .i64 (x.2:Int)] 106)) k cs 106∧B≤k
theorem ZrD {B:Nat} {W:World} {v:Value} {u:List (Nat×Nat)} (hB:B≤W.heap.size) (hu:u.length≤900000) (hG:Gath Zn6 [] 106 B W v u) (x:Nat×Nat):∃ v' W',Zql B W v u x v' W':=by
 have hal:Below W.heap.size W (W.alloc (.cells #[.int .i64 (x.1:Int),.int .i64 (x.2:Int)] 106)):=Zbr.alloc Zlr _
 obtain⟨i0,z,hi,hz,hs0,hzs,hby⟩:=Zlj
 obtain⟨v',W',hrun,hgath,hgr,hr,_⟩:=(hG.on hal).push (ts:=96) (by decide) i0 z Tryz.underlying96 hi hz hs0 hzs hby (by omega) (by have:=hal.size;omega) () x trivial ⟨W.heap.size,0,none⟩ 1 (fun j _=>by rw[ZbB,Nat.zero_add];exact World.cell?_alloc_new W _ _ j) 96
 exact⟨v',W',hrun,hgath,hgr,hr⟩
def rgT:List TypeId:=[98,106]
theorem Zpj {B:Nat} {W W':World} {L D:Nat} {l:ZaZ} {v v':Value} {n fin:Nat} (hl:IsLog B W L D l) (h1:Blk W L (Zej D l.block v l.fin l.down) 98) (hr:Zql B W v l.list (l.fin,n) v' W') (hc:l.list.length<100000) (hB:B≤W.heap.size):
  Blk W' L (Zej D l.block v l.fin l.down) 98∧IsLog B ((W'.setCell ⟨L,6,none⟩ v').setCell ⟨L,7,none⟩ (.int .i64 (fin:Int))) L D {l with list:=l.list++[(l.fin,n)],fin:=fin}∧Only rgT B W ((W'.setCell ⟨L,6,none⟩ v').setCell ⟨L,7,none⟩ (.int .i64 (fin:Int))):=by
 have hal:Below W.heap.size W (W.alloc (.cells #[.int .i64 ((l.fin,n).1:Int),.int .i64 ((l.fin,n).2:Int)] 106)):=Zbr.alloc Zlr _
 have h2:=Zda hr.grown hr.row (h1.on hal) (by decide)
 have g1:=Zag W' L 6 v'
 have h3:=h2.set 6 v'
 have g2:=Zag (W'.setCell ⟨L,6,none⟩ v') L 7 (.int .i64 (fin:Int))
 have h4:=h3.set 7 (.int .i64 (fin:Int))
 have gg:=Zah g1 g2
 refine⟨h2,⟨⟨v',by simpa [Zej] using h4,hr.gath.step (Same.but gg h2 (by decide))⟩,hl.base,hl.fits,by simp;omega⟩,?_⟩
 exact(Only.below hal hB).trans ((ZcB hr.grown hr.row (by decide) (by have:=hal.size;omega)).trans (Only.but gg h2 (by decide) hl.base))
theorem ZdF {B:Nat} {w w':World} {D:Nat} {d:Zaz} (hd:IsDev B w D d) {S:List TypeId} {B':Nat} (ho:Only S B' w w') (h1:55∉S) (h2:134∉S) (h3:86∉S) (h4:5∉S):IsDev B w' D d:=by
 obtain⟨SU,v,k1,k2,k3,k4⟩:=hd.ex
 refine⟨⟨SU,v,ho.blk k1 h1,ho.blk k2 h2,k3,k4.step (ho.same ?_)⟩,hd.base,hd.pos,hd.le,hd.lens,hd.ulens,hd.lim,hd.cnt⟩
 intro t ht
 simp at ht
 rcases ht with rfl|rfl
 ·exact h3
 ·exact h4
theorem Zfv {b:List UInt8} {t:Nat}:(Zcl b t).length=min 496 (b.length-t*496):=by simp[Zcl]
theorem ZpJ {l:ZaZ} {b:List UInt8} {t:Nat} (he:Za2 l.block.epoch 4=true) (hs:Za2 (Zbj l) 7=true) (hb:b.length≤16384) (ht:t<ZaI b.length):Zb9 (Zqf l t (ZaI b.length)) (Zcl b t)=0:=by
 have hp:ZaI b.length≤34:=by unfold ZaI;omega
 have hf:Zd3 (Zqf l t (ZaI b.length))=true:=by
  have h1:Za2 (t:Int) 1=true:=by simp only[Za2,Zae2,Zde];omega
  have h2:Za2 (ZaI b.length:Int) 1=true:=by simp only[Za2,Zae2,Zde];omega
  simp only[Zd3,Zqf,he,hs,h1,h2,Bool.and_true]
  decide
 have hl:=Zfv (b:=b) (t:=t)
 rw[Zb9,if_neg (by rw[hf];decide),if_neg (by simp only[Zqf];omega),if_neg (by omega)]
theorem Zpe (w:World) (B L D:Nat) (l:ZaZ) (d:Zaz) (hl:IsLog B w L D l) (hd:IsDev B w D d) (h3:3≤d.sure.length) (bo:Option Addr) (bl bc:Nat) (b:List UInt8) (hb:ZbP w bo bl bc b) (hbB:rowIn (Zak [5] w) bo bl) (hb0:1≤bl)
  (hbl:bl≤1000000) (hf:l.fin≤900000000) (hep:Za2 l.block.epoch 4=true) (hnx:Za2 (Zbj l) 7=true) (hc:l.list.length<100000) (hu:d.unsure.length≤800000):
  Calls Tryz.prog 117 #[.pointer (some ⟨L,0,none⟩),.slice bo bl bc] w fun e w'=>e= .returned (.tuple #[.int .i64 (Zf5 d l b).2.2.1,.int .i64 (Zf5 d l b).2.2.2])∧IsLog B w' L D (Zf5 d l b).2.1∧IsDev B w' D (Zf5 d l b).1∧Only lgT B w w':=by
 have HC:=Zhd (ZeG w B L D l d hl hd)
 have hlen:b.length=bl:=by have:=hb.hlen;simpa using this
 have hle:=hb.hle
 have hcap:=hb.hcap
 cases ho:Zhw d l with
 |true=>
  have HX:=Zhd (show Zf5 d l b=(d,{l with down:=true},0,8) by simp[Zf5,ho])
  rw[ho] at HC
  clear hl hd ho hb hbB
  go_enter Tryz.func117,Tryz.ntmps117
  go_wp2_with (go_at_call 48;refine HC.out.mono ?_;rintro e W1 ⟨rfl,hl1,hd1,ho1⟩;have H1:=Zhd (Zan hl1 (Zan hd1 ho1));clear hl1 hd1 ho1;(try simp))
  go_ret2
  rw[HX.out]
  exact⟨rfl,H1.out⟩
 |false=>
  have hdl:=ZfJ ho
  rw[ho] at HC
  rw[ZfI l false hdl.2] at HC
  have HP:=Zhd (ZnW · bl (by omega))
  by_cases hbig:16384<bl
  ·have HX:=Zhd (show Zf5 d l b=(d,l,0,4) by simp[Zf5,ho,hlen,hbig])
   clear hl hd ho hb hbB hdl
   have hbg:decide ((16384:Int)<(bl:Int))=true:=Zdt (by omega)
   go_enter Tryz.func117,Tryz.ntmps117
   go_wp2_with (first|(go_at_call 48;refine HC.out.mono ?_;rintro e W1 ⟨rfl,hl1,hd1,ho1⟩;have H1:=Zhd (Zan hl1 (Zan hd1 ho1));clear hl1 hd1 ho1;(try simp))|(go_at_call 159;refine(HP.out _).mono ?_;rintro e W1 ⟨rfl,rfl⟩))
   go_ret2
   rw[HX.out]
   exact⟨rfl,H1.out⟩
  ·have hbg:decide ((16384:Int)<(bl:Int))=false:=Zdf (by omega)
   obtain⟨n,hn⟩:∃ n,n=ZaI bl:=⟨_,rfl⟩
   rw[←hn] at HP
   have hnb:n≤34∧(n-1)*496<bl∧bl≤n*496∧1≤n:=by rw[hn];unfold ZaI;omega
   have HN:=Zhd (show ZaI b.length=n by rw[hlen,hn])
   have HRM:=Zhd (fun w' (a:IsLog B w' L D l) (b:IsDev B w' D d)=>Zek w' B L D l d a b (by omega) (by omega))
   obtain⟨rm,hrm⟩:∃ rm,rm=ZbU d l:=⟨_,rfl⟩
   rw[←hrm] at HRM
   have HBB:=Zhd (Zan hb (Zan hbB hlen))
   have HDL:=Zhd (Zan hdl (Zan ho hrm))
   clear hb hbB ho hrm hn hlen hdl
   by_cases hfull:rm<(n:Int)
   ·have HX:=Zhd (show Zf5 d l b=(d,l,0,10) by
     rw[Zf5,if_neg (by rw[HDL.out.2.1];decide),if_neg (by have:=HBB.out.2.2;omega),HN.out,if_pos (by rw[←HDL.out.2.2];exact hfull)])
    have hfl:decide (rm<(n:Int))=true:=Zdt hfull
    clear hl hd
    go_enter Tryz.func117,Tryz.ntmps117
    go_wp2_with (first|(go_at_call 48;refine HC.out.mono ?_;rintro e W1 ⟨rfl,hl1,hd1,ho1⟩;have H1:=Zhd (Zan hl1 (Zan hd1 ho1));clear hl1 hd1 ho1;(try simp))|(go_at_call 159;refine(HP.out _).mono ?_;rintro e W1 ⟨rfl,rfl⟩)|(go_at_call 63;refine(HRM.out _ H1.out.1 H1.out.2.1).mono ?_;rintro e W2 ⟨rfl,hb2⟩;have H2:=Zhd hb2;clear hb2))
    go_ret2
    rw[HX.out]
    exact⟨rfl,H1.out.1.on H2.out,H1.out.2.1.on H2.out,H1.out.2.2.trans (Only.below H2.out (by have:=H1.out.2.1.Ble;omega))⟩
   ·have hfl:decide (rm<(n:Int))=false:=Zdf hfull
    have HFL:=Zhd (show¬ZbU d l<(n:Int) by rw[←HDL.out.2.2];exact hfull)
    have HLD:=Zhd (Zan hl hd)
    have HEN:=Zhd (Zan hep hnx)
    have hsub:∀ q:Nat,q*496=q*496:=fun _=>rfl
    clear hl hd hfull hep hnx hsub
    go_enter Tryz.func117,Tryz.ntmps117
    go_wp2_with (first|(go_at_call 48;refine HC.out.mono ?_;rintro e W1 ⟨rfl,hl1,hd1,ho1⟩;have H1:=Zhd (Zan hl1 (Zan hd1 ho1));clear hl1 hd1 ho1;(try simp))|(go_at_call 159;refine(HP.out _).mono ?_;rintro e W1 ⟨rfl,rfl⟩)|(go_at_call 63;refine(HRM.out _ H1.out.1 H1.out.2.1).mono ?_;rintro e W2 ⟨rfl,hb2⟩;have H2:=Zhd (Zan (H1.out.1.on hb2) (Zan (H1.out.2.1.on hb2) (H1.out.2.2.trans (Only.below hb2 (by have:=H1.out.2.1.Ble;omega)))));clear hb2)|(go_at_call 21;refine(ZbT W2 B L D l H2.out.1).mono ?_;rintro e W3 ⟨rfl,hb3⟩;have H3:=Zhd (Zan (H2.out.1.on hb3) (Zan (H2.out.2.1.on hb3) (H2.out.2.2.trans (Only.below hb3 (by have:=H2.out.2.1.Ble;omega)))));clear hb3;rw[show l.block.first+(l.list.length:Int)=Zbj l from rfl]))
    obtain⟨sq,hsq⟩:∃ sq,sq=Zbj l:=⟨_,rfl⟩
    rw[←hsq]
    have HSQ:=Zhd hsq
    clear hsq
    go_loopw [4,33] (fun s4 i wr=>∃ t:Nat,t≤n∧i= .int .i64 (t:Int)∧s4= .int .i64 sq∧Hid (IsLog B wr L D l∧IsDev B wr D (ZaK d l b t)∧(ZaK d l b t).down=false∧Only lgT B w wr)) (fun _ i _=>(n-intOf i).toNat)
    case atStart=>exact⟨0,Nat.zero_le _,rfl,rfl,Zhd ⟨H3.out.1,H3.out.2.1,HDL.out.1.1,H3.out.2.2⟩⟩
    case round=>
     obtain⟨t,ht,rfl,rfl,hinv⟩:=hrel
     by_cases hlt:t<n
     ·have HB:=Zhd (HBB.out.1.keep HBB.out.2.1 (hinv.out.2.2.2.same (T:=[5]) (by decide)))
      obtain⟨b0,off,rfl⟩:=HBB.out.1.addr (k:=0) (by omega)
      have ht33:t≤33:=by omega
      have hmul:t*496≤(n-1)*496:=Nat.mul_le_mul_right _ (by omega)
      obtain⟨r,hr,hre⟩:∃ r:Nat,min (((t:Int)+1)*496) (bl:Int)=(r:Int)∧r=min ((t+1)*496) bl:=⟨_,by omega,rfl⟩
      have hr1:t*496<r:=by omega
      have hr2:r≤bl:=by omega
      have hne: ¬bc=t*496:=by omega
      have HQ:=Zhd (Zan hre hnb)
      clear hnb hre hmul
      obtain⟨v,g1,g2⟩:=hinv.out.1.ex
      have c0:wr.cell? ⟨L,0,none⟩=some (.pointer (some ⟨D,0,none⟩)):=g1.cell 0
      have c2:wr.cell? ⟨L,2,none⟩=some (.int .i64 l.block.epoch):=g1.cell 2
      have c7:wr.cell? ⟨L,7,none⟩=some (.int .i64 (l.fin:Int)):=g1.cell 7
      clear g1 g2
      go_wp2_with fail
      have hpe:((b.map u8V).drop (t*496)).take (r-t*496)=(Zcl b t).map u8V:=by
       rw[Zcl,←List.map_drop,←List.map_take]
       congr 1
       have h1:=HQ.out.1
       have h2:=HBB.out.2.2
       rcases Nat.lt_or_ge (b.length) ((t+1)*496) with h3|h3
       ·rw[List.take_of_length_le (by rw[List.length_drop];omega),List.take_of_length_le (by rw[List.length_drop];omega)]
       ·rw[show r-t*496=496 by omega]
      have hpl:(Zcl b t).length=r-t*496:=by
       have h1:=HQ.out.1
       have h2:=HBB.out.2.2
       have:=Zfv (b:=b) (t:=t)
       omega
      have hpc:ZbP wr (some ⟨b0,off+t*496,none⟩) (r-t*496) (bc-t*496) (Zcl b t):=by
       have:=HB.out.part (lo:=t*496) (m:=r-t*496) (by omega)
       rw[show(b.map fun c=>Value.int .u8 (c.toNat:Int))=b.map u8V from rfl,hpe] at this
       exact this
      have hsl:Zb9 ⟨2,l.block.epoch,sq,t,n⟩ (Zcl b t)=0:=by
       have:=ZpJ (l:=l) (b:=b) (t:=t) HEN.out.1 HEN.out.2 (by have:=HBB.out.2.2;omega) (by rw[HN.out];exact hlt)
       rw[Zqf,HN.out,←HSQ.out] at this
       exact this
      have HSL:=Zhd hsl
      have hrw:ZcZ ⟨2,l.block.epoch,sq,t,n⟩ (Zcl b t)=Zlk l b t:=by rw[Zlk,Zqf,HN.out,←HSQ.out]
      have HRW:=Zhd hrw
      have hse:=ZiG wr ⟨2,l.block.epoch,sq,t,n⟩ _ _ _ (Zcl b t) hpc (by omega)
      have HSE:=Zhd hse
      clear hpe hpl hpc hsl hrw hse
      refine HSE.out.mono ?_
      rintro e W4 hS
      obtain⟨v,rfl,hown⟩:=hS.ok HSL.out
      obtain⟨ro,rcap,rfl,hrow⟩:=Zai hown (by omega)
      rw[HRW.out] at hrow
      have H4:=Zhd (Zan hS.bel (Zan hrow (Zan (hinv.out.1.on hS.bel) (Zan (hinv.out.2.1.on hS.bel) (hinv.out.2.2.2.trans (Only.below hS.bel (by have:=hinv.out.2.1.Ble;omega)))))))
      have d0:=Zab hS.bel c0
      have d7:=Zab hS.bel c7
      clear hS hown hrow c0 c2 c7
      obtain⟨p,hp⟩:∃ p,p=l.fin+t:=⟨_,rfl⟩
      have hpw:IntKind.i64.wrap ((l.fin:Int)+(t:Int))=(p:Int):=by rw[IntWalk.i64_in _ (by omega)];omega
      have HP2:=Zhd (Zan hp (show p≤1000000000 by omega))
      have HW5:=Zhd hpw
      have hlen3:3≤(ZaK d l b t).sure.length:=by rw[Zcf];exact h3
      have HAT:=Zhd (fun w' (a:IsLog B w' L D l) (b':IsDev B w' D (ZaK d l b t))=>Znx w' B L D l _ a b' hlen3 p HP2.out.2)
      rw[show atN (ZaK d l b t) p=atN d p from by unfold atN Zay;rw[Zcf]] at HAT
      obtain⟨q,hq⟩:∃ q,q=atN d p:=⟨_,rfl⟩
      rw[←hq] at HAT
      have HQQ:=Zhd (Zan hq (show q<(ZaK d l b t).sure.length by rw[hq,Zcf];exact Zqt h3 p))
      have HCN:=Zhd (show(ZaK d l b t).unsure.length<900000 by have:=Zgc d l b t;omega)
      have hnext:ZaL (ZaK d l b t) q (Zlk l b t)=ZaK d l b (t+1):=by rw[ZaK,←hp,←hq]
      have HNX:=Zhd hnext
      have hbd:=Below.drew (Below.refl W4.heap.size W4)
      have HBD:=Zhd hbd
      have D0:=Zhd (Zan (Zab hbd d0) (Zab hbd d7))
      have hcase:=Zmv hinv.out.2.2.1 q (Zlk l b t)
      rw[hnext] at hcase
      have HE8:=Zhd (fun (h:ZbM (ZaK d l b t)=8)=>h)
      clear hp hlen3 hq hnext hbd
      rcases hcase with⟨hwe,hwd⟩|⟨hwe,hwd⟩
      all_goals
       have HWE:=Zhd hwe
       have HWD:=Zhd hwd
       clear hwe hwd
       go_wp2_with fail
       go_region_held3 (fun w'=>w'.cell? ⟨L,0,none⟩=some (.pointer (some ⟨D,0,none⟩))∧w'.cell? ⟨L,7,none⟩=some (.int .i64 (l.fin:Int)))
        (first|go_keep|exact D0.out|exact hc6|exact hc5)
        (first
         |(go_at_call 50;refine(Zgr W5 B L D l _ H5.out.2.1 H5.out.1 _).mono ?_;rintro e W6 ⟨rfl,hl6,hd6,ho6⟩;obtain⟨v6,g1,g2⟩:=hl6.ex;have hc6:W6.cell? ⟨L,0,none⟩=some (.pointer (some ⟨D,0,none⟩))∧W6.cell? ⟨L,7,none⟩=some (.int .i64 (l.fin:Int)):=⟨g1.cell 0,g1.cell 7⟩;have H6:=Zhd (Zan hl6 (Zan hd6 (H5.out.2.2.trans ho6)));clear hl6 hd6 ho6 g1 g2)
         |(go_at_call 89;refine(ZfL _ B D _ (H4.out.2.2.2.1.on HBD.out) q HQQ.out.2 ro rcap (Zlk l b t) (H4.out.2.1.on HBD.out).row (fun h0 a ha=>((H4.out.2.1.on HBD.out).mem h0 a ha).1) HCN.out).mono ?_;rintro e W5 ⟨rfl,hd5,ho5⟩;rw[HNX.out] at hd5;rw[HWE.out];have hl5:=(H4.out.2.2.1.on HBD.out).only ho5 (by decide) (by decide);obtain⟨v5,g1,g2⟩:=hl5.ex;have hc5:W5.cell? ⟨L,0,none⟩=some (.pointer (some ⟨D,0,none⟩))∧W5.cell? ⟨L,7,none⟩=some (.int .i64 (l.fin:Int)):=⟨g1.cell 0,g1.cell 7⟩;have H5:=Zhd (Zan hd5 (Zan hl5 ((H4.out.2.2.2.2.trans (Only.below HBD.out (by have:=H4.out.2.2.2.1.Ble;omega))).trans (ho5.mono (by decide)))));clear hd5 hl5 ho5 g1 g2)
         |(go_at_call 90;refine(HAT.out _ (H4.out.2.2.1.on HBD.out) (H4.out.2.2.2.1.on HBD.out)).mono ?_;rintro e w2 ⟨rfl,rfl⟩))
       go_split_ands
       go_wp2_with fail
      ·go_roundw
       case rel=>
        have hdn:({l with down:=l.down||decide ((0:Int)=8)}:ZaZ)=l:=by
         have e:=HDL.out.1.2
         rw[e]
         exact ZfI l _ e
        exact⟨t+1,hlt,by simp,rfl,Zhd ⟨by have:=H6.out.1;rwa [hdn] at this,H6.out.2.1,HWD.out,H6.out.2.2⟩⟩
       case measure=>simp[intOf];omega
      ·go_ret2
       have hst:=ZiB HWD.out (n-(t+1))
       rw[show t+1+(n-(t+1))=n by omega] at hst
       have hX:Zf5 d l b=(ZaK d l b (t+1),{l with down:=true},0,8):=by
        rw[Zf5,if_neg (by rw[HDL.out.2.1];decide),if_neg (by have:=HBB.out.2.2;omega),HN.out,if_neg (by have:=HFL.out;omega),ZhG,HN.out,hst,if_pos HWD.out]
       rw[hX]
       have h6:=H6.out.1
       rw[show(l.down||decide True)=true by simp] at h6
       exact⟨rfl,h6,H6.out.2.1,H6.out.2.2⟩
     ·obtain rfl:t=n:=by omega
      obtain⟨v,g1,g2⟩:=hinv.out.1.ex
      have hbd:=Below.drew (Below.refl wr.heap.size wr)
      have hB:=hinv.out.2.1.Ble
      obtain⟨v',W9,hrp⟩:=ZrD (B:=B) (by have:=hbd.size;omega) (by omega) (g2.on hbd) (l.fin,t)
      obtain⟨ao',c',hv',-,-⟩:=hrp.gath.seq
      subst hv'
      have hlm:=Zpj (fin:=l.fin+t) (hinv.out.1.on hbd) (g1.on hbd) hrp hc (by have:=hbd.size;omega)
      have c6:wr.drew.cell? ⟨L,6,none⟩=some v:=(g1.on hbd).cell 6
      have c7:wr.drew.cell? ⟨L,7,none⟩=some (.int .i64 (l.fin:Int)):=(g1.on hbd).cell 7
      have hc9:W9.cell? ⟨L,6,none⟩=some v∧W9.cell? ⟨L,7,none⟩=some (.int .i64 (l.fin:Int)):=⟨hlm.1.cell 6,hlm.1.cell 7⟩
      have f6:W9.frozen? ⟨L,6,none⟩=false:=hlm.1.free 6
      have hal:=(Below.refl wr.drew.heap.size wr.drew).alloc Zlr (.cells #[.int .i64 (l.fin:Int),.int .i64 (t:Int)] 106)
      have hca:(wr.alloc (.cells #[.int .i64 (l.fin:Int),.int .i64 (t:Int)] 106)).drew.cell? ⟨L,6,none⟩=some v∧(wr.alloc (.cells #[.int .i64 (l.fin:Int),.int .i64 (t:Int)] 106)).drew.cell? ⟨L,7,none⟩=some (.int .i64 (l.fin:Int)):=⟨Zab hal c6,Zab hal c7⟩
      have HCA:=Zhd hca
      have HC9:=Zhd hc9
      have HRP:=Zhd hrp
      have HLM:=Zhd (Zan hlm hbd)
      have k7':(W9.setCell ⟨L,6,none⟩ (.slice ao' (l.list.length+1) c')).cell? ⟨L,7,none⟩=some (.int .i64 (l.fin:Int)):=(hlm.1.set 6 _).cell 7
      have f7':(W9.setCell ⟨L,6,none⟩ (.slice ao' (l.list.length+1) c')).frozen? ⟨L,7,none⟩=false:=(hlm.1.set 6 _).free 7
      have hlt2:decide ((t:Int)<(t:Int))=false:=by simp
      have lL:L<wr.heap.size:=Blk.lt g1
      have lW:=World.new_ne wr ⟨L,6,none⟩ (show wr.cell? ⟨L,6,none⟩=some v from g1.cell 6)
      have lW7:=World.new_ne wr ⟨L,7,none⟩ (show wr.cell? ⟨L,7,none⟩=some (.int .i64 (l.fin:Int)) from g1.cell 7)
      clear g1 g2 hbd hB hrp hlm hal hca hc9
      go_wp2_with fail
      obtain⟨ca6,ca7⟩:=HCA.out
      obtain⟨k6,k7⟩:=HC9.out
      go_region_law (refine Zdh rfl _ _ _ _ rfl _ _ rfl rfl HRP.out.run ?_)
      all_goals
       go_wp2_with fail
       go_ret2
       have hX:Zf5 d l b=(ZaK d l b t,ZoI l b,Zbj l,0):=by
        rw[Zf5,if_neg (by rw[HDL.out.2.1];decide),if_neg (by have:=HBB.out.2.2;omega),HN.out,if_neg (by have:=HFL.out;omega),ZhG,HN.out,if_neg (by rw[hinv.out.2.2.1];decide)]
       rw[hX]
       have hl9:=HLM.out.1.2.1
       have ho9:=HLM.out.1.2.2
       rw[Int.natCast_add] at hl9 ho9
       have hLL:ZoI l b={l with list:=l.list++[(l.fin,t)],fin:=l.fin+t}:=by rw[ZoI,HN.out]
       have hon:Only rgT B wr ((W9.setCell ⟨L,6,none⟩ (.slice ao' (l.list.length+1) c')).setCell ⟨L,7,none⟩ (.int .i64 ((l.fin:Int)+(t:Int)))):=(Only.below HLM.out.2 hinv.out.2.1.Ble).trans (by simpa using ho9)
       refine⟨by simp[HSQ.out],?_,?_,hinv.out.2.2.2.trans (hon.mono (by decide))⟩
       ·rw[hLL]
        simpa using hl9
       ·exact ZdF hinv.out.2.1 hon (by decide) (by decide) (by decide) (by decide)
def kT:List TypeId:=62::lgT
structure Zd8 (d:Zaz) (l:ZaZ):Prop where
 len:3≤d.sure.length
 fin:l.fin≤900000000
 ep:Za2 l.block.epoch 4=true
 nx:Za2 (Zbj l) 7=true
 cnt:l.list.length<100000
 un:d.unsure.length≤800000
def OneW (R:Nat) (w w':World):Prop:=∀ v M,Blk w R #[v,.map (some M)] 205→∀ j,j<w.heap.size→j≠R→v.ownBlock≠some j→w'.heap[j]?=w.heap[j]?
theorem OneW.on {R:Nat} {w w1 w2:World} (hb:Below w.heap.size w w1) (h:OneW R w1 w2):OneW R w w2:=fun v m hv j hj hR ho=>by
 have:=hb.size
 exact(h v m (hv.on hb) j (by omega) hR ho).trans (hb.block j hj)
theorem ZpU (w:World) (N R M:Nat) (b:List UInt8) (hW:IsW N w R M b) (ao:Option Addr) (m c:Nat) (l:List UInt8) (hl:ZbP w ao m c l) (hm:b.length+m≤1000000000):
  Calls Tryz.prog 145 #[.pointer (some ⟨R,0,none⟩),.slice ao m c] w fun e w'=>e= .returned (.tuple #[])∧IsW N w' R M (b++l)∧Only wrT N w w'∧OneW R w w':=by
 obtain⟨v,h1,h2⟩:=hW.ex
 have hN:=hW.lt
 have hlen:=hl.hlen
 rw[List.length_map] at hlen
 obtain⟨i0,hi,hz0,hz1,hz2⟩:=info_parts Zho
 obtain⟨v',w1,hrun,hown,hgr⟩:=Zba (P:=Tryz.prog) w N 22 22 5 i0 _ 1 Tryz.underlying22 hi hz0 hz1 hz2 rfl v b.length (b.map u8V) h2 ao m c (l.map u8V) hl (Zdu l) (by omega) (by omega) hN
 have hrow:∀ k,v.ownBlock=some k→∃ cs,Blk w k cs 5∧N≤k:=fun k hk=>by
  exact Zfu h2 hk
 obtain⟨va,vc,hv',_⟩:=Zai hown (by omega)
 obtain⟨q,hq⟩:∃ q,q=b.length+m:=⟨_,rfl⟩
 rw[←hq] at hv' hown
 subst hv'
 have c0:w.cell? ⟨R,0,none⟩=some v:=h1.cell 0
 have h1':Blk w1 R #[v,.map (some M)] 205:=Zda hgr hrow h1 (by decide)
 have c1:w1.cell? ⟨R,0,none⟩=some v:=h1'.cell 0
 have f1:=h1'.free 0
 have hg2:=Zag w1 R 0 (.slice va q vc)
 have h1'':=h1'.set 0 (.slice va q vc)
 have ho1:Only wrT N w w1:=ZcB hgr hrow (by decide) hN
 have ho2:Only wrT N w (w1.setCell ⟨R,0,none⟩ (.slice va q vc)):=ho1.trans (Only.but hg2 h1' (by decide) hW.base)
 have hown2:(w1.setCell ⟨R,0,none⟩ (.slice va q vc)).ownsRow N 5 1 (.slice va q vc) q (b.map u8V++l.map u8V):=Zgv hown hg2 h1' (by decide)
 have hone:OneW R w (w1.setCell ⟨R,0,none⟩ (.slice va q vc)):=fun v0 m0 h0 j hj hR hv=>by
  have e0:v0=v:=by have:=h0.cell 0;rw[c0] at this;simpa using this.symm
  subst e0
  exact(hg2.block j (by have:=hgr.size;omega) (fun e=>hR (Zsi e))).trans (hgr.block j hj (fun e=>hv e.symm))
 have HF:=Zhd (Zan h1'' (Zan (Zan ho2 hone) hown2))
 have HR:=Zhd hrun
 have HB:=Zhd (Zan hW.base (Zan hlen hq))
 clear hW h1 h2 hi hz0 hz1 hz2 hrun hown hgr hrow h1' hg2 h1'' ho1 ho2 hown2 hl hlen hq hone
 go_enter Tryz.func145,Tryz.ntmps145
 go_wp2_with (at_builtin;refine Zao rfl _ _ _ rfl _ _ rfl rfl HR.out ?_)
 go_end0
 refine⟨rfl,⟨⟨_,by simpa using HF.out.1,?_⟩,HB.out.1⟩,HF.out.2.1⟩
 rw[Zla,List.map_append,HB.out.2.1,←HB.out.2.2]
 exact HF.out.2.2
theorem ZpT (w:World) (N R M:Nat) (b:List UInt8) (hW:IsW N w R M b) (n:Int) (size:Nat) (hs:1≤size) (hs7:size≤7) (hf:Za2 n size=true) (hm:b.length≤100000000):
  Calls Tryz.prog 98 #[.pointer (some ⟨R,0,none⟩),.int .i64 n,.int .i64 (size:Int)] w fun e w'=>e= .returned (.tuple #[])∧IsW N w' R M (b++Za1 n size)∧Only wrT N w w'∧OneW R w w':=by
 have hN:=hW.lt
 have HP:=Zhd (Zgx w none 0 0 [] (Row.empty (by omega) (fun _=>rfl)) (by omega) n size hs hs7)
 have hpl:Zlh [] n size=Za1 n size:=by rw[Zlh,if_pos hf];rfl
 rw[hpl,Zap] at HP
 have HW:=Zhd (Zan hW (Zan hN hm))
 clear hW hN hpl hf hm hs
 go_enter Tryz.func98,Tryz.ntmps98
 go_wp2_with (first|(go_at_call 87;refine HP.out.mono ?_;rintro e W1 ⟨⟨v,rfl,hown⟩,hb1⟩;obtain⟨ao,cap,rfl,hrow⟩:=ZbG hown (by omega);have H1:=Zhd (Zan hrow hb1);clear hown hrow hb1)|(go_at_call 145;refine(ZpU W1 N R M b (HW.out.1.on H1.out.2) ao size cap (Za1 n size) H1.out.1 (by have:=HW.out.2.2;omega)).mono ?_;rintro e W2 ⟨rfl,hw2,ho2,hq2⟩;have H2:=Zhd (Zan hw2 (Zan ((Only.below H1.out.2 HW.out.2.1).trans ho2) (OneW.on H1.out.2 hq2)));clear hw2 ho2))
 go_end0
 exact⟨rfl,H2.out.1,H2.out.2⟩
def cdW (k:Int) (d:Zaq):List UInt8:=(rdW k d [] []).2
theorem IsW.one {N:Nat} {w w':World} {R M N2 R2 M2:Nat} {b b2:List UInt8} (h:IsW N w R M b) (hRN:R<N2∧∀ v,Blk w R #[v,.map (some M)] 205→∀ g,v.ownBlock=some g→g<N2) (h2:IsW N2 w R2 M2 b2) (ho:OneW R w w'):IsW N2 w' R2 M2 b2:=by
 obtain⟨v,h1,h3⟩:=h.ex
 obtain⟨v2,k1,k2⟩:=h2.ex
 have hb2:=h2.base
 have e1:Blk w' R2 #[v2,.map (some M2)] 205:=by
  unfold Blk at k1⊢
  rw[ho v M h1 R2 (Blk.lt k1) (by omega) (fun e=>by have:=hRN.2 v h1 R2 e;omega),k1]
 refine⟨⟨v2,e1,?_⟩,h2.base⟩
 refine⟨k2.1,k2.2.imp id ?_⟩
 rintro⟨g,cap,cur,e,hg,hc,r⟩
 exact⟨g,cap,cur,e,hg,by rw[ho v M h1 g (Array.getElem?_eq_some_iff.1 hc).1 (by omega) (fun e=>by have:=hRN.2 v h1 g e;omega),hc],r⟩
theorem Zqy {N M:Nat} {w:World} {h:ZaJ} {d:Zaq} (hd:IsData w h d) (hN:w.heap.size≤N):DataIn (inW N M w) h:=
 ⟨fun h0 a ha=> .inl (Nat.lt_of_lt_of_le (Zd9 w hd.bytes h0 a ha) hN),fun h0 a ha=> .inl (Nat.lt_of_lt_of_le (Zd9 w hd.host.row h0 a ha) hN),fun h0 a ha=> .inl (Nat.lt_of_lt_of_le (Zd9 w hd.mail.row h0 a ha) hN),fun h0 a ha=> .inl (Nat.lt_of_lt_of_le (Zd9 w hd.nums h0 a ha) hN),fun h0 a ha=> .inl (Nat.lt_of_lt_of_le (Zd9 w hd.texts.row h0 a ha) hN)⟩
theorem DataIn.world {N M:Nat} {w w':World} {h:ZaJ} {d:Zaq} (hd:IsData w h d) (hN:w.heap.size≤N):DataIn (inW N M w') h:=
 (Zqy (M:=M) hd hN).mono hd (fun b hb _=> .inl (by omega))
theorem ZiV (w:World) (N R M:Nat) (b:List UInt8) (hW:IsW N w R M b) (k:Int) (h:ZaJ) (d:Zaq) (hd:IsData w h d) (hok:ZaB k d=true) (hb:b.length≤50000000):
  Calls Tryz.prog 146 #[.pointer (some ⟨R,0,none⟩),.int .i64 k,.agg (Zae h)] w fun e w'=>e= .returned (.tuple #[])∧IsW N w' R M ((b++Za1 ((cdW k d).length:Int) 2)++cdW k d)∧Only wrT N w w':=by
 have hal:Below w.heap.size w (w.alloc (.cells (Zae h) 35)):=Zbr.alloc Zlr _
 have hA:Blk (w.alloc (.cells (Zae h) 35)) w.heap.size (Zae h) 35:=Zha w _
 have HNW:=Zhd (Zhp (w.alloc (.cells (Zae h) 35)))
 have hsz:(w.alloc (.cells (Zae h) 35)).heap.size=w.heap.size+1:=Array.size_push _
 rw[hsz] at HNW
 have hI:(cdW k d).length≤65535:=by have:=(Zn3 hok [] []).2.1;simpa [cdW] using this
 have hNN:=hW.lt
 have hRN:∀ W,Below w.heap.size w W→R<w.heap.size+1∧∀ v,Blk W R #[v,.map (some M)] 205→∀ g,v.ownBlock=some g→g<w.heap.size+1:=by
  intro W hbW
  obtain⟨v0,h1,h2⟩:=hW.ex
  refine⟨by have:=Blk.lt h1;omega,fun v hv g hg=>?_⟩
  have e1:=(h1.on hbW).cell 0
  have e2:=hv.cell 0
  rw[e1] at e2
  have e3:v0=v:=by simpa using e2
  subst e3
  obtain⟨cs,hc,_⟩:=Zfu h2 hg
  have:=Blk.lt hc
  omega
 have HA:=Zhd (Zan hal (Zan hA (Zan hd (Zan hW (Zan hok (Zan hI (Zan hNN (Zan hRN (Zan hsz hb)))))))))
 clear hal hA hW hd hok hI hNN hRN hsz hb
 obtain⟨ba,bl,bc,ha,hl,hc,ma,ml,mc,za,zl,zc,ta,tl,tc⟩:=h
 simp only[Zae] at HNW HA⊢
 go_enter Tryz.func146,Tryz.ntmps146
 go_wp2_with (first
  |(go_at_call 145;refine(ZdY W5 N R M (b++Za1 ((cdW k d).length:Int) 2) G5.out.1 ao (cdW k d).length c (cdW k d) G5.out.2.2 (by rw[Zla,Zap];have:=HA.out.2.2.2.2.2.1;have:=HA.out.2.2.2.2.2.2.2.2.2;omega)).mono ?_;rintro e W6 ⟨rfl,hw6,ho6⟩;have G6:=Zhd (Zan hw6 (G5.out.2.1.trans ho6));clear hw6 ho6)
  |(go_at_call 101;refine(Zf3 W4 (w.heap.size+1) R2 M2 (cdW k d) G4.out.2.2 (by have:=HA.out.2.2.2.2.2.1;omega)).mono ?_;rintro e W5 ⟨⟨ao,c,rfl,ho⟩,hb5⟩;have G5:=Zhd (Zan (G4.out.1.on hb5) (Zan (G4.out.2.1.trans (Only.below hb5 G4.out.1.lt)) ho.row));clear ho hb5)
  |(go_at_call 98;refine(ZpT W3b N R M b (HT.out▸G3.out.1) ((cdW k d).length:Int) 2 (by omega) (by omega) (by simp only[Za2,Zae2,Zde];have:=HA.out.2.2.2.2.2.1;omega) (by have:=HA.out.2.2.2.2.2.2.2.2.2;omega)).mono ?_;rintro e W4 ⟨rfl,hw4,ho4,hq4⟩;have ho4':Only wrT N W3 W4:=HT.out▸ho4;have hq4':OneW R W3 W4:=HT.out▸hq4;have hin:=G3.out.1.one (HA.out.2.2.2.2.2.2.2.1 W3 G3.out.2.2) G3.out.2.1 hq4';have G4:=Zhd (Zan hw4 (Zan ((Only.below G3.out.2.2 HA.out.2.2.2.2.2.2.1).trans ho4') hin));clear hw4 ho4 hq4 ho4' hq4' hin)
  |(go_at_call 169;refine(ZpS W3 (w.heap.size+1) R2 M2 (cdW k d) G3.out.2.1 (by have:=HA.out.2.2.2.2.2.1;omega)).mono ?_;rintro e W3b ⟨rfl,hwb⟩;have HT:=Zhd hwb;clear hwb)
  |(go_at_call 168;refine(ZoZ W1 (w.heap.size+1) R2 M2 [] [] G1.out.1 k ⟨ba,bl,bc,ha,hl,hc,ma,ml,mc,za,zl,zc,ta,tl,tc⟩ d ⟨HA.out.2.2.1.on G1.out.2.2,DataIn.world HA.out.2.2.1 (Nat.le_succ _)⟩ HA.out.2.2.2.2.1 (by simp) (by simp)).mono ?_;rintro e W3 ⟨rfl,hw3,ho3⟩;have hb3:Below w.heap.size w W3:=Zaa HA.out.1 (HA.out.2.2.2.2.2.2.2.2.1▸(G1.out.2.1.trans ho3.bel)) Zlr;have G3:Hid (IsW N W3 R M b∧IsW (w.heap.size+1) W3 R2 M2 (cdW k d)∧Below w.heap.size w W3):=Zhd ⟨HA.out.2.2.2.1.on hb3,hw3.iw,hb3⟩;clear hw3 ho3 hb3)
  |(go_at_call 97;refine HNW.out.mono ?_;rintro e W1 ⟨⟨R2,M2,rfl,hw1,hm1,hM⟩,hb1⟩;have hb2:Below w.heap.size w W1:=Zaa HA.out.1 (HA.out.2.2.2.2.2.2.2.2.1▸hb1) Zlr;have hM1:=HA.out.2.1.on (HA.out.2.2.2.2.2.2.2.2.1▸hb1);have z0:W1.cell? ⟨w.heap.size,0,none⟩=some (.slice ba bl bc):=hM1.cell 0;have z1:W1.cell? ⟨w.heap.size,1,none⟩=some (.slice ha hl hc):=hM1.cell 1;have z2:W1.cell? ⟨w.heap.size,2,none⟩=some (.slice ma ml mc):=hM1.cell 2;have z3:W1.cell? ⟨w.heap.size,3,none⟩=some (.slice za zl zc):=hM1.cell 3;have z4:W1.cell? ⟨w.heap.size,4,none⟩=some (.slice ta tl tc):=hM1.cell 4;have hwr:IsWR (w.heap.size+1) W1 R2 M2 [] []:=⟨hw1,MapI.fresh hm1,hM,(by intro x hx;cases hx),(by simp)⟩;have G1:=Zhd (Zan hwr (Zan hb1 hb2));clear hw1 hm1 hM hM1 hb1 hb2 hwr))
 go_end0
 exact⟨rfl,G6.out.1,G6.out.2⟩
theorem IsFact.stepM {N M:Nat} {w w':World} {h:ZaU} {f:Zas} (i:IsFact (inW N M w) w h f) (ho:OnlyM wrT N M w w'):IsFact (inW N M w') w' h f:=
 ((i.mono (S':=fun b=>inW N M w b∧b<w.heap.size) (fun _ hb hs=>⟨hs,hb⟩)).keep (ho.same.mono (fun _ _ hs=>hs.1))).mono (fun _ _ hs=>inW.step ho hs.2 hs.1)
structure Zdn (f:Zas):Prop where
 name:ZaG f.name=true
 typ:Za2 f.typ 2=true
 kind:Za2 f.kind 1=true
 rank:Za2 f.rank 1=true
 got:Za2 f.got 7=true
 ttl:Za2 f.ttl 4=true
 pos:f.kind=1→(∀ d∈f.set,ZaB f.typ d=true)∧f.set.length≤64∧1≤f.set.length∧f.zone=[]∧1≤f.typ
 neg:f.kind≠1→ZaG f.zone=true∧ZaB 6 f.soa=true∧f.set=[]
def ZaV (f:Zas) (rs:List (List UInt8×Nat)) (b:List UInt8):List (List UInt8×Nat)×List UInt8:=
 ((nameW false f.name rs b).1,(((((nameW false f.name rs b).2++Za1 f.typ 2)++Za1 f.kind 1)++Za1 f.rank 1)++Za1 f.got 7)++Za1 f.ttl 4)
def ZeX (k:Int) (d:Zaq):List UInt8:=Za1 ((cdW k d).length:Int) 2++cdW k d
def Zd1 (k:Int) (ds:List Zaq):List UInt8:=ds.flatMap (ZeX k)
def Zd2 (f:Zas) (rs:List (List UInt8×Nat)) (b:List UInt8):List UInt8:=
 if f.kind=1 then((ZaV f rs b).2++Za1 (f.set.length:Int) 1)++Zd1 f.typ f.set
 else((nameW false f.zone (ZaV f rs b).1 (ZaV f rs b).2).2++Za1 ((cdW 6 f.soa).length:Int) 2)++cdW 6 f.soa
theorem Zg8 (k:Int) (ds:List Zaq) {t:Nat} (h:t<ds.length):Zd1 k (ds.take (t+1))=(Zd1 k (ds.take t)++Za1 ((cdW k ds[t]).length:Int) 2)++cdW k ds[t]:=by
 rw[List.take_succ_eq_append_getElem h,Zd1,List.flatMap_append]
 simp[Zd1,ZeX]
theorem Zka {k:Int} {d:Zaq} (h:ZaB k d=true):(cdW k d).length≤65535:=by
 have:=(Zn3 h [] []).2.1
 simpa [cdW] using this
theorem ZqY {k:Int} {ds:List Zaq} (C:Nat) (h:∀ d∈ds,(cdW k d).length+2≤C):∀ t,(Zd1 k (ds.take t)).length≤ds.length*C:=by
 have h2:∀ t,t≤ds.length→(Zd1 k (ds.take t)).length≤t*C:=by
  intro t
  induction t with
  |zero=>intro _;simp[Zd1]
  |succ t ih=>
   intro ht
   rw[Zg8 k ds (by omega),Zla,Zla,Zap]
   have h3:=h (ds[t]'(by omega)) (List.getElem_mem _)
   have h4:=ih (by omega)
   rw[Nat.add_mul]
   omega
 intro t
 by_cases hlt:t≤ds.length
 ·exact Nat.le_trans (h2 t hlt) (Nat.mul_le_mul_right C hlt)
 ·rw[List.take_of_length_le (by omega)]
  have:=h2 ds.length Zlr
  rwa [List.take_of_length_le Zlr] at this
theorem Zlo {k:Int} {ds:List Zaq} (h:∀ d∈ds,ZaB k d=true) (t:Nat):(Zd1 k (ds.take t)).length≤ds.length*65537:=
 ZqY 65537 (fun d hd=>by have:=Zka (h d hd);omega) t
theorem Zng (w:World) (N R M:Nat) (b:List UInt8) (rs:List (List UInt8×Nat)) (hW:IsWR N w R M b rs) (h:ZaU) (f:Zas) (hf:IsFact (inW N M w) w h f) (hff:Zdn f) (hb:b.length≤1000000) (hr:rs.length≤100000):
  Calls Tryz.prog 99 #[.pointer (some ⟨R,0,none⟩),.agg (Zaj h f)] w fun e w'=>e= .returned (.tuple #[])∧IsW N w' R M (Zd2 f rs b)∧OnlyM wrT N M w w':=by
 have hN:=hW.iw.lt
 have hal:Below w.heap.size w (w.alloc (.cells (Zaj h f) 37)):=Zbr.alloc Zlr _
 have hA:Blk (w.alloc (.cells (Zaj h f) 37)) w.heap.size (Zaj h f) 37:=Zha w _
 have hAM:w.heap.size≠M:=fun e=>by
  have h1:=(hW.on hal).m
  exact h1.ne hA e
 have hf0:=hf.stepM (OnlyM.below (M:=M) hal hN)
 have hn1:=Zbd false f.name rs b
 have hn2:=(ZaS hff.name).1
 have hn3:=Zbk f.name
 obtain⟨x,hx⟩:∃ x,x=nameW false f.name rs b:=⟨_,rfl⟩
 rw[←hx] at hn1
 have G0:Hid (IsWR N (w.alloc (.cells (Zaj h f) 37)) R M b rs∧IsFact (inW N M (w.alloc (.cells (Zaj h f) 37))) (w.alloc (.cells (Zaj h f) 37)) h f∧Blk (w.alloc (.cells (Zaj h f) 37)) w.heap.size (Zaj h f) 37∧w.heap.size≠M):=Zhd ⟨hW.on hal,hf0,hA,hAM⟩
 have HAL:=Zhd (Zan hal hN)
 have HX:=Zhd (show x=nameW false f.name rs b∧True from⟨hx,trivial⟩)
 have HB:=Zhd (Zan hb hr)
 have HL:=Zhd (show x.2.length≤2000000∧x.1.length≤200000 by omega)
 have HF:=Zhd hff
 have a0:(w.alloc (.cells (Zaj h f) 37)).cell? ⟨w.heap.size,0,none⟩=some (.slice h.na h.nl h.nc):=G0.out.2.2.1.cell 0
 clear hN hal hA hAM hf0 hn1 hn2 hn3 hx hW hf hff hb hr
 go_enter Tryz.func99,Tryz.ntmps99
 go_upto_region 7 with(first
   |(go_at_call 98;refine(Zbz W5 N R M ((((x.2++Za1 f.typ 2)++Za1 f.kind 1)++Za1 f.rank 1)++Za1 f.got 7) G5.out.1.iw f.ttl 4 (by omega) (by omega) HF.out.ttl (by have:=HL.out.1;(try simp only[Zla,Zap]);omega)).mono ?_;rintro e W6 ⟨rfl,hw6,ho6⟩;have hA6:=ho6.blk G5.out.2.2 (by decide);have c6:W6.cell? ⟨w.heap.size,2,none⟩=some (.int .i64 f.kind):=hA6.cell 2;have G6:=Zhd (Zan (G5.out.1.step hw6 ho6) (Zan (G5.out.2.1.trans (.of ho6)) hA6));clear hw6 ho6 hA6)
   |(go_at_call 98;refine(Zbz W4 N R M (((x.2++Za1 f.typ 2)++Za1 f.kind 1)++Za1 f.rank 1) G4.out.1.iw f.got 7 (by omega) (by omega) HF.out.got (by have:=HL.out.1;(try simp only[Zla,Zap]);omega)).mono ?_;rintro e W5 ⟨rfl,hw5,ho5⟩;have hA5:=ho5.blk G4.out.2.2 (by decide);have f5:W5.cell? ⟨w.heap.size,5,none⟩=some (.int .i64 f.ttl):=hA5.cell 5;have G5:=Zhd (Zan (G4.out.1.step hw5 ho5) (Zan (G4.out.2.1.trans (.of ho5)) hA5));clear hw5 ho5 hA5)
   |(go_at_call 98;refine(Zbz W3 N R M ((x.2++Za1 f.typ 2)++Za1 f.kind 1) G3.out.1.iw f.rank 1 (by omega) (by omega) HF.out.rank (by have:=HL.out.1;(try simp only[Zla,Zap]);omega)).mono ?_;rintro e W4 ⟨rfl,hw4,ho4⟩;have hA4:=ho4.blk G3.out.2.2 (by decide);have e4:W4.cell? ⟨w.heap.size,4,none⟩=some (.int .i64 f.got):=hA4.cell 4;have G4:=Zhd (Zan (G3.out.1.step hw4 ho4) (Zan (G3.out.2.1.trans (.of ho4)) hA4));clear hw4 ho4 hA4)
   |(go_at_call 98;refine(Zbz W2 N R M (x.2++Za1 f.typ 2) G2.out.1.iw f.kind 1 (by omega) (by omega) HF.out.kind (by have:=HL.out.1;(try simp only[Zla,Zap]);omega)).mono ?_;rintro e W3 ⟨rfl,hw3,ho3⟩;have hA3:=ho3.blk G2.out.2.2 (by decide);have d3:W3.cell? ⟨w.heap.size,3,none⟩=some (.int .i64 f.rank):=hA3.cell 3;have G3:=Zhd (Zan (G2.out.1.step hw3 ho3) (Zan (G2.out.2.1.trans (.of ho3)) hA3));clear hw3 ho3 hA3)
   |(go_at_call 98;refine(Zbz W1 N R M (x.2) G1.out.1.iw f.typ 2 (by omega) (by omega) HF.out.typ (by have:=HL.out.1;(try simp only[Zla,Zap]);omega)).mono ?_;rintro e W2 ⟨rfl,hw2,ho2⟩;have hA2:=ho2.blk G1.out.2.2 (by decide);have c2:W2.cell? ⟨w.heap.size,2,none⟩=some (.int .i64 f.kind):=hA2.cell 2;have G2:=Zhd (Zan (G1.out.1.step hw2 ho2) (Zan (G1.out.2.1.trans (.of ho2)) hA2));clear hw2 ho2 hA2)
   |(go_at_call 100;refine(Zcb _ N R M b rs G0.out.1 h.na h.nl h.nc f.name G0.out.2.1.name HF.out.name (Zd5 G0.out.2.1.nameIn) false (by have:=HB.out.1;omega) (by have:=HB.out.2;omega)).mono ?_;rintro e W1 ⟨rfl,hw1,ho1⟩;rw[←HX.out.1] at hw1;have hA1:=ho1.blk G0.out.2.2.1 (by decide) G0.out.2.2.2;have b1:W1.cell? ⟨w.heap.size,1,none⟩=some (.int .i64 f.typ):=hA1.cell 1;have G1:=Zhd (Zan hw1 (Zan ho1 hA1));clear hw1 ho1 hA1))
 obtain⟨y,hy⟩:∃ y,y=((((x.2++Za1 f.typ 2)++Za1 f.kind 1)++Za1 f.rank 1)++Za1 f.got 7)++Za1 f.ttl 4:=⟨_,rfl⟩
 have HY:=Zhd (Zan hy (show ZaV f rs b=(x.1,y) by rw[ZaV,←HX.out.1,hy]))
 have hyl:y.length≤2000020:=by rw[hy];have:=HL.out.1;simp only[Zla,Zap];omega
 have hW6:=G6.out.1
 rw[←hy] at hW6
 have HY6:=Zhd (Zan hW6 (Zan G6.out.2.1 G6.out.2.2))
 have hF6:=G0.out.2.1.stepM G6.out.2.1
 have HF6:=Zhd hF6
 clear hy hW6 hF6
 by_cases hk:f.kind=1
 ·have hkb:(f.kind==1)=true:=by simpa using hk
  obtain⟨hp1,hp2,hp3,hp4,hp5⟩:=HF.out.pos hk
  have HZ:=Zhd (show Zd2 f rs b=(y++Za1 (f.set.length:Int) 1)++Zd1 f.typ f.set by rw[Zd2,if_pos hk,HY.out.2])
  have hsl:f.set.length=h.sl:=HF6.out.set.hlen
  have g6:W6.cell? ⟨w.heap.size,6,none⟩=some (.slice h.sa h.sl h.sc):=HY6.out.2.2.cell 6
  have hsle:=HF6.out.set.hle
  have HS:=Zhd (Zan hp1 hsl)
  have hn64:h.sl≤64:=by omega
  clear hk hp1 hp2 hp3 hp4 hp5 hsl
  go_wp2_with (go_at_call 98;refine(Zbz W6 N R M y HY6.out.1.iw (h.sl:Int) 1 (by omega) (by omega) (by simp only[Za2,Zae2,Zde];omega) (by omega)).mono ?_;rintro e W7 ⟨rfl,hw7,ho7⟩;have hA7:=ho7.blk HY6.out.2.2 (by decide);have i6:W7.cell? ⟨w.heap.size,6,none⟩=some (.slice h.sa h.sl h.sc):=hA7.cell 6;have G7:=Zhd (Zan (HY6.out.1.step hw7 ho7) (Zan (HY6.out.2.1.trans (.of ho7)) hA7));clear hw7 ho7 hA7)
  obtain⟨n,hn⟩:∃ n,n=h.sl:=⟨_,rfl⟩
  have HG7:Hid (IsWR N W7 R M (y++Za1 (n:Int) 1) x.1∧OnlyM wrT N M (w.alloc (.cells (Zaj h f) 37)) W7∧Blk W7 w.heap.size (Zaj h f) 37):=by rw[hn];exact G7
  rw[←hn] at hn64 hsle i6⊢
  have HN:=Zhd hn
  obtain⟨sa,hsa0⟩:∃ sa,sa=h.sa:=⟨_,rfl⟩
  rw[←hsa0] at i6⊢
  have HSA:=Zhd hsa0
  clear hn G7 hsa0 g6
  go_loopw [49] (fun si wr=>∃ t:Nat,t≤n∧si= .int .i64 (t:Int)∧Hid (IsW N wr R M ((y++Za1 (n:Int) 1)++Zd1 f.typ (f.set.take t))∧OnlyM wrT N M W7 wr)) (fun si _=>(n-intOf si).toNat)
  case atStart=>exact⟨0,Nat.zero_le _,rfl,Zhd ⟨by have:=HG7.out.1.iw;simpa [Zd1] using this,OnlyM.refl _ _ _ _⟩⟩
  case round=>
   obtain⟨t,ht,rfl,hinv⟩:=hrel
   by_cases hlt:t<n
   ·have hts:t<f.set.length:=by rw[HS.out.2,←HN.out];exact hlt
    have hFt:=(HF6.out.stepM (OnlyM.of (Only.refl _ _ _)))
    have hso:OnlyM wrT N M (w.alloc (.cells (Zaj h f) 37)) wr:=HG7.out.2.1.trans hinv.out.2
    have hFr:=G0.out.2.1.stepM hso
    have hset:=hFr.set
    rw[←HN.out] at hset
    obtain⟨sb,off,hsa⟩:=hset.addr hlt
    rw[hsa] at hset
    obtain⟨k,hc,hd1,hd2⟩:=ZcL (hset.at hlt)
    have hx:=HS.out.1 f.set[t] (List.getElem_mem hts)
    have hsn:=Zg8 f.typ f.set hts
    have hlw:=Zlo HS.out.1 t
    obtain⟨dd,hdd⟩:∃ dd,dd=f.set[t]:=⟨_,rfl⟩
    rw[←hdd] at hd1 hx hsn
    have hAr:=hso.blk G0.out.2.2.1 (by decide) G0.out.2.2.2
    have j1:wr.cell? ⟨w.heap.size,1,none⟩=some (.int .i64 f.typ):=hAr.cell 1
    have hse:sa=some ⟨sb,off,none⟩:=HSA.out.trans hsa
    subst hse
    have HDS:=Zhd (Zan hsn (Zan hx (Zan hd1 (Zan hAr (show((y++Za1 (n:Int) 1)++Zd1 f.typ (f.set.take t)).length≤50000000 by have:=HS.out.2;have:=HN.out;simp only[Zla,Zap];omega)))))
    have e0:=hc 0 (by omega)
    have e1:=hc 1 (by omega)
    have e2:=hc 2 (by omega)
    have e3:=hc 3 (by omega)
    have e4:=hc 4 (by omega)
    have hal:Below wr.heap.size wr (wr.alloc (.cells (Zae k) 35)):=Zbr.alloc Zlr _
    have j1':=Zab hal j1
    have HAL2:=Zhd (Zan hal (hd1.on hal))
    clear hset hFr hso hc hd1 hd2 hx hsn hlw hdd hAr hsa hFt hal hts
    obtain⟨ba,bl,bc,ha,hl,hcc,ma,ml,mc,xa,xl,xc,ta,tl,tc⟩:=k
    simp only[Zae] at HAL2 j1'
    simp[Zae,Zb0] at e0 e1 e2 e3 e4
    go_wp2_with (go_at_call 146;refine(ZiV _ N R M _ (hinv.out.1.on HAL2.out.1) f.typ ⟨ba,bl,bc,ha,hl,hcc,ma,ml,mc,xa,xl,xc,ta,tl,tc⟩ dd HAL2.out.2 HDS.out.2.1 HDS.out.2.2.2.2).mono ?_;rintro e W8 ⟨rfl,hw8,ho8⟩;have G8:=Zhd (Zan hw8 ho8);clear hw8 ho8)
    go_roundw
    case rel=>
     have hNr:N≤wr.heap.size:=hinv.out.1.lt
     refine⟨t+1,hlt,by simp,Zhd ⟨?_,(hinv.out.2.trans (OnlyM.below HAL2.out.1 hNr)).trans (.of G8.out.2)⟩⟩
     rw[HDS.out.1]
     have:=G8.out.1
     simpa [List.append_assoc] using this
    case measure=>simp[intOf];omega
   ·obtain rfl:t=n:=by omega
    have HZ2:=Zhd (show Zd2 f rs b=(y++Za1 (t:Int) 1)++Zd1 f.typ (f.set.take t) by rw[HZ.out,HS.out.2,←HN.out,List.take_of_length_le (by rw[HS.out.2,←HN.out];exact Nat.le_refl _)])
    go_wp2_with fail
    go_end0
    rw[HZ2.out]
    exact⟨rfl,hinv.out.1,(OnlyM.below HAL.out.1 HAL.out.2).trans (HG7.out.2.1.trans hinv.out.2)⟩
 ·have hkb:(f.kind==1)=false:=by simpa using hk
  obtain⟨hp1,hp2,hp3⟩:=HF.out.neg hk
  have HZ:=Zhd (show Zd2 f rs b=((nameW false f.zone x.1 y).2++Za1 ((cdW 6 f.soa).length:Int) 2)++cdW 6 f.soa by rw[Zd2,if_neg hk,HY.out.2])
  have hz1:=Zbd false f.zone x.1 y
  have hz2:=(ZaS hp1).1
  have hz3:=Zbk f.zone
  have g7:W6.cell? ⟨w.heap.size,7,none⟩=some (.slice h.za h.zl h.zc):=HY6.out.2.2.cell 7
  have HP:=Zhd (Zan hp1 (Zan hp2 (show(nameW false f.zone x.1 y).2.length≤3000000 by omega)))
  clear hk hp1 hp2 hp3 hz1 hz2 hz3
  go_wp2_with (first
   |(go_at_call 146;refine(ZiV W7 N R M _ G7.out.1.iw 6 h.d f.soa (G7.out.2.2.2.soa) HP.out.2.1 (by have:=HP.out.2.2;omega)).mono ?_;rintro e W8 ⟨rfl,hw8,ho8⟩;have G8:=Zhd (Zan hw8 (G7.out.2.1.trans (.of ho8)));clear hw8 ho8)
   |(go_at_call 100;refine(Zcb W6 N R M y x.1 HY6.out.1 h.za h.zl h.zc f.zone HF6.out.zone HP.out.1 (Zd5 HF6.out.zoneIn) false (by omega) (by have:=HL.out.2;omega)).mono ?_;rintro e W7 ⟨rfl,hw7,ho7⟩;have hA7:=ho7.blk HY6.out.2.2 (by decide) G0.out.2.2.2;have z8:W7.cell? ⟨w.heap.size,8,none⟩=some (.slice h.d.ba h.d.bl h.d.bc):=hA7.cell 8;have z9:W7.cell? ⟨w.heap.size,9,none⟩=some (.slice h.d.ha h.d.hl h.d.hc):=hA7.cell 9;have za:W7.cell? ⟨w.heap.size,10,none⟩=some (.slice h.d.ma h.d.ml h.d.mc):=hA7.cell 10;have zb:W7.cell? ⟨w.heap.size,11,none⟩=some (.slice h.d.na h.d.nl h.d.nc):=hA7.cell 11;have zc:W7.cell? ⟨w.heap.size,12,none⟩=some (.slice h.d.ta h.d.tl h.d.tc):=hA7.cell 12;have G7:=Zhd (Zan hw7 (Zan (HY6.out.2.1.trans ho7) (Zan hA7 (HF6.out.stepM ho7))));clear hw7 ho7 hA7))
  refine bodyPost_ret (v:= .tuple #[]) (results_none rfl _ _ _) rfl ?_
  rw[HZ.out]
  exact⟨rfl,G8.out.1,(OnlyM.below HAL.out.1 HAL.out.2).trans G8.out.2⟩
theorem Zfe (k:Int):∀ (ds seen:List Zaq),Zbc k seen ds=true→∀ d∈ds,ZaB k d=true
 |[],_,_,d,hd=>by cases hd
 |x::ds,seen,h,d,hd=>by
  simp only[Zbc,Zae2] at h
  rcases List.mem_cons.1 hd with rfl|hd
  ·exact h.1
  ·exact Zfe k ds _ h.2.2 d hd
theorem ZeU {n:Int} {k:Nat} (h0:0≤n) (h1:n<256^k):Za2 n k=true:=by
 simp only[Za2,Zae2,Zde]
 omega
theorem Zdw {f:Zas} (h:Zbl f=true):Zdn f:=by
 simp only[Zbl,Zie,Zae2,Zde] at h
 obtain⟨⟨hn,hr1,hr2,hg,ht1,ht2⟩,hk⟩:=h
 have hg2:=Zca hg
 have e1:(256:Int)^1=256:=by decide
 have e2:(256:Int)^2=65536:=by decide
 have e4:(256:Int)^4=4294967296:=by decide
 have e7:(256:Int)^7=72057594037927936:=by decide
 have hrank:Za2 f.rank 1=true:=ZeU (by omega) (by omega)
 have hgot:Za2 f.got 7=true:=ZeU (by omega) (by omega)
 have httl:Za2 f.ttl 4=true:=ZeU (by omega) (by omega)
 by_cases h1:f.kind=1
 ·rw[if_pos h1] at hk
  simp only[ZqL,Zae2,Zde] at hk
  obtain⟨htp,hs1,hs2,hd,hz,-⟩:=hk
  have htp:=Zf2.1 htp
  refine⟨hn,ZeU (by omega) (by omega),ZeU (by omega) (by omega),hrank,hgot,httl,fun _=>⟨Zfe _ _ _ hd,hs2,hs1,List.length_eq_zero_iff.1 hz,htp.1⟩,fun h=>absurd h1 h⟩
 ·rw[if_neg h1] at hk
  simp only[ZrS,Zae2,Bool.or_eq_true,Zde] at hk
  obtain⟨⟨-,hs,hz,-,hd⟩,hk⟩:=hk
  have hty:0≤f.typ∧f.typ≤65534∧0≤f.kind∧f.kind≤3:=by
   rcases hk with⟨h2,h3⟩|⟨h2,h3⟩
   ·have:=Zf2.1 h3;omega
   ·omega
  exact⟨hn,ZeU (by omega) (by omega),ZeU (by omega) (by omega),hrank,hgot,httl,fun h=>absurd h h1,fun _=>⟨hz,hd,List.length_eq_zero_iff.1 hs⟩⟩
def ZcY (f:Zas):List UInt8:=Zd2 f [] ([]++Za1 1 1)
theorem ZdX {f:Zas} (h:Zdn f):(ZcY f).length≤6000000∧1≤(ZcY f).length:=by
 have hn1:=Zbd false f.name [] ([]++Za1 1 1)
 have hn2:=(ZaS h.name).1
 have e1:([]++Za1 1 1:List UInt8).length=1:=by simp[Zap]
 rw[e1] at hn1
 have hH:(ZaV f [] ([]++Za1 1 1)).2.length≤1000∧1≤(ZaV f [] ([]++Za1 1 1)).2.length:=by
  simp only[ZaV,Zla,Zap]
  omega
 unfold ZcY Zd2
 by_cases h1:f.kind=1
 ·rw[if_pos h1]
  obtain⟨hp1,hp2,-⟩:=h.pos h1
  have hs:=Zlo hp1 f.set.length
  rw[List.take_length] at hs
  have:f.set.length*65537≤64*65537:=Nat.mul_le_mul_right _ hp2
  simp only[Zla,Zap]
  omega
 ·rw[if_neg h1]
  obtain⟨hp1,hp2,-⟩:=h.neg h1
  have hz1:=Zbd false f.zone (ZaV f [] ([]++Za1 1 1)).1 (ZaV f [] ([]++Za1 1 1)).2
  have hz2:=(ZaS hp1).1
  have hc:=Zka hp2
  simp only[Zla,Zap]
  omega
theorem Zn2 (w:World) (h:ZaU) (f:Zas) (hf:IsFact (fun b=>b<w.heap.size) w h f) (hff:Zdn f):
  Calls Tryz.prog 55 #[.agg (ZbK h f)] w fun e w'=>(∃ ao c,e= .returned (.slice ao (ZcY f).length c)∧Own1 [5] w.heap.size w' ao (ZcY f).length c ((ZcY f).map u8V))∧Below w.heap.size w w':=by
 have hal:Below w.heap.size w (w.alloc (.cells (ZbK h f) 66)):=Zbr.alloc Zlr _
 have hA:Blk (w.alloc (.cells (ZbK h f) 66)) w.heap.size (ZbK h f) 66:=Zha w _
 have HNW:=Zhd (Zhp (w.alloc (.cells (ZbK h f) 66)))
 have hfa:=(hf.on hal).mono (S':=fun b=>b<(w.alloc (.cells (ZbK h f) 66)).heap.size) (fun b _ hb=>Nat.lt_of_lt_of_le hb hal.size)
 obtain⟨N,hN⟩:∃ N,N=(w.alloc (.cells (ZbK h f) 66)).heap.size:=⟨_,rfl⟩
 rw[←hN] at HNW hfa
 have hl:=ZdX hff
 have HA:=Zhd (Zan hal (Zan hA (Zan hff (Zan hN (Zan hfa hl)))))
 clear hal hA hff hN hf hfa hl
 simp only[ZbK] at HA HNW⊢
 go_enter Tryz.func55,Tryz.ntmps55
 go_wp2_with (first
  |(go_at_call 101;refine(Zf3 W3 N R M (ZcY f) G3.out.1 (by have:=HA.out.2.2.2.2.2.1;omega)).mono ?_;rintro e W4 ⟨⟨ao,c,rfl,ho⟩,hb4⟩;have G4:=Zhd (Zan ho hb4);clear ho hb4)
  |(go_at_call 99;refine(Zng W2 N R M ([]++Za1 1 1) [] G2.out.1 h f G2.out.2.2.2 HA.out.2.2.1 (by simp[Zap]) (by simp)).mono ?_;rintro e W3 ⟨rfl,hw3,ho3⟩;have G3:=Zhd (show IsW N W3 R M (ZcY f)∧Below N _ W3 from⟨hw3,G2.out.2.2.1.trans ho3.bel⟩);clear hw3 ho3)
  |(go_at_call 98;refine(Zbz W1 N R M [] G1.out.1.iw 1 1 (by omega) (by omega) (by decide) (by simp)).mono ?_;rintro e W2 ⟨rfl,hw2,ho2⟩;have hb:=ho2.blk G1.out.2.1 (by decide);have y0:=hb.cell 0;have y2:=hb.cell 2;have y3:=hb.cell 3;have y4:=hb.cell 4;have y5:=hb.cell 5;have y6:=hb.cell 6;have y7:=hb.cell 7;have y8:=hb.cell 8;have y9:=hb.cell 9;have y10:=hb.cell 10;have y11:=hb.cell 11;have y12:=hb.cell 12;have y13:=hb.cell 13;have y14:=hb.cell 14;simp at y0 y2 y3 y4 y5 y6 y7 y8 y9 y10 y11 y12 y13 y14;have hb2:=G1.out.2.2.1.trans ho2.bel;have hf2:=G1.out.2.2.2.stepM (.of ho2);have G2:=Zhd (Zan (G1.out.1.step hw2 ho2) (Zan hb (Zan hb2 hf2)));clear hw2 ho2 hb hb2 hf2)
  |(go_at_call 97;refine HNW.out.mono ?_;rintro e W1 ⟨⟨R,M,rfl,hw1,hm1,hM⟩,hb1⟩;have hM1:=HA.out.2.1.on (HA.out.2.2.2.1▸hb1);have c0:W1.cell? ⟨w.heap.size,0,none⟩=some (.int .i64 1):=hM1.cell 0;have hwr:IsWR N W1 R M [] []:=⟨hw1,MapI.fresh hm1,hM,(by intro x hx;cases hx),(by simp)⟩;have hf1:=(HA.out.2.2.2.2.1.on (HA.out.2.2.2.1▸hb1)).mono (S':=inW N M W1) (fun b _ hb=> .inl hb);have G1:=Zhd (Zan hwr (Zan hM1 (Zan hb1 hf1)));clear hw1 hm1 hM hM1 hb1 hwr hf1))
 go_ret
 have hb3:Below w.heap.size w W3:=Zaa HA.out.1 (HA.out.2.2.2.1▸G3.out.2) Zlr
 exact⟨⟨ao,c,rfl,G4.out.1.mono hb3.size⟩,Zaa hb3 G4.out.2 Zlr⟩
def Zh6 (f:Zas):Int:=if Zbl f=true then(if (ZcY f).length≤16384 then 0 else 4) else 2
theorem Zef {f:Zas} (h:Zh6 f=0):Zbl f=true∧(ZcY f).length≤16384:=by
 unfold Zh6 at h
 by_cases h1:Zbl f=true
 ·by_cases h2:(ZcY f).length≤16384
  ·exact⟨h1,h2⟩
  ·simp[h1,h2] at h
 ·simp[h1] at h
theorem ZhM (w:World) (h:ZaU) (f:Zas) (hf:IsFact (fun b=>b<w.heap.size) w h f):
  Calls Tryz.prog 25 #[.agg (ZbK h f)] w fun e w'=>(∃ v,e= .returned (.tuple #[v,.int .i64 (Zh6 f)])∧(Zh6 f=0→∃ ao c,v= .slice ao (ZcY f).length c∧Own1 [5] w.heap.size w' ao (ZcY f).length c ((ZcY f).map u8V)))∧Below w.heap.size w w':=by
 have hb1:Below w.heap.size w (w.alloc (.cells (ZbK h f) 66)):=Zbr.alloc Zlr _
 have a1:Blk (w.alloc (.cells (ZbK h f) 66)) w.heap.size (ZbK h f) 66:=Zha w _
 have hfa:=hf.on hb1
 have HS:=Zhd (ZhJ _ _ h f hfa)
 have H1:=Zhd (Zan a1 (Zan hb1 hf))
 clear a1 hb1 hfa hf
 cases hs:Zbl f with
 |false=>
  rw[hs] at HS
  have HE:=Zhd (show Zh6 f=2 by rw[Zh6,if_neg (by rw[hs];decide)])
  clear hs
  go_enter Tryz.func25,Tryz.ntmps25
  go_wp2_with (first
   |(refine wpList_load_row rfl 66 _ rfl w.heap.size rfl 66 (ZbK h f) (0,0) _ H1.out.1 Tryz.underlying66 rfl Za5 ?_)
   |(go_at_call 53;refine HS.out.mono ?_;rintro e W2 ⟨rfl,hb⟩;have H2:=Zhd (Zaa H1.out.2.1 hb Zlr);clear hb))
  go_ret2
  rw[HE.out]
  exact⟨⟨_,rfl,fun h=>absurd h (by decide)⟩,H2.out⟩
 |true=>
  rw[hs] at HS
  have hff:=Zdw hs
  have hl:=ZdX hff
  have HR:=Zhd (fun W (hb:Below w.heap.size w W)=>Zn2 W h f ((H1.out.2.2.on hb).mono (fun b _ hb2=>Nat.lt_of_lt_of_le hb2 hb.size)) hff)
  by_cases hn:(ZcY f).length≤16384
  ·have HE:=Zhd (show Zh6 f=0 by rw[Zh6,if_pos hs,if_pos hn])
   obtain⟨n,hnn⟩:∃ n,n=(ZcY f).length:=⟨_,rfl⟩
   rw[←hnn] at HR hn⊢
   have hlt:decide ((16384:Int)<(n:Int))=false:=Zdf (by omega)
   clear hs hff hl hnn
   go_enter Tryz.func25,Tryz.ntmps25
   go_wp2_with (first
    |(refine wpList_load_row rfl 66 _ rfl w.heap.size rfl 66 (ZbK h f) (0,0) _ H2.out.1 Tryz.underlying66 rfl Za5 ?_)
    |(refine wpList_load_row rfl 66 _ rfl w.heap.size rfl 66 (ZbK h f) (0,0) _ H1.out.1 Tryz.underlying66 rfl Za5 ?_)
    |(go_at_call 55;refine(HR.out W2 H2.out.2).mono ?_;rintro e W3 ⟨⟨ao,c,rfl,ho⟩,hb⟩;have H3:=Zhd (Zan ho (Zaa H2.out.2 hb Zlr));clear ho hb)
    |(go_at_call 53;refine HS.out.mono ?_;rintro e W2 ⟨rfl,hb⟩;have H2:=Zhd (Zan (H1.out.1.on hb) (Zaa H1.out.2.1 hb Zlr));clear hb))
   go_ret2
   rw[HE.out]
   exact⟨⟨_,rfl,fun _=>⟨ao,c,rfl,H3.out.1.mono H2.out.2.size⟩⟩,H3.out.2⟩
  ·have HE:=Zhd (show Zh6 f=4 by rw[Zh6,if_pos hs,if_neg hn])
   obtain⟨n,hnn⟩:∃ n,n=(ZcY f).length:=⟨_,rfl⟩
   rw[←hnn] at HR hn hl⊢
   have hlt:decide ((16384:Int)<(n:Int))=true:=Zdt (by omega)
   clear hs hff hl hnn
   go_enter Tryz.func25,Tryz.ntmps25
   go_wp2_with (first
    |(refine wpList_load_row rfl 66 _ rfl w.heap.size rfl 66 (ZbK h f) (0,0) _ H2.out.1 Tryz.underlying66 rfl Za5 ?_)
    |(refine wpList_load_row rfl 66 _ rfl w.heap.size rfl 66 (ZbK h f) (0,0) _ H1.out.1 Tryz.underlying66 rfl Za5 ?_)
    |(go_at_call 55;refine(HR.out W2 H2.out.2).mono ?_;rintro e W3 ⟨⟨ao,c,rfl,ho⟩,hb⟩;have H3:=Zhd (Zan ho (Zaa H2.out.2 hb Zlr));clear ho hb)
    |(go_at_call 53;refine HS.out.mono ?_;rintro e W2 ⟨rfl,hb⟩;have H2:=Zhd (Zan (H1.out.1.on hb) (Zaa H1.out.2.1 hb Zlr));clear hb))
   go_ret2
   rw[HE.out]
   exact⟨⟨_,rfl,fun h=>absurd h (by decide)⟩,H3.out.2⟩
theorem Zmd (w:World) (h:ZaU) (f:Zas) (hf:IsFact (fun b=>b<w.heap.size) w h f) (he:Zh6 f=0):
  Calls Tryz.prog 62 #[.agg (ZbK h f)] w fun e w'=>(∃ ao c,e= .returned (.tuple #[.slice ao (ZcY f).length c,.int .i64 (ZaI (ZcY f).length:Int),.int .i64 0])∧Own1 [5] w.heap.size w' ao (ZcY f).length c ((ZcY f).map u8V))∧Below w.heap.size w w':=by
 have hb1:Below w.heap.size w (w.alloc (.cells (ZbK h f) 66)):=Zbr.alloc Zlr _
 have a1:Blk (w.alloc (.cells (ZbK h f) 66)) w.heap.size (ZbK h f) 66:=Zha w _
 have hfa:=(hf.on hb1).mono (S':=fun b=>b<(w.alloc (.cells (ZbK h f) 66)).heap.size) (fun b hb _=>hb)
 have hs:=ZhM _ h f hfa
 rw[he] at hs
 have hb16:=(Zef he).2
 have hge:=(ZdX (Zdw (Zef he).1)).2
 obtain⟨n,hn⟩:∃ n,n=(ZcY f).length:=⟨_,rfl⟩
 rw[←hn] at hs hb16 hge⊢
 have HS:=Zhd hs
 have H1:=Zhd (Zan a1 hb1)
 have HP:=Zhd (show max (((n:Int)+496-1)/496) 1=(ZaI n:Int) by rw[ZaI];omega)
 clear hs a1 hb1 hn hf he hfa
 go_enter Tryz.func62,Tryz.ntmps62
 go_wp2_with (first
  |(refine wpList_load_row rfl 66 _ rfl w.heap.size rfl 66 (ZbK h f) (0,0) _ H1.out.1 Tryz.underlying66 rfl Za5 ?_)
  |(go_at_call 25;refine HS.out.mono ?_;rintro e W3 ⟨⟨v,rfl,hv⟩,hb⟩;obtain⟨ao,c,rfl,ho⟩:=hv rfl;have H3:=Zhd (Zan (ho.mono H1.out.2.size) (Zaa H1.out.2 hb Zlr));clear ho hb hv))
 go_ret3
 exact⟨⟨ao,c,by rw[HP.out];rfl,H3.out.1⟩,H3.out.2⟩
def eT:List TypeId:=66::37::fT
def RecIs (w:World) (ev:Array Value) (bs:List UInt8):Prop:=∀ W,w.heap.size≤W.heap.size→Same (Zak eT w) w W→Calls Tryz.prog 62 #[.agg ev] W fun e w'=>(∃ ao c,e= .returned (.tuple #[.slice ao bs.length c,.int .i64 (ZaI bs.length:Int),.int .i64 0])∧Own1 [5] W.heap.size w' ao bs.length c (bs.map u8V))∧Below W.heap.size W w'
theorem RecIs.step {w w1:World} {ev:Array Value} {bs:List UInt8} (h:RecIs w ev bs) (hz:w.heap.size≤w1.heap.size) (hs:Same (Zak eT w) w w1):RecIs w1 ev bs:=fun W hz2 h2=>h W (Nat.le_trans hz hz2) (hs.step h2)
theorem RecIs.on {w w1:World} {ev:Array Value} {bs:List UInt8} (h:RecIs w ev bs) (hb:Below w.heap.size w w1):RecIs w1 ev bs:=h.step hb.size (Same.below hb _)
theorem Zjy (w:World) (t:Int) (ht:Za6 t=true) (htf:Za2 t 7=true):RecIs w (Zar 3 t (.slice none 0 0)) (Zbq t):=fun W _ _=>by
 have h:=Zjz W t ht htf
 rw[ZbN]
 exact h
theorem Zn7 (w:World) (h:ZaU) (f:Zas) (hf:IsFact (Zak eT w) w h f) (he:Zh6 f=0):RecIs w (ZbK h f) (ZcY f):=fun W _ hs=>
 Zmd W h f ((Zht.step (x:=f) hf hs).mono (fun _ hb _=>hb)) he
theorem ZqC {w:World} {h:ZaU} {f:Zas} (hf:IsFact (Zak fT w) w h f):IsFact (Zak eT w) w h f:=hf.mono (fun _ _ ht=>Za4 ht (by decide))
theorem Ze0 (w:World) (B K C L D:Nat) (pl no te:Int) (me dn:Bool) (l:ZaZ) (d:Zaz) (hK:Blk w K (ZaQ C L pl no te me dn) 62) (hB:B≤K) (hl:IsLog B w L D l) (hd:IsDev B w D d) (hc:Zd8 d l) (ev:Array Value) (bs:List UInt8) (hev:ev.size=16) (hr:RecIs w ev bs) (hb0:1≤bs.length) (hb1:bs.length≤16384):
  Calls Tryz.prog 65 #[.pointer (some ⟨K,0,none⟩),.agg ev] w fun e w'=>e= .returned (.int .i64 (Zf5 d l bs).2.2.2)∧Blk w' K (ZaQ C L pl no te me (dn||((Zf5 d l bs).2.2.2==8))) 62∧IsLog B w' L D (Zf5 d l bs).2.1∧IsDev B w' D (Zf5 d l bs).1∧Only kT B w w':=by
 have hb1':Below w.heap.size w (w.alloc (.cells ev 66)):=Zbr.alloc Zlr _
 have a1:Blk (w.alloc (.cells ev 66)) w.heap.size ev 66:=Zha w _
 have hs:=(hr.on hb1') _ Zlr (Same.refl _ _)
 have hsz:(Tryz.prog.info? 66).map (·.size)=some ev.size:=by rw[hev];exact Za5
 obtain⟨n,hn⟩:∃ n,n=bs.length:=⟨_,rfl⟩
 rw[←hn] at hs
 have HS:=Zhd hs
 have H1:=Zhd (Zan a1 (Zan hb1' (Zan hK (Zan hl (Zan hd (Zan hc hB))))))
 have HSZ:=Zhd hsz
 obtain⟨x,hx⟩:∃ x,x=Zf5 d l bs:=⟨_,rfl⟩
 rw[←hx]
 have HX:=Zhd hx
 have HN:=Zhd (Zan hn (Zan (show 1≤n by omega) (show n≤1000000 by omega)))
 clear hs hr hev hsz a1 hb1' hK hl hd hc hB hx hn hb0 hb1
 go_enter Tryz.func65,Tryz.ntmps65
 go_wp2_with (first
  |(go_at_call 29;refine(Zfj W3 K C L pl no te me dn H3.out.2.2.1 _).mono ?_;rintro e W4 ⟨rfl,hk4,hg4⟩;have H4:=Zhd (Zan hk4 hg4);clear hk4 hg4)
  |(go_at_call 117;have hap:=Zpe W2 B L D l d (H1.out.2.2.2.1.on H2.out.2) (H1.out.2.2.2.2.1.on H2.out.2) H1.out.2.2.2.2.2.1.len ao n c bs H2.out.1.row (fun h a ha=>(H2.out.1.mem h a ha).1) HN.out.2.1 HN.out.2.2 H1.out.2.2.2.2.2.1.fin H1.out.2.2.2.2.2.1.ep H1.out.2.2.2.2.2.1.nx H1.out.2.2.2.2.2.1.cnt H1.out.2.2.2.2.2.1.un;rw[←HX.out] at hap;refine hap.mono ?_;rintro e W3 ⟨rfl,hl3,hd3,ho3⟩;have H3:=Zhd (Zan hl3 (Zan hd3 (Zan (ho3.blk (Blk.on H1.out.2.2.1 H2.out.2) (by decide)) ho3)));clear hap hl3 hd3 ho3)
  |(refine wpList_load_row rfl 66 _ rfl w.heap.size rfl 66 ev (0,0) _ H1.out.1 Tryz.underlying66 rfl HSZ.out ?_)
  |(go_at_call 62;refine HS.out.mono ?_;rintro e W2 ⟨⟨ao,c,rfl,ho⟩,hb⟩;have hbw:=Zaa H1.out.2.1 hb Zlr;have c1:W2.cell? ⟨K,1,none⟩=some (.pointer (some ⟨L,0,none⟩)):=(Blk.on H1.out.2.2.1 hbw).cell 1;have H2:=Zhd (Zan ho hbw);clear ho hb hbw))
 go_ret
 obtain⟨hl3,hd3,hk3,ho3⟩:=H3.out
 have h4:Only [62] B W3 W4:=Only.but H4.out.2 hk3 List.mem_cons_self H1.out.2.2.2.2.2.2
 refine⟨rfl,H4.out.1,hl3.only h4 (by decide) (by decide),ZdF hd3 h4 (by decide) (by decide) (by decide) (by decide),?_⟩
 exact(Only.below H2.out.2 H1.out.2.2.2.2.1.Ble).trans ((ho3.mono (by decide)).trans (h4.mono (by decide)))
theorem ZgQ (w:World) (B K C L D:Nat) (pl no te:Int) (hK:Blk w K (ZaQ C L pl no te false false) 62) (hB:B≤K) (l:ZaZ) (d:Zaz) (hl:IsLog B w L D l) (hd:IsDev B w D d) (hc:Zd8 d l) (ev:Array Value) (bs:List UInt8) (hev:ev.size=16) (hr:RecIs w ev bs) (hb0:1≤bs.length) (hb1:bs.length≤16384)
  (hpl:0≤pl∧pl≤100000) (hrm:decide (IntKind.i64.wrap (ZbU d l-(ZaI bs.length:Int))<IntKind.i64.wrap (pl.tdiv 3))=false) (d1:Zaz) (l1:ZaZ) (s1:Int) (hap:Zf5 d l bs=(d1,l1,s1,0)):
  Calls Tryz.prog 28 #[.pointer (some ⟨K,0,none⟩),.agg ev] w fun e w'=>e= .returned (.int .i64 0)∧Blk w' K (ZaQ C L pl no te false false) 62∧IsLog B w' L D l1∧IsDev B w' D d1∧Only kT B w w':=by
 have hb1':Below w.heap.size w (w.alloc (.cells ev 66)):=Zbr.alloc Zlr _
 have a1:Blk (w.alloc (.cells ev 66)) w.heap.size ev 66:=Zha w _
 have k1:=hK.on hb1'
 have y5:(w.alloc (.cells ev 66)).cell? ⟨K,5,none⟩=some (.bool false):=k1.cell 5
 have y6:(w.alloc (.cells ev 66)).cell? ⟨K,6,none⟩=some (.bool false):=k1.cell 6
 have hs:=(hr.on hb1') _ Zlr (Same.refl _ _)
 have hsz:(Tryz.prog.info? 66).map (·.size)=some ev.size:=by rw[hev];exact Za5
 obtain⟨n,hn⟩:∃ n,n=bs.length:=⟨_,rfl⟩
 rw[←hn] at hs hrm
 obtain⟨p,hp⟩:∃ p:Int,p=(ZaI n:Int):=⟨_,rfl⟩
 rw[←hp] at hs hrm
 have HS:=Zhd hs
 have H1:=Zhd (Zan a1 (Zan hb1' (Zan hK (Zan hB (Zan hl (Zan hd (Zan hc hap)))))))
 have HRM:=Zhd (Zan hrm hpl)
 have HR:=Zhd (Zan hr (Zan hev (Zan hb0 hb1)))
 have HSZ:=Zhd hsz
 clear hs hb1' a1 k1 hK hB hl hd hc hap hrm hpl hr hev hb0 hb1 hsz hn hp
 go_enter Tryz.func28,Tryz.ntmps28
 go_upto_region 8 with(first
  |(refine wpList_load_row rfl 66 _ rfl w.heap.size rfl 66 ev (0,0) _ H1.out.1 Tryz.underlying66 rfl HSZ.out ?_)
  |(go_at_call 62;refine HS.out.mono ?_;rintro e W2 ⟨⟨ao,c,rfl,-⟩,hb⟩;have hbw:=Zaa H1.out.2.1 hb Zlr;have H2:=Zhd (Zan hbw (H1.out.1.on hb));clear hb hbw))
 have hbd:=Below.drew (Below.refl W2.heap.size W2)
 have hbw:=Zaa H2.out.1 hbd Zlr
 have k2:=Blk.on H1.out.2.2.1 hbw
 have D0:=Zhd (show W2.drew.cell? ⟨K,1,none⟩=some (.pointer (some ⟨L,0,none⟩))∧W2.drew.cell? ⟨K,2,none⟩=some (.int .i64 pl) from⟨k2.cell 1,k2.cell 2⟩)
 have HRO:=Zhd (Zek W2.drew B L D l d (H1.out.2.2.2.2.1.on hbw) (H1.out.2.2.2.2.2.1.on hbw) (by have:=H1.out.2.2.2.2.2.2.1.len;omega) (by have:=H1.out.2.2.2.2.2.2.1.fin;omega))
 have HK2:=Zhd (Zan hbd k2)
 clear hbd hbw k2
 go_cut [40] (fun c wx=>c= .bool false∧Hid (Below W2.heap.size W2 wx))
 case first=>
  go_region_held3 (fun w'=>w'.cell? ⟨K,1,none⟩=some (.pointer (some ⟨L,0,none⟩))∧w'.cell? ⟨K,2,none⟩=some (.int .i64 pl))
   (first|exact D0.out|exact D3.out|go_keep)
   (first|(go_at_call 63;refine HRO.out.mono ?_;rintro e W3 ⟨rfl,hb3⟩;have k3:=Blk.on HK2.out.2 hb3;have D3:=Zhd (show W3.cell? ⟨K,1,none⟩=some (.pointer (some ⟨L,0,none⟩))∧W3.cell? ⟨K,2,none⟩=some (.int .i64 pl) from⟨k3.cell 1,k3.cell 2⟩);have H3:=Zhd (Zaa HK2.out.1 hb3 Zlr);clear hb3 k3))
  all_goals
   go_split_ands
   go_wp2_with fail
   go_meet
   exact⟨by rw[HRM.out.1],Zhd H3.out⟩
 case rest=>
  obtain⟨rfl,hcw⟩:=hcut
  have hbw:=Zaa H2.out.1 hcw.out Zlr
  have H4:=Zhd (Zan hbw (H2.out.2.on hcw.out))
  clear hcw hbw y5 y6
  go_wp2_with (first
   |(go_at_call 65;have hka:=Ze0 wc B K C L D pl no te false false l d (Blk.on H1.out.2.2.1 H4.out.1) H1.out.2.2.2.1 (H1.out.2.2.2.2.1.on H4.out.1) (H1.out.2.2.2.2.2.1.on H4.out.1) H1.out.2.2.2.2.2.2.1 ev bs HR.out.2.1 (HR.out.1.on H4.out.1) HR.out.2.2.1 HR.out.2.2.2;rw[H1.out.2.2.2.2.2.2.2] at hka;refine hka.mono ?_;rintro e W5 ⟨rfl,hk5,hl5,hd5,ho5⟩;have hk5':Blk W5 K (ZaQ C L pl no te false false) 62:=hk5;have z5:W5.cell? ⟨K,5,none⟩=some (.bool false):=hk5'.cell 5;have u5:=hk5'.free 5;have H5:=Zhd (Zan hk5' (Zan hl5 (Zan hd5 ((Only.below H4.out.1 H1.out.2.2.2.2.2.1.Ble).trans ho5))));clear hka hk5 hk5' hl5 hd5 ho5)
   |(refine wpList_load_row rfl 66 _ rfl w.heap.size rfl 66 ev (0,0) _ H4.out.2 Tryz.underlying66 rfl HSZ.out ?_))
  go_ret
  have hs:=H5.out.1.set 5 (.bool false)
  have hon:Only [62] B W5 (W5.setCell ⟨K,5,none⟩ (.bool false)):=Only.but (Zag W5 K 5 (.bool false)) H5.out.1 List.mem_cons_self H1.out.2.2.2.1
  exact⟨rfl,by simpa [ZaQ] using hs,H5.out.2.1.only hon (by decide) (by decide),ZdF H5.out.2.2.1 hon (by decide) (by decide) (by decide) (by decide),H5.out.2.2.2.trans (hon.mono (by decide))⟩
def ZfB (most:Int) (L:List ZaP):List ZaP:=if (L.length:Int)≤most then L else L.tail
theorem ZcO {H:Type} {P:Program} {k:TypeId} {R:Value→Option (DataW H×List MemPlace)} {w w':World} {b r n:Nat} {D:DataW H} {left:Lit→Bool} {cnt:Nat} (h:w.ranges P k R b r n D left cnt) (hb:w'.heap[b]?=w.heap[b]?) (hr:w'.heap[r]?=w.heap[r]?):w'.ranges P k R b r n D left cnt:=by
 obtain⟨es,clock,since,seen,c0,h1,h2,h3,h4,h5,h6⟩:=h
 exact⟨es,clock,since,seen,c0,hb.trans h1,h2,h3,h4,hr.trans h5,h6⟩
theorem ZbX {L:List ZaP} (hk:L.Pairwise fun a b=>Zax a.f≠Zax b.f) {s:ZaP} (h:s∈L):atL L (Zax s.f)=some s:=by
 induction L with
 |nil=>cases h
 |cons a L ih=>
  obtain⟨h1,h2⟩:=List.pairwise_cons.1 hk
  rcases List.mem_cons.1 h with e|h'
  ·subst e;simp[atL]
  ·have hne:=h1 s h'
   have:=ih h2 h'
   simp only[atL] at this⊢
   rw[List.find?_cons_of_neg (by simpa using hne)]
   exact this
theorem Zih {L:List ZaP} (hk:L.Pairwise fun a b=>Zax a.f≠Zax b.f) {s t:ZaP} (hs:s∈L) (ht:t∈L) (h:Zax s.f=Zax t.f):s=t:=by
 have h1:=ZbX hk hs
 have h2:=ZbX hk ht
 rw[h,h2] at h1
 exact(Zsi h1).symm
def Zq6 (L:List ZaP) (left:Lit→Bool) (od:ByteArray):Prop:=
 (od=⟨#[]⟩∧∀ s∈L,left (.string (Zax s.f))=true)∨∃ s∈L,od=⟨(Zax s.f).toArray⟩∧left (.string (Zax s.f))=false∧∀ x∈L,left (.string (Zax x.f))=false→s.used≤x.used
theorem Zbb (a b:List UInt8):(Lit.string a).sameKey (.string b)=decide (a=b):=by
 by_cases h:a=b<;>simp[Lit.sameKey,h]
theorem Zo2 {L:List ZaP} {D:DataW Unit} (h:∀ key z,D.atKey (.string key) z=(match atL L key with|some s=> .lit (.int .i64 s.b)|none=>z)) (hk:L.Pairwise fun a b=>Zax a.f≠Zax b.f):Zq6 L (Maps.has D) ⟨#[]⟩:=by
 refine .inl ⟨rfl,fun s hs=>?_⟩
 have:=h (Zax s.f)
 rw[ZbX hk hs] at this
 exact Maps.has_true_of_atKey this
theorem Zkg {L:List ZaP} (hk:L.Pairwise fun a b=>Zax a.f≠Zax b.f) {left:Lit→Bool} {od:ByteArray} (h:Zq6 L left od) {x:ByteArray} {s:ZaP} (hs:s∈L) (hx:x.data.toList=Zax s.f) {take:Bool}
  (ht:take=true↔(od=⟨#[]⟩∨∀ t∈L,od=⟨(Zax t.f).toArray⟩→s.used<t.used)):Zq6 L (fun z=>left z&& !z.sameKey (.string x.data.toList)) (if take=true then x else od):=by
 have hxs:x=⟨(Zax s.f).toArray⟩:=by rw[←hx]
 have key:∀ t∈L,(left (.string (Zax t.f))&& !(Lit.string (Zax t.f)).sameKey (.string x.data.toList))=false→left (.string (Zax t.f))=false∨t=s:=by
  intro t ht' h'
  rw[hx,Zbb] at h'
  by_cases he:Zax t.f=Zax s.f
  ·exact .inr (Zih hk ht' hs he)
  ·simp[he] at h';exact .inl h'
 have hsx:(left (.string (Zax s.f))&& !(Lit.string (Zax s.f)).sameKey (.string x.data.toList))=false:=by rw[hx,Zbb];simp
 rcases h with⟨h1,h2⟩|⟨o,ho,h1,h2,h3⟩
 ·have:take=true:=ht.2 (.inl h1)
  rw[if_pos this]
  refine .inr ⟨s,hs,hxs,hsx,fun t ht' h'=>?_⟩
  rcases key t ht' h' with h|h
  ·rw[h2 t ht'] at h;cases h
  ·subst h;exact Nat.le_refl _
 ·cases take with
  |true=>
   have hlt:s.used<o.used:=by
    rcases ht.1 rfl with h|h
    ·exfalso
     rw[h1] at h
     have h4:=ZkY o.f.name o.f.typ
     have:(Zax o.f).toArray=#[]:=by injection h
     have:(Zax o.f).length=0:=by rw[←List.size_toArray,this];rfl
     rw[Zax] at this
     omega
    ·exact h o ho h1
   rw[if_pos rfl]
   refine .inr ⟨s,hs,hxs,hsx,fun t ht' h'=>?_⟩
   rcases key t ht' h' with h|h
   ·have:=h3 t ht' h;omega
   ·subst h;exact Nat.le_refl _
  |false=>
   rw[if_neg (by decide)]
   have hle:o.used≤s.used:=by
    rcases Nat.lt_or_ge s.used o.used with h|h
    ·exfalso
     have:=ht.2 (.inr fun t ht' e=>by
      have:t=o:=Zih hk ht' ho (by
       rw[h1] at e
       have e2:(Zax o.f).toArray=(Zax t.f).toArray:=by injection e
       have:=congrArg Array.toList e2
       simpa using this.symm)
      subst this;exact h)
     cases this
    ·exact h
   refine .inr ⟨o,ho,h1,by simp[h2],fun t ht' h'=>?_⟩
   rcases key t ht' h' with h|h
   ·exact h3 t ht' h
   ·subst h;exact hle
theorem Zrn {L:List ZaP} (hk:L.Pairwise fun a b=>Zax a.f≠Zax b.f) (hu:L.Pairwise fun a b=>a.used<b.used) {left:Lit→Bool} {od:ByteArray} (h:Zq6 L left od) (hl:∀ kl,left kl=false) (hne:L≠[]):
  ∃ s T,L=s::T∧od=⟨(Zax s.f).toArray⟩∧ZdH L (Zax s.f)=T:=by
 cases L with
 |nil=>exact absurd rfl hne
 |cons a T=>
  obtain⟨k1,k2⟩:=List.pairwise_cons.1 hk
  obtain⟨u1,u2⟩:=List.pairwise_cons.1 hu
  rcases h with⟨_,h2⟩|⟨o,ho,h1,_,h3⟩
  ·have:=h2 a (List.mem_cons_self ..)
   rw[hl] at this;cases this
  ·have h4:=h3 a (List.mem_cons_self ..) (hl _)
   have:o=a:=by
    rcases List.mem_cons.1 ho with e|ho'
    ·exact e
    ·have:=u1 o ho';omega
   subst this
   refine⟨o,T,rfl,h1,?_⟩
   rw[ZdH,List.filter_cons_of_neg (by simp)]
   rw[List.filter_eq_self]
   intro t ht
   simpa using fun e=>k1 t ht e.symm
theorem MapL.dropped {w w':World} {M n:Nat} {L:List ZaP} {D:DataW Unit} {key:List UInt8} {s:ZaP} (h1:w.ownsMap Tryz.prog 9 Zgj M n D) (h2:n≤1000000) (h3:Maps.size D=L.length) (h4:∀ key z,D.atKey (.string key) z=(match atL L key with|some s=> .lit (.int .i64 s.b)|none=>z))
  (hk:L.Pairwise fun a b=>Zax a.f≠Zax b.f) (hat:atL L key=some s) (h':w'.ownsMap Tryz.prog 9 Zgj M n (D.del (.string key))):MapL w' M (ZdH L key):=by
 refine⟨n,_,h',h2,?_,fun kk z=>?_⟩
 ·have hh:Maps.has D (.string key)=true:=by
   have:=h4 key
   rw[hat] at this
   exact Maps.has_true_of_atKey this
  have:=Maps.size_del (k:= .string key) (h1.tidy Zj2)
  rw[hh,if_pos rfl,h3] at this
  have:=ZnT hk hat
  omega
 ·rw[ZmM]
  by_cases he:kk=key
  ·subst he
   rw[if_pos rfl,Maps.atKey_del_same]
  ·rw[if_neg he,Maps.atKey_del_other (by intro e;cases e;exact he rfl),h4]
   cases atL L kk<;>rfl
theorem ZpQ {B:Nat} {w w':World} {C k M:Nat} {most stale:Int} {s:ZaP} {T:List ZaP} (hC:IsCache B w C most stale k (s::T)) (hCb:Blk w C #[.int .i64 most,.int .i64 stale,.map (some M),.int .i64 k] 78) (hMB:B≤M) (hML:MapL w M (s::T))
  (hM':MapL w' M T) (hg:w.grownBy w' (some M)):IsCache B w' C most stale k T∧Left B w w':=by
 have hCM:=Zbo hCb hML
 have same:Same (Zak gT w) w w':=fun b hb ht=>hg.block b hb (fun e=>Zdj hML ht (Zsi e))
 refine⟨⟨⟨M,hCb.but hg hCM,hMB,hM'⟩,hC.base,fun x hx=>?_,(List.pairwise_cons.1 hC.apart).2,(List.pairwise_cons.1 hC.keys).2,fun x hx=>hC.used x (List.mem_cons_of_mem _ hx),(List.pairwise_cons.1 hC.order).2⟩,?_,same⟩
 ·obtain⟨a,b,c,d⟩:=hC.slot x (List.mem_cons_of_mem _ hx)
  exact⟨a,b.but hg (Zbo b hML),c.step (same.mono (fun _ _ ht=>Za4 ht ZqB)),d⟩
 ·exact(Below.refl B w).grown hg (by have:=hML.lt;omega) (fun j e=>by cases e;exact hMB)
theorem Zkx (w:World) (S R:Nat→Prop) (h k:ZaU) (f g:Zas) (hf:IsFact S w h f) (hg:IsFact R w k g):
  Calls Tryz.prog 38 #[.agg (Zaj h f),.agg (Zaj k g)] w fun e w'=>e= .returned (.bool (decide (f.typ=g.typ)&&eqB f.name g.name))∧Below w.heap.size w w':=by
 have hb1:Below w.heap.size w (w.alloc (.cells (Zaj h f) 37)):=Zbr.alloc Zlr _
 have hs1:(w.alloc (.cells (Zaj h f) 37)).heap.size=w.heap.size+1:=by simp
 have hb2:Below w.heap.size w ((w.alloc (.cells (Zaj h f) 37)).alloc (.cells (Zaj k g) 37)):=hb1.alloc (by omega) _
 have hA0:Blk (w.alloc (.cells (Zaj h f) 37)) w.heap.size (Zaj h f) 37:=Zha w _
 have HA0:=Zhd (hA0.on (Zbr.alloc Zlr (.cells (Zaj k g) 37)))
 have HD0:=Zhd (show Blk ((w.alloc (.cells (Zaj h f) 37)).alloc (.cells (Zaj k g) 37)) (w.heap.size+1) (Zaj k g) 37 by rw[←hs1];exact Zha _ _)
 have HB0:=Zhd hb2
 have HY0:=Zhd (Below.refl ((w.alloc (.cells (Zaj h f) 37)).alloc (.cells (Zaj k g) 37)).heap.size ((w.alloc (.cells (Zaj h f) 37)).alloc (.cells (Zaj k g) 37)))
 have HF0:=Zhd (hf.on hb2)
 have HG0:=Zhd (hg.on hb2)
 obtain⟨EB,hEB⟩:∃ q,q=eqB f.name g.name:=⟨_,rfl⟩
 have HEB:=Zhd (ZeJ _ _ _ _ _ _ _ _ _ HF0.out.name HG0.out.name)
 rw[←hEB] at HEB
 rw[←hEB]
 clear hb1 hs1 hb2 hA0 hf hg hEB
 obtain⟨na,nl,nc,sa,sl,sc,za,zl,zc,⟨ba,bl,bc,ha,hl,hc,ma,ml,mc,xa,xl,xc,ta,tl,tc⟩⟩:=h
 obtain⟨na',nl',nc',sa',sl',sc',za',zl',zc',⟨ba',bl',bc',ha',hl',hc',ma',ml',mc',xa',xl',xc',ta',tl',tc'⟩⟩:=k
 simp only[Zaj] at HA0 HD0 HB0 HY0 HF0 HG0 HEB
 go_enter Tryz.func38,Tryz.ntmps38
 simp only[Zaj]
 by_cases ht:f.typ=g.typ
 ·have q:(f.typ==g.typ)=true:=by rw[ht];simp
  rw[Zdt ht]
  clear ht
  go_wp2_with fail
  refine HEB.out.mono ?_
  rintro e w' ⟨rfl,hb⟩
  go_wp2_with fail
  go_ret
  exact⟨rfl,Zaa HB0.out hb Zlr⟩
 ·have q:(f.typ==g.typ)=false:=by rw[beq_eq_false_iff_ne];exact ht
  rw[Zdf ht]
  clear ht
  go_wp2_with fail
  go_ret
  exact⟨rfl,HB0.out⟩
theorem ZjD (w:World) (S R:Nat→Prop) (h k:ZaU) (f g:Zas) (hf:IsFact S w h f) (hg:IsFact R w k g)
  (hsf:∀ w',IsFact S w' h f→Calls Tryz.prog 37 #[.agg (Zaj h f)] w' fun e w2=>e= .returned (.bool (Zbl f))∧Below w'.heap.size w' w2) (hsg:∀ w',IsFact R w' k g→Calls Tryz.prog 37 #[.agg (Zaj k g)] w' fun e w2=>e= .returned (.bool (Zbl g))∧Below w'.heap.size w' w2):
  Calls Tryz.prog 15 #[.agg (Zaj h f),.agg (Zaj k g)] w fun e w'=>e= .returned (.bool (Zod f g))∧Below w.heap.size w w':=by
 have hb1:Below w.heap.size w (w.alloc (.cells (Zaj h f) 37)):=Zbr.alloc Zlr _
 have hs1:(w.alloc (.cells (Zaj h f) 37)).heap.size=w.heap.size+1:=by simp
 have hb2:Below w.heap.size w ((w.alloc (.cells (Zaj h f) 37)).alloc (.cells (Zaj k g) 37)):=hb1.alloc (by omega) _
 have hA0:Blk (w.alloc (.cells (Zaj h f) 37)) w.heap.size (Zaj h f) 37:=Zha w _
 have HA0:=Zhd (hA0.on (Zbr.alloc Zlr (.cells (Zaj k g) 37)))
 have HD0:=Zhd (show Blk ((w.alloc (.cells (Zaj h f) 37)).alloc (.cells (Zaj k g) 37)) (w.heap.size+1) (Zaj k g) 37 by rw[←hs1];exact Zha _ _)
 have HB0:=Zhd hb2
 have HY0:=Zhd (Below.refl ((w.alloc (.cells (Zaj h f) 37)).alloc (.cells (Zaj k g) 37)).heap.size ((w.alloc (.cells (Zaj h f) 37)).alloc (.cells (Zaj k g) 37)))
 have HF0:=Zhd (hf.on hb2)
 have HG0:=Zhd (hg.on hb2)
 obtain⟨FB,hFB⟩:∃ q,q=Zbl f:=⟨_,rfl⟩
 obtain⟨GB,hGB⟩:∃ q,q=Zbl g:=⟨_,rfl⟩
 obtain⟨KB,hKB⟩:∃ q,q=(decide (f.typ=g.typ)&&eqB f.name g.name):=⟨_,rfl⟩
 obtain⟨SB,hSB⟩:∃ q,q=ZqX f.set g.set:=⟨_,rfl⟩
 obtain⟨ZB,hZB⟩:∃ q,q=eqB f.zone g.zone:=⟨_,rfl⟩
 obtain⟨DB,hDB⟩:∃ q,q=Zd6 f.soa g.soa:=⟨_,rfl⟩
 obtain⟨B,hB⟩:∃ q,q=Zod f g:=⟨_,rfl⟩
 have HFB:=Zhd (hsf _ HF0.out)
 rw[←hFB] at HFB
 have HGB:=Zhd hsg
 rw[←hGB] at HGB
 have HKB:=Zhd (fun w' (p:IsFact S w' h f) (q:IsFact R w' k g)=>Zkx w' S R _ _ _ _ p q)
 rw[←hKB] at HKB
 have HSB:=Zhd (fun w' (p:Ze9 (fun _=>True) w' h.sa h.sl h.sc f.set) (q:Ze9 (fun _=>True) w' k.sa k.sl k.sc g.set)=>ZjE w' _ _ _ _ _ _ _ _ _ p q)
 rw[←hSB] at HSB
 have HZB:=Zhd (fun w' (p:Strs w' h.za h.zl h.zc f.zone) (q:Strs w' k.za k.zl k.zc g.zone)=>ZeJ w' _ _ _ _ _ _ _ _ p q)
 rw[←hZB] at HZB
 have HDB:=Zhd (fun w' (p:IsData w' h.d f.soa) (q:IsData w' k.d g.soa)=>ZhU w' _ _ _ _ p q)
 rw[←hDB] at HDB
 have HE0:=Zhd (show B=(FB&&(GB&&(KB&&(decide (f.kind=g.kind)&&(decide (f.rank=g.rank)&&(decide (f.got=g.got)&&(decide (f.ttl=g.ttl)&&(SB&&(ZB&&DB))))))))) by
  rw[hB,Zod,hFB,hGB,hKB,hSB,hZB,hDB]
  simp only[Bool.and_assoc])
 rw[←hB]
 clear hb1 hs1 hb2 hA0 hf hg hsf hsg hB hFB hGB hKB hSB hZB hDB
 obtain⟨na,nl,nc,sa,sl,sc,za,zl,zc,⟨ba,bl,bc,ha,hl,hc,ma,ml,mc,xa,xl,xc,ta,tl,tc⟩⟩:=h
 obtain⟨na',nl',nc',sa',sl',sc',za',zl',zc',⟨ba',bl',bc',ha',hl',hc',ma',ml',mc',xa',xl',xc',ta',tl',tc'⟩⟩:=k
 simp only[Zaj] at HA0 HD0 HB0 HY0 HF0 HG0 HFB HGB HKB HSB HZB HDB
 simp only[Zae] at HDB
 go_enter Tryz.func15,Tryz.ntmps15
 simp only[Zaj]
 go_wp2_with fail
 refine(HFB.out).mono ?_
 rintro e w2 ⟨rfl,hb⟩
 have HB1:=Zhd (Zaa HB0.out hb Zlr)
 have HY1:=Zhd (Zaa HY0.out hb Zlr)
 clear hb HB0 HY0
 have hA:=HA0.out.on HY1.out
 have c0:=hA.cell 0
 have c1:=hA.cell 1
 have c2:=hA.cell 2
 have c3:=hA.cell 3
 have c4:=hA.cell 4
 have c5:=hA.cell 5
 have c6:=hA.cell 6
 have c7:=hA.cell 7
 have c8:=hA.cell 8
 have c9:=hA.cell 9
 have c10:=hA.cell 10
 have c11:=hA.cell 11
 have c12:=hA.cell 12
 clear hA
 have hA:=HD0.out.on HY1.out
 have d0:=hA.cell 0
 have d1:=hA.cell 1
 have d2:=hA.cell 2
 have d3:=hA.cell 3
 have d4:=hA.cell 4
 have d5:=hA.cell 5
 have d6:=hA.cell 6
 have d7:=hA.cell 7
 have d8:=hA.cell 8
 have d9:=hA.cell 9
 have d10:=hA.cell 10
 have d11:=hA.cell 11
 have d12:=hA.cell 12
 clear hA
 simp at c0 c1 c2 c3 c4 c5 c6 c7 c8 c9 c10 c11 c12 d0 d1 d2 d3 d4 d5 d6 d7 d8 d9 d10 d11 d12
 cases FB
 ·have HF:=Zhd (show B=false by rw[HE0.out];rfl)
  go_wp2_with fail
  go_ret
  exact⟨Zaf (HF.out).symm,HB1.out⟩
 have HE1:=Zhd (show B=(GB&&(KB&&(decide (f.kind=g.kind)&&(decide (f.rank=g.rank)&&(decide (f.got=g.got)&&(decide (f.ttl=g.ttl)&&(SB&&(ZB&&(DB))))))))) by rw[HE0.out];rfl)
 clear HE0
 go_wp2_with fail
 refine(HGB.out _ (HG0.out.on HY1.out)).mono ?_
 rintro e w3 ⟨rfl,hb⟩
 have HB2:=Zhd (Zaa HB1.out hb Zlr)
 have HY2:=Zhd (Zaa HY1.out hb Zlr)
 clear hb HB1 HY1
 clear c0 c1 c2 c3 c4 c5 c6 c7 c8 c9 c10 c11 c12 d0 d1 d2 d3 d4 d5 d6 d7 d8 d9 d10 d11 d12
 have hA:=HA0.out.on HY2.out
 have c0:=hA.cell 0
 have c1:=hA.cell 1
 have c2:=hA.cell 2
 have c3:=hA.cell 3
 have c4:=hA.cell 4
 have c5:=hA.cell 5
 have c6:=hA.cell 6
 have c7:=hA.cell 7
 have c8:=hA.cell 8
 have c9:=hA.cell 9
 have c10:=hA.cell 10
 have c11:=hA.cell 11
 have c12:=hA.cell 12
 clear hA
 have hA:=HD0.out.on HY2.out
 have d0:=hA.cell 0
 have d1:=hA.cell 1
 have d2:=hA.cell 2
 have d3:=hA.cell 3
 have d4:=hA.cell 4
 have d5:=hA.cell 5
 have d6:=hA.cell 6
 have d7:=hA.cell 7
 have d8:=hA.cell 8
 have d9:=hA.cell 9
 have d10:=hA.cell 10
 have d11:=hA.cell 11
 have d12:=hA.cell 12
 clear hA
 simp at c0 c1 c2 c3 c4 c5 c6 c7 c8 c9 c10 c11 c12 d0 d1 d2 d3 d4 d5 d6 d7 d8 d9 d10 d11 d12
 cases GB
 ·have HF:=Zhd (show B=false by rw[HE1.out];rfl)
  go_wp2_with fail
  go_ret
  exact⟨Zaf (HF.out).symm,HB2.out⟩
 have HE2:=Zhd (show B=(KB&&(decide (f.kind=g.kind)&&(decide (f.rank=g.rank)&&(decide (f.got=g.got)&&(decide (f.ttl=g.ttl)&&(SB&&(ZB&&(DB)))))))) by rw[HE1.out];rfl)
 clear HE1
 go_wp2_with fail
 refine(HKB.out _ (HF0.out.on HY2.out) (HG0.out.on HY2.out)).mono ?_
 rintro e w4 ⟨rfl,hb⟩
 have HB3:=Zhd (Zaa HB2.out hb Zlr)
 have HY3:=Zhd (Zaa HY2.out hb Zlr)
 clear hb HB2 HY2
 clear c0 c1 c2 c3 c4 c5 c6 c7 c8 c9 c10 c11 c12 d0 d1 d2 d3 d4 d5 d6 d7 d8 d9 d10 d11 d12
 have hA:=HA0.out.on HY3.out
 have c0:=hA.cell 0
 have c1:=hA.cell 1
 have c2:=hA.cell 2
 have c3:=hA.cell 3
 have c4:=hA.cell 4
 have c5:=hA.cell 5
 have c6:=hA.cell 6
 have c7:=hA.cell 7
 have c8:=hA.cell 8
 have c9:=hA.cell 9
 have c10:=hA.cell 10
 have c11:=hA.cell 11
 have c12:=hA.cell 12
 clear hA
 have hA:=HD0.out.on HY3.out
 have d0:=hA.cell 0
 have d1:=hA.cell 1
 have d2:=hA.cell 2
 have d3:=hA.cell 3
 have d4:=hA.cell 4
 have d5:=hA.cell 5
 have d6:=hA.cell 6
 have d7:=hA.cell 7
 have d8:=hA.cell 8
 have d9:=hA.cell 9
 have d10:=hA.cell 10
 have d11:=hA.cell 11
 have d12:=hA.cell 12
 clear hA
 simp at c0 c1 c2 c3 c4 c5 c6 c7 c8 c9 c10 c11 c12 d0 d1 d2 d3 d4 d5 d6 d7 d8 d9 d10 d11 d12
 cases KB
 ·have HF:=Zhd (show B=false by rw[HE2.out];rfl)
  go_wp2_with fail
  go_ret
  exact⟨Zaf (HF.out).symm,HB3.out⟩
 have HE3:=Zhd (show B=(decide (f.kind=g.kind)&&(decide (f.rank=g.rank)&&(decide (f.got=g.got)&&(decide (f.ttl=g.ttl)&&(SB&&(ZB&&(DB))))))) by rw[HE2.out];rfl)
 clear HE2
 by_cases h0:f.kind=g.kind
 case neg=>
  have q0:(f.kind==g.kind)=false:=by rw[beq_eq_false_iff_ne];exact h0
  have HF:=Zhd (show B=false by rw[HE3.out,Zdf h0];rfl)
  clear h0
  go_wp2_with fail
  go_ret
  exact⟨Zaf (HF.out).symm,HB3.out⟩
 have q0:(f.kind==g.kind)=true:=by rw[beq_iff_eq];exact h0
 have HE4:=Zhd (show B=(decide (f.rank=g.rank)&&(decide (f.got=g.got)&&(decide (f.ttl=g.ttl)&&(SB&&(ZB&&(DB)))))) by rw[HE3.out,Zdt h0];rfl)
 clear HE3
 clear h0
 by_cases h1:f.rank=g.rank
 case neg=>
  have q1:(f.rank==g.rank)=false:=by rw[beq_eq_false_iff_ne];exact h1
  have HF:=Zhd (show B=false by rw[HE4.out,Zdf h1];rfl)
  clear h1
  go_wp2_with fail
  go_ret
  exact⟨Zaf (HF.out).symm,HB3.out⟩
 have q1:(f.rank==g.rank)=true:=by rw[beq_iff_eq];exact h1
 have HE5:=Zhd (show B=(decide (f.got=g.got)&&(decide (f.ttl=g.ttl)&&(SB&&(ZB&&(DB))))) by rw[HE4.out,Zdt h1];rfl)
 clear HE4
 clear h1
 by_cases h2:f.got=g.got
 case neg=>
  have q2:(f.got==g.got)=false:=by rw[beq_eq_false_iff_ne];exact h2
  have HF:=Zhd (show B=false by rw[HE5.out,Zdf h2];rfl)
  clear h2
  go_wp2_with fail
  go_ret
  exact⟨Zaf (HF.out).symm,HB3.out⟩
 have q2:(f.got==g.got)=true:=by rw[beq_iff_eq];exact h2
 have HE6:=Zhd (show B=(decide (f.ttl=g.ttl)&&(SB&&(ZB&&(DB)))) by rw[HE5.out,Zdt h2];rfl)
 clear HE5
 clear h2
 by_cases h3:f.ttl=g.ttl
 case neg=>
  have q3:(f.ttl==g.ttl)=false:=by rw[beq_eq_false_iff_ne];exact h3
  have HF:=Zhd (show B=false by rw[HE6.out,Zdf h3];rfl)
  clear h3
  go_wp2_with fail
  go_ret
  exact⟨Zaf (HF.out).symm,HB3.out⟩
 have q3:(f.ttl==g.ttl)=true:=by rw[beq_iff_eq];exact h3
 have HE7:=Zhd (show B=(SB&&(ZB&&(DB))) by rw[HE6.out,Zdt h3];rfl)
 clear HE6
 clear h3
 go_wp2_with fail
 refine(HSB.out _ ((HF0.out.set.on HY3.out).mono (fun _ _ _=>trivial)) ((HG0.out.set.on HY3.out).mono (fun _ _ _=>trivial))).mono ?_
 rintro e w5 ⟨rfl,hb⟩
 have HB4:=Zhd (Zaa HB3.out hb Zlr)
 have HY4:=Zhd (Zaa HY3.out hb Zlr)
 clear hb HB3 HY3
 clear c0 c1 c2 c3 c4 c5 c6 c7 c8 c9 c10 c11 c12 d0 d1 d2 d3 d4 d5 d6 d7 d8 d9 d10 d11 d12
 have hA:=HA0.out.on HY4.out
 have c0:=hA.cell 0
 have c1:=hA.cell 1
 have c2:=hA.cell 2
 have c3:=hA.cell 3
 have c4:=hA.cell 4
 have c5:=hA.cell 5
 have c6:=hA.cell 6
 have c7:=hA.cell 7
 have c8:=hA.cell 8
 have c9:=hA.cell 9
 have c10:=hA.cell 10
 have c11:=hA.cell 11
 have c12:=hA.cell 12
 clear hA
 have hA:=HD0.out.on HY4.out
 have d0:=hA.cell 0
 have d1:=hA.cell 1
 have d2:=hA.cell 2
 have d3:=hA.cell 3
 have d4:=hA.cell 4
 have d5:=hA.cell 5
 have d6:=hA.cell 6
 have d7:=hA.cell 7
 have d8:=hA.cell 8
 have d9:=hA.cell 9
 have d10:=hA.cell 10
 have d11:=hA.cell 11
 have d12:=hA.cell 12
 clear hA
 simp at c0 c1 c2 c3 c4 c5 c6 c7 c8 c9 c10 c11 c12 d0 d1 d2 d3 d4 d5 d6 d7 d8 d9 d10 d11 d12
 cases SB
 ·have HF:=Zhd (show B=false by rw[HE7.out];rfl)
  go_wp2_with fail
  go_ret
  exact⟨Zaf (HF.out).symm,HB4.out⟩
 have HE8:=Zhd (show B=(ZB&&(DB)) by rw[HE7.out];rfl)
 clear HE7
 go_wp2_with fail
 refine(HZB.out _ (HF0.out.on HY4.out).zone (HG0.out.on HY4.out).zone).mono ?_
 rintro e w6 ⟨rfl,hb⟩
 have HB5:=Zhd (Zaa HB4.out hb Zlr)
 have HY5:=Zhd (Zaa HY4.out hb Zlr)
 clear hb HB4 HY4
 clear c0 c1 c2 c3 c4 c5 c6 c7 c8 c9 c10 c11 c12 d0 d1 d2 d3 d4 d5 d6 d7 d8 d9 d10 d11 d12
 have hA:=HA0.out.on HY5.out
 have c0:=hA.cell 0
 have c1:=hA.cell 1
 have c2:=hA.cell 2
 have c3:=hA.cell 3
 have c4:=hA.cell 4
 have c5:=hA.cell 5
 have c6:=hA.cell 6
 have c7:=hA.cell 7
 have c8:=hA.cell 8
 have c9:=hA.cell 9
 have c10:=hA.cell 10
 have c11:=hA.cell 11
 have c12:=hA.cell 12
 clear hA
 have hA:=HD0.out.on HY5.out
 have d0:=hA.cell 0
 have d1:=hA.cell 1
 have d2:=hA.cell 2
 have d3:=hA.cell 3
 have d4:=hA.cell 4
 have d5:=hA.cell 5
 have d6:=hA.cell 6
 have d7:=hA.cell 7
 have d8:=hA.cell 8
 have d9:=hA.cell 9
 have d10:=hA.cell 10
 have d11:=hA.cell 11
 have d12:=hA.cell 12
 clear hA
 simp at c0 c1 c2 c3 c4 c5 c6 c7 c8 c9 c10 c11 c12 d0 d1 d2 d3 d4 d5 d6 d7 d8 d9 d10 d11 d12
 cases ZB
 ·have HF:=Zhd (show B=false by rw[HE8.out];rfl)
  go_wp2_with fail
  go_ret
  exact⟨Zaf (HF.out).symm,HB5.out⟩
 have HE9:=Zhd (show B=(DB) by rw[HE8.out];rfl)
 clear HE8
 go_wp2_with fail
 refine(HDB.out _ (HF0.out.on HY5.out).soa (HG0.out.on HY5.out).soa).mono ?_
 rintro e w9 ⟨rfl,hb⟩
 have HB9:=Zhd (Zaa HB5.out hb Zlr)
 clear hb
 go_wp2_with fail
 go_ret
 exact⟨Zaf HE9.out.symm,HB9.out⟩
end Go.Proofs.YtjpefpclmndgeaaGreat

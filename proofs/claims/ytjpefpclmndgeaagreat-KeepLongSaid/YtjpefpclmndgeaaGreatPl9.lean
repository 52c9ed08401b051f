/- Contracts of the given program's functions, in the order in which they are proved. -/
import Derived.Deep.RegionHeld3
import Derived.Test.YtjpefpclmndgeaaGreatPl8
namespace Go.Proofs.YtjpefpclmndgeaaGreat
set_option maxHeartbeats 64000000
set_option maxRecDepth 100000
open Go.ChangeShapes Go.WideShapes Go.ChangeAt Go.RowKit
theorem Zl0 (w:World) (B K C L:Nat) (pl no te:Int) (me dn:Bool) (hK:Blk w K (ZaQ C L pl no te me dn) 62) (hB:B≤K) (hBw:B≤w.heap.size) (most stale:Int) (k:Nat) (Ls:List ZaP) (hC:IsCache B w C most stale k Ls) (hk:k<4000000000000000000) (hL:Ls.length<100000) (h:ZaU) (f:Zas) (hf:IsFact (Zak fT w) w h f) (hfB:Zbl f=true) (hfl:Zmy f):
  Calls Tryz.prog 24 #[.pointer (some ⟨K,0,none⟩),.agg (ZbK h f)] w fun e w'=>e= .returned (.tuple #[])∧Blk w' K (ZaQ C L pl (max no f.got) te me dn) 62∧(∃ b kk,IsCache B w' C most stale (k+1) (ZfB most (ZdH Ls (Zax f)++[⟨b,kk,f,k+1⟩])))∧Afr B w w':=by
 have hb1:Below w.heap.size w (w.alloc (.cells (ZbK h f) 66)):=Zbr.alloc Zlr _
 have a1:Blk (w.alloc (.cells (ZbK h f) 66)) w.heap.size (ZbK h f) 66:=Zha w _
 have k1:=hK.on hb1
 have HA:=Zhd (Zan hb1 (Zan a1 (Zan k1 (Zan (hC.on hb1) (hf.step (Same.below hb1 _))))))
 have HB:=Zhd (Zan hB (Zan hBw (Zan hk (Zan hL (Zan hfB hfl)))))
 have e0:(w.alloc (.cells (ZbK h f) 66)).cell? ⟨w.heap.size,0,none⟩=some (.int .i64 1):=a1.cell 0
 clear hb1 a1 k1 hK hB hBw hC hk hL hf hfB hfl
 go_enter Tryz.func24,Tryz.ntmps24
 simp only[ZbK]
 simp only[ZbK] at e0
 go_upto_region 5 with fail
 obtain⟨wa,hwa⟩:∃ wa,wa=w.alloc (.cells (ZbK h f) 66):=⟨_,rfl⟩
 simp only[ZbK] at hwa
 rw[←hwa]
 have HA2:Hid (Below w.heap.size w wa∧Blk wa w.heap.size (ZbK h f) 66∧Blk wa K (ZaQ C L pl no te me dn) 62∧IsCache B wa C most stale k Ls∧IsFact (Zak fT wa) wa h f):=by rw[hwa];exact HA
 clear hwa HA e0
 have hbd:=Below.drew (Below.refl wa.heap.size wa)
 have HD:=Zhd (Zan (HA2.out.2.1.on hbd) (Zan (HA2.out.2.2.1.on hbd) (Zan (HA2.out.2.2.2.1.on hbd) (Zan (HA2.out.2.2.2.2.step (Same.below hbd _)) (Zaa HA2.out.1 hbd Zlr)))))
 clear hbd
 have d0:wa.drew.cell? ⟨K,0,none⟩=some (.pointer (some ⟨C,0,none⟩)):=HD.out.2.1.cell 0
 have d2:wa.drew.cell? ⟨w.heap.size,2,none⟩=some (.slice h.na h.nl h.nc):=HD.out.1.cell 2
 have d3:wa.drew.cell? ⟨w.heap.size,3,none⟩=some (.int .i64 f.typ):=HD.out.1.cell 3
 have d4:wa.drew.cell? ⟨w.heap.size,4,none⟩=some (.int .i64 f.kind):=HD.out.1.cell 4
 have d5:wa.drew.cell? ⟨w.heap.size,5,none⟩=some (.int .i64 f.rank):=HD.out.1.cell 5
 have d6:wa.drew.cell? ⟨w.heap.size,6,none⟩=some (.int .i64 f.got):=HD.out.1.cell 6
 have d7:wa.drew.cell? ⟨w.heap.size,7,none⟩=some (.int .i64 f.ttl):=HD.out.1.cell 7
 have d8:wa.drew.cell? ⟨w.heap.size,8,none⟩=some (.slice h.sa h.sl h.sc):=HD.out.1.cell 8
 have d9:wa.drew.cell? ⟨w.heap.size,9,none⟩=some (.slice h.za h.zl h.zc):=HD.out.1.cell 9
 have d10:wa.drew.cell? ⟨w.heap.size,10,none⟩=some (.slice h.d.ba h.d.bl h.d.bc):=HD.out.1.cell 10
 have d11:wa.drew.cell? ⟨w.heap.size,11,none⟩=some (.slice h.d.ha h.d.hl h.d.hc):=HD.out.1.cell 11
 have d12:wa.drew.cell? ⟨w.heap.size,12,none⟩=some (.slice h.d.ma h.d.ml h.d.mc):=HD.out.1.cell 12
 have d13:wa.drew.cell? ⟨w.heap.size,13,none⟩=some (.slice h.d.na h.d.nl h.d.nc):=HD.out.1.cell 13
 have d14:wa.drew.cell? ⟨w.heap.size,14,none⟩=some (.slice h.d.ta h.d.tl h.d.tc):=HD.out.1.cell 14
 refine ZdA 6 52 (fun w'=>w'.cell? ⟨K,0,none⟩=some (.pointer (some ⟨C,0,none⟩))∧w'.cell? ⟨w.heap.size,2,none⟩=some (.slice h.na h.nl h.nc)∧w'.cell? ⟨w.heap.size,3,none⟩=some (.int .i64 f.typ)∧w'.cell? ⟨w.heap.size,4,none⟩=some (.int .i64 f.kind)∧w'.cell? ⟨w.heap.size,5,none⟩=some (.int .i64 f.rank)∧w'.cell? ⟨w.heap.size,6,none⟩=some (.int .i64 f.got)∧w'.cell? ⟨w.heap.size,7,none⟩=some (.int .i64 f.ttl)∧w'.cell? ⟨w.heap.size,8,none⟩=some (.slice h.sa h.sl h.sc)∧w'.cell? ⟨w.heap.size,9,none⟩=some (.slice h.za h.zl h.zc)∧w'.cell? ⟨w.heap.size,10,none⟩=some (.slice h.d.ba h.d.bl h.d.bc)∧w'.cell? ⟨w.heap.size,11,none⟩=some (.slice h.d.ha h.d.hl h.d.hc)∧w'.cell? ⟨w.heap.size,12,none⟩=some (.slice h.d.ma h.d.ml h.d.mc)∧w'.cell? ⟨w.heap.size,13,none⟩=some (.slice h.d.na h.d.nl h.d.nc)∧w'.cell? ⟨w.heap.size,14,none⟩=some (.slice h.d.ta h.d.tl h.d.tc)) (by kernel_rfl) (by kernel_rfl) (by kernel_rfl) (by kernel_rfl) (by kernel_rfl) ?_ (fun hHeld0=>?_)
 ·exact⟨d0,d2,d3,d4,d5,d6,d7,d8,d9,d10,d11,d12,d13,d14⟩
 simp only[List.take_succ_cons,List.take_zero]
 refine wpAnyH_take (i:=0) (v:=?_) rfl (by kernel_rfl) (by kernel_rfl) (by kernel_rfl) (fun _ _ _ h=>h) (Or.inl ⟨by rfl,?_⟩) (by assumption) ?_
 rotate_left
 ·intro w' hSw
  (try dsimp only at hSw)
  go_simp
  first|done|with_reducible rfl|(rw[if_neg (by omega)])
 try simp only[Act.put,List.setIfInBounds_toArray]
 refine wpAnyH_take (i:=1) (v:=?_) rfl (by kernel_rfl) (by kernel_rfl) (by kernel_rfl) (fun _ _ _ h=>h) (Or.inl ⟨by rfl,?_⟩) (by assumption) ?_
 rotate_left
 ·intro w' hSw
  (try dsimp only at hSw)
  go_simp
  first|done|with_reducible rfl|(rw[if_neg (by omega)])
 try simp only[Act.put]
 refine wpAnyH_take (i:=2) (v:=?_) rfl (by kernel_rfl) (by kernel_rfl) (by kernel_rfl) (fun _ _ _ h=>h) (Or.inl ⟨by rfl,?_⟩) (by assumption) ?_
 rotate_left
 ·intro w' hSw
  (try dsimp only at hSw)
  go_simp
  first|done|with_reducible rfl|(rw[if_neg (by omega)])
 try simp only[Act.put]
 refine wpAnyH_take (i:=3) (v:=?_) rfl (by kernel_rfl) (by kernel_rfl) (by kernel_rfl) (fun _ _ _ h=>h) (Or.inl ⟨by rfl,?_⟩) (by assumption) ?_
 rotate_left
 ·intro w' hSw
  (try dsimp only at hSw)
  go_simp
  first|done|with_reducible rfl|(rw[if_neg (by omega)])
 try simp only[Act.put]
 refine wpAnyH_take (i:=4) (v:=?_) rfl (by kernel_rfl) (by kernel_rfl) (by kernel_rfl) (fun _ _ _ h=>h) (Or.inl ⟨by rfl,?_⟩) (by assumption) ?_
 rotate_left
 ·intro w' hSw
  (try dsimp only at hSw)
  go_simp
  first|done|with_reducible rfl|(rw[if_neg (by omega)])
 try simp only[Act.put]
 refine wpAnyH_take (i:=5) (v:=?_) rfl (by kernel_rfl) (by kernel_rfl) (by kernel_rfl) (fun _ _ _ h=>h) (Or.inl ⟨by rfl,?_⟩) (by assumption) ?_
 rotate_left
 ·intro w' hSw
  (try dsimp only at hSw)
  go_simp
  first|done|with_reducible rfl|(rw[if_neg (by omega)])
 try simp only[Act.put]
 refine wpAnyH_done (by kernel_rfl) ?_ _
 show wpList _ _ _ _ _ _
 simp only[List.drop_succ_cons,List.drop_zero]
 go_wp2_with (go_at_call 56;go_loud (refine(Zny wa.drew (Zak fT wa.drew) B C most stale k Ls HD.out.2.2.1 HB.out.2.2.1 HB.out.2.2.2.1 h f HD.out.2.2.2.1 HB.out.2.2.2.2.2).mono ?_;rintro e V ⟨rfl,hlf,hin,-⟩;have HV:=Zhd (Zan hlf (hin HB.out.2.2.2.2.1));clear hlf hin))
 have hS:Same (Zak gT wa.drew) wa.drew V:=HV.out.1.same
 have hVk:=Zch HD.out.2.1 hS (by decide)
 have hVe:=Zch HD.out.1 hS (by decide)
 have hfr:Afr B w V:=(Afr.below HD.out.2.2.2.2 HB.out.2.1).trans (Afr.left HV.out.1 Zlr)
 have hbd:=Below.drew (Below.refl V.heap.size V)
 have HE:=Zhd (Zan (hVk.on hbd) (Zan (hVe.on hbd) (hfr.trans (Afr.below hbd (Nat.le_trans HB.out.2.1 hfr.bel.size)))))
 obtain⟨bb,kk,hI⟩:=HV.out.2
 have HI:=Zhd (hI.on hbd)
 have c3:V.drew.cell? ⟨K,3,none⟩=some (.int .i64 no):=HE.out.1.cell 3
 have c6:V.drew.cell? ⟨w.heap.size,6,none⟩=some (.int .i64 f.got):=HE.out.2.1.cell 6
 have g3:=HE.out.1.free 3
 clear hS hVk hVe hfr hbd hI d0 d2 d3 d4 d5 d6 d7 d8 d9 d10 d11 d12 d13 d14
 refine ZdA 9 52 (fun w'=>w'.cell? ⟨K,3,none⟩=some (.int .i64 no)∧w'.cell? ⟨w.heap.size,6,none⟩=some (.int .i64 f.got)) (by kernel_rfl) (by kernel_rfl) (by kernel_rfl) (by kernel_rfl) (by kernel_rfl) ?_ (fun hHeld0=>?_)
 ·exact⟨c3,c6⟩
 simp only[List.take_succ_cons,List.take_zero]
 refine wpAnyH_take (i:=0) (v:=?_) rfl (by kernel_rfl) (by kernel_rfl) (by kernel_rfl) (fun _ _ _ h=>h) (Or.inl ⟨by rfl,?_⟩) (by assumption) ?_
 rotate_left
 ·intro w' hSw
  (try dsimp only at hSw)
  go_simp
  first|done|with_reducible rfl|(rw[if_neg (by omega)])
 try simp only[Act.put,List.setIfInBounds_toArray]
 refine wpAnyH_take (i:=1) (v:=?_) rfl (by kernel_rfl) (by kernel_rfl) (by kernel_rfl) (fun _ _ _ h=>h) (Or.inl ⟨by rfl,?_⟩) (by assumption) ?_
 rotate_left
 ·intro w' hSw
  (try dsimp only at hSw)
  go_simp
  first|done|with_reducible rfl|(rw[if_neg (by omega)])
 try simp only[Act.put]
 refine wpAnyH_take (i:=2) (v:=?_) rfl (by kernel_rfl) (by kernel_rfl) (by kernel_rfl) (fun _ _ _ h=>h) (Or.inl ⟨by rfl,?_⟩) (by assumption) ?_
 rotate_left
 ·intro w' hSw
  (try dsimp only at hSw)
  go_simp
  first|done|with_reducible rfl|(rw[if_neg (by omega)])
 try simp only[Act.put]
 refine wpAnyH_take (i:=3) (v:=?_) rfl (by kernel_rfl) (by kernel_rfl) (by kernel_rfl) (fun _ _ _ h=>h) (Or.inl ⟨by rfl,?_⟩) (by assumption) ?_
 rotate_left
 ·intro w' hSw
  (try dsimp only at hSw)
  go_simp
  first|done|with_reducible rfl|(rw[if_neg (by omega)])
 try simp only[Act.put]
 refine wpAnyH_take (i:=4) (v:=?_) rfl (by kernel_rfl) (by kernel_rfl) (by kernel_rfl) (fun _ _ _ h=>h) (Or.inl ⟨by rfl,?_⟩) (by assumption) ?_
 rotate_left
 ·intro w' hSw
  (try dsimp only at hSw)
  go_simp
  first|done|with_reducible rfl|(rw[if_neg (by omega)])
 try simp only[Act.put]
 refine wpAnyH_take (i:=5) (v:=?_) rfl (by kernel_rfl) (by kernel_rfl) (by kernel_rfl) (fun _ _ _ h=>h) (Or.inl ⟨by rfl,?_⟩) (by assumption) ?_
 rotate_left
 ·intro w' hSw
  (try dsimp only at hSw)
  go_simp
  first|done|with_reducible rfl|(rw[if_neg (by omega)])
 try simp only[Act.put]
 refine wpAnyH_take (i:=6) (v:=?_) rfl (by kernel_rfl) (by kernel_rfl) (by kernel_rfl) (fun _ _ _ h=>h) (Or.inl ⟨by rfl,?_⟩) (by assumption) ?_
 rotate_left
 ·intro w' hSw
  (try dsimp only at hSw)
  go_simp
  first|done|with_reducible rfl|(rw[if_neg (by omega)])
 try simp only[Act.put]
 refine wpAnyH_take (i:=7) (v:=?_) rfl (by kernel_rfl) (by kernel_rfl) (by kernel_rfl) (fun _ _ _ h=>h) (Or.inl ⟨by rfl,?_⟩) (by assumption) ?_
 rotate_left
 ·intro w' hSw
  (try dsimp only at hSw)
  go_simp
  first|done|with_reducible rfl|(rw[if_neg (by omega)])
 try simp only[Act.put]
 refine wpAnyH_ready (rs:=[8]) (by kernel_rfl) (by simp) ?_
 refine AllReadyH.cons rfl (fun K hK=>?_) AllReadyH.nil
 go_simp
 refine hK.out _ _ ?_ (fun hHeld1=>?_)
 ·exact hHeld0
 clear hK K
 try simp only[Act.put,List.setIfInBounds_toArray,List.set_cons_zero,List.set_cons_succ]
 refine wpAnyH_done (by kernel_rfl) ?_ _
 show wpList _ _ _ _ _ _
 simp only[List.drop_succ_cons,List.drop_zero]
 have hs3:=HE.out.1.set 3 (.int .i64 (max no f.got))
 have hg3:=Zag V.drew K 3 (.int .i64 (max no f.got))
 have HF:=Zhd (Zan hs3 hg3)
 clear hs3 hg3
 go_wp2_with fail
 rw[Zlp]
 go_end0
 exact⟨rfl,by simpa [ZaQ] using HF.out.1,⟨bb,kk,HI.out.but HF.out.2 HE.out.1 (by decide) (by decide) (by decide)⟩,HE.out.2.2.trans (Afr.only (Only.but (S:=[62]) HF.out.2 HE.out.1 List.mem_cons_self HB.out.1) (by decide))⟩
def StrsT (W:World) (a:Option Addr) (n c:Nat) (ss:List ByteArray):Prop:=Strs W a n c ss∧rowIn (Zak mT W) a n
theorem StrsT.step {W W':World} {a:Option Addr} {n c:Nat} {ss:List ByteArray} (i:StrsT W a n c ss) (hs:Same (Zak mT W) W W'):StrsT W' a n c ss:=
 ⟨i.1.keep i.2 hs,i.2.mono i.1.row (fun b hb ht=>Zbt ht (hs b hb ht))⟩
def ZpX (B:Nat) (pl most stale:Int) (es:List LogE) (i K C L2:Nat) (W:World):Prop:=
 ∃ te kk Ls,Blk W K (ZaQ C L2 pl (ZoJ (es.take i)) te false false) 62∧B≤K∧IsCache B W C most stale kk Ls∧Zbi Ls=ZcF most (es.take i)∧kk≤i∧te≤ZoJ (es.take i)
theorem ZqZ {B:Nat} {pl most stale:Int} {es:List LogE} (h1:1≤most) (h2:most≤4096) (he:∀ e∈es,e.ok) (hl:es.length≤100000) (i:Nat) (hi:i<(es.map LogE.bytes).length):ZpZ B (ZpX B pl most stale es) i (es.map LogE.bytes)[i]:=by
 intro K C L W ao c hP hBW hrow
 have hi2:i<es.length:=by simpa using hi
 obtain⟨te,kk,Ls,hK,hB,hC,hf,hk,hte⟩:=hP
 have hLl:Ls.length<100000:=by
  have:=Zmf h1 (es.take i)
  rw[←hf,ZcM] at this
  omega
 have htk:es.take (i+1)=es.take i++[es[i]]:=List.take_succ_eq_append_getElem hi2
 have hr1:ZcF most (es.take (i+1))=Zcu most (ZcF most (es.take i)) es[i]:=by rw[htk,Ze6]
 have hn1:ZoJ (es.take (i+1))=Zox (ZoJ (es.take i)) es[i]:=by rw[htk,Zps]
 have hok:=he es[i] (List.getElem_mem hi2)
 have hng:=Zq0 (ZoJ (es.take i)) es[i]
 rw[List.getElem_map] at hrow⊢
 have hsm:=es[i].small hok
 have hao:∀ a,ao=some a→a.block<W.heap.size:=fun a ha=>ZdI (hrow.mem (by omega) a ha).1
 obtain⟨e,hee⟩:∃ e,e=es[i]:=⟨_,rfl⟩
 rw[←hee] at hr1 hn1 hok hng hrow hsm⊢
 cases e with
 |clock t=>
  have hrw:ZbP W ao 8 c (Zbq t):=by have:=hrow.row;rw[show(LogE.clock t).bytes=Zbq t from rfl,ZbN] at this;exact this
  rw[show(LogE.clock t).bytes=Zbq t from rfl,ZbN]
  refine(Zi3 W ao c t hrw hao hok (Zhm hok)).mono ?_
  rintro e W' ⟨rfl,hb⟩
  refine⟨_,rfl,Zey 3 t,rfl,hb,fun W2 hb2=>?_⟩
  have hbb:=Zaa hb hb2 Zlr
  refine(Zjd W2 B K C L pl _ _ false false (hK.on hbb) hB (by have:=hbb.size;omega) t).mono ?_
  rintro e w' ⟨rfl,hk',ho'⟩
  exact⟨rfl,⟨_,kk,Ls,by rw[hn1];exact hk',hB,(hC.on hbb).only ho' (by decide) (by decide) (by decide),by rw[hr1];exact hf,by omega,by rw[hn1];exact Int.le_refl _⟩,Afr.only ho' (by decide)⟩
 |put f=>
  have hfl:(ZcY f).length≤16384:=hsm.2
  refine(ZlL W ao c f hrow.row (by omega) hao (Zef hok.1).1).mono ?_
  rintro e W' ⟨⟨h,rfl,hif⟩,hb⟩
  refine⟨_,rfl,Zfw h f,rfl,hb,fun W2 hb2=>?_⟩
  have hbb:=Zaa hb hb2 Zlr
  refine(Zl0 W2 B K C L pl _ te false false (hK.on hbb) hB (by have:=hbb.size;omega) most stale kk Ls (hC.on hbb) (by omega) hLl h f (hif.step (Same.below hb2 _)) (Zef hok.1).1 hok.2).mono ?_
  rintro e w' ⟨rfl,hk',⟨b,kf,hc'⟩,ho'⟩
  exact⟨rfl,⟨te,kk+1,_,by rw[hn1];exact hk',hB,hc',by rw[hr1,Zi8,hf],by omega,by omega⟩,ho'⟩
structure Zq7 (B:Nat) (w':World) (K C L D:Nat) (d0:Zaz) (most stale:Int) (es:List LogE) (n:Nat) (l:ZaZ) (d:Zaz) (te:Int) (kk:Nat) (Ls:List ZaP):Prop where
 blk:Blk w' K (ZaQ C L ((d0.sure.length:Int)-2) (ZoJ es) te false false) 62
 base:B≤K
 log:IsLog B w' L D l
 dev:IsDev B w' D d
 ca:IsCache B w' C most stale kk Ls
 cnt:kk≤es.length
 facts:Zbi Ls=ZcF most es
 told:te≤ZoJ es
 lr:LogR d l es es.length n
 un:d.unsure=[]
 len:d.sure.length=d0.sure.length
theorem Zn9 (w:World) (B D:Nat) (l:ZaZ) (d:Zaz) (m tn:Nat) (es:List LogE) (sy n:Nat) (hd:IsDev B w D (ZaN d m tn)) (h:LogR d l es sy n) (hn:n≤600000) (most stale:Int) (h1:1≤most) (h2:most≤4096) (hs:Za6 stale=true):
  Calls Tryz.prog 5 #[.pointer (some ⟨D,0,none⟩),.int .i64 most,.int .i64 stale] w fun e w'=>(∃ k,sy≤k∧k≤es.length∧(d.unsure=[]→k=es.length)∧∃ K C L l' d' te kk Ls,e= .returned (.tuple #[.pointer (some ⟨K,0,none⟩),.int .i64 0])∧Zq7 B w' K C L D d most stale (es.take k) (n+5) l' d' te kk Ls)∧Kfr B w w':=by
 have hok:=h.ok
 have hbd:=h.bd
 have hnums:=hok.nums
 have hll:=hok.list_len
 obtain⟨rs,hrs⟩:∃ rs,rs=es.map LogE.bytes:=⟨_,rfl⟩
 have hrl:rs.length=es.length:=by rw[hrs,List.length_map]
 rw[←hrs] at hok hbd hll
 have hfit:ZaT ⟨l.block.gen+1,l.block.epoch+1,l.block.first,l.block.from',l.block.first+(rs.length:Int)⟩=true:=by
  have a1:=(Zbv (n:=l.block.gen+1) (by omega) (by have:=hbd.gen;omega)).1
  have a2:=(Zbv (n:=l.block.epoch+1) (by omega) (by have:=hbd.epoch;omega)).1
  have a3:=(Zbv (n:=l.block.first) (by omega) (by have:=hbd.first;omega)).1
  have a4:=(Zbv (n:=l.block.from') (by omega) (by have:=hbd.fin;omega)).1
  have a5:=(Zbv (n:=l.block.first+(rs.length:Int)) (by omega) (by have:=hbd.first;omega)).1
  simp only[ZaT,a1,a2,a3,a4,a5,Bool.and_true]
 obtain⟨hld,k,hk1,hk2,hk3,hnx,hsb,hnf,hsn,hs2,hsu,hokn⟩:=hok.crash m tn hfit (Zbv (n:=l.block.epoch+1) (by omega) (by have:=hbd.epoch;omega)).2
 have hcal:=ZhH d m tn
 have hcl:=Zi1 d m tn
 obtain⟨dc,hdc⟩:∃ dc,dc=ZaN d m tn:=⟨_,rfl⟩
 rw[←hdc] at hd hld hnx hsb hnf hsn hs2 hsu hokn hcal hcl
 obtain⟨sd,hsd⟩:∃ sd,sd=(ZbH dc (Zb3 dc l.block)).1:=⟨_,rfl⟩
 obtain⟨l',hl'⟩:∃ l',{Zdy dc l.block with block:=Zb3 dc l.block}=l':=⟨_,rfl⟩
 have hsl:sd.sure.length=dc.sure.length:=by rw[hsd];exact(Zfy hcal (by have:=hok.n4;omega) hnf hsn).2.len
 rw[←hsd] at hsu hokn
 rw[hl'] at hokn
 have hbl:l'.block=Zb3 dc l.block:=by rw[←hl']
 have hbd':LogBd sd l' (rs.take k) (n+5):=by
  obtain⟨f,ep,hB⟩:=hok.body
  obtain⟨f',ep',hB'⟩:=hokn.body
  have e1:=hB.frm
  have e2:=hB'.frm
  have e3:l'.block.from'=l.block.from':=by rw[hbl];rfl
  have e4:f'=f:=by omega
  have e5:=Zgw f rs hk2
  rw[Ze5] at e5
  have htl:(rs.take k).length=k:=by rw[List.length_take];omega
  refine⟨?_,?_,?_,?_,by rw[hsu];exact Nat.zero_le _⟩
  ·rw[hbl];show l.block.gen+1≤_;have:=hbd.gen;omega
  ·rw[hbl];show l.block.epoch+1≤_;have:=hbd.epoch;omega
  ·rw[hbl,htl];show l.block.first+_≤_;have:=hbd.first;omega
  ·rw[hB'.fin,e4]
   have e6:=hB.fin
   have e7:=hbd.fin
   show plN f rs k≤_
   omega
 have htk:(es.take k).map LogE.bytes=rs.take k:=by rw[hrs,List.map_take]
 have hetk:∀ e∈es.take k,e.ok:=fun e he=>h.es e (List.mem_of_mem_take he)
 have hkl:(es.take k).length=k:=by rw[List.length_take];omega
 have hko:=Znv w D B dc hd (by rw[hcl];exact hok.n4) hcal.dn l.block hld hok.fits hok.ep1 hok.cnt.1 (by rw[hnx];have:=hok.cnt;omega) hnf (by have:=hbd.fin;omega) sd (by rw[hsd,←hs2]) l' hl' (rs.take k) k (n+5) hokn hbd' (by omega) hsl
  most stale h1 h2 hs (ZpX B ((dc.sure.length:Int)-2) most stale (es.take k)) (fun K C L W hb hB hc=>⟨0,0,[],hb,hB,hc,rfl,Nat.le_refl _,Int.le_refl _⟩) (fun i K C L W W' hP ho=>by
   obtain⟨te,kk,Ls,a,b,c,d,e⟩:=hP
   exact⟨te,kk,Ls,ho.blk a (by decide),b,c.only ho (by decide) (by decide) (by decide),d,e⟩) (fun i hi=>by
   have hz:=ZqZ (B:=B) (pl:=(dc.sure.length:Int)-2) (most:=most) (stale:=stale) h1 h2 hetk (by omega) i (by rw[htk];exact hi)
   simp only[htk] at hz
   exact hz)
 refine hko.mono ?_
 rintro e w' ⟨⟨K,C,L,rfl,hP,hl1⟩,hd1,hf1⟩
 rw[List.length_take,Nat.min_eq_left hk2] at hP
 obtain⟨te,kk,Ls,a,b,c,q,r,s⟩:=hP
 rw[List.take_take,Nat.min_self] at a q s
 rw[hcl] at a
 refine⟨⟨k,hk1,by omega,fun hu=>by rw[←hrl];exact hk3 hu,K,C,L,l',sd,te,kk,Ls,rfl,a,b,hl1,hd1,c,by omega,q,s,⟨?_,?_,hetk⟩,hsu,by rw[hsl,hcl]⟩,hf1⟩
 ·rw[htk,hkl];exact hokn
 ·rw[htk];exact hbd'
theorem Zg2 (w:World) (S:Nat→Prop) (h:ZaU) (f:Zas) (hf:IsFact S w h f) (hB:Zbl f=true) (hk1:f.kind=1):
  Calls Tryz.prog 37 #[.agg (Zaj h f)] w fun e w'=>e= .returned (.bool (Zbl f))∧Below w.heap.size w w':=by
 rw[hB]
 rw[Zbl,if_pos hk1] at hB
 simp only[Zie,ZqL,Zae2,Zde] at hB
 obtain⟨⟨hn,hr1,hr2,hg,ht1,ht2⟩,hty,hs1,hs2,hds,hz0,hso⟩:=hB
 have hls:=hf.set.hlen
 have hlz:=hf.zone.len
 have hsl:=hf.set.hle
 have hdl:=hf.soa.len
 simp only[Zir,Zde,hdl.bytes,hdl.host,hdl.mail,hdl.nums,hdl.texts] at hso
 have hb1:Below w.heap.size w (w.alloc (.cells (Zaj h f) 37)):=Zbr.alloc Zlr _
 have hA:Blk (w.alloc (.cells (Zaj h f) 37)) w.heap.size (Zaj h f) 37:=Zha w _
 have hnm:=ZfT _ _ _ _ _ (hf.on hb1).name
 rw[hn] at hnm
 have hti:=fun w'=>Zoc f.got w'
 rw[hg] at hti
 have hto:=fun w'=>Zmk w' f.typ
 rw[hty] at hto
 have HC:=Zhd (Zan hnm (Zan hti hto))
 have HF:=Zhd (Zan (hf.on hb1) (Zan hds hls))
 have q1:decide (f.rank<1)=false:=Zdf (by omega)
 have q2:decide (4<f.rank)=false:=Zdf (by omega)
 have q3:decide (f.ttl<0)=false:=Zdf (by omega)
 have q4:decide (604800<f.ttl)=false:=Zdf (by omega)
 have q5:(f.kind==1)=true:=by rw[hk1];rfl
 obtain⟨na,nl,nc,sa,sl,sc,za,zl,zc,⟨ba,bl,bc,ha,hl,hc,ma,ml,mc,xa,xl,xc,ta,tl,tc⟩⟩:=h
 simp only at hls hlz hsl hso
 have e1:zl=0:=by omega
 have e2:bl=0∧hl=0∧ml=0∧xl=0∧tl=0:=by omega
 obtain⟨e2,e3,e4,e5,e6⟩:=e2
 subst e1 e2 e3 e4 e5 e6
 have q6:decide ((sl:Int)<1)=false:=Zdf (by omega)
 have q7:decide ((64:Int)<(sl:Int))=false:=Zdf (by omega)
 have HA:=Zhd (Zan hA hb1)
 have hsb:sl≤64:=by omega
 clear hf hn hr1 hr2 hg ht1 ht2 hty hs1 hs2 hds hz0 hso hls hlz hdl hb1 hA hnm hti hto hk1
 simp only[Zaj] at HC HA HF
 go_enter Tryz.func37,Tryz.ntmps37
 simp only[Zaj]
 go_wp2_with (first
  |(go_at_call 74;refine(HC.out.2.2 _).mono ?_;rintro e w' ⟨rfl,rfl⟩)
  |(go_at_call 73;refine(HC.out.2.1 _).mono ?_;rintro e w' ⟨rfl,rfl⟩)
  |(go_at_call 72;refine HC.out.1.mono ?_;rintro e w' ⟨rfl,rfl⟩))
 obtain⟨W0,hW0⟩:∃ W0,W0=w.alloc (.cells #[.slice na nl nc,.int .i64 f.typ,.int .i64 f.kind,.int .i64 f.rank,.int .i64 f.got,.int .i64 f.ttl,.slice sa sl sc,.slice za 0 zc,.slice ba 0 bc,.slice ha 0 hc,.slice ma 0 mc,.slice xa 0 xc,.slice ta 0 tc] 37):=⟨_,rfl⟩
 rw[←hW0] at HA HF⊢
 obtain⟨W1,hW1⟩:∃ W1,W1=W0.alloc (.cells #[.slice ba 0 bc,.slice ha 0 hc,.slice ma 0 mc,.slice xa 0 xc,.slice ta 0 tc] 35):=⟨_,rfl⟩
 rw[←hW1]
 have hb01:Below W0.heap.size W0 W1:=by rw[hW1];exact Zbr.alloc Zlr _
 obtain⟨X,hX⟩:∃ X,X=w.heap.size:=⟨_,rfl⟩
 have HI:Hid (Blk W1 X #[.slice na nl nc,.int .i64 f.typ,.int .i64 f.kind,.int .i64 f.rank,.int .i64 f.got,.int .i64 f.ttl,.slice sa sl sc,.slice za 0 zc,.slice ba 0 bc,.slice ha 0 hc,.slice ma 0 mc,.slice xa 0 xc,.slice ta 0 tc] 37∧Below w.heap.size w W1∧Below W0.heap.size W0 W1):=Zhd ⟨by rw[hX];exact HA.out.1.on hb01,Zaa HA.out.2 hb01 Zlr,hb01⟩
 rw[←hX]
 clear hW0 hW1 hb01 hX HA HC
 go_loopw [4] (fun i wr=>∃ j:Nat,j≤sl∧i= .int .i64 (j:Int)∧Hid (Blk wr X #[.slice na nl nc,.int .i64 f.typ,.int .i64 f.kind,.int .i64 f.rank,.int .i64 f.got,.int .i64 f.ttl,.slice sa sl sc,.slice za 0 zc,.slice ba 0 bc,.slice ha 0 hc,.slice ma 0 mc,.slice xa 0 xc,.slice ta 0 tc] 37∧Below w.heap.size w wr∧Below W0.heap.size W0 wr∧Zbc f.typ (f.set.take j) (f.set.drop j)=true)) (fun i _=>sl-(intOf i).toNat)
 case atStart=>exact⟨0,Nat.zero_le _,rfl,Zhd ⟨HI.out.1,HI.out.2.1,HI.out.2.2,HF.out.2.1⟩⟩
 case round=>
  obtain⟨j,hj,rfl,hinv⟩:=hrel
  have m6:wr.cell? ⟨X,6,none⟩=some (.slice sa sl sc):=hinv.out.1.cell 6
  by_cases hlt:j<sl
  ·obtain⟨b,off,rfl⟩:∃ b off,sa=some ⟨b,off,none⟩:=HF.out.1.set.addr hlt
   have hjl:j<f.set.length:=by rw[HF.out.2.2];exact hlt
   have hds:=hinv.out.2.2.2
   rw[ZgH hjl] at hds
   simp only[Zae2,Bool.not_eq_true'] at hds
   have hbd:=Below.drew (Below.refl wr.heap.size wr)
   have hbx:=Zaa hinv.out.2.2.1 hbd Zlr
   have hset:=HF.out.1.set.on hbx
   obtain⟨d0,hc,ho,-⟩:=ZcL (hset.at hlt)
   obtain⟨o,hox⟩:∃ o,o=f.set[j]:=⟨_,rfl⟩
   rw[←hox] at ho hds
   have hA:=hinv.out.1.on hbd
   have D0:Hid (wr.drew.cell? ⟨X,1,none⟩=some (.int .i64 f.typ)∧wr.drew.cell? ⟨X,6,none⟩=some (.slice (some ⟨b,off,none⟩) sl sc)∧wr.drew.cell? ⟨b,off+j*5,none⟩=some (.slice d0.ba d0.bl d0.bc)∧wr.drew.cell? ⟨b,off+j*5+1,none⟩=some (.slice d0.ha d0.hl d0.hc)∧wr.drew.cell? ⟨b,off+j*5+2,none⟩=some (.slice d0.ma d0.ml d0.mc)∧wr.drew.cell? ⟨b,off+j*5+3,none⟩=some (.slice d0.na d0.nl d0.nc)∧wr.drew.cell? ⟨b,off+j*5+4,none⟩=some (.slice d0.ta d0.tl d0.tc)):=Zhd ⟨hA.cell 1,hA.cell 6,hc 0 (by omega),hc 1 (by omega),hc 2 (by omega),hc 3 (by omega),hc 4 (by omega)⟩
   have hDV:∀ V,Below wr.drew.heap.size wr.drew V→(V.cell? ⟨X,1,none⟩=some (.int .i64 f.typ)∧V.cell? ⟨X,6,none⟩=some (.slice (some ⟨b,off,none⟩) sl sc)∧V.cell? ⟨b,off+j*5,none⟩=some (.slice d0.ba d0.bl d0.bc)∧V.cell? ⟨b,off+j*5+1,none⟩=some (.slice d0.ha d0.hl d0.hc)∧V.cell? ⟨b,off+j*5+2,none⟩=some (.slice d0.ma d0.ml d0.mc)∧V.cell? ⟨b,off+j*5+3,none⟩=some (.slice d0.na d0.nl d0.nc)∧V.cell? ⟨b,off+j*5+4,none⟩=some (.slice d0.ta d0.tl d0.tc)):=fun V hb=>⟨(hA.on hb).cell 1,(hA.on hb).cell 6,Zab hb D0.out.2.2.1,Zab hb D0.out.2.2.2.1,Zab hb D0.out.2.2.2.2.1,Zab hb D0.out.2.2.2.2.2.1,Zab hb D0.out.2.2.2.2.2.2⟩
   have HDV:=Zhd hDV
   have hd1:=fun w' (p:IsData w' d0 o)=>Zn4 w' f.typ d0 o p
   rw[hds.1] at hd1
   have hd2:=fun w' (p:Ze9 S w' (some ⟨b,off,none⟩) j sc (f.set.take j)) (q:IsData w' d0 o)=>Zkv w' S _ _ _ _ p d0 o q
   rw[hds.2.1] at hd2
   have HD:=Zhd (Zan hd1 (Zan hd2 (Zan ho (Zan (hset.take (k:=j) (by omega)) (Zan hA (Zan hc hbd))))))
   have hN:=Zhd (Zan hinv.out.2.1 (Zan hinv.out.2.2.1 hds.2.2))
   have hj0:(0:Int)≤(j:Int):=by omega
   have hj1:(j:Int)<(sl:Int):=by omega
   have hj2: ¬((j:Int)<0):=by omega
   have hj3:IntKind.i64.wrap (j:Int)=(j:Int):=IntWalk.i64_in _ (by omega)
   have hj4:(j:Int)≤(sc:Int):=by omega
   have hjc:j≤sc:=by omega
   clear hinv hjl hds hbd hbx hset hc ho hox hA hd1 hd2 hDV
   go_wp2_with fail
   go_region_held3 (fun w'=>w'.cell? ⟨X,1,none⟩=some (.int .i64 f.typ)∧w'.cell? ⟨X,6,none⟩=some (.slice (some ⟨b,off,none⟩) sl sc)∧w'.cell? ⟨b,off+j*5,none⟩=some (.slice d0.ba d0.bl d0.bc)∧w'.cell? ⟨b,off+j*5+1,none⟩=some (.slice d0.ha d0.hl d0.hc)∧w'.cell? ⟨b,off+j*5+2,none⟩=some (.slice d0.ma d0.ml d0.mc)∧w'.cell? ⟨b,off+j*5+3,none⟩=some (.slice d0.na d0.nl d0.nc)∧w'.cell? ⟨b,off+j*5+4,none⟩=some (.slice d0.ta d0.tl d0.tc))
    (first|exact D0.out|exact DA.out|exact DB.out|go_keep)
    (first
     |(go_at_call 76;refine(HD.out.2.1 VA (HD.out.2.2.2.1.on HA.out) (HD.out.2.2.1.on HA.out)).mono ?_;rintro e VB ⟨rfl,hbb⟩;have HB:=Zhd (Zaa HA.out hbb Zlr);have DB:=Zhd (HDV.out VB HB.out);clear hbb)
     |(go_at_call 75;refine(HD.out.1 _ HD.out.2.2.1).mono ?_;rintro e VA ⟨rfl,hba⟩;have HA:=Zhd hba;have DA:=Zhd (HDV.out VA hba);clear hba))
   all_goals
    go_split_ands
    go_wp2_with fail
    go_roundw
    case measure=>simp[intOf];omega
    case rel=>
     have hb:=HD.out.2.2.2.2.2.2
     have hb2:=Zaa hb HB.out Zlr
     exact⟨j+1,hlt,by simp,Zhd ⟨HD.out.2.2.2.2.1.on HB.out,Zaa hN.out.1 hb2 Zlr,Zaa hN.out.2.1 hb2 Zlr,hN.out.2.2⟩⟩
  ·obtain rfl:j=sl:=by omega
   have hjj:decide ((j:Int)<(j:Int))=false:=by simp
   go_wp2_with fail
   go_ret
   exact⟨rfl,hinv.out.2.1⟩
theorem Zoa (w:World) (S R:Nat→Prop) (h k:ZaU) (f:Zas) (hf:IsFact S w h f) (hg:IsFact R w k f) (hB:Zbl f=true) (hk:f.kind=1):
  Calls Tryz.prog 15 #[.agg (Zaj h f),.agg (Zaj k f)] w fun e w'=>e= .returned (.bool true)∧Below w.heap.size w w':=by
 have:=ZjD w S R h k f f hf hg (fun w' p=>Zg2 w' S h f p hB hk) (fun w' p=>Zg2 w' R k f p hB hk)
 rwa [Zml hB] at this
theorem ZoR (w:World) (z:Int):(convert 22 9 (.slice (some ⟨w.heap.size,0,none⟩) 1 1)).run Tryz.prog (w.alloc (.cells #[.int .u8 z] 5))= .ok (.string ⟨#[UInt8.ofNat z.toNat]⟩) (w.alloc (.cells #[.int .u8 z] 5)):=by
 have hb:Blk (w.alloc (.cells #[.int .u8 z] 5)) w.heap.size #[.int .u8 z] 5:=Zha w _
 have:=run_convert_bytes_arg (P:=Tryz.prog) (w.alloc (.cells #[.int .u8 z] 5)) 22 5 Tryz.underlying22 Tryz.underlying5 w.heap.size 0 1 1 [z] rfl (fun i hi=>by
  obtain rfl:i=0:=by omega
  exact hb.cell 0) 9 Tryz.underlying9
 rw[this]
 simp[strOfNums]
theorem ZmT:Zqj (Zdv 20) ⟨b0,[],0,false⟩ [] 0 1 [] 0:=by
 have hok:=ZmU (n:=20) (by decide) (by decide)
 have hr:=hok.room
 have hlen:(Zdv 20).sure.length=20:=by simp[Zdv]
 have hrn:Zay (Zdv 20)=18:=by unfold Zay;rw[hlen]
 have hs0:ZeQ []=0:=rfl
 exact⟨⟨hok,ZmS 20,fun e he=>absurd he List.not_mem_nil⟩,rfl,List.Pairwise.nil,by decide,fun f hf=>absurd hf List.not_mem_nil,by decide,hlen,by omega⟩
theorem ZlU {f:Zas} (h:Zbl f=true):ZaG f.name=true:=by
 simp only[Zbl,Zie,Zae2] at h
 exact h.1.1
theorem Zqs {B C k:Nat} {w:World} {most stale:Int} {Ls:List ZaP} (h:IsCache B w C most stale k Ls) {f:Zas} (hf:f∈Zbi Ls):∃ s,atL Ls (Zax f)=some s∧s.f=f:=by
 obtain⟨s,hs,rfl⟩:=List.mem_map.1 hf
 cases ha:atL Ls (Zax s.f) with
 |none=>exact absurd rfl (ZkJ ha s hs)
 |some t=>
  obtain⟨ht,hk⟩:=ZfG ha
  refine⟨t,rfl,?_⟩
  obtain⟨i,hi,hi2⟩:=List.mem_iff_getElem.1 hs
  obtain⟨j,hj,hj2⟩:=List.mem_iff_getElem.1 ht
  rcases Nat.lt_trichotomy i j with h1|h1|h1
  ·exact absurd (by rw[hi2,hj2];exact hk.symm) (List.pairwise_iff_getElem.1 h.keys i j hi hj h1)
  ·subst h1;rw[←hj2,←hi2]
  ·exact absurd (by rw[hi2,hj2];exact hk) (List.pairwise_iff_getElem.1 h.keys j i hj hi h1)
theorem Zrt {w:World} {h:ZaU} {x b:UInt8} {S:Nat→Prop} {i:Int} (hi:wfi i) (hf:IsFact S w h (adF [⟨#[x]⟩] b)):IsFact S w h (Zb2 x b i):=
 ⟨hf.name,hf.nameIn,hf.typ,hf.kind,hf.rank,hi,hf.ttl,hf.set,hf.zone,hf.zoneIn,hf.soa,hf.soaIn⟩
theorem Zpb (w:World) (K C L:Nat) (pl kn told:Int) (mem dn:Bool) (hK:Blk w K (ZaQ C L pl kn told mem dn) 62):
  Calls Tryz.prog 10 #[.pointer (some ⟨K,0,none⟩)] w fun e w'=>e= .returned (.bool mem)∧w'=w:=by
 have c5:w.cell? ⟨K,5,none⟩=some (.bool mem):=hK.cell 5
 clear hK
 go_enter Tryz.func10,Tryz.ntmps10
 go_wp2_with fail
 go_ret
 exact⟨rfl,rfl⟩
theorem LongSt.on {B:Nat} {w w':World} {K C L D:Nat} {l:ZaZ} {d:Zaz} {no te:Int} {kk:Nat} {Ls:List ZaP} {n:Nat} (h:LongSt B w K C L D l d no te kk Ls n) (hb:Below w.heap.size w w'):LongSt B w' K C L D l d no te kk Ls n:=
 ⟨h.blk.on hb,h.base,h.log.on hb,h.dev.on hb,h.ca.on hb,h.pl,h.told⟩
structure LgSt (w wr:World) (K D:Nat) (j:Nat) (no:Int):Prop where
 bel:Below w.heap.size w wr
 st:∃ C L l d te kk Ls,LongSt w.heap.size wr K C L D l d no te kk Ls (1+700*j)∧d.unsure=[]∧kk≤j∧(1≤j→∃ G f,Zbi Ls=G++[f])
theorem Zru (w:World) (tm:Int) (htm:0≤tm∧tm≤255) (ao:Option Addr) (nl nc:Nat) (zs:List Int) (hz:Row w ao nl nc (zs.map (Value.int .u8))) (hzb:∀ z∈zs,0≤z∧z≤255):
  Calls Tryz.prog 3 #[.int .u8 tm,.slice ao nl nc] w fun e w'=>e= .returned (.bool true)∧Below w.heap.size w w':=by
 have HN:=Zhd (ZkO w 20 (by decide) (by decide))
 have hl:=hz.hlen
 have hle:=hz.hle
 have hcp:=hz.hcap
 have hmx:=hz.hmax
 have HZ:=Zhd (Zan hz (Zan hl hzb))
 clear hz hl hzb
 by_cases h0:nl=0
 ·subst h0
  go_enter Tryz.func3,Tryz.ntmps3
  go_wp2_with (first
   |(go_at_call 6;refine(ZdM W3).mono ?_;rintro e W4 ⟨rfl,hb4⟩;have H4:=Zhd hb4;clear hb4)
   |(go_at_call 6;refine(ZdM W2).mono ?_;rintro e W3 ⟨rfl,hb3⟩;have H3:=Zhd hb3;clear hb3)
   |(go_at_call 5;refine(ZgP W1 D 20 w.heap.size (by decide) H1.out.1 4 0 (by decide) (by decide) (by decide)).mono ?_;rintro e W2 ⟨⟨K,C,L,rfl,-⟩,-,ho2⟩;have H2:=Zhd (H1.out.2.trans ho2.bel);clear ho2)
   |(go_at_call 4;refine HN.out.mono ?_;rintro e W1 ⟨⟨D,rfl,hd⟩,hb1⟩;have H1:=Zhd (Zan hd hb1);clear hd hb1))
  go_ret
  exact⟨rfl,Zaa (Zaa H2.out H3.out Zlr) H4.out Zlr⟩
 have hnl:((nl:Int)==0)=false:=by simpa using h0
 obtain⟨N,hN⟩:∃ N:Nat,(N:Int)=tm+20:=⟨(tm+20).toNat,by omega⟩
 have hNb:20≤N∧N≤275:=by omega
 go_enter Tryz.func3,Tryz.ntmps3
 go_wp2_with (first
  |(go_at_call 6;refine(ZdM W2).mono ?_;rintro e W3 ⟨rfl,hb3⟩;have H3:=Zhd hb3;clear hb3)
  |(go_at_call 5;refine(ZgP W1 D 20 w.heap.size (by decide) H1.out.1 4 0 (by decide) (by decide) (by decide)).mono ?_;rintro e W2 ⟨⟨K,C,L,rfl,hk2,hK2,hc2,hl2⟩,hd2,ho2⟩;have H2:=Zhd (show Blk W2 K (ZaQ C L ((20:Nat)-2) 0 0 false false) 62∧w.heap.size≤K∧IsLog w.heap.size W2 L D _∧IsDev w.heap.size W2 D _∧IsCache w.heap.size W2 C 4 0 0 []∧Below w.heap.size w W2 from⟨hk2,by have:=H1.out.2.size;omega,hl2.mono H1.out.2.size,hd2,ZgF hc2 H1.out.2.size,H1.out.2.trans ho2.bel⟩);clear hk2 hK2 hc2 hl2 hd2 ho2)
  |(go_at_call 4;refine HN.out.mono ?_;rintro e W1 ⟨⟨D,rfl,hd⟩,hb1⟩;have H1:=Zhd (Zan hd hb1);clear hd hb1))
 have HT:Hid (LgSt w W3 K D 0 0):=Zhd ⟨Zaa H2.out.2.2.2.2.2 H3.out Zlr,C,L,_,_,0,0,[],⟨by have:=H2.out.1.on H3.out;exact this,H2.out.2.1,H2.out.2.2.1.on H3.out,H2.out.2.2.2.1.on H3.out,H2.out.2.2.2.2.1.on H3.out,⟨[],0,ZmT⟩,Int.le_refl _⟩,rfl,Nat.le_refl _,fun h=>absurd h (by decide)⟩
 clear H1 H2 H3 HN
 go_loopw [9,10] (fun i p wr=>∃ (j:Nat) (no:Int),j≤N∧i= .int .i64 (j:Int)∧no≤(j:Int)∧Hid (LgSt w wr K D j no)) (fun i _ _=>N-(intOf i).toNat)
 case atStart=>exact⟨0,0,by omega,rfl,by omega,HT⟩
 case round=>
  obtain⟨j,no,hj,rfl,hno,hinv⟩:=hrel
  by_cases h1:j<N
  ·obtain⟨C2,L2,l,d,te,kk,Ls,hst,hun,hkk,hex⟩:=hinv.out.st
   have HB:=Zhd hinv.out.bel
   obtain⟨q,hq⟩:∃ q:Nat,q=j%nl:=⟨_,rfl⟩
   have hql:q<nl:=by rw[hq];exact Nat.mod_lt _ (by omega)
   have hmod:(j:Int)%(nl:Int)=(q:Int):=by rw[hq];rfl
   have htmod:(j:Int).tmod (nl:Int)=(q:Int):=by rw[Int.tmod_eq_emod_of_nonneg (by omega)];exact hmod
   obtain⟨b0,off,rfl⟩:=HZ.out.1.addr hql
   obtain⟨z,hzz⟩:∃ z,z=zs[q]'(by have:=HZ.out.2.1;simp at this;omega):=⟨_,rfl⟩
   have hzr:=HZ.out.2.2 z (by rw[hzz];exact List.getElem_mem _)
   have hmz:wr.cell? ⟨b0,off+q,none⟩=some (.int .u8 z):=by
    rw[Zab HB.out (HZ.out.1.at hql),hzz];simp
   have hone:(convert 22 9 (.slice (some ⟨wr.heap.size,0,none⟩) 1 1)).run Tryz.prog (wr.alloc (.cells #[.int .u8 (97+z%26)] 5))= .ok (.string ⟨#[UInt8.ofNat (97+z%26).toNat]⟩) (wr.alloc (.cells #[.int .u8 (97+z%26)] 5)):=ZoR wr (97+z%26)
   obtain⟨cc,hcc⟩:∃ c:UInt8,c=UInt8.ofNat (97+z%26).toNat:=⟨_,rfl⟩
   rw[←hcc] at hone
   obtain⟨bb,hbb⟩:∃ b:UInt8,b=UInt8.ofNat j:=⟨_,rfl⟩
   have hby:IntKind.u8.wrap (j:Int)=(bb.toNat:Int):=by
    rw[hbb]
    simp[IntKind.wrap,show IntKind.u8.signed=false from rfl,show IntKind.u8.bits=8 from rfl]
   have h2:=ZiO wr #[.int .u8 (97+z%26)] #[.string ⟨#[cc]⟩] 5 9
   have H2:=Zhd h2
   have HS:=Zhd (Zan hst (Zan hun hkk))
   have HJ:=Zhd (Zan hno (show Za6 (j:Int)=true by simp[Za6];omega))
   clear hinv hst hun hkk hex hzz hcc hbb h2 hq
   go_wp2_with (first
    |(go_at_call 10;refine(Zpb W7 K C2 L2 18 _ _ false false H7.out.1.blk).mono ?_;rintro e W8 ⟨rfl,rfl⟩)
    |(go_at_call 9;refine(ZnI W6 w.heap.size K C2 L2 D l6 d6 te6 _ Ls6 _ (j:Int) H6.out.1 (by omega) (by have:=HS.out.2.2;omega)).mono ?_;rintro e W7 ⟨rfl,⟨l7,d7,te7,hs7,hu7⟩,ho7⟩;have H7:=Zhd (Zan hs7 (Zan hu7 ho7));clear hs7 hu7 ho7)
    |(go_at_call 8;go_loud (have hal:=(Below.refl W5.heap.size W5).alloc Zlr (.cells (Zaj h (Zb2 cc bb (j:Int))) 37);refine(Zpm (W5.alloc (.cells (Zaj h (Zb2 cc bb (j:Int))) 37)) w.heap.size K C2 L2 D l d no te kk Ls _ ((HS.out.1.on H5.out.2).on hal) (by omega) (by have:=HS.out.2.2;omega) h cc bb (j:Int) HJ.out.2 HJ.out.1 ((Zrt (show wfi (j:Int) by unfold wfi;omega) H5.out.1).step (Same.below hal _))).mono ?_;rintro e W6 ⟨rfl,⟨l6,d6,te6,Ls6,hs6,G,hG⟩,hf6⟩;have H6:=Zhd (Zan hs6 (Zan (show ∃ G f,Zbi Ls6=G++[f] from⟨G,_,hG⟩) ((Zaa HB.out H5.out.2 Zlr).trans ((hal.mono (Nat.le_trans HB.out.size H5.out.2.size)).trans hf6.bel))));clear hs6 hG hf6 hal))
    |(go_at_call 7;have hst:=Zls H2.out.2.1 (by show(1:Nat)≤_;decide);refine(ZgE _ (some ⟨wr.heap.size+1,0,none⟩) 1 1 [⟨#[cc]⟩] hst.1 hst.2 bb).mono ?_;rintro e W5 ⟨⟨h,rfl,hf5⟩,hb5⟩;simp only[Zaj,adF];have H5:=Zhd (Zan hf5 (Zaa H2.out.2.2 hb5 Zlr));clear hst hf5 hb5))
   go_roundw
   case measure=>simp[intOf];omega
   case rel=>
    refine⟨j+1,(j:Int),by omega,by simp,by omega,Zhd ⟨?_,C2,L2,l7,d7,te7,kk+1,Ls6,H7.out.1.mono (by omega),H7.out.2.1,by have:=HS.out.2.2;omega,fun _=>H6.out.2.1⟩⟩
    exact H6.out.2.2.trans H7.out.2.2.bel
  ·obtain rfl:j=N:=by omega
   obtain⟨C2,L2,l,d,te,kk,Ls,hst,hun,hkk,hex⟩:=hinv.out.st
   obtain⟨G,f,hGf⟩:=hex (by omega)
   obtain⟨es,sy,hp⟩:=hst.pl
   have hfl:(Zbi Ls).length=Ls.length:=ZcM Ls
   obtain⟨k,hk⟩:∃ k,k=G.length:=⟨_,rfl⟩
   obtain⟨m,hm⟩:∃ m,m=Ls.length:=⟨_,rfl⟩
   have hLk:m=k+1:=by rw[hm,←hfl,hGf,Zla,List.length_singleton,hk]
   have hm4:m≤4:=by have:=hp.few;omega
   have hkm:(m:Int)-1=(k:Int):=by omega
   have hkm2:k<m:=by omega
   have hkm3:(0:Int)≤(k:Int):=by omega
   have hkm4:(k:Int)<(m:Int):=by omega
   have hkm5:IntKind.i64.wrap (k:Int)=(k:Int):=IntWalk.i64_in _ (by omega)
   have hkm6: ¬((k:Int)<0):=by omega
   have hkm7:(k:Int)≤100000:=by omega
   have HS:=Zhd (Zan hst (Zan hun (Zan hkk hp)))
   have HG:=Zhd (Zan hGf (Zan hk (Zan hm.symm hLk)))
   have HB:=Zhd hinv.out.bel
   clear hinv hst hun hkk hex hGf hp hk hfl hm hLk
   have HX:=Zhd True.intro
   go_upto_region 18 with(first
    |(go_at_call 11;refine(ZfO W7 K7 C7 L7 _ _ te7 false false H7.out.1.blk w.heap.size 4 0 kk7 Ls7 H7.out.1.ca (by have:=H7.out.1.facts;have h3:=ZcM Ls7;rw[this,←HS.out.2.2.2.rep,HG.out.1] at h3;simp at h3;have:=HG.out.2.1;have:=HG.out.2.2.2;omega)).mono ?_;rintro e W8 ⟨⟨D8,g8,rfl,hg8,hc8⟩,hb8⟩;have H8:=Zhd (Zan hg8 (Zan hc8 hb8));clear hg8 hc8 hb8)
    |(go_at_call 5;refine(Zn9 W6 w.heap.size D l d 0 0 es sy _ H6.out.1 HS.out.2.2.2.lr (by omega) 4 0 (by decide) (by decide) (by decide)).mono ?_;rintro e W7 ⟨⟨k7,-,-,hk7,K7,C7,L7,l7,d7,te7,kk7,Ls7,rfl,ho7⟩,hf7⟩;rw[hk7 HS.out.2.1,List.take_length] at ho7;have H7:=Zhd (Zan ho7 hf7);clear hk7 ho7 hf7)
    |(go_at_call 13;refine(ZlK W5 w.heap.size D d (HS.out.1.dev.on H5.out.2) 0 0 (by decide) (by decide)).mono ?_;rintro e W6 ⟨rfl,hd6,ho6⟩;have H6:=Zhd (Zan hd6 ho6);clear hd6 ho6)
    |(go_at_call 12;refine(ZmJ W4 _ D2 4 0 kk (Ls.map g2) H4.out.2.1 (by have:=HS.out.2.2.1;omega) (by rw[List.length_map];have:=HG.out.2.2.1;omega)).mono ?_;rintro e W5 ⟨⟨ao5,c5,rfl,hs5,-⟩,hb5⟩;rw[List.length_map,HG.out.2.2.1] at hs5⊢;have H5:=Zhd (Zan hs5 (Zaa H4.out.2.2 hb5 Zlr));clear hs5 hb5)
    |(go_at_call 11;have hq17:=HX;refine(ZfO wr K C2 L2 18 no te false false HS.out.1.blk w.heap.size 4 0 kk Ls HS.out.1.ca (by have:=HG.out.2.2.1;omega)).mono ?_;rintro e W4 ⟨⟨D2,g2,rfl,hg2,hc4⟩,hb4⟩;have H4:=Zhd (Zan hg2 (Zan hc4 hb4));clear hg2 hc4 hb4;clear HX hq17))
   have hs8:=((H5.out.1.step (H6.out.2.same (by decide))).step (ZcH H7.out.2.same (by decide))).step (Same.below H8.out.2.2 _)
   obtain⟨b5,off5,rfl⟩:=hs8.addr (k:=k) (by omega)
   have hel:((Ls.map g2).map (·.f))[k]?=some f:=by
    have e1:(Ls.map g2).map (·.f)=Zbi Ls:=by
     rw[Zbi,List.map_map]
     exact List.map_congr_left fun t ht=>(H4.out.1 t ht).1
    rw[e1,HG.out.1,HG.out.2.1]
    simp
   have hkl:k<((Ls.map g2).map (·.f)).length:=(List.getElem?_eq_some_iff.1 hel).1
   obtain⟨h5,hcs,hif⟩:∃ h5:ZaU,(∀ (j:Nat) (v:Value),(Zaj h5 f)[j]?=some v→W8.cell? ⟨b5,off5+k*13+j,none⟩=some v)∧IsFact (Zak (37::fT) W8) W8 h5 f:=by
    obtain⟨h,q1,q2⟩:=ZeA hs8 hkl
    rw[(List.getElem?_eq_some_iff.1 hel).2] at q1 q2
    exact⟨h,q1,q2⟩
   have hfs:∀ x∈Zbi Ls,∃ c b i,x=Zb2 c b i∧Za6 i=true:=by
    intro x hx
    obtain⟨c,b,i,e,h0,h1⟩:=HS.out.2.2.2.longs x hx
    have:=Zca HS.out.2.2.2.time
    exact⟨c,b,i,e,by simp[Za6];omega⟩
   have hff:Zbl f=true:=by
    obtain⟨c,b,i,rfl,hi⟩:=hfs f (by rw[HG.out.1];simp)
    exact Zfn c b hi
   have hnm:=ZaS (ZlU hff)
   have hft:f.typ=1:=by
    obtain⟨c,b,i,rfl,hi⟩:=hfs f (by rw[HG.out.1];simp)
    rfl
   have hc0:W8.cell? ⟨b5,off5+k*13,none⟩=some (.slice h5.na h5.nl h5.nc):=hcs 0 _ rfl
   have hkd:f.kind=1:=by
    obtain⟨c,b,i,rfl,hi⟩:=hfs f (by rw[HG.out.1];simp)
    rfl
   have HE:=Zhd (Zan hcs (Zan hif (Zan hff (Zan hnm hkd))))
   clear hkd
   obtain⟨s9,hs9,hs9f⟩:=Zqs H8.out.2.1 (f:=f) (by
    have e1:Zbi (Ls7.map g8)=Zbi Ls7:=by
     rw[Zbi,Zbi,List.map_map]
     exact List.map_congr_left fun t ht=>(H8.out.1 t ht).1
    rw[e1,H7.out.1.facts,←HS.out.2.2.2.rep,HG.out.1]
    simp)
   have hkf:Zax f=Zkn f.name 1:=by rw[Zax,hft]
   rw[hkf] at hs9
   have HL:Hid (Calls Tryz.prog 14 #[.pointer (some ⟨D8,0,none⟩),.slice h5.na h5.nl h5.nc,.int .i64 1] W8 fun e w'=>(∃ h,e= .returned (.tuple #[.agg (Zaj h f),.bool true])∧OwnF W8.heap.size w' h f)∧Below W8.heap.size W8 w'):=by
    refine Zhd ((Zpo W8 _ D8 4 0 kk7 (Ls7.map g8) H8.out.2.1 h5.na h5.nl h5.nc f.name 1 hif.name (by have:=hnm.1;omega)).mono ?_)
    rintro e w' ⟨⟨h,f9,b9,rfl,ho9,hb9,hf9⟩,hb⟩
    have e1:f9=f:=by
     rw[hf9,hs9,←hs9f]
     rfl
    have e2:b9=true:=by
     rw[hb9,hs9]
     rfl
    subst e1 e2
    exact⟨⟨h,rfl,ho9⟩,hb⟩
   have hln:(Ls7.map g8).length=m:=by
    have h3:=ZcM Ls7
    rw[H7.out.1.facts,←HS.out.2.2.2.rep,HG.out.1,Zla,List.length_singleton,←HG.out.2.1] at h3
    rw[List.length_map,←h3]
    have:=HG.out.2.2.2
    omega
   have HLN:=Zhd hln
   clear hs8 hel hkl hcs hif hff hnm hfs hs9 hs9f hkf hln hft
   go_upto_region 19 with(go_at_call 14;refine HL.out.mono ?_;rintro e W9 ⟨⟨h9,rfl,ho9⟩,hb9⟩;simp only[Zaj];have H9:=Zhd (Zan ho9 hb9);clear ho9 hb9)
   obtain⟨WX,hWX⟩:∃ WX,WX=W9.alloc (.cells (Zaj h9 f) 37):=⟨_,rfl⟩
   simp only[Zaj] at hWX
   rw[←hWX]
   have hX:Blk WX W9.heap.size (Zaj h9 f) 37:=by rw[hWX];exact Zha W9 _
   have hbX:Below W9.heap.size W9 WX:=by rw[hWX];exact Zbr.alloc Zlr _
   clear hWX
   have hbx:=Zaa H9.out.2 hbX Zlr
   have hbd:=Zaa hbx (Below.drew (Below.refl WX.heap.size WX)) Zlr
   obtain⟨Y,hY⟩:∃ Y,Y=W9.heap.size:=⟨_,rfl⟩
   rw[←hY] at hX⊢
   have hX2:=hX.on (Below.drew (Below.refl WX.heap.size WX))
   have hE2:∀ w',Below W8.heap.size W8 w'→∀ (j:Nat) (v:Value),(Zaj h5 f)[j]?=some v→w'.cell? ⟨b5,off5+k*13+j,none⟩=some v:=fun w' hb j v hv=>Zab hb (HE.out.1 j v hv)
   have HE2:=Zhd hE2
   have D0:Hid (WX.drew.cell? ⟨b5,off5+k*13,none⟩=some (.slice h5.na h5.nl h5.nc)∧WX.drew.cell? ⟨b5,off5+k*13+1,none⟩=some (.int .i64 f.typ)∧WX.drew.cell? ⟨b5,off5+k*13+2,none⟩=some (.int .i64 f.kind)∧WX.drew.cell? ⟨b5,off5+k*13+3,none⟩=some (.int .i64 f.rank)∧WX.drew.cell? ⟨b5,off5+k*13+4,none⟩=some (.int .i64 f.got)∧WX.drew.cell? ⟨b5,off5+k*13+5,none⟩=some (.int .i64 f.ttl)∧WX.drew.cell? ⟨b5,off5+k*13+6,none⟩=some (.slice h5.sa h5.sl h5.sc)∧WX.drew.cell? ⟨b5,off5+k*13+7,none⟩=some (.slice h5.za h5.zl h5.zc)∧WX.drew.cell? ⟨b5,off5+k*13+8,none⟩=some (.slice h5.d.ba h5.d.bl h5.d.bc)∧WX.drew.cell? ⟨b5,off5+k*13+9,none⟩=some (.slice h5.d.ha h5.d.hl h5.d.hc)∧WX.drew.cell? ⟨b5,off5+k*13+10,none⟩=some (.slice h5.d.ma h5.d.ml h5.d.mc)∧WX.drew.cell? ⟨b5,off5+k*13+11,none⟩=some (.slice h5.d.na h5.d.nl h5.d.nc)∧WX.drew.cell? ⟨b5,off5+k*13+12,none⟩=some (.slice h5.d.ta h5.d.tl h5.d.tc)∧WX.drew.cell? ⟨Y,0,none⟩=some (.slice h9.na h9.nl h9.nc)∧WX.drew.cell? ⟨Y,1,none⟩=some (.int .i64 f.typ)∧WX.drew.cell? ⟨Y,2,none⟩=some (.int .i64 f.kind)∧WX.drew.cell? ⟨Y,3,none⟩=some (.int .i64 f.rank)∧WX.drew.cell? ⟨Y,4,none⟩=some (.int .i64 f.got)∧WX.drew.cell? ⟨Y,5,none⟩=some (.int .i64 f.ttl)∧WX.drew.cell? ⟨Y,6,none⟩=some (.slice h9.sa h9.sl h9.sc)∧WX.drew.cell? ⟨Y,7,none⟩=some (.slice h9.za h9.zl h9.zc)∧WX.drew.cell? ⟨Y,8,none⟩=some (.slice h9.d.ba h9.d.bl h9.d.bc)∧WX.drew.cell? ⟨Y,9,none⟩=some (.slice h9.d.ha h9.d.hl h9.d.hc)∧WX.drew.cell? ⟨Y,10,none⟩=some (.slice h9.d.ma h9.d.ml h9.d.mc)∧WX.drew.cell? ⟨Y,11,none⟩=some (.slice h9.d.na h9.d.nl h9.d.nc)∧WX.drew.cell? ⟨Y,12,none⟩=some (.slice h9.d.ta h9.d.tl h9.d.tc)):=Zhd ⟨hE2 _ hbd 0 _ rfl,hE2 _ hbd 1 _ rfl,hE2 _ hbd 2 _ rfl,hE2 _ hbd 3 _ rfl,hE2 _ hbd 4 _ rfl,hE2 _ hbd 5 _ rfl,hE2 _ hbd 6 _ rfl,hE2 _ hbd 7 _ rfl,hE2 _ hbd 8 _ rfl,hE2 _ hbd 9 _ rfl,hE2 _ hbd 10 _ rfl,hE2 _ hbd 11 _ rfl,hE2 _ hbd 12 _ rfl,hX2.cell 0,hX2.cell 1,hX2.cell 2,hX2.cell 3,hX2.cell 4,hX2.cell 5,hX2.cell 6,hX2.cell 7,hX2.cell 8,hX2.cell 9,hX2.cell 10,hX2.cell 11,hX2.cell 12⟩
   have HIF:=Zhd (show IsFact (Zak (37::fT) WX.drew) WX.drew h5 f from Zht.step (x:=f) HE.out.2.1 (Same.below hbd _))
   have HI9:=Zhd (show IsFact (Zak fT WX.drew) WX.drew h9 f from Zht.step (x:=f) (H9.out.1.mono (fun b _ hb=>hb.1)) (Same.below (hbX.trans (Below.drew (Below.refl WX.heap.size WX) |>.mono hbX.size)) _))
   have HD:=Zhd (Zan hbd hX2)
   clear hX hbX hbx hbd hY hX2 hE2
   go_region_held3 (fun w'=>w'.cell? ⟨b5,off5+k*13,none⟩=some (.slice h5.na h5.nl h5.nc)∧w'.cell? ⟨b5,off5+k*13+1,none⟩=some (.int .i64 f.typ)∧w'.cell? ⟨b5,off5+k*13+2,none⟩=some (.int .i64 f.kind)∧w'.cell? ⟨b5,off5+k*13+3,none⟩=some (.int .i64 f.rank)∧w'.cell? ⟨b5,off5+k*13+4,none⟩=some (.int .i64 f.got)∧w'.cell? ⟨b5,off5+k*13+5,none⟩=some (.int .i64 f.ttl)∧w'.cell? ⟨b5,off5+k*13+6,none⟩=some (.slice h5.sa h5.sl h5.sc)∧w'.cell? ⟨b5,off5+k*13+7,none⟩=some (.slice h5.za h5.zl h5.zc)∧w'.cell? ⟨b5,off5+k*13+8,none⟩=some (.slice h5.d.ba h5.d.bl h5.d.bc)∧w'.cell? ⟨b5,off5+k*13+9,none⟩=some (.slice h5.d.ha h5.d.hl h5.d.hc)∧w'.cell? ⟨b5,off5+k*13+10,none⟩=some (.slice h5.d.ma h5.d.ml h5.d.mc)∧w'.cell? ⟨b5,off5+k*13+11,none⟩=some (.slice h5.d.na h5.d.nl h5.d.nc)∧w'.cell? ⟨b5,off5+k*13+12,none⟩=some (.slice h5.d.ta h5.d.tl h5.d.tc)∧w'.cell? ⟨Y,0,none⟩=some (.slice h9.na h9.nl h9.nc)∧w'.cell? ⟨Y,1,none⟩=some (.int .i64 f.typ)∧w'.cell? ⟨Y,2,none⟩=some (.int .i64 f.kind)∧w'.cell? ⟨Y,3,none⟩=some (.int .i64 f.rank)∧w'.cell? ⟨Y,4,none⟩=some (.int .i64 f.got)∧w'.cell? ⟨Y,5,none⟩=some (.int .i64 f.ttl)∧w'.cell? ⟨Y,6,none⟩=some (.slice h9.sa h9.sl h9.sc)∧w'.cell? ⟨Y,7,none⟩=some (.slice h9.za h9.zl h9.zc)∧w'.cell? ⟨Y,8,none⟩=some (.slice h9.d.ba h9.d.bl h9.d.bc)∧w'.cell? ⟨Y,9,none⟩=some (.slice h9.d.ha h9.d.hl h9.d.hc)∧w'.cell? ⟨Y,10,none⟩=some (.slice h9.d.ma h9.d.ml h9.d.mc)∧w'.cell? ⟨Y,11,none⟩=some (.slice h9.d.na h9.d.nl h9.d.nc)∧w'.cell? ⟨Y,12,none⟩=some (.slice h9.d.ta h9.d.tl h9.d.tc))
    (first|exact D0.out|exact DA.out|exact DB.out|go_keep)
    (first
     |(go_at_call 16;refine(ZnB VA _ D8 4 0 kk7 (Ls7.map g8) ((H8.out.2.1.on HD.out.1).on HA.out)).mono ?_;rintro e VB ⟨rfl,rfl⟩;rw[HLN.out];have DB:=DA)
     |(go_at_call 15;refine(Zoa WX.drew _ _ h9 h5 f HI9.out HIF.out HE.out.2.2.1 HE.out.2.2.2.2).mono ?_;rintro e VA ⟨rfl,hba⟩;have hxa:=HD.out.2.on hba;have hbA:=Zaa HD.out.1 hba Zlr;have DA:Hid (VA.cell? ⟨b5,off5+k*13,none⟩=some (.slice h5.na h5.nl h5.nc)∧VA.cell? ⟨b5,off5+k*13+1,none⟩=some (.int .i64 f.typ)∧VA.cell? ⟨b5,off5+k*13+2,none⟩=some (.int .i64 f.kind)∧VA.cell? ⟨b5,off5+k*13+3,none⟩=some (.int .i64 f.rank)∧VA.cell? ⟨b5,off5+k*13+4,none⟩=some (.int .i64 f.got)∧VA.cell? ⟨b5,off5+k*13+5,none⟩=some (.int .i64 f.ttl)∧VA.cell? ⟨b5,off5+k*13+6,none⟩=some (.slice h5.sa h5.sl h5.sc)∧VA.cell? ⟨b5,off5+k*13+7,none⟩=some (.slice h5.za h5.zl h5.zc)∧VA.cell? ⟨b5,off5+k*13+8,none⟩=some (.slice h5.d.ba h5.d.bl h5.d.bc)∧VA.cell? ⟨b5,off5+k*13+9,none⟩=some (.slice h5.d.ha h5.d.hl h5.d.hc)∧VA.cell? ⟨b5,off5+k*13+10,none⟩=some (.slice h5.d.ma h5.d.ml h5.d.mc)∧VA.cell? ⟨b5,off5+k*13+11,none⟩=some (.slice h5.d.na h5.d.nl h5.d.nc)∧VA.cell? ⟨b5,off5+k*13+12,none⟩=some (.slice h5.d.ta h5.d.tl h5.d.tc)∧VA.cell? ⟨Y,0,none⟩=some (.slice h9.na h9.nl h9.nc)∧VA.cell? ⟨Y,1,none⟩=some (.int .i64 f.typ)∧VA.cell? ⟨Y,2,none⟩=some (.int .i64 f.kind)∧VA.cell? ⟨Y,3,none⟩=some (.int .i64 f.rank)∧VA.cell? ⟨Y,4,none⟩=some (.int .i64 f.got)∧VA.cell? ⟨Y,5,none⟩=some (.int .i64 f.ttl)∧VA.cell? ⟨Y,6,none⟩=some (.slice h9.sa h9.sl h9.sc)∧VA.cell? ⟨Y,7,none⟩=some (.slice h9.za h9.zl h9.zc)∧VA.cell? ⟨Y,8,none⟩=some (.slice h9.d.ba h9.d.bl h9.d.bc)∧VA.cell? ⟨Y,9,none⟩=some (.slice h9.d.ha h9.d.hl h9.d.hc)∧VA.cell? ⟨Y,10,none⟩=some (.slice h9.d.ma h9.d.ml h9.d.mc)∧VA.cell? ⟨Y,11,none⟩=some (.slice h9.d.na h9.d.nl h9.d.nc)∧VA.cell? ⟨Y,12,none⟩=some (.slice h9.d.ta h9.d.tl h9.d.tc)):=Zhd ⟨HE2.out _ hbA 0 _ rfl,HE2.out _ hbA 1 _ rfl,HE2.out _ hbA 2 _ rfl,HE2.out _ hbA 3 _ rfl,HE2.out _ hbA 4 _ rfl,HE2.out _ hbA 5 _ rfl,HE2.out _ hbA 6 _ rfl,HE2.out _ hbA 7 _ rfl,HE2.out _ hbA 8 _ rfl,HE2.out _ hbA 9 _ rfl,HE2.out _ hbA 10 _ rfl,HE2.out _ hbA 11 _ rfl,HE2.out _ hbA 12 _ rfl,hxa.cell 0,hxa.cell 1,hxa.cell 2,hxa.cell 3,hxa.cell 4,hxa.cell 5,hxa.cell 6,hxa.cell 7,hxa.cell 8,hxa.cell 9,hxa.cell 10,hxa.cell 11,hxa.cell 12⟩;have HA:=Zhd hba;clear hba hxa hbA))
   all_goals
    go_split_ands
    go_wp2_with fail
    go_ret
    refine⟨rfl,?_⟩
    have q1:=((Zaa HB.out H5.out.2 Zlr).trans H6.out.2.bel).trans H7.out.2.bel
    have q2:=Zaa (Zaa (Zaa q1 H8.out.2.2 Zlr) HD.out.1 Zlr) HA.out Zlr
    exact q2
end Go.Proofs.YtjpefpclmndgeaaGreat

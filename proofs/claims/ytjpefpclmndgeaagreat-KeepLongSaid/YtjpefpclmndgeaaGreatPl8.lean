/- Contracts of the given program's functions, in the order in which they are proved. -/
import Derived.Laws.Rows
import Derived.Defers
import Derived.Recover
import Derived.Laws.Pointers
import Derived.Deep.RegionHeld3
import Derived.Test.YtjpefpclmndgeaaGreatPl7
namespace Go.Proofs.YtjpefpclmndgeaaGreat
set_option maxHeartbeats 64000000
set_option maxRecDepth 100000
open Go.ChangeShapes Go.WideShapes Go.ChangeAt Go.RowKit
theorem GdSt.on {w W W':World} {r:Nat} {bo:Option Addr} {bl bc p en:Nat} {sh:Array Value} {h:ZaJ} {d:Zaq} (i:GdSt w W r bo bl bc p en sh h d) (hb:Below W.heap.size W W'):GdSt w W' r bo bl bc p en sh h d:=by
 have hk:=Zb0.step (T:=mT) (h:=h) (x:=d) ⟨i.is,i.isIn⟩ (Same.below hb _)
 exact⟨i.sb.on hb,i.db.on hb,i.rb.on hb,Zah i.fr (Zaw r hb),hk.1,hk.2⟩
theorem GdSt.dr {w W:World} {r:Nat} {bo:Option Addr} {bl bc p en:Nat} {sh:Array Value} {h:ZaJ} {d:Zaq} (i:GdSt w W r bo bl bc p en sh h d):GdSt w W.drew r bo bl bc p en sh h d:=i.on (Below.drew (Below.refl W.heap.size W))
theorem ZjT (l:List UInt8) (en:Nat):∀ (f c p:Nat),p≤en→(ZbQ l en f c p).2.1≤en
 |0,c,p,h=>by simp[ZbQ];exact h
 |f+1,c,p,h=>by
  rw[ZbQ]
  split
  ·split
   ·exact h
   ·split
    ·exact h
    ·exact ZjT l en f (c+1) _ (by omega)
  ·exact h
theorem Zoz (l:List UInt8) (en p:Nat) (h:p≤en):(Zcw l en p).2.1≤en:=by
 have:=ZjT l en (en+1) 0 p h
 unfold Zcw
 split
 ·exact this
 ·exact this
theorem ZaC:(Tryz.prog.info? 35).map (·.size)=some 5:=by kernel_rfl
theorem Zbp (h:ZaJ):(Zae h).all (·.oneCell')=true:=Array.all_eq_true_iff_forall_mem.2 (fun v hv=>Zb0.one h Zcv v (by simpa [Zb0] using hv))
theorem GdSt.fin {w W:World} {r:Nat} {bo:Option Addr} {bl bc p en:Nat} {sh:Array Value} {h:ZaJ} {d:Zaq} (i:GdSt w W r bo bl bc p en sh h d) (_hr:r<w.heap.size):Blk (W.setRow (w.heap.size+1) (Zae h)) (w.heap.size+1) (Zae h) 35∧GdEnd w (W.setRow (w.heap.size+1) (Zae h)) r (d,0) (.returned (.agg (Zae h))):=by
 have hg:=Zav W (w.heap.size+1) (Zae h)
 have hk:=Zb0.step (T:=mT) (h:=h) (x:=d) ⟨i.is,i.isIn⟩ (Same.but hg i.db (by decide))
 refine⟨ZaA i.db (Zae h),.inl ⟨rfl,⟨h,rfl,hk.1,hk.2⟩,ZdO i.fr hg (fun b hb=>by have:=Zsi hb;omega)⟩⟩
theorem Zo4 (w:World) (r:Nat) (bo:Option Addr) (bl bc:Nat) (l:List UInt8) (hl:ZbP w bo bl bc l) (p en:Nat) (hp:p≤en) (hen:en≤bl) (hbl:bl≤900000) (hne:∀ a,bo=some a→a.block≠r∧a.block<w.heap.size) (hr:Blk w r (gdC bo bl bc p en) 237) (short:Bool):
  Calls Tryz.prog 180 #[.pointer (some ⟨r,0,none⟩),.agg #[.int .i64 0,.bool true,.bool false,.bool short,.int .i64 0,.int .i64 0,.bool false,.bool false]] w fun e w'=>GdEnd w w' r (gd4 l en p) e:=by
 have hst:=GdSt.start w r bo bl bc p en #[.int .i64 0,.bool true,.bool false,.bool short,.int .i64 0,.int .i64 0,.bool false,.bool false] hr
 have hrl:=hr.lt
 have HBY:=Zhd (fun W (hg:w.grownBy W (some r))=>hl.grown hg (fun a ha h=>(hne a ha).1 (Zsi h)))
 have HNE:=Zhd hne
 obtain⟨res,hres⟩:∃ res,res=gd4 l en p:=⟨_,rfl⟩
 rw[←hres]
 have HRES:=Zhd hres
 clear hr hl hne hres
 obtain⟨ssa,nxa,ka,hna⟩:∃ ss nx k,ZbA l en p=(ss,nx,k):=⟨_,_,_,rfl⟩
 have hlea:=Zfo (l:=l) (en:=en) (p:=p)
 have hoka:=Zfp l en p
 rw[hna] at hlea hoka
 simp only at hlea hoka
 have HLa:=Zhd (show ssa.length≤140737488355328∧∀ s∈ssa,s.size≤9223372036854775807 from⟨by omega,fun s hs=>by have:=hoka.2 s hs;omega⟩)
 have HNa:=Zhd hna
 clear hoka
 obtain⟨zsb,nxb,kb,hnb⟩:∃ zs nx k,Zbx l en 0 0 nxa=(zs,nx,k):=⟨_,_,_,rfl⟩
 have hlnb:=Zdd l en 0 0 nxa
 have hwfb:=ZdW l en (show 0≤7 by omega) 0 nxa
 rw[hnb] at hlnb hwfb
 simp only at hlnb hwfb
 have HNb:=Zhd hnb
 by_cases hka:ka≠0
 ·have hR:res=(Zcv,ka):=by
   rw[HRES.out]
   simp only[gd4,HNa.out,ne_eq]
   rw[if_pos hka]
  have HK:=Zhd hka
  have HR:=Zhd hR
  clear hR hka
  clear hna hnb
  go_enter Tryz.func180,Tryz.ntmps180
  go_upto_region 1 with fail
  generalize (w.alloc (.cells #[.int .i64 0,.bool true,.bool false,.bool short,.int .i64 0,.int .i64 0,.bool false,.bool false] 211)).alloc (.cells #[.slice none 0 0,.slice none 0 0,.slice none 0 0,.slice none 0 0,.slice none 0 0] 35)=W0 at hst⊢
  have q0:=hst.sb.cell 0
  have q1:=hst.sb.cell 1
  have q2:=hst.sb.cell 2
  have q3:=hst.sb.cell 3
  have q4:=hst.sb.cell 4
  have q5:=hst.sb.cell 5
  have q6:=hst.sb.cell 6
  have q7:=hst.sb.cell 7
  simp at q0 q1 q2 q3 q4 q5 q6 q7
  have H0:=Zhd hst
  clear hst
  go_wp2_with (first
   |(go_at_call 185;refine(Za8 _ r bo bl bc l (HBY.out _ H0.out.fr) p en (by omega) (by omega) H0.out.rb hen ssa nxa ka HNa.out).mono ?_;rintro e W1 ⟨v,hre,-⟩;obtain⟨rfl,hg⟩:=hre.no HK.out;have HE:=Zhd (Zah H0.out.fr hg);clear hre hg;(try simp only[Zju])))
  rw[HR.out]
  exact⟨rfl,.inr ⟨HK.out,rfl,HE.out⟩⟩
 obtain rfl:ka=0:=Classical.byContradiction hka
 clear hka
 replace hlea:=hlea rfl
 obtain⟨rfl,hzz,rfl⟩:zsb=[]∧nxa=nxb∧kb=0:=by simp only[Zbx,Prod.mk.injEq] at hnb;exact⟨hnb.1.symm,hnb.2.1,hnb.2.2.symm⟩
 subst hzz
 clear hlnb hwfb
 have HLb:=Zhd (show([]:List Int).length≤140737488355328∧∀ z∈([]:List Int),wfi z from⟨by simp,fun z hz=>by cases hz⟩)
 by_cases hxe:nxa<en
 ·have hR:res=(Zcv,7):=by
   rw[HRES.out]
   simp only[gd4,HNa.out,ne_eq,not_true_eq_false,if_false]
   rw[if_pos hxe]
  have HR:=Zhd hR
  have hxb:((nxa:Nat):Int)<(en:Int):=by omega
  clear hR hxe
  clear hna hnb
  go_enter Tryz.func180,Tryz.ntmps180
  go_upto_region 1 with fail
  generalize (w.alloc (.cells #[.int .i64 0,.bool true,.bool false,.bool short,.int .i64 0,.int .i64 0,.bool false,.bool false] 211)).alloc (.cells #[.slice none 0 0,.slice none 0 0,.slice none 0 0,.slice none 0 0,.slice none 0 0] 35)=W0 at hst⊢
  have q0:=hst.sb.cell 0
  have q1:=hst.sb.cell 1
  have q2:=hst.sb.cell 2
  have q3:=hst.sb.cell 3
  have q4:=hst.sb.cell 4
  have q5:=hst.sb.cell 5
  have q6:=hst.sb.cell 6
  have q7:=hst.sb.cell 7
  simp at q0 q1 q2 q3 q4 q5 q6 q7
  have H0:=Zhd hst
  clear hst
  go_wp2_with (first
   |(go_at_call 184;refine(Za9 _ r bo bl bc l (HBY.out _ H1.out.fr) nxa en (by omega) hen (by omega) (fun a ha=>⟨(HNE.out a ha).1,Nat.lt_of_lt_of_le (HNE.out a ha).2 H1.out.fr.size⟩) H1.out.rb _ _ _ _ 0 0 _ _ (by decide) (by decide) (by decide) [] nxa 0 HNb.out).mono ?_;rintro e W2 ⟨v,hre,hv⟩;obtain⟨rfl,hok⟩:=hre.ok;obtain⟨a2,c2,rfl,ho⟩:=Zai (hv rfl) HLb.out.1;have y12:W2.cell? ⟨r,1,none⟩=some (.int .i64 ((nxa:Nat):Int)):=hok.blk.cell 1;have y22:W2.cell? ⟨r,2,none⟩=some (.int .i64 ((en:Nat):Int)):=hok.blk.cell 2;have j:=H1.out.step hok hrl;have t2:=j.db.cell 3;have u2:=j.db.free 3;simp[Zae,zDH] at t2;have i:=j.nums hrl ho HLb.out.2;have q02:=i.sb.cell 0;have q12:=i.sb.cell 1;have q22:=i.sb.cell 2;have q32:=i.sb.cell 3;have q42:=i.sb.cell 4;have q52:=i.sb.cell 5;have q62:=i.sb.cell 6;have q72:=i.sb.cell 7;simp at q02 q12 q22 q32 q42 q52 q62 q72;have H2:=Zhd i;clear hre hv hok ho i j)
   |(go_at_call 185;refine(Za8 _ r bo bl bc l (HBY.out _ H0.out.fr) p en (by omega) (by omega) H0.out.rb hen ssa nxa 0 HNa.out).mono ?_;rintro e W1 ⟨v,hre,hv⟩;obtain⟨rfl,hok⟩:=hre.ok;obtain⟨a1,c1,rfl,ho⟩:=Zai (hv rfl) HLa.out.1;have y11:W1.cell? ⟨r,1,none⟩=some (.int .i64 ((nxa:Nat):Int)):=hok.blk.cell 1;have y21:W1.cell? ⟨r,2,none⟩=some (.int .i64 ((en:Nat):Int)):=hok.blk.cell 2;have j:=H0.out.step hok hrl;have t1:=j.db.cell 1;have u1:=j.db.free 1;simp[Zae,zDH] at t1;have i:=j.host hrl ho HLa.out.2;have q01:=i.sb.cell 0;have q11:=i.sb.cell 1;have q21:=i.sb.cell 2;have q31:=i.sb.cell 3;have q41:=i.sb.cell 4;have q51:=i.sb.cell 5;have q61:=i.sb.cell 6;have q71:=i.sb.cell 7;simp at q01 q11 q21 q31 q41 q51 q61 q71;have H1:=Zhd i;clear hre hv hok ho i j))
  have iz:=H2.out.dr
  have z1:=iz.rb.cell 1
  have z2:=iz.rb.cell 2
  change _=some (Value.int IntKind.i64 ((nxa:Nat):Int)) at z1
  change _=some (Value.int IntKind.i64 ((en:Nat):Int)) at z2
  have HZ:=Zhd iz
  clear iz
  clear q0 q1 q2 q3 q4 q5 q6 q7 q01 q11 q21 q31 q41 q51 q61 q71 q02 q12 q22 q32 q42 q52 q62 q72 t1 u1 t2 u2
  go_region
  all_goals go_wp2_with fail
  all_goals
   rw[HR.out]
   exact⟨rfl,.inr ⟨by decide,rfl,HZ.out.fr⟩⟩
 ·have hR:res=(⟨[],ssa,[],[],[]⟩,0):=by
   rw[HRES.out]
   simp only[gd4,HNa.out,ne_eq,not_true_eq_false,if_false]
   rw[if_neg hxe]
  have HR:=Zhd hR
  have hxb: ¬((nxa:Nat):Int)<(en:Int):=by omega
  clear hR hxe
  clear hna hnb
  go_enter Tryz.func180,Tryz.ntmps180
  go_upto_region 1 with fail
  generalize (w.alloc (.cells #[.int .i64 0,.bool true,.bool false,.bool short,.int .i64 0,.int .i64 0,.bool false,.bool false] 211)).alloc (.cells #[.slice none 0 0,.slice none 0 0,.slice none 0 0,.slice none 0 0,.slice none 0 0] 35)=W0 at hst⊢
  have q0:=hst.sb.cell 0
  have q1:=hst.sb.cell 1
  have q2:=hst.sb.cell 2
  have q3:=hst.sb.cell 3
  have q4:=hst.sb.cell 4
  have q5:=hst.sb.cell 5
  have q6:=hst.sb.cell 6
  have q7:=hst.sb.cell 7
  simp at q0 q1 q2 q3 q4 q5 q6 q7
  have H0:=Zhd hst
  clear hst
  go_wp2_with (first
   |(go_at_call 184;refine(Za9 _ r bo bl bc l (HBY.out _ H1.out.fr) nxa en (by omega) hen (by omega) (fun a ha=>⟨(HNE.out a ha).1,Nat.lt_of_lt_of_le (HNE.out a ha).2 H1.out.fr.size⟩) H1.out.rb _ _ _ _ 0 0 _ _ (by decide) (by decide) (by decide) [] nxa 0 HNb.out).mono ?_;rintro e W2 ⟨v,hre,hv⟩;obtain⟨rfl,hok⟩:=hre.ok;obtain⟨a2,c2,rfl,ho⟩:=Zai (hv rfl) HLb.out.1;have y12:W2.cell? ⟨r,1,none⟩=some (.int .i64 ((nxa:Nat):Int)):=hok.blk.cell 1;have y22:W2.cell? ⟨r,2,none⟩=some (.int .i64 ((en:Nat):Int)):=hok.blk.cell 2;have j:=H1.out.step hok hrl;have t2:=j.db.cell 3;have u2:=j.db.free 3;simp[Zae,zDH] at t2;have i:=j.nums hrl ho HLb.out.2;have q02:=i.sb.cell 0;have q12:=i.sb.cell 1;have q22:=i.sb.cell 2;have q32:=i.sb.cell 3;have q42:=i.sb.cell 4;have q52:=i.sb.cell 5;have q62:=i.sb.cell 6;have q72:=i.sb.cell 7;simp at q02 q12 q22 q32 q42 q52 q62 q72;have H2:=Zhd i;clear hre hv hok ho i j)
   |(go_at_call 185;refine(Za8 _ r bo bl bc l (HBY.out _ H0.out.fr) p en (by omega) (by omega) H0.out.rb hen ssa nxa 0 HNa.out).mono ?_;rintro e W1 ⟨v,hre,hv⟩;obtain⟨rfl,hok⟩:=hre.ok;obtain⟨a1,c1,rfl,ho⟩:=Zai (hv rfl) HLa.out.1;have y11:W1.cell? ⟨r,1,none⟩=some (.int .i64 ((nxa:Nat):Int)):=hok.blk.cell 1;have y21:W1.cell? ⟨r,2,none⟩=some (.int .i64 ((en:Nat):Int)):=hok.blk.cell 2;have j:=H0.out.step hok hrl;have t1:=j.db.cell 1;have u1:=j.db.free 1;simp[Zae,zDH] at t1;have i:=j.host hrl ho HLa.out.2;have q01:=i.sb.cell 0;have q11:=i.sb.cell 1;have q21:=i.sb.cell 2;have q31:=i.sb.cell 3;have q41:=i.sb.cell 4;have q51:=i.sb.cell 5;have q61:=i.sb.cell 6;have q71:=i.sb.cell 7;simp at q01 q11 q21 q31 q41 q51 q61 q71;have H1:=Zhd i;clear hre hv hok ho i j))
  have iz:=H2.out.dr
  have z1:=iz.rb.cell 1
  have z2:=iz.rb.cell 2
  change _=some (Value.int IntKind.i64 ((nxa:Nat):Int)) at z1
  change _=some (Value.int IntKind.i64 ((en:Nat):Int)) at z2
  have HZ:=Zhd iz
  clear iz
  clear q0 q1 q2 q3 q4 q5 q6 q7 q01 q11 q21 q31 q41 q51 q61 q71 q02 q12 q22 q32 q42 q52 q62 q72 t1 u1 t2 u2
  go_region
  all_goals go_wp2_with (first
   |(refine wpList_store_row rfl 35 _ _ rfl (w.heap.size+1) (Zae _) rfl rfl 35 (Zae _) HZ.out.db ZaC rfl (Zbp _) ?_)
   |(refine wpList_load_row rfl 35 _ rfl (w.heap.size+1) rfl 35 (Zae _) (0,0) _ HZ.out.db Tryz.underlying35 rfl ZaC ?_))
  all_goals
   have hf:=HZ.out.fin hrl
   rw[HR.out]
   exact bodyPost_ret (results_cell_row (p:=4) (ty:=35) rfl _ _ (w.heap.size+1) 35 _ (0,0) _ rfl hf.1 Tryz.underlying35 rfl ZaC) rfl hf.2
theorem Zo3 (w:World) (r:Nat) (bo:Option Addr) (bl bc:Nat) (l:List UInt8) (hl:ZbP w bo bl bc l) (p en:Nat) (hp:p≤en) (hen:en≤bl) (hbl:bl≤900000) (hne:∀ a,bo=some a→a.block≠r∧a.block<w.heap.size) (hr:Blk w r (gdC bo bl bc p en) 237) (short:Bool):
  Calls Tryz.prog 180 #[.pointer (some ⟨r,0,none⟩),.agg #[.int .i64 0,.bool true,.bool false,.bool short,.int .i64 1,.int .i64 2,.bool false,.bool true]] w fun e w'=>GdEnd w w' r (gd5 1 l en p) e:=by
 have hst:=GdSt.start w r bo bl bc p en #[.int .i64 0,.bool true,.bool false,.bool short,.int .i64 1,.int .i64 2,.bool false,.bool true] hr
 have hrl:=hr.lt
 have HBY:=Zhd (fun W (hg:w.grownBy W (some r))=>hl.grown hg (fun a ha h=>(hne a ha).1 (Zsi h)))
 have HNE:=Zhd hne
 obtain⟨res,hres⟩:∃ res,res=gd5 1 l en p:=⟨_,rfl⟩
 rw[←hres]
 have HRES:=Zhd hres
 clear hr hl hne hres
 obtain⟨zsa,nxa,ka,hna⟩:∃ zs nx k,Zbx l en 2 1 p=(zs,nx,k):=⟨_,_,_,rfl⟩
 have hlna:=Zdd l en 2 1 p
 have hwfa:=ZdW l en (show 2≤7 by omega) 1 p
 rw[hna] at hlna hwfa
 simp only at hlna hwfa
 have HNa:=Zhd hna
 obtain⟨ssb,nxb,kb,hnb⟩:∃ ss nx k,ZbA l en nxa=(ss,nx,k):=⟨_,_,_,rfl⟩
 have hleb:=Zfo (l:=l) (en:=en) (p:=nxa)
 have hokb:=Zfp l en nxa
 rw[hnb] at hleb hokb
 simp only at hleb hokb
 have HLb:=Zhd (show ssb.length≤140737488355328∧∀ s∈ssb,s.size≤9223372036854775807 from⟨by omega,fun s hs=>by have:=hokb.2 s hs;omega⟩)
 have HNb:=Zhd hnb
 clear hokb
 by_cases hka:ka≠0
 ·have hR:res=(Zcv,ka):=by
   rw[HRES.out]
   simp only[gd5,HNa.out,ne_eq]
   rw[if_pos hka]
  have HK:=Zhd hka
  have HR:=Zhd hR
  clear hR hka
  clear hna hnb
  clear hlna hwfa
  go_enter Tryz.func180,Tryz.ntmps180
  go_upto_region 1 with fail
  generalize (w.alloc (.cells #[.int .i64 0,.bool true,.bool false,.bool short,.int .i64 1,.int .i64 2,.bool false,.bool true] 211)).alloc (.cells #[.slice none 0 0,.slice none 0 0,.slice none 0 0,.slice none 0 0,.slice none 0 0] 35)=W0 at hst⊢
  have q0:=hst.sb.cell 0
  have q1:=hst.sb.cell 1
  have q2:=hst.sb.cell 2
  have q3:=hst.sb.cell 3
  have q4:=hst.sb.cell 4
  have q5:=hst.sb.cell 5
  have q6:=hst.sb.cell 6
  have q7:=hst.sb.cell 7
  simp at q0 q1 q2 q3 q4 q5 q6 q7
  have H0:=Zhd hst
  clear hst
  go_wp2_with (first
   |(go_at_call 184;refine(Za9 _ r bo bl bc l (HBY.out _ H0.out.fr) p en (by omega) hen (by omega) (fun a ha=>⟨(HNE.out a ha).1,Nat.lt_of_lt_of_le (HNE.out a ha).2 H0.out.fr.size⟩) H0.out.rb _ _ _ _ 1 2 _ _ (by decide) (by decide) (by decide) zsa nxa ka HNa.out).mono ?_;rintro e W1 ⟨v,hre,-⟩;obtain⟨rfl,hg⟩:=hre.no HK.out;have HE:=Zhd (Zah H0.out.fr hg);clear hre hg;(try simp only[Zju])))
  rw[HR.out]
  exact⟨rfl,.inr ⟨HK.out,rfl,HE.out⟩⟩
 obtain rfl:ka=0:=Classical.byContradiction hka
 clear hka
 replace hlna:=hlna rfl
 have hnba:nxa≤p+100:=by omega
 have HLa:=Zhd (show zsa.length≤140737488355328∧∀ z∈zsa,wfi z from⟨by omega,hwfa⟩)
 clear hwfa hlna
 by_cases hkb:kb≠0
 ·have hR:res=(Zcv,kb):=by
   rw[HRES.out]
   simp only[gd5,HNa.out,HNb.out,ne_eq,not_true_eq_false,if_false]
   rw[if_pos hkb]
  have HK:=Zhd hkb
  have HR:=Zhd hR
  clear hR hkb
  clear hna hnb
  go_enter Tryz.func180,Tryz.ntmps180
  go_upto_region 1 with fail
  generalize (w.alloc (.cells #[.int .i64 0,.bool true,.bool false,.bool short,.int .i64 1,.int .i64 2,.bool false,.bool true] 211)).alloc (.cells #[.slice none 0 0,.slice none 0 0,.slice none 0 0,.slice none 0 0,.slice none 0 0] 35)=W0 at hst⊢
  have q0:=hst.sb.cell 0
  have q1:=hst.sb.cell 1
  have q2:=hst.sb.cell 2
  have q3:=hst.sb.cell 3
  have q4:=hst.sb.cell 4
  have q5:=hst.sb.cell 5
  have q6:=hst.sb.cell 6
  have q7:=hst.sb.cell 7
  simp at q0 q1 q2 q3 q4 q5 q6 q7
  have H0:=Zhd hst
  clear hst
  go_wp2_with (first
   |(go_at_call 185;refine(Za8 _ r bo bl bc l (HBY.out _ H1.out.fr) nxa en (by omega) (by omega) H1.out.rb hen ssb nxb kb HNb.out).mono ?_;rintro e W2 ⟨v,hre,-⟩;obtain⟨rfl,hg⟩:=hre.no HK.out;have HE:=Zhd (Zah H1.out.fr hg);clear hre hg;(try simp only[Zju]))
   |(go_at_call 184;refine(Za9 _ r bo bl bc l (HBY.out _ H0.out.fr) p en (by omega) hen (by omega) (fun a ha=>⟨(HNE.out a ha).1,Nat.lt_of_lt_of_le (HNE.out a ha).2 H0.out.fr.size⟩) H0.out.rb _ _ _ _ 1 2 _ _ (by decide) (by decide) (by decide) zsa nxa 0 HNa.out).mono ?_;rintro e W1 ⟨v,hre,hv⟩;obtain⟨rfl,hok⟩:=hre.ok;obtain⟨a1,c1,rfl,ho⟩:=Zai (hv rfl) HLa.out.1;have y11:W1.cell? ⟨r,1,none⟩=some (.int .i64 ((nxa:Nat):Int)):=hok.blk.cell 1;have y21:W1.cell? ⟨r,2,none⟩=some (.int .i64 ((en:Nat):Int)):=hok.blk.cell 2;have j:=H0.out.step hok hrl;have t1:=j.db.cell 3;have u1:=j.db.free 3;simp[Zae,zDH] at t1;have i:=j.nums hrl ho HLa.out.2;have q01:=i.sb.cell 0;have q11:=i.sb.cell 1;have q21:=i.sb.cell 2;have q31:=i.sb.cell 3;have q41:=i.sb.cell 4;have q51:=i.sb.cell 5;have q61:=i.sb.cell 6;have q71:=i.sb.cell 7;simp at q01 q11 q21 q31 q41 q51 q61 q71;have H1:=Zhd i;clear hre hv hok ho i j))
  rw[HR.out]
  exact⟨rfl,.inr ⟨HK.out,rfl,HE.out⟩⟩
 obtain rfl:kb=0:=Classical.byContradiction hkb
 clear hkb
 replace hleb:=hleb rfl
 by_cases hxe:nxb<en
 ·have hR:res=(Zcv,7):=by
   rw[HRES.out]
   simp only[gd5,HNa.out,HNb.out,ne_eq,not_true_eq_false,if_false]
   rw[if_pos hxe]
  have HR:=Zhd hR
  have hxb:((nxb:Nat):Int)<(en:Int):=by omega
  clear hR hxe
  clear hna hnb
  go_enter Tryz.func180,Tryz.ntmps180
  go_upto_region 1 with fail
  generalize (w.alloc (.cells #[.int .i64 0,.bool true,.bool false,.bool short,.int .i64 1,.int .i64 2,.bool false,.bool true] 211)).alloc (.cells #[.slice none 0 0,.slice none 0 0,.slice none 0 0,.slice none 0 0,.slice none 0 0] 35)=W0 at hst⊢
  have q0:=hst.sb.cell 0
  have q1:=hst.sb.cell 1
  have q2:=hst.sb.cell 2
  have q3:=hst.sb.cell 3
  have q4:=hst.sb.cell 4
  have q5:=hst.sb.cell 5
  have q6:=hst.sb.cell 6
  have q7:=hst.sb.cell 7
  simp at q0 q1 q2 q3 q4 q5 q6 q7
  have H0:=Zhd hst
  clear hst
  go_wp2_with (first
   |(go_at_call 185;refine(Za8 _ r bo bl bc l (HBY.out _ H1.out.fr) nxa en (by omega) (by omega) H1.out.rb hen ssb nxb 0 HNb.out).mono ?_;rintro e W2 ⟨v,hre,hv⟩;obtain⟨rfl,hok⟩:=hre.ok;obtain⟨a2,c2,rfl,ho⟩:=Zai (hv rfl) HLb.out.1;have y12:W2.cell? ⟨r,1,none⟩=some (.int .i64 ((nxb:Nat):Int)):=hok.blk.cell 1;have y22:W2.cell? ⟨r,2,none⟩=some (.int .i64 ((en:Nat):Int)):=hok.blk.cell 2;have j:=H1.out.step hok hrl;have t2:=j.db.cell 1;have u2:=j.db.free 1;simp[Zae,zDH] at t2;have i:=j.host hrl ho HLb.out.2;have q02:=i.sb.cell 0;have q12:=i.sb.cell 1;have q22:=i.sb.cell 2;have q32:=i.sb.cell 3;have q42:=i.sb.cell 4;have q52:=i.sb.cell 5;have q62:=i.sb.cell 6;have q72:=i.sb.cell 7;simp at q02 q12 q22 q32 q42 q52 q62 q72;have H2:=Zhd i;clear hre hv hok ho i j)
   |(go_at_call 184;refine(Za9 _ r bo bl bc l (HBY.out _ H0.out.fr) p en (by omega) hen (by omega) (fun a ha=>⟨(HNE.out a ha).1,Nat.lt_of_lt_of_le (HNE.out a ha).2 H0.out.fr.size⟩) H0.out.rb _ _ _ _ 1 2 _ _ (by decide) (by decide) (by decide) zsa nxa 0 HNa.out).mono ?_;rintro e W1 ⟨v,hre,hv⟩;obtain⟨rfl,hok⟩:=hre.ok;obtain⟨a1,c1,rfl,ho⟩:=Zai (hv rfl) HLa.out.1;have y11:W1.cell? ⟨r,1,none⟩=some (.int .i64 ((nxa:Nat):Int)):=hok.blk.cell 1;have y21:W1.cell? ⟨r,2,none⟩=some (.int .i64 ((en:Nat):Int)):=hok.blk.cell 2;have j:=H0.out.step hok hrl;have t1:=j.db.cell 3;have u1:=j.db.free 3;simp[Zae,zDH] at t1;have i:=j.nums hrl ho HLa.out.2;have q01:=i.sb.cell 0;have q11:=i.sb.cell 1;have q21:=i.sb.cell 2;have q31:=i.sb.cell 3;have q41:=i.sb.cell 4;have q51:=i.sb.cell 5;have q61:=i.sb.cell 6;have q71:=i.sb.cell 7;simp at q01 q11 q21 q31 q41 q51 q61 q71;have H1:=Zhd i;clear hre hv hok ho i j))
  have iz:=H2.out.dr
  have z1:=iz.rb.cell 1
  have z2:=iz.rb.cell 2
  change _=some (Value.int IntKind.i64 ((nxb:Nat):Int)) at z1
  change _=some (Value.int IntKind.i64 ((en:Nat):Int)) at z2
  have HZ:=Zhd iz
  clear iz
  clear q0 q1 q2 q3 q4 q5 q6 q7 q01 q11 q21 q31 q41 q51 q61 q71 q02 q12 q22 q32 q42 q52 q62 q72 t1 u1 t2 u2
  go_region
  all_goals go_wp2_with fail
  all_goals
   rw[HR.out]
   exact⟨rfl,.inr ⟨by decide,rfl,HZ.out.fr⟩⟩
 ·have hR:res=(⟨[],ssb,[],zsa,[]⟩,0):=by
   rw[HRES.out]
   simp only[gd5,HNa.out,HNb.out,ne_eq,not_true_eq_false,if_false]
   rw[if_neg hxe]
  have HR:=Zhd hR
  have hxb: ¬((nxb:Nat):Int)<(en:Int):=by omega
  clear hR hxe
  clear hna hnb
  go_enter Tryz.func180,Tryz.ntmps180
  go_upto_region 1 with fail
  generalize (w.alloc (.cells #[.int .i64 0,.bool true,.bool false,.bool short,.int .i64 1,.int .i64 2,.bool false,.bool true] 211)).alloc (.cells #[.slice none 0 0,.slice none 0 0,.slice none 0 0,.slice none 0 0,.slice none 0 0] 35)=W0 at hst⊢
  have q0:=hst.sb.cell 0
  have q1:=hst.sb.cell 1
  have q2:=hst.sb.cell 2
  have q3:=hst.sb.cell 3
  have q4:=hst.sb.cell 4
  have q5:=hst.sb.cell 5
  have q6:=hst.sb.cell 6
  have q7:=hst.sb.cell 7
  simp at q0 q1 q2 q3 q4 q5 q6 q7
  have H0:=Zhd hst
  clear hst
  go_wp2_with (first
   |(go_at_call 185;refine(Za8 _ r bo bl bc l (HBY.out _ H1.out.fr) nxa en (by omega) (by omega) H1.out.rb hen ssb nxb 0 HNb.out).mono ?_;rintro e W2 ⟨v,hre,hv⟩;obtain⟨rfl,hok⟩:=hre.ok;obtain⟨a2,c2,rfl,ho⟩:=Zai (hv rfl) HLb.out.1;have y12:W2.cell? ⟨r,1,none⟩=some (.int .i64 ((nxb:Nat):Int)):=hok.blk.cell 1;have y22:W2.cell? ⟨r,2,none⟩=some (.int .i64 ((en:Nat):Int)):=hok.blk.cell 2;have j:=H1.out.step hok hrl;have t2:=j.db.cell 1;have u2:=j.db.free 1;simp[Zae,zDH] at t2;have i:=j.host hrl ho HLb.out.2;have q02:=i.sb.cell 0;have q12:=i.sb.cell 1;have q22:=i.sb.cell 2;have q32:=i.sb.cell 3;have q42:=i.sb.cell 4;have q52:=i.sb.cell 5;have q62:=i.sb.cell 6;have q72:=i.sb.cell 7;simp at q02 q12 q22 q32 q42 q52 q62 q72;have H2:=Zhd i;clear hre hv hok ho i j)
   |(go_at_call 184;refine(Za9 _ r bo bl bc l (HBY.out _ H0.out.fr) p en (by omega) hen (by omega) (fun a ha=>⟨(HNE.out a ha).1,Nat.lt_of_lt_of_le (HNE.out a ha).2 H0.out.fr.size⟩) H0.out.rb _ _ _ _ 1 2 _ _ (by decide) (by decide) (by decide) zsa nxa 0 HNa.out).mono ?_;rintro e W1 ⟨v,hre,hv⟩;obtain⟨rfl,hok⟩:=hre.ok;obtain⟨a1,c1,rfl,ho⟩:=Zai (hv rfl) HLa.out.1;have y11:W1.cell? ⟨r,1,none⟩=some (.int .i64 ((nxa:Nat):Int)):=hok.blk.cell 1;have y21:W1.cell? ⟨r,2,none⟩=some (.int .i64 ((en:Nat):Int)):=hok.blk.cell 2;have j:=H0.out.step hok hrl;have t1:=j.db.cell 3;have u1:=j.db.free 3;simp[Zae,zDH] at t1;have i:=j.nums hrl ho HLa.out.2;have q01:=i.sb.cell 0;have q11:=i.sb.cell 1;have q21:=i.sb.cell 2;have q31:=i.sb.cell 3;have q41:=i.sb.cell 4;have q51:=i.sb.cell 5;have q61:=i.sb.cell 6;have q71:=i.sb.cell 7;simp at q01 q11 q21 q31 q41 q51 q61 q71;have H1:=Zhd i;clear hre hv hok ho i j))
  have iz:=H2.out.dr
  have z1:=iz.rb.cell 1
  have z2:=iz.rb.cell 2
  change _=some (Value.int IntKind.i64 ((nxb:Nat):Int)) at z1
  change _=some (Value.int IntKind.i64 ((en:Nat):Int)) at z2
  have HZ:=Zhd iz
  clear iz
  clear q0 q1 q2 q3 q4 q5 q6 q7 q01 q11 q21 q31 q41 q51 q61 q71 q02 q12 q22 q32 q42 q52 q62 q72 t1 u1 t2 u2
  go_region
  all_goals go_wp2_with (first
   |(refine wpList_store_row rfl 35 _ _ rfl (w.heap.size+1) (Zae _) rfl rfl 35 (Zae _) HZ.out.db ZaC rfl (Zbp _) ?_)
   |(refine wpList_load_row rfl 35 _ rfl (w.heap.size+1) rfl 35 (Zae _) (0,0) _ HZ.out.db Tryz.underlying35 rfl ZaC ?_))
  all_goals
   have hf:=HZ.out.fin hrl
   rw[HR.out]
   exact bodyPost_ret (results_cell_row (p:=4) (ty:=35) rfl _ _ (w.heap.size+1) 35 _ (0,0) _ rfl hf.1 Tryz.underlying35 rfl ZaC) rfl hf.2
theorem Zns (w:World) (r:Nat) (bo:Option Addr) (bl bc:Nat) (l:List UInt8) (hl:ZbP w bo bl bc l) (p en:Nat) (hp:p≤en) (hen:en≤bl) (hbl:bl≤900000) (hne:∀ a,bo=some a→a.block≠r∧a.block<w.heap.size) (hr:Blk w r (gdC bo bl bc p en) 237) (short:Bool):
  Calls Tryz.prog 180 #[.pointer (some ⟨r,0,none⟩),.agg #[.int .i64 0,.bool true,.bool false,.bool short,.int .i64 3,.int .i64 2,.bool false,.bool true]] w fun e w'=>GdEnd w w' r (gd5 3 l en p) e:=by
 have hst:=GdSt.start w r bo bl bc p en #[.int .i64 0,.bool true,.bool false,.bool short,.int .i64 3,.int .i64 2,.bool false,.bool true] hr
 have hrl:=hr.lt
 have HBY:=Zhd (fun W (hg:w.grownBy W (some r))=>hl.grown hg (fun a ha h=>(hne a ha).1 (Zsi h)))
 have HNE:=Zhd hne
 obtain⟨res,hres⟩:∃ res,res=gd5 3 l en p:=⟨_,rfl⟩
 rw[←hres]
 have HRES:=Zhd hres
 clear hr hl hne hres
 obtain⟨zsa,nxa,ka,hna⟩:∃ zs nx k,Zbx l en 2 3 p=(zs,nx,k):=⟨_,_,_,rfl⟩
 have hlna:=Zdd l en 2 3 p
 have hwfa:=ZdW l en (show 2≤7 by omega) 3 p
 rw[hna] at hlna hwfa
 simp only at hlna hwfa
 have HNa:=Zhd hna
 obtain⟨ssb,nxb,kb,hnb⟩:∃ ss nx k,ZbA l en nxa=(ss,nx,k):=⟨_,_,_,rfl⟩
 have hleb:=Zfo (l:=l) (en:=en) (p:=nxa)
 have hokb:=Zfp l en nxa
 rw[hnb] at hleb hokb
 simp only at hleb hokb
 have HLb:=Zhd (show ssb.length≤140737488355328∧∀ s∈ssb,s.size≤9223372036854775807 from⟨by omega,fun s hs=>by have:=hokb.2 s hs;omega⟩)
 have HNb:=Zhd hnb
 clear hokb
 by_cases hka:ka≠0
 ·have hR:res=(Zcv,ka):=by
   rw[HRES.out]
   simp only[gd5,HNa.out,ne_eq]
   rw[if_pos hka]
  have HK:=Zhd hka
  have HR:=Zhd hR
  clear hR hka
  clear hna hnb
  clear hlna hwfa
  go_enter Tryz.func180,Tryz.ntmps180
  go_upto_region 1 with fail
  generalize (w.alloc (.cells #[.int .i64 0,.bool true,.bool false,.bool short,.int .i64 3,.int .i64 2,.bool false,.bool true] 211)).alloc (.cells #[.slice none 0 0,.slice none 0 0,.slice none 0 0,.slice none 0 0,.slice none 0 0] 35)=W0 at hst⊢
  have q0:=hst.sb.cell 0
  have q1:=hst.sb.cell 1
  have q2:=hst.sb.cell 2
  have q3:=hst.sb.cell 3
  have q4:=hst.sb.cell 4
  have q5:=hst.sb.cell 5
  have q6:=hst.sb.cell 6
  have q7:=hst.sb.cell 7
  simp at q0 q1 q2 q3 q4 q5 q6 q7
  have H0:=Zhd hst
  clear hst
  go_wp2_with (first
   |(go_at_call 184;refine(Za9 _ r bo bl bc l (HBY.out _ H0.out.fr) p en (by omega) hen (by omega) (fun a ha=>⟨(HNE.out a ha).1,Nat.lt_of_lt_of_le (HNE.out a ha).2 H0.out.fr.size⟩) H0.out.rb _ _ _ _ 3 2 _ _ (by decide) (by decide) (by decide) zsa nxa ka HNa.out).mono ?_;rintro e W1 ⟨v,hre,-⟩;obtain⟨rfl,hg⟩:=hre.no HK.out;have HE:=Zhd (Zah H0.out.fr hg);clear hre hg;(try simp only[Zju])))
  rw[HR.out]
  exact⟨rfl,.inr ⟨HK.out,rfl,HE.out⟩⟩
 obtain rfl:ka=0:=Classical.byContradiction hka
 clear hka
 replace hlna:=hlna rfl
 have hnba:nxa≤p+100:=by omega
 have HLa:=Zhd (show zsa.length≤140737488355328∧∀ z∈zsa,wfi z from⟨by omega,hwfa⟩)
 clear hwfa hlna
 by_cases hkb:kb≠0
 ·have hR:res=(Zcv,kb):=by
   rw[HRES.out]
   simp only[gd5,HNa.out,HNb.out,ne_eq,not_true_eq_false,if_false]
   rw[if_pos hkb]
  have HK:=Zhd hkb
  have HR:=Zhd hR
  clear hR hkb
  clear hna hnb
  go_enter Tryz.func180,Tryz.ntmps180
  go_upto_region 1 with fail
  generalize (w.alloc (.cells #[.int .i64 0,.bool true,.bool false,.bool short,.int .i64 3,.int .i64 2,.bool false,.bool true] 211)).alloc (.cells #[.slice none 0 0,.slice none 0 0,.slice none 0 0,.slice none 0 0,.slice none 0 0] 35)=W0 at hst⊢
  have q0:=hst.sb.cell 0
  have q1:=hst.sb.cell 1
  have q2:=hst.sb.cell 2
  have q3:=hst.sb.cell 3
  have q4:=hst.sb.cell 4
  have q5:=hst.sb.cell 5
  have q6:=hst.sb.cell 6
  have q7:=hst.sb.cell 7
  simp at q0 q1 q2 q3 q4 q5 q6 q7
  have H0:=Zhd hst
  clear hst
  go_wp2_with (first
   |(go_at_call 185;refine(Za8 _ r bo bl bc l (HBY.out _ H1.out.fr) nxa en (by omega) (by omega) H1.out.rb hen ssb nxb kb HNb.out).mono ?_;rintro e W2 ⟨v,hre,-⟩;obtain⟨rfl,hg⟩:=hre.no HK.out;have HE:=Zhd (Zah H1.out.fr hg);clear hre hg;(try simp only[Zju]))
   |(go_at_call 184;refine(Za9 _ r bo bl bc l (HBY.out _ H0.out.fr) p en (by omega) hen (by omega) (fun a ha=>⟨(HNE.out a ha).1,Nat.lt_of_lt_of_le (HNE.out a ha).2 H0.out.fr.size⟩) H0.out.rb _ _ _ _ 3 2 _ _ (by decide) (by decide) (by decide) zsa nxa 0 HNa.out).mono ?_;rintro e W1 ⟨v,hre,hv⟩;obtain⟨rfl,hok⟩:=hre.ok;obtain⟨a1,c1,rfl,ho⟩:=Zai (hv rfl) HLa.out.1;have y11:W1.cell? ⟨r,1,none⟩=some (.int .i64 ((nxa:Nat):Int)):=hok.blk.cell 1;have y21:W1.cell? ⟨r,2,none⟩=some (.int .i64 ((en:Nat):Int)):=hok.blk.cell 2;have j:=H0.out.step hok hrl;have t1:=j.db.cell 3;have u1:=j.db.free 3;simp[Zae,zDH] at t1;have i:=j.nums hrl ho HLa.out.2;have q01:=i.sb.cell 0;have q11:=i.sb.cell 1;have q21:=i.sb.cell 2;have q31:=i.sb.cell 3;have q41:=i.sb.cell 4;have q51:=i.sb.cell 5;have q61:=i.sb.cell 6;have q71:=i.sb.cell 7;simp at q01 q11 q21 q31 q41 q51 q61 q71;have H1:=Zhd i;clear hre hv hok ho i j))
  rw[HR.out]
  exact⟨rfl,.inr ⟨HK.out,rfl,HE.out⟩⟩
 obtain rfl:kb=0:=Classical.byContradiction hkb
 clear hkb
 replace hleb:=hleb rfl
 by_cases hxe:nxb<en
 ·have hR:res=(Zcv,7):=by
   rw[HRES.out]
   simp only[gd5,HNa.out,HNb.out,ne_eq,not_true_eq_false,if_false]
   rw[if_pos hxe]
  have HR:=Zhd hR
  have hxb:((nxb:Nat):Int)<(en:Int):=by omega
  clear hR hxe
  clear hna hnb
  go_enter Tryz.func180,Tryz.ntmps180
  go_upto_region 1 with fail
  generalize (w.alloc (.cells #[.int .i64 0,.bool true,.bool false,.bool short,.int .i64 3,.int .i64 2,.bool false,.bool true] 211)).alloc (.cells #[.slice none 0 0,.slice none 0 0,.slice none 0 0,.slice none 0 0,.slice none 0 0] 35)=W0 at hst⊢
  have q0:=hst.sb.cell 0
  have q1:=hst.sb.cell 1
  have q2:=hst.sb.cell 2
  have q3:=hst.sb.cell 3
  have q4:=hst.sb.cell 4
  have q5:=hst.sb.cell 5
  have q6:=hst.sb.cell 6
  have q7:=hst.sb.cell 7
  simp at q0 q1 q2 q3 q4 q5 q6 q7
  have H0:=Zhd hst
  clear hst
  go_wp2_with (first
   |(go_at_call 185;refine(Za8 _ r bo bl bc l (HBY.out _ H1.out.fr) nxa en (by omega) (by omega) H1.out.rb hen ssb nxb 0 HNb.out).mono ?_;rintro e W2 ⟨v,hre,hv⟩;obtain⟨rfl,hok⟩:=hre.ok;obtain⟨a2,c2,rfl,ho⟩:=Zai (hv rfl) HLb.out.1;have y12:W2.cell? ⟨r,1,none⟩=some (.int .i64 ((nxb:Nat):Int)):=hok.blk.cell 1;have y22:W2.cell? ⟨r,2,none⟩=some (.int .i64 ((en:Nat):Int)):=hok.blk.cell 2;have j:=H1.out.step hok hrl;have t2:=j.db.cell 1;have u2:=j.db.free 1;simp[Zae,zDH] at t2;have i:=j.host hrl ho HLb.out.2;have q02:=i.sb.cell 0;have q12:=i.sb.cell 1;have q22:=i.sb.cell 2;have q32:=i.sb.cell 3;have q42:=i.sb.cell 4;have q52:=i.sb.cell 5;have q62:=i.sb.cell 6;have q72:=i.sb.cell 7;simp at q02 q12 q22 q32 q42 q52 q62 q72;have H2:=Zhd i;clear hre hv hok ho i j)
   |(go_at_call 184;refine(Za9 _ r bo bl bc l (HBY.out _ H0.out.fr) p en (by omega) hen (by omega) (fun a ha=>⟨(HNE.out a ha).1,Nat.lt_of_lt_of_le (HNE.out a ha).2 H0.out.fr.size⟩) H0.out.rb _ _ _ _ 3 2 _ _ (by decide) (by decide) (by decide) zsa nxa 0 HNa.out).mono ?_;rintro e W1 ⟨v,hre,hv⟩;obtain⟨rfl,hok⟩:=hre.ok;obtain⟨a1,c1,rfl,ho⟩:=Zai (hv rfl) HLa.out.1;have y11:W1.cell? ⟨r,1,none⟩=some (.int .i64 ((nxa:Nat):Int)):=hok.blk.cell 1;have y21:W1.cell? ⟨r,2,none⟩=some (.int .i64 ((en:Nat):Int)):=hok.blk.cell 2;have j:=H0.out.step hok hrl;have t1:=j.db.cell 3;have u1:=j.db.free 3;simp[Zae,zDH] at t1;have i:=j.nums hrl ho HLa.out.2;have q01:=i.sb.cell 0;have q11:=i.sb.cell 1;have q21:=i.sb.cell 2;have q31:=i.sb.cell 3;have q41:=i.sb.cell 4;have q51:=i.sb.cell 5;have q61:=i.sb.cell 6;have q71:=i.sb.cell 7;simp at q01 q11 q21 q31 q41 q51 q61 q71;have H1:=Zhd i;clear hre hv hok ho i j))
  have iz:=H2.out.dr
  have z1:=iz.rb.cell 1
  have z2:=iz.rb.cell 2
  change _=some (Value.int IntKind.i64 ((nxb:Nat):Int)) at z1
  change _=some (Value.int IntKind.i64 ((en:Nat):Int)) at z2
  have HZ:=Zhd iz
  clear iz
  clear q0 q1 q2 q3 q4 q5 q6 q7 q01 q11 q21 q31 q41 q51 q61 q71 q02 q12 q22 q32 q42 q52 q62 q72 t1 u1 t2 u2
  go_region
  all_goals go_wp2_with fail
  all_goals
   rw[HR.out]
   exact⟨rfl,.inr ⟨by decide,rfl,HZ.out.fr⟩⟩
 ·have hR:res=(⟨[],ssb,[],zsa,[]⟩,0):=by
   rw[HRES.out]
   simp only[gd5,HNa.out,HNb.out,ne_eq,not_true_eq_false,if_false]
   rw[if_neg hxe]
  have HR:=Zhd hR
  have hxb: ¬((nxb:Nat):Int)<(en:Int):=by omega
  clear hR hxe
  clear hna hnb
  go_enter Tryz.func180,Tryz.ntmps180
  go_upto_region 1 with fail
  generalize (w.alloc (.cells #[.int .i64 0,.bool true,.bool false,.bool short,.int .i64 3,.int .i64 2,.bool false,.bool true] 211)).alloc (.cells #[.slice none 0 0,.slice none 0 0,.slice none 0 0,.slice none 0 0,.slice none 0 0] 35)=W0 at hst⊢
  have q0:=hst.sb.cell 0
  have q1:=hst.sb.cell 1
  have q2:=hst.sb.cell 2
  have q3:=hst.sb.cell 3
  have q4:=hst.sb.cell 4
  have q5:=hst.sb.cell 5
  have q6:=hst.sb.cell 6
  have q7:=hst.sb.cell 7
  simp at q0 q1 q2 q3 q4 q5 q6 q7
  have H0:=Zhd hst
  clear hst
  go_wp2_with (first
   |(go_at_call 185;refine(Za8 _ r bo bl bc l (HBY.out _ H1.out.fr) nxa en (by omega) (by omega) H1.out.rb hen ssb nxb 0 HNb.out).mono ?_;rintro e W2 ⟨v,hre,hv⟩;obtain⟨rfl,hok⟩:=hre.ok;obtain⟨a2,c2,rfl,ho⟩:=Zai (hv rfl) HLb.out.1;have y12:W2.cell? ⟨r,1,none⟩=some (.int .i64 ((nxb:Nat):Int)):=hok.blk.cell 1;have y22:W2.cell? ⟨r,2,none⟩=some (.int .i64 ((en:Nat):Int)):=hok.blk.cell 2;have j:=H1.out.step hok hrl;have t2:=j.db.cell 1;have u2:=j.db.free 1;simp[Zae,zDH] at t2;have i:=j.host hrl ho HLb.out.2;have q02:=i.sb.cell 0;have q12:=i.sb.cell 1;have q22:=i.sb.cell 2;have q32:=i.sb.cell 3;have q42:=i.sb.cell 4;have q52:=i.sb.cell 5;have q62:=i.sb.cell 6;have q72:=i.sb.cell 7;simp at q02 q12 q22 q32 q42 q52 q62 q72;have H2:=Zhd i;clear hre hv hok ho i j)
   |(go_at_call 184;refine(Za9 _ r bo bl bc l (HBY.out _ H0.out.fr) p en (by omega) hen (by omega) (fun a ha=>⟨(HNE.out a ha).1,Nat.lt_of_lt_of_le (HNE.out a ha).2 H0.out.fr.size⟩) H0.out.rb _ _ _ _ 3 2 _ _ (by decide) (by decide) (by decide) zsa nxa 0 HNa.out).mono ?_;rintro e W1 ⟨v,hre,hv⟩;obtain⟨rfl,hok⟩:=hre.ok;obtain⟨a1,c1,rfl,ho⟩:=Zai (hv rfl) HLa.out.1;have y11:W1.cell? ⟨r,1,none⟩=some (.int .i64 ((nxa:Nat):Int)):=hok.blk.cell 1;have y21:W1.cell? ⟨r,2,none⟩=some (.int .i64 ((en:Nat):Int)):=hok.blk.cell 2;have j:=H0.out.step hok hrl;have t1:=j.db.cell 3;have u1:=j.db.free 3;simp[Zae,zDH] at t1;have i:=j.nums hrl ho HLa.out.2;have q01:=i.sb.cell 0;have q11:=i.sb.cell 1;have q21:=i.sb.cell 2;have q31:=i.sb.cell 3;have q41:=i.sb.cell 4;have q51:=i.sb.cell 5;have q61:=i.sb.cell 6;have q71:=i.sb.cell 7;simp at q01 q11 q21 q31 q41 q51 q61 q71;have H1:=Zhd i;clear hre hv hok ho i j))
  have iz:=H2.out.dr
  have z1:=iz.rb.cell 1
  have z2:=iz.rb.cell 2
  change _=some (Value.int IntKind.i64 ((nxb:Nat):Int)) at z1
  change _=some (Value.int IntKind.i64 ((en:Nat):Int)) at z2
  have HZ:=Zhd iz
  clear iz
  clear q0 q1 q2 q3 q4 q5 q6 q7 q01 q11 q21 q31 q41 q51 q61 q71 q02 q12 q22 q32 q42 q52 q62 q72 t1 u1 t2 u2
  go_region
  all_goals go_wp2_with (first
   |(refine wpList_store_row rfl 35 _ _ rfl (w.heap.size+1) (Zae _) rfl rfl 35 (Zae _) HZ.out.db ZaC rfl (Zbp _) ?_)
   |(refine wpList_load_row rfl 35 _ rfl (w.heap.size+1) rfl 35 (Zae _) (0,0) _ HZ.out.db Tryz.underlying35 rfl ZaC ?_))
  all_goals
   have hf:=HZ.out.fin hrl
   rw[HR.out]
   exact bodyPost_ret (results_cell_row (p:=4) (ty:=35) rfl _ _ (w.heap.size+1) 35 _ (0,0) _ rfl hf.1 Tryz.underlying35 rfl ZaC) rfl hf.2
theorem Znr (w:World) (r:Nat) (bo:Option Addr) (bl bc:Nat) (l:List UInt8) (hl:ZbP w bo bl bc l) (p en:Nat) (hp:p≤en) (hen:en≤bl) (hbl:bl≤900000) (hne:∀ a,bo=some a→a.block≠r∧a.block<w.heap.size) (hr:Blk w r (gdC bo bl bc p en) 237) (short:Bool):
  Calls Tryz.prog 180 #[.pointer (some ⟨r,0,none⟩),.agg #[.int .i64 0,.bool true,.bool true,.bool short,.int .i64 5,.int .i64 4,.bool false,.bool false]] w fun e w'=>GdEnd w w' r (gd6 l en p) e:=by
 have hst:=GdSt.start w r bo bl bc p en #[.int .i64 0,.bool true,.bool true,.bool short,.int .i64 5,.int .i64 4,.bool false,.bool false] hr
 have hrl:=hr.lt
 have HBY:=Zhd (fun W (hg:w.grownBy W (some r))=>hl.grown hg (fun a ha h=>(hne a ha).1 (Zsi h)))
 have HNE:=Zhd hne
 obtain⟨res,hres⟩:∃ res,res=gd6 l en p:=⟨_,rfl⟩
 rw[←hres]
 have HRES:=Zhd hres
 clear hr hl hne hres
 obtain⟨ssa,nxa,ka,hna⟩:∃ ss nx k,ZbA l en p=(ss,nx,k):=⟨_,_,_,rfl⟩
 have hlea:=Zfo (l:=l) (en:=en) (p:=p)
 have hoka:=Zfp l en p
 rw[hna] at hlea hoka
 simp only at hlea hoka
 have HLa:=Zhd (show ssa.length≤140737488355328∧∀ s∈ssa,s.size≤9223372036854775807 from⟨by omega,fun s hs=>by have:=hoka.2 s hs;omega⟩)
 have HNa:=Zhd hna
 clear hoka
 obtain⟨ssb,nxb,kb,hnb⟩:∃ ss nx k,ZbA l en nxa=(ss,nx,k):=⟨_,_,_,rfl⟩
 have hleb:=Zfo (l:=l) (en:=en) (p:=nxa)
 have hokb:=Zfp l en nxa
 rw[hnb] at hleb hokb
 simp only at hleb hokb
 have HLb:=Zhd (show ssb.length≤140737488355328∧∀ s∈ssb,s.size≤9223372036854775807 from⟨by omega,fun s hs=>by have:=hokb.2 s hs;omega⟩)
 have HNb:=Zhd hnb
 clear hokb
 obtain⟨zsc,nxc,kc,hnc⟩:∃ zs nx k,Zbx l en 4 5 nxb=(zs,nx,k):=⟨_,_,_,rfl⟩
 have hlnc:=Zdd l en 4 5 nxb
 have hwfc:=ZdW l en (show 4≤7 by omega) 5 nxb
 rw[hnc] at hlnc hwfc
 simp only at hlnc hwfc
 have HNc:=Zhd hnc
 by_cases hka:ka≠0
 ·have hR:res=(Zcv,ka):=by
   rw[HRES.out]
   simp only[gd6,HNa.out,ne_eq]
   rw[if_pos hka]
  have HK:=Zhd hka
  have HR:=Zhd hR
  clear hR hka
  clear hna hnb hnc
  clear hlnc hwfc
  go_enter Tryz.func180,Tryz.ntmps180
  go_upto_region 1 with fail
  generalize (w.alloc (.cells #[.int .i64 0,.bool true,.bool true,.bool short,.int .i64 5,.int .i64 4,.bool false,.bool false] 211)).alloc (.cells #[.slice none 0 0,.slice none 0 0,.slice none 0 0,.slice none 0 0,.slice none 0 0] 35)=W0 at hst⊢
  have q0:=hst.sb.cell 0
  have q1:=hst.sb.cell 1
  have q2:=hst.sb.cell 2
  have q3:=hst.sb.cell 3
  have q4:=hst.sb.cell 4
  have q5:=hst.sb.cell 5
  have q6:=hst.sb.cell 6
  have q7:=hst.sb.cell 7
  simp at q0 q1 q2 q3 q4 q5 q6 q7
  have H0:=Zhd hst
  clear hst
  go_wp2_with (first
   |(go_at_call 185;refine(Za8 _ r bo bl bc l (HBY.out _ H0.out.fr) p en (by omega) (by omega) H0.out.rb hen ssa nxa ka HNa.out).mono ?_;rintro e W1 ⟨v,hre,-⟩;obtain⟨rfl,hg⟩:=hre.no HK.out;have HE:=Zhd (Zah H0.out.fr hg);clear hre hg;(try simp only[Zju])))
  rw[HR.out]
  exact⟨rfl,.inr ⟨HK.out,rfl,HE.out⟩⟩
 obtain rfl:ka=0:=Classical.byContradiction hka
 clear hka
 replace hlea:=hlea rfl
 by_cases hkb:kb≠0
 ·have hR:res=(Zcv,kb):=by
   rw[HRES.out]
   simp only[gd6,HNa.out,HNb.out,ne_eq,not_true_eq_false,if_false]
   rw[if_pos hkb]
  have HK:=Zhd hkb
  have HR:=Zhd hR
  clear hR hkb
  clear hna hnb hnc
  clear hlnc hwfc
  go_enter Tryz.func180,Tryz.ntmps180
  go_upto_region 1 with fail
  generalize (w.alloc (.cells #[.int .i64 0,.bool true,.bool true,.bool short,.int .i64 5,.int .i64 4,.bool false,.bool false] 211)).alloc (.cells #[.slice none 0 0,.slice none 0 0,.slice none 0 0,.slice none 0 0,.slice none 0 0] 35)=W0 at hst⊢
  have q0:=hst.sb.cell 0
  have q1:=hst.sb.cell 1
  have q2:=hst.sb.cell 2
  have q3:=hst.sb.cell 3
  have q4:=hst.sb.cell 4
  have q5:=hst.sb.cell 5
  have q6:=hst.sb.cell 6
  have q7:=hst.sb.cell 7
  simp at q0 q1 q2 q3 q4 q5 q6 q7
  have H0:=Zhd hst
  clear hst
  go_wp2_with (first
   |(go_at_call 185;refine(Za8 _ r bo bl bc l (HBY.out _ H1.out.fr) nxa en (by omega) (by omega) H1.out.rb hen ssb nxb kb HNb.out).mono ?_;rintro e W2 ⟨v,hre,-⟩;obtain⟨rfl,hg⟩:=hre.no HK.out;have HE:=Zhd (Zah H1.out.fr hg);clear hre hg;(try simp only[Zju]))
   |(go_at_call 185;refine(Za8 _ r bo bl bc l (HBY.out _ H0.out.fr) p en (by omega) (by omega) H0.out.rb hen ssa nxa 0 HNa.out).mono ?_;rintro e W1 ⟨v,hre,hv⟩;obtain⟨rfl,hok⟩:=hre.ok;obtain⟨a1,c1,rfl,ho⟩:=Zai (hv rfl) HLa.out.1;have y11:W1.cell? ⟨r,1,none⟩=some (.int .i64 ((nxa:Nat):Int)):=hok.blk.cell 1;have y21:W1.cell? ⟨r,2,none⟩=some (.int .i64 ((en:Nat):Int)):=hok.blk.cell 2;have j:=H0.out.step hok hrl;have t1:=j.db.cell 1;have u1:=j.db.free 1;simp[Zae,zDH] at t1;have i:=j.host hrl ho HLa.out.2;have q01:=i.sb.cell 0;have q11:=i.sb.cell 1;have q21:=i.sb.cell 2;have q31:=i.sb.cell 3;have q41:=i.sb.cell 4;have q51:=i.sb.cell 5;have q61:=i.sb.cell 6;have q71:=i.sb.cell 7;simp at q01 q11 q21 q31 q41 q51 q61 q71;have H1:=Zhd i;clear hre hv hok ho i j))
  rw[HR.out]
  exact⟨rfl,.inr ⟨HK.out,rfl,HE.out⟩⟩
 obtain rfl:kb=0:=Classical.byContradiction hkb
 clear hkb
 replace hleb:=hleb rfl
 by_cases hkc:kc≠0
 ·have hR:res=(Zcv,kc):=by
   rw[HRES.out]
   simp only[gd6,HNa.out,HNb.out,HNc.out,ne_eq,not_true_eq_false,if_false]
   rw[if_pos hkc]
  have HK:=Zhd hkc
  have HR:=Zhd hR
  clear hR hkc
  clear hna hnb hnc
  clear hlnc hwfc
  go_enter Tryz.func180,Tryz.ntmps180
  go_upto_region 1 with fail
  generalize (w.alloc (.cells #[.int .i64 0,.bool true,.bool true,.bool short,.int .i64 5,.int .i64 4,.bool false,.bool false] 211)).alloc (.cells #[.slice none 0 0,.slice none 0 0,.slice none 0 0,.slice none 0 0,.slice none 0 0] 35)=W0 at hst⊢
  have q0:=hst.sb.cell 0
  have q1:=hst.sb.cell 1
  have q2:=hst.sb.cell 2
  have q3:=hst.sb.cell 3
  have q4:=hst.sb.cell 4
  have q5:=hst.sb.cell 5
  have q6:=hst.sb.cell 6
  have q7:=hst.sb.cell 7
  simp at q0 q1 q2 q3 q4 q5 q6 q7
  have H0:=Zhd hst
  clear hst
  go_wp2_with (first
   |(go_at_call 184;refine(Za9 _ r bo bl bc l (HBY.out _ H2.out.fr) nxb en (by omega) hen (by omega) (fun a ha=>⟨(HNE.out a ha).1,Nat.lt_of_lt_of_le (HNE.out a ha).2 H2.out.fr.size⟩) H2.out.rb _ _ _ _ 5 4 _ _ (by decide) (by decide) (by decide) zsc nxc kc HNc.out).mono ?_;rintro e W3 ⟨v,hre,-⟩;obtain⟨rfl,hg⟩:=hre.no HK.out;have HE:=Zhd (Zah H2.out.fr hg);clear hre hg;(try simp only[Zju]))
   |(go_at_call 185;refine(Za8 _ r bo bl bc l (HBY.out _ H1.out.fr) nxa en (by omega) (by omega) H1.out.rb hen ssb nxb 0 HNb.out).mono ?_;rintro e W2 ⟨v,hre,hv⟩;obtain⟨rfl,hok⟩:=hre.ok;obtain⟨a2,c2,rfl,ho⟩:=Zai (hv rfl) HLb.out.1;have y12:W2.cell? ⟨r,1,none⟩=some (.int .i64 ((nxb:Nat):Int)):=hok.blk.cell 1;have y22:W2.cell? ⟨r,2,none⟩=some (.int .i64 ((en:Nat):Int)):=hok.blk.cell 2;have j:=H1.out.step hok hrl;have t2:=j.db.cell 2;have u2:=j.db.free 2;simp[Zae,zDH] at t2;have i:=j.mail hrl ho HLb.out.2;have q02:=i.sb.cell 0;have q12:=i.sb.cell 1;have q22:=i.sb.cell 2;have q32:=i.sb.cell 3;have q42:=i.sb.cell 4;have q52:=i.sb.cell 5;have q62:=i.sb.cell 6;have q72:=i.sb.cell 7;simp at q02 q12 q22 q32 q42 q52 q62 q72;have H2:=Zhd i;clear hre hv hok ho i j)
   |(go_at_call 185;refine(Za8 _ r bo bl bc l (HBY.out _ H0.out.fr) p en (by omega) (by omega) H0.out.rb hen ssa nxa 0 HNa.out).mono ?_;rintro e W1 ⟨v,hre,hv⟩;obtain⟨rfl,hok⟩:=hre.ok;obtain⟨a1,c1,rfl,ho⟩:=Zai (hv rfl) HLa.out.1;have y11:W1.cell? ⟨r,1,none⟩=some (.int .i64 ((nxa:Nat):Int)):=hok.blk.cell 1;have y21:W1.cell? ⟨r,2,none⟩=some (.int .i64 ((en:Nat):Int)):=hok.blk.cell 2;have j:=H0.out.step hok hrl;have t1:=j.db.cell 1;have u1:=j.db.free 1;simp[Zae,zDH] at t1;have i:=j.host hrl ho HLa.out.2;have q01:=i.sb.cell 0;have q11:=i.sb.cell 1;have q21:=i.sb.cell 2;have q31:=i.sb.cell 3;have q41:=i.sb.cell 4;have q51:=i.sb.cell 5;have q61:=i.sb.cell 6;have q71:=i.sb.cell 7;simp at q01 q11 q21 q31 q41 q51 q61 q71;have H1:=Zhd i;clear hre hv hok ho i j))
  rw[HR.out]
  exact⟨rfl,.inr ⟨HK.out,rfl,HE.out⟩⟩
 obtain rfl:kc=0:=Classical.byContradiction hkc
 clear hkc
 replace hlnc:=hlnc rfl
 have hnbc:nxc≤nxb+100:=by omega
 have HLc:=Zhd (show zsc.length≤140737488355328∧∀ z∈zsc,wfi z from⟨by omega,hwfc⟩)
 clear hwfc hlnc
 by_cases hxe:nxc<en
 ·have hR:res=(Zcv,7):=by
   rw[HRES.out]
   simp only[gd6,HNa.out,HNb.out,HNc.out,ne_eq,not_true_eq_false,if_false]
   rw[if_pos hxe]
  have HR:=Zhd hR
  have hxb:((nxc:Nat):Int)<(en:Int):=by omega
  clear hR hxe
  clear hna hnb hnc
  go_enter Tryz.func180,Tryz.ntmps180
  go_upto_region 1 with fail
  generalize (w.alloc (.cells #[.int .i64 0,.bool true,.bool true,.bool short,.int .i64 5,.int .i64 4,.bool false,.bool false] 211)).alloc (.cells #[.slice none 0 0,.slice none 0 0,.slice none 0 0,.slice none 0 0,.slice none 0 0] 35)=W0 at hst⊢
  have q0:=hst.sb.cell 0
  have q1:=hst.sb.cell 1
  have q2:=hst.sb.cell 2
  have q3:=hst.sb.cell 3
  have q4:=hst.sb.cell 4
  have q5:=hst.sb.cell 5
  have q6:=hst.sb.cell 6
  have q7:=hst.sb.cell 7
  simp at q0 q1 q2 q3 q4 q5 q6 q7
  have H0:=Zhd hst
  clear hst
  go_wp2_with (first
   |(go_at_call 184;refine(Za9 _ r bo bl bc l (HBY.out _ H2.out.fr) nxb en (by omega) hen (by omega) (fun a ha=>⟨(HNE.out a ha).1,Nat.lt_of_lt_of_le (HNE.out a ha).2 H2.out.fr.size⟩) H2.out.rb _ _ _ _ 5 4 _ _ (by decide) (by decide) (by decide) zsc nxc 0 HNc.out).mono ?_;rintro e W3 ⟨v,hre,hv⟩;obtain⟨rfl,hok⟩:=hre.ok;obtain⟨a3,c3,rfl,ho⟩:=Zai (hv rfl) HLc.out.1;have y13:W3.cell? ⟨r,1,none⟩=some (.int .i64 ((nxc:Nat):Int)):=hok.blk.cell 1;have y23:W3.cell? ⟨r,2,none⟩=some (.int .i64 ((en:Nat):Int)):=hok.blk.cell 2;have j:=H2.out.step hok hrl;have t3:=j.db.cell 3;have u3:=j.db.free 3;simp[Zae,zDH] at t3;have i:=j.nums hrl ho HLc.out.2;have q03:=i.sb.cell 0;have q13:=i.sb.cell 1;have q23:=i.sb.cell 2;have q33:=i.sb.cell 3;have q43:=i.sb.cell 4;have q53:=i.sb.cell 5;have q63:=i.sb.cell 6;have q73:=i.sb.cell 7;simp at q03 q13 q23 q33 q43 q53 q63 q73;have H3:=Zhd i;clear hre hv hok ho i j)
   |(go_at_call 185;refine(Za8 _ r bo bl bc l (HBY.out _ H1.out.fr) nxa en (by omega) (by omega) H1.out.rb hen ssb nxb 0 HNb.out).mono ?_;rintro e W2 ⟨v,hre,hv⟩;obtain⟨rfl,hok⟩:=hre.ok;obtain⟨a2,c2,rfl,ho⟩:=Zai (hv rfl) HLb.out.1;have y12:W2.cell? ⟨r,1,none⟩=some (.int .i64 ((nxb:Nat):Int)):=hok.blk.cell 1;have y22:W2.cell? ⟨r,2,none⟩=some (.int .i64 ((en:Nat):Int)):=hok.blk.cell 2;have j:=H1.out.step hok hrl;have t2:=j.db.cell 2;have u2:=j.db.free 2;simp[Zae,zDH] at t2;have i:=j.mail hrl ho HLb.out.2;have q02:=i.sb.cell 0;have q12:=i.sb.cell 1;have q22:=i.sb.cell 2;have q32:=i.sb.cell 3;have q42:=i.sb.cell 4;have q52:=i.sb.cell 5;have q62:=i.sb.cell 6;have q72:=i.sb.cell 7;simp at q02 q12 q22 q32 q42 q52 q62 q72;have H2:=Zhd i;clear hre hv hok ho i j)
   |(go_at_call 185;refine(Za8 _ r bo bl bc l (HBY.out _ H0.out.fr) p en (by omega) (by omega) H0.out.rb hen ssa nxa 0 HNa.out).mono ?_;rintro e W1 ⟨v,hre,hv⟩;obtain⟨rfl,hok⟩:=hre.ok;obtain⟨a1,c1,rfl,ho⟩:=Zai (hv rfl) HLa.out.1;have y11:W1.cell? ⟨r,1,none⟩=some (.int .i64 ((nxa:Nat):Int)):=hok.blk.cell 1;have y21:W1.cell? ⟨r,2,none⟩=some (.int .i64 ((en:Nat):Int)):=hok.blk.cell 2;have j:=H0.out.step hok hrl;have t1:=j.db.cell 1;have u1:=j.db.free 1;simp[Zae,zDH] at t1;have i:=j.host hrl ho HLa.out.2;have q01:=i.sb.cell 0;have q11:=i.sb.cell 1;have q21:=i.sb.cell 2;have q31:=i.sb.cell 3;have q41:=i.sb.cell 4;have q51:=i.sb.cell 5;have q61:=i.sb.cell 6;have q71:=i.sb.cell 7;simp at q01 q11 q21 q31 q41 q51 q61 q71;have H1:=Zhd i;clear hre hv hok ho i j))
  have iz:=H3.out.dr
  have z1:=iz.rb.cell 1
  have z2:=iz.rb.cell 2
  change _=some (Value.int IntKind.i64 ((nxc:Nat):Int)) at z1
  change _=some (Value.int IntKind.i64 ((en:Nat):Int)) at z2
  have HZ:=Zhd iz
  clear iz
  clear q0 q1 q2 q3 q4 q5 q6 q7 q01 q11 q21 q31 q41 q51 q61 q71 q02 q12 q22 q32 q42 q52 q62 q72 q03 q13 q23 q33 q43 q53 q63 q73 t1 u1 t2 u2 t3 u3
  go_region
  all_goals go_wp2_with fail
  all_goals
   rw[HR.out]
   exact⟨rfl,.inr ⟨by decide,rfl,HZ.out.fr⟩⟩
 ·have hR:res=(⟨[],ssa,ssb,zsc,[]⟩,0):=by
   rw[HRES.out]
   simp only[gd6,HNa.out,HNb.out,HNc.out,ne_eq,not_true_eq_false,if_false]
   rw[if_neg hxe]
  have HR:=Zhd hR
  have hxb: ¬((nxc:Nat):Int)<(en:Int):=by omega
  clear hR hxe
  clear hna hnb hnc
  go_enter Tryz.func180,Tryz.ntmps180
  go_upto_region 1 with fail
  generalize (w.alloc (.cells #[.int .i64 0,.bool true,.bool true,.bool short,.int .i64 5,.int .i64 4,.bool false,.bool false] 211)).alloc (.cells #[.slice none 0 0,.slice none 0 0,.slice none 0 0,.slice none 0 0,.slice none 0 0] 35)=W0 at hst⊢
  have q0:=hst.sb.cell 0
  have q1:=hst.sb.cell 1
  have q2:=hst.sb.cell 2
  have q3:=hst.sb.cell 3
  have q4:=hst.sb.cell 4
  have q5:=hst.sb.cell 5
  have q6:=hst.sb.cell 6
  have q7:=hst.sb.cell 7
  simp at q0 q1 q2 q3 q4 q5 q6 q7
  have H0:=Zhd hst
  clear hst
  go_wp2_with (first
   |(go_at_call 184;refine(Za9 _ r bo bl bc l (HBY.out _ H2.out.fr) nxb en (by omega) hen (by omega) (fun a ha=>⟨(HNE.out a ha).1,Nat.lt_of_lt_of_le (HNE.out a ha).2 H2.out.fr.size⟩) H2.out.rb _ _ _ _ 5 4 _ _ (by decide) (by decide) (by decide) zsc nxc 0 HNc.out).mono ?_;rintro e W3 ⟨v,hre,hv⟩;obtain⟨rfl,hok⟩:=hre.ok;obtain⟨a3,c3,rfl,ho⟩:=Zai (hv rfl) HLc.out.1;have y13:W3.cell? ⟨r,1,none⟩=some (.int .i64 ((nxc:Nat):Int)):=hok.blk.cell 1;have y23:W3.cell? ⟨r,2,none⟩=some (.int .i64 ((en:Nat):Int)):=hok.blk.cell 2;have j:=H2.out.step hok hrl;have t3:=j.db.cell 3;have u3:=j.db.free 3;simp[Zae,zDH] at t3;have i:=j.nums hrl ho HLc.out.2;have q03:=i.sb.cell 0;have q13:=i.sb.cell 1;have q23:=i.sb.cell 2;have q33:=i.sb.cell 3;have q43:=i.sb.cell 4;have q53:=i.sb.cell 5;have q63:=i.sb.cell 6;have q73:=i.sb.cell 7;simp at q03 q13 q23 q33 q43 q53 q63 q73;have H3:=Zhd i;clear hre hv hok ho i j)
   |(go_at_call 185;refine(Za8 _ r bo bl bc l (HBY.out _ H1.out.fr) nxa en (by omega) (by omega) H1.out.rb hen ssb nxb 0 HNb.out).mono ?_;rintro e W2 ⟨v,hre,hv⟩;obtain⟨rfl,hok⟩:=hre.ok;obtain⟨a2,c2,rfl,ho⟩:=Zai (hv rfl) HLb.out.1;have y12:W2.cell? ⟨r,1,none⟩=some (.int .i64 ((nxb:Nat):Int)):=hok.blk.cell 1;have y22:W2.cell? ⟨r,2,none⟩=some (.int .i64 ((en:Nat):Int)):=hok.blk.cell 2;have j:=H1.out.step hok hrl;have t2:=j.db.cell 2;have u2:=j.db.free 2;simp[Zae,zDH] at t2;have i:=j.mail hrl ho HLb.out.2;have q02:=i.sb.cell 0;have q12:=i.sb.cell 1;have q22:=i.sb.cell 2;have q32:=i.sb.cell 3;have q42:=i.sb.cell 4;have q52:=i.sb.cell 5;have q62:=i.sb.cell 6;have q72:=i.sb.cell 7;simp at q02 q12 q22 q32 q42 q52 q62 q72;have H2:=Zhd i;clear hre hv hok ho i j)
   |(go_at_call 185;refine(Za8 _ r bo bl bc l (HBY.out _ H0.out.fr) p en (by omega) (by omega) H0.out.rb hen ssa nxa 0 HNa.out).mono ?_;rintro e W1 ⟨v,hre,hv⟩;obtain⟨rfl,hok⟩:=hre.ok;obtain⟨a1,c1,rfl,ho⟩:=Zai (hv rfl) HLa.out.1;have y11:W1.cell? ⟨r,1,none⟩=some (.int .i64 ((nxa:Nat):Int)):=hok.blk.cell 1;have y21:W1.cell? ⟨r,2,none⟩=some (.int .i64 ((en:Nat):Int)):=hok.blk.cell 2;have j:=H0.out.step hok hrl;have t1:=j.db.cell 1;have u1:=j.db.free 1;simp[Zae,zDH] at t1;have i:=j.host hrl ho HLa.out.2;have q01:=i.sb.cell 0;have q11:=i.sb.cell 1;have q21:=i.sb.cell 2;have q31:=i.sb.cell 3;have q41:=i.sb.cell 4;have q51:=i.sb.cell 5;have q61:=i.sb.cell 6;have q71:=i.sb.cell 7;simp at q01 q11 q21 q31 q41 q51 q61 q71;have H1:=Zhd i;clear hre hv hok ho i j))
  have iz:=H3.out.dr
  have z1:=iz.rb.cell 1
  have z2:=iz.rb.cell 2
  change _=some (Value.int IntKind.i64 ((nxc:Nat):Int)) at z1
  change _=some (Value.int IntKind.i64 ((en:Nat):Int)) at z2
  have HZ:=Zhd iz
  clear iz
  clear q0 q1 q2 q3 q4 q5 q6 q7 q01 q11 q21 q31 q41 q51 q61 q71 q02 q12 q22 q32 q42 q52 q62 q72 q03 q13 q23 q33 q43 q53 q63 q73 t1 u1 t2 u2 t3 u3
  go_region
  all_goals go_wp2_with (first
   |(refine wpList_store_row rfl 35 _ _ rfl (w.heap.size+1) (Zae _) rfl rfl 35 (Zae _) HZ.out.db ZaC rfl (Zbp _) ?_)
   |(refine wpList_load_row rfl 35 _ rfl (w.heap.size+1) rfl 35 (Zae _) (0,0) _ HZ.out.db Tryz.underlying35 rfl ZaC ?_))
  all_goals
   have hf:=HZ.out.fin hrl
   rw[HR.out]
   exact bodyPost_ret (results_cell_row (p:=4) (ty:=35) rfl _ _ (w.heap.size+1) 35 _ (0,0) _ rfl hf.1 Tryz.underlying35 rfl ZaC) rfl hf.2
theorem Znt (w:World) (r:Nat) (bo:Option Addr) (bl bc:Nat) (l:List UInt8) (hl:ZbP w bo bl bc l) (p en:Nat) (hp:p≤en) (hen:en≤bl) (hbl:bl≤900000) (hne:∀ a,bo=some a→a.block≠r∧a.block<w.heap.size) (hr:Blk w r (gdC bo bl bc p en) 237):
  Calls Tryz.prog 180 #[.pointer (some ⟨r,0,none⟩),.agg #[.int .i64 0,.bool false,.bool false,.bool false,.int .i64 0,.int .i64 0,.bool true,.bool false]] w fun e w'=>GdEnd w w' r (gd3 l en p) e:=by
 have hst:=GdSt.start w r bo bl bc p en #[.int .i64 0,.bool false,.bool false,.bool false,.int .i64 0,.int .i64 0,.bool true,.bool false] hr
 have hrl:=hr.lt
 have HBY:=Zhd (fun W (hg:w.grownBy W (some r))=>hl.grown hg (fun a ha h=>(hne a ha).1 (Zsi h)))
 have HNE:=Zhd hne
 obtain⟨res,hres⟩:∃ res,res=gd3 l en p:=⟨_,rfl⟩
 rw[←hres]
 have HRES:=Zhd hres
 clear hr hl hne hres
 obtain⟨ssa,nxa,ka,hna⟩:∃ ss nx k,Zcw l en p=(ss,nx,k):=⟨_,_,_,rfl⟩
 have hoka:=ZoA l en p
 have hlea:=Zoz l en p (by omega)
 rw[hna] at hoka hlea
 simp only at hoka hlea
 have HLa:=Zhd (show ssa.length≤140737488355328∧∀ s∈ssa,s.size≤9223372036854775807 from⟨by omega,fun s hs=>by have:=hoka.2 s hs;omega⟩)
 have HNa:=Zhd hna
 clear hoka
 obtain⟨zsb,nxb,kb,hnb⟩:∃ zs nx k,Zbx l en 0 0 nxa=(zs,nx,k):=⟨_,_,_,rfl⟩
 have hlnb:=Zdd l en 0 0 nxa
 have hwfb:=ZdW l en (show 0≤7 by omega) 0 nxa
 rw[hnb] at hlnb hwfb
 simp only at hlnb hwfb
 have HNb:=Zhd hnb
 by_cases hka:ka≠0
 ·have hR:res=(Zcv,ka):=by
   rw[HRES.out]
   simp only[gd3,HNa.out,ne_eq]
   rw[if_pos hka]
  have HK:=Zhd hka
  have HR:=Zhd hR
  clear hR hka
  clear hna hnb
  go_enter Tryz.func180,Tryz.ntmps180
  go_upto_region 1 with fail
  generalize (w.alloc (.cells #[.int .i64 0,.bool false,.bool false,.bool false,.int .i64 0,.int .i64 0,.bool true,.bool false] 211)).alloc (.cells #[.slice none 0 0,.slice none 0 0,.slice none 0 0,.slice none 0 0,.slice none 0 0] 35)=W0 at hst⊢
  have q0:=hst.sb.cell 0
  have q1:=hst.sb.cell 1
  have q2:=hst.sb.cell 2
  have q3:=hst.sb.cell 3
  have q4:=hst.sb.cell 4
  have q5:=hst.sb.cell 5
  have q6:=hst.sb.cell 6
  have q7:=hst.sb.cell 7
  simp at q0 q1 q2 q3 q4 q5 q6 q7
  have H0:=Zhd hst
  clear hst
  go_wp2_with (first
   |(go_at_call 183;refine(ZfM _ r bo bl bc l (HBY.out _ H0.out.fr) p en (by omega) hen (by omega) (fun a ha=>⟨(HNE.out a ha).1,Nat.lt_of_lt_of_le (HNE.out a ha).2 H0.out.fr.size⟩) H0.out.rb ssa nxa ka HNa.out).mono ?_;rintro e W1 ⟨v,hre,-⟩;obtain⟨rfl,hg⟩:=hre.no HK.out;have HE:=Zhd (Zah H0.out.fr hg);clear hre hg;(try simp only[Zju])))
  rw[HR.out]
  exact⟨rfl,.inr ⟨HK.out,rfl,HE.out⟩⟩
 obtain rfl:ka=0:=Classical.byContradiction hka
 clear hka
 obtain⟨rfl,hzz,rfl⟩:zsb=[]∧nxa=nxb∧kb=0:=by simp only[Zbx,Prod.mk.injEq] at hnb;exact⟨hnb.1.symm,hnb.2.1,hnb.2.2.symm⟩
 subst hzz
 clear hlnb hwfb
 have HLb:=Zhd (show([]:List Int).length≤140737488355328∧∀ z∈([]:List Int),wfi z from⟨by simp,fun z hz=>by cases hz⟩)
 by_cases hxe:nxa<en
 ·have hR:res=(Zcv,7):=by
   rw[HRES.out]
   simp only[gd3,HNa.out,ne_eq,not_true_eq_false,if_false]
   rw[if_pos hxe]
  have HR:=Zhd hR
  have hxb:((nxa:Nat):Int)<(en:Int):=by omega
  clear hR hxe
  clear hna hnb
  go_enter Tryz.func180,Tryz.ntmps180
  go_upto_region 1 with fail
  generalize (w.alloc (.cells #[.int .i64 0,.bool false,.bool false,.bool false,.int .i64 0,.int .i64 0,.bool true,.bool false] 211)).alloc (.cells #[.slice none 0 0,.slice none 0 0,.slice none 0 0,.slice none 0 0,.slice none 0 0] 35)=W0 at hst⊢
  have q0:=hst.sb.cell 0
  have q1:=hst.sb.cell 1
  have q2:=hst.sb.cell 2
  have q3:=hst.sb.cell 3
  have q4:=hst.sb.cell 4
  have q5:=hst.sb.cell 5
  have q6:=hst.sb.cell 6
  have q7:=hst.sb.cell 7
  simp at q0 q1 q2 q3 q4 q5 q6 q7
  have H0:=Zhd hst
  clear hst
  go_wp2_with (first
   |(go_at_call 184;refine(Za9 _ r bo bl bc l (HBY.out _ H1.out.fr) nxa en (by omega) hen (by omega) (fun a ha=>⟨(HNE.out a ha).1,Nat.lt_of_lt_of_le (HNE.out a ha).2 H1.out.fr.size⟩) H1.out.rb _ _ _ _ 0 0 _ _ (by decide) (by decide) (by decide) [] nxa 0 HNb.out).mono ?_;rintro e W2 ⟨v,hre,hv⟩;obtain⟨rfl,hok⟩:=hre.ok;obtain⟨a2,c2,rfl,ho⟩:=Zai (hv rfl) HLb.out.1;have y12:W2.cell? ⟨r,1,none⟩=some (.int .i64 ((nxa:Nat):Int)):=hok.blk.cell 1;have y22:W2.cell? ⟨r,2,none⟩=some (.int .i64 ((en:Nat):Int)):=hok.blk.cell 2;have j:=H1.out.step hok hrl;have t2:=j.db.cell 3;have u2:=j.db.free 3;simp[Zae,zDH] at t2;have i:=j.nums hrl ho HLb.out.2;have q02:=i.sb.cell 0;have q12:=i.sb.cell 1;have q22:=i.sb.cell 2;have q32:=i.sb.cell 3;have q42:=i.sb.cell 4;have q52:=i.sb.cell 5;have q62:=i.sb.cell 6;have q72:=i.sb.cell 7;simp at q02 q12 q22 q32 q42 q52 q62 q72;have H2:=Zhd i;clear hre hv hok ho i j)
   |(go_at_call 183;refine(ZfM _ r bo bl bc l (HBY.out _ H0.out.fr) p en (by omega) hen (by omega) (fun a ha=>⟨(HNE.out a ha).1,Nat.lt_of_lt_of_le (HNE.out a ha).2 H0.out.fr.size⟩) H0.out.rb ssa nxa 0 HNa.out).mono ?_;rintro e W1 ⟨v,hre,hv⟩;obtain⟨rfl,hok⟩:=hre.ok;obtain⟨a1,c1,rfl,ho⟩:=Zai (hv rfl) HLa.out.1;have y11:W1.cell? ⟨r,1,none⟩=some (.int .i64 ((nxa:Nat):Int)):=hok.blk.cell 1;have y21:W1.cell? ⟨r,2,none⟩=some (.int .i64 ((en:Nat):Int)):=hok.blk.cell 2;have j:=H0.out.step hok hrl;have t1:=j.db.cell 4;have u1:=j.db.free 4;simp[Zae,zDH] at t1;have i:=j.texts hrl ho HLa.out.2;have q01:=i.sb.cell 0;have q11:=i.sb.cell 1;have q21:=i.sb.cell 2;have q31:=i.sb.cell 3;have q41:=i.sb.cell 4;have q51:=i.sb.cell 5;have q61:=i.sb.cell 6;have q71:=i.sb.cell 7;simp at q01 q11 q21 q31 q41 q51 q61 q71;have H1:=Zhd i;clear hre hv hok ho i j))
  have iz:=H2.out.dr
  have z1:=iz.rb.cell 1
  have z2:=iz.rb.cell 2
  change _=some (Value.int IntKind.i64 ((nxa:Nat):Int)) at z1
  change _=some (Value.int IntKind.i64 ((en:Nat):Int)) at z2
  have HZ:=Zhd iz
  clear iz
  clear q0 q1 q2 q3 q4 q5 q6 q7 q01 q11 q21 q31 q41 q51 q61 q71 q02 q12 q22 q32 q42 q52 q62 q72 t1 u1 t2 u2
  go_region
  all_goals go_wp2_with fail
  all_goals
   rw[HR.out]
   exact⟨rfl,.inr ⟨by decide,rfl,HZ.out.fr⟩⟩
 ·have hR:res=(⟨[],[],[],[],ssa⟩,0):=by
   rw[HRES.out]
   simp only[gd3,HNa.out,ne_eq,not_true_eq_false,if_false]
   rw[if_neg hxe]
  have HR:=Zhd hR
  have hxb: ¬((nxa:Nat):Int)<(en:Int):=by omega
  clear hR hxe
  clear hna hnb
  go_enter Tryz.func180,Tryz.ntmps180
  go_upto_region 1 with fail
  generalize (w.alloc (.cells #[.int .i64 0,.bool false,.bool false,.bool false,.int .i64 0,.int .i64 0,.bool true,.bool false] 211)).alloc (.cells #[.slice none 0 0,.slice none 0 0,.slice none 0 0,.slice none 0 0,.slice none 0 0] 35)=W0 at hst⊢
  have q0:=hst.sb.cell 0
  have q1:=hst.sb.cell 1
  have q2:=hst.sb.cell 2
  have q3:=hst.sb.cell 3
  have q4:=hst.sb.cell 4
  have q5:=hst.sb.cell 5
  have q6:=hst.sb.cell 6
  have q7:=hst.sb.cell 7
  simp at q0 q1 q2 q3 q4 q5 q6 q7
  have H0:=Zhd hst
  clear hst
  go_wp2_with (first
   |(go_at_call 184;refine(Za9 _ r bo bl bc l (HBY.out _ H1.out.fr) nxa en (by omega) hen (by omega) (fun a ha=>⟨(HNE.out a ha).1,Nat.lt_of_lt_of_le (HNE.out a ha).2 H1.out.fr.size⟩) H1.out.rb _ _ _ _ 0 0 _ _ (by decide) (by decide) (by decide) [] nxa 0 HNb.out).mono ?_;rintro e W2 ⟨v,hre,hv⟩;obtain⟨rfl,hok⟩:=hre.ok;obtain⟨a2,c2,rfl,ho⟩:=Zai (hv rfl) HLb.out.1;have y12:W2.cell? ⟨r,1,none⟩=some (.int .i64 ((nxa:Nat):Int)):=hok.blk.cell 1;have y22:W2.cell? ⟨r,2,none⟩=some (.int .i64 ((en:Nat):Int)):=hok.blk.cell 2;have j:=H1.out.step hok hrl;have t2:=j.db.cell 3;have u2:=j.db.free 3;simp[Zae,zDH] at t2;have i:=j.nums hrl ho HLb.out.2;have q02:=i.sb.cell 0;have q12:=i.sb.cell 1;have q22:=i.sb.cell 2;have q32:=i.sb.cell 3;have q42:=i.sb.cell 4;have q52:=i.sb.cell 5;have q62:=i.sb.cell 6;have q72:=i.sb.cell 7;simp at q02 q12 q22 q32 q42 q52 q62 q72;have H2:=Zhd i;clear hre hv hok ho i j)
   |(go_at_call 183;refine(ZfM _ r bo bl bc l (HBY.out _ H0.out.fr) p en (by omega) hen (by omega) (fun a ha=>⟨(HNE.out a ha).1,Nat.lt_of_lt_of_le (HNE.out a ha).2 H0.out.fr.size⟩) H0.out.rb ssa nxa 0 HNa.out).mono ?_;rintro e W1 ⟨v,hre,hv⟩;obtain⟨rfl,hok⟩:=hre.ok;obtain⟨a1,c1,rfl,ho⟩:=Zai (hv rfl) HLa.out.1;have y11:W1.cell? ⟨r,1,none⟩=some (.int .i64 ((nxa:Nat):Int)):=hok.blk.cell 1;have y21:W1.cell? ⟨r,2,none⟩=some (.int .i64 ((en:Nat):Int)):=hok.blk.cell 2;have j:=H0.out.step hok hrl;have t1:=j.db.cell 4;have u1:=j.db.free 4;simp[Zae,zDH] at t1;have i:=j.texts hrl ho HLa.out.2;have q01:=i.sb.cell 0;have q11:=i.sb.cell 1;have q21:=i.sb.cell 2;have q31:=i.sb.cell 3;have q41:=i.sb.cell 4;have q51:=i.sb.cell 5;have q61:=i.sb.cell 6;have q71:=i.sb.cell 7;simp at q01 q11 q21 q31 q41 q51 q61 q71;have H1:=Zhd i;clear hre hv hok ho i j))
  have iz:=H2.out.dr
  have z1:=iz.rb.cell 1
  have z2:=iz.rb.cell 2
  change _=some (Value.int IntKind.i64 ((nxa:Nat):Int)) at z1
  change _=some (Value.int IntKind.i64 ((en:Nat):Int)) at z2
  have HZ:=Zhd iz
  clear iz
  clear q0 q1 q2 q3 q4 q5 q6 q7 q01 q11 q21 q31 q41 q51 q61 q71 q02 q12 q22 q32 q42 q52 q62 q72 t1 u1 t2 u2
  go_region
  all_goals go_wp2_with (first
   |(refine wpList_store_row rfl 35 _ _ rfl (w.heap.size+1) (Zae _) rfl rfl 35 (Zae _) HZ.out.db ZaC rfl (Zbp _) ?_)
   |(refine wpList_load_row rfl 35 _ rfl (w.heap.size+1) rfl 35 (Zae _) (0,0) _ HZ.out.db Tryz.underlying35 rfl ZaC ?_))
  all_goals
   have hf:=HZ.out.fin hrl
   rw[HR.out]
   exact bodyPost_ret (results_cell_row (p:=4) (ty:=35) rfl _ _ (w.heap.size+1) 35 _ (0,0) _ rfl hf.1 Tryz.underlying35 rfl ZaC) rfl hf.2
theorem Zjc (w:World) (r:Nat) (bo:Option Addr) (bl bc:Nat) (l:List UInt8) (hl:ZbP w bo bl bc l) (p en:Nat) (hp:p≤en) (hen:en≤bl) (hbl:bl≤900000) (hne:∀ a,bo=some a→a.block≠r∧a.block<w.heap.size) (hr:Blk w r (gdC bo bl bc p en) 237) (n:Nat) (hn:1≤n∧n≤100):
  Calls Tryz.prog 180 #[.pointer (some ⟨r,0,none⟩),.agg #[.int .i64 (n:Int),.bool false,.bool false,.bool false,.int .i64 0,.int .i64 0,.bool false,.bool false]] w fun e w'=>GdEnd w w' r (gd1 n l en p) e:=by
 have hst:=GdSt.start w r bo bl bc p en #[.int .i64 (n:Int),.bool false,.bool false,.bool false,.int .i64 0,.int .i64 0,.bool false,.bool false] hr
 have hrl:=hr.lt
 have HBY:=Zhd (fun W (hg:w.grownBy W (some r))=>hl.grown hg (fun a ha h=>(hne a ha).1 (Zsi h)))
 have HNE:=Zhd hne
 obtain⟨res,hres⟩:∃ res,res=gd1 n l en p:=⟨_,rfl⟩
 rw[←hres]
 have HRES:=Zhd hres
 clear hr hl hne hres
 obtain⟨zsb,nxb,kb,hnb⟩:∃ zs nx k,Zbx l en 0 0 (p+n)=(zs,nx,k):=⟨_,_,_,rfl⟩
 have hlnb:=Zdd l en 0 0 (p+n)
 have hwfb:=ZdW l en (show 0≤7 by omega) 0 (p+n)
 rw[hnb] at hlnb hwfb
 simp only at hlnb hwfb
 have HNb:=Zhd hnb
 by_cases hx0:en-p<n
 ·have hR:res=(Zcv,3):=by rw[HRES.out,gd1,if_pos hx0]
  have HX:=Zhd hx0
  have HR:=Zhd hR
  clear hR hx0
  clear hnb
  go_enter Tryz.func180,Tryz.ntmps180
  go_upto_region 1 with fail
  generalize (w.alloc (.cells #[.int .i64 (n:Int),.bool false,.bool false,.bool false,.int .i64 0,.int .i64 0,.bool false,.bool false] 211)).alloc (.cells #[.slice none 0 0,.slice none 0 0,.slice none 0 0,.slice none 0 0,.slice none 0 0] 35)=W0 at hst⊢
  have q0:=hst.sb.cell 0
  have q1:=hst.sb.cell 1
  have q2:=hst.sb.cell 2
  have q3:=hst.sb.cell 3
  have q4:=hst.sb.cell 4
  have q5:=hst.sb.cell 5
  have q6:=hst.sb.cell 6
  have q7:=hst.sb.cell 7
  simp at q0 q1 q2 q3 q4 q5 q6 q7
  have H0:=Zhd hst
  clear hst
  go_wp2_with (first
   |(go_at_call 182;have hby:=ZcA _ r bo bl bc l (HBY.out _ H0.out.fr) p en n (by omega) hen (by omega) (by omega) (fun a ha=>(HNE.out a ha).1) H0.out.rb;rw[if_pos HX.out] at hby;refine hby.mono ?_;rintro e W1 ⟨v,hre,-⟩;obtain⟨rfl,hg⟩:=hre.no (by decide);have HE:=Zhd (Zah H0.out.fr hg);clear hby hre hg;(try simp only[Zju])))
  rw[HR.out]
  exact⟨rfl,.inr ⟨by decide,rfl,HE.out⟩⟩
 have HX:=Zhd hx0
 have hpn0:p+n≤en:=by omega
 obtain⟨rfl,hzz,rfl⟩:zsb=[]∧(p+n)=nxb∧kb=0:=by simp only[Zbx,Prod.mk.injEq] at hnb;exact⟨hnb.1.symm,hnb.2.1,hnb.2.2.symm⟩
 subst hzz
 clear hlnb hwfb
 have HLb:=Zhd (show([]:List Int).length≤140737488355328∧∀ z∈([]:List Int),wfi z from⟨by simp,fun z hz=>by cases hz⟩)
 by_cases hxe:(p+n)<en
 ·have hR:res=(Zcv,7):=by
   rw[HRES.out]
   simp only[gd1]
   rw[if_neg hx0,if_pos hxe]
  have HR:=Zhd hR
  have hxb:(((p+n):Nat):Int)<(en:Int):=by omega
  clear hR hxe hx0
  clear hnb
  go_enter Tryz.func180,Tryz.ntmps180
  go_upto_region 1 with fail
  generalize (w.alloc (.cells #[.int .i64 (n:Int),.bool false,.bool false,.bool false,.int .i64 0,.int .i64 0,.bool false,.bool false] 211)).alloc (.cells #[.slice none 0 0,.slice none 0 0,.slice none 0 0,.slice none 0 0,.slice none 0 0] 35)=W0 at hst⊢
  have q0:=hst.sb.cell 0
  have q1:=hst.sb.cell 1
  have q2:=hst.sb.cell 2
  have q3:=hst.sb.cell 3
  have q4:=hst.sb.cell 4
  have q5:=hst.sb.cell 5
  have q6:=hst.sb.cell 6
  have q7:=hst.sb.cell 7
  simp at q0 q1 q2 q3 q4 q5 q6 q7
  have H0:=Zhd hst
  clear hst
  go_wp2_with (first
   |(go_at_call 184;refine(Za9 _ r bo bl bc l (HBY.out _ H1.out.fr) (p+n) en (by omega) hen (by omega) (fun a ha=>⟨(HNE.out a ha).1,Nat.lt_of_lt_of_le (HNE.out a ha).2 H1.out.fr.size⟩) H1.out.rb _ _ _ _ 0 0 _ _ (by decide) (by decide) (by decide) [] (p+n) 0 HNb.out).mono ?_;rintro e W2 ⟨v,hre,hv⟩;obtain⟨rfl,hok⟩:=hre.ok;obtain⟨a2,c2,rfl,ho⟩:=Zai (hv rfl) HLb.out.1;have y12:W2.cell? ⟨r,1,none⟩=some (.int .i64 (((p+n):Nat):Int)):=hok.blk.cell 1;have y22:W2.cell? ⟨r,2,none⟩=some (.int .i64 ((en:Nat):Int)):=hok.blk.cell 2;have j:=H1.out.step hok hrl;have t2:=j.db.cell 3;have u2:=j.db.free 3;simp[Zae,zDH] at t2;have i:=j.nums hrl ho HLb.out.2;have q02:=i.sb.cell 0;have q12:=i.sb.cell 1;have q22:=i.sb.cell 2;have q32:=i.sb.cell 3;have q42:=i.sb.cell 4;have q52:=i.sb.cell 5;have q62:=i.sb.cell 6;have q72:=i.sb.cell 7;simp at q02 q12 q22 q32 q42 q52 q62 q72;have H2:=Zhd i;clear hre hv hok ho i j)
   |(go_at_call 182;have hby:=ZcA _ r bo bl bc l (HBY.out _ H0.out.fr) p en n (by omega) hen (by omega) (by omega) (fun a ha=>(HNE.out a ha).1) H0.out.rb;rw[if_neg HX.out] at hby;refine hby.mono ?_;rintro e W1 ⟨v,hre,hv⟩;obtain⟨rfl,hok⟩:=hre.ok;obtain⟨a1,c1,rfl,ho⟩:=hv (by have:=HX.out;omega);have y11:W1.cell? ⟨r,1,none⟩=some (.int .i64 ((p+n:Nat):Int)):=hok.blk.cell 1;have y21:W1.cell? ⟨r,2,none⟩=some (.int .i64 ((en:Nat):Int)):=hok.blk.cell 2;have j:=H0.out.step hok hrl;have t1:=j.db.cell 0;have u1:=j.db.free 0;simp[Zae,zDH] at t1;have i:=j.bytes hrl ho;have q01:=i.sb.cell 0;have q11:=i.sb.cell 1;have q21:=i.sb.cell 2;have q31:=i.sb.cell 3;have q41:=i.sb.cell 4;have q51:=i.sb.cell 5;have q61:=i.sb.cell 6;have q71:=i.sb.cell 7;simp at q01 q11 q21 q31 q41 q51 q61 q71;have H1:=Zhd i;clear hby hre hv hok ho i j))
  have iz:=H2.out.dr
  have z1:=iz.rb.cell 1
  have z2:=iz.rb.cell 2
  change _=some (Value.int IntKind.i64 (((p+n):Nat):Int)) at z1
  change _=some (Value.int IntKind.i64 ((en:Nat):Int)) at z2
  have HZ:=Zhd iz
  clear iz
  clear q0 q1 q2 q3 q4 q5 q6 q7 q01 q11 q21 q31 q41 q51 q61 q71 q02 q12 q22 q32 q42 q52 q62 q72 t1 u1 t2 u2
  go_region
  all_goals go_wp2_with fail
  all_goals
   rw[HR.out]
   exact⟨rfl,.inr ⟨by decide,rfl,HZ.out.fr⟩⟩
 ·have hR:res=(⟨(l.drop p).take n,[],[],[],[]⟩,0):=by
   rw[HRES.out]
   simp only[gd1]
   rw[if_neg hx0,if_neg hxe]
  have HR:=Zhd hR
  have hxb: ¬(((p+n):Nat):Int)<(en:Int):=by omega
  clear hR hxe hx0
  clear hnb
  go_enter Tryz.func180,Tryz.ntmps180
  go_upto_region 1 with fail
  generalize (w.alloc (.cells #[.int .i64 (n:Int),.bool false,.bool false,.bool false,.int .i64 0,.int .i64 0,.bool false,.bool false] 211)).alloc (.cells #[.slice none 0 0,.slice none 0 0,.slice none 0 0,.slice none 0 0,.slice none 0 0] 35)=W0 at hst⊢
  have q0:=hst.sb.cell 0
  have q1:=hst.sb.cell 1
  have q2:=hst.sb.cell 2
  have q3:=hst.sb.cell 3
  have q4:=hst.sb.cell 4
  have q5:=hst.sb.cell 5
  have q6:=hst.sb.cell 6
  have q7:=hst.sb.cell 7
  simp at q0 q1 q2 q3 q4 q5 q6 q7
  have H0:=Zhd hst
  clear hst
  go_wp2_with (first
   |(go_at_call 184;refine(Za9 _ r bo bl bc l (HBY.out _ H1.out.fr) (p+n) en (by omega) hen (by omega) (fun a ha=>⟨(HNE.out a ha).1,Nat.lt_of_lt_of_le (HNE.out a ha).2 H1.out.fr.size⟩) H1.out.rb _ _ _ _ 0 0 _ _ (by decide) (by decide) (by decide) [] (p+n) 0 HNb.out).mono ?_;rintro e W2 ⟨v,hre,hv⟩;obtain⟨rfl,hok⟩:=hre.ok;obtain⟨a2,c2,rfl,ho⟩:=Zai (hv rfl) HLb.out.1;have y12:W2.cell? ⟨r,1,none⟩=some (.int .i64 (((p+n):Nat):Int)):=hok.blk.cell 1;have y22:W2.cell? ⟨r,2,none⟩=some (.int .i64 ((en:Nat):Int)):=hok.blk.cell 2;have j:=H1.out.step hok hrl;have t2:=j.db.cell 3;have u2:=j.db.free 3;simp[Zae,zDH] at t2;have i:=j.nums hrl ho HLb.out.2;have q02:=i.sb.cell 0;have q12:=i.sb.cell 1;have q22:=i.sb.cell 2;have q32:=i.sb.cell 3;have q42:=i.sb.cell 4;have q52:=i.sb.cell 5;have q62:=i.sb.cell 6;have q72:=i.sb.cell 7;simp at q02 q12 q22 q32 q42 q52 q62 q72;have H2:=Zhd i;clear hre hv hok ho i j)
   |(go_at_call 182;have hby:=ZcA _ r bo bl bc l (HBY.out _ H0.out.fr) p en n (by omega) hen (by omega) (by omega) (fun a ha=>(HNE.out a ha).1) H0.out.rb;rw[if_neg HX.out] at hby;refine hby.mono ?_;rintro e W1 ⟨v,hre,hv⟩;obtain⟨rfl,hok⟩:=hre.ok;obtain⟨a1,c1,rfl,ho⟩:=hv (by have:=HX.out;omega);have y11:W1.cell? ⟨r,1,none⟩=some (.int .i64 ((p+n:Nat):Int)):=hok.blk.cell 1;have y21:W1.cell? ⟨r,2,none⟩=some (.int .i64 ((en:Nat):Int)):=hok.blk.cell 2;have j:=H0.out.step hok hrl;have t1:=j.db.cell 0;have u1:=j.db.free 0;simp[Zae,zDH] at t1;have i:=j.bytes hrl ho;have q01:=i.sb.cell 0;have q11:=i.sb.cell 1;have q21:=i.sb.cell 2;have q31:=i.sb.cell 3;have q41:=i.sb.cell 4;have q51:=i.sb.cell 5;have q61:=i.sb.cell 6;have q71:=i.sb.cell 7;simp at q01 q11 q21 q31 q41 q51 q61 q71;have H1:=Zhd i;clear hby hre hv hok ho i j))
  have iz:=H2.out.dr
  have z1:=iz.rb.cell 1
  have z2:=iz.rb.cell 2
  change _=some (Value.int IntKind.i64 (((p+n):Nat):Int)) at z1
  change _=some (Value.int IntKind.i64 ((en:Nat):Int)) at z2
  have HZ:=Zhd iz
  clear iz
  clear q0 q1 q2 q3 q4 q5 q6 q7 q01 q11 q21 q31 q41 q51 q61 q71 q02 q12 q22 q32 q42 q52 q62 q72 t1 u1 t2 u2
  go_region
  all_goals go_wp2_with (first
   |(refine wpList_store_row rfl 35 _ _ rfl (w.heap.size+1) (Zae _) rfl rfl 35 (Zae _) HZ.out.db ZaC rfl (Zbp _) ?_)
   |(refine wpList_load_row rfl 35 _ rfl (w.heap.size+1) rfl 35 (Zae _) (0,0) _ HZ.out.db Tryz.underlying35 rfl ZaC ?_))
  all_goals
   have hf:=HZ.out.fin hrl
   rw[HR.out]
   exact bodyPost_ret (results_cell_row (p:=4) (ty:=35) rfl _ _ (w.heap.size+1) 35 _ (0,0) _ rfl hf.1 Tryz.underlying35 rfl ZaC) rfl hf.2
theorem Zm4 (p q:Addr) (w:World):
  CallsD Tryz.prog 179 #[.pointer (some p),.pointer (some q)] .returning w fun e u' w'=>e= .returned (.tuple #[])∧u'= .returning∧w'=w:=by
 refine callsD_of_wpS Tryz.func179 rfl fun c₀ cs hu=>?_
 apply wpS_seq
 apply wpS_region
 simp[wpOpsS,go_sem,recoverD,hu,Tryz.ntmps179,Exit.thenS]
 rw[show(#[Value.pointer (some p),Value.pointer (some q)]++((Array.replicate 16 undef).setIfInBounds 3 Value.nilIface).setIfInBounds 0 Value.nilIface)=#[Value.pointer (some p),Value.pointer (some q),Value.nilIface,undef,undef,Value.nilIface,undef,undef,undef,undef,undef,undef,undef,undef,undef,undef,undef,undef] from rfl]
 refine wpS_of_wp ?_
 go_wp2_with fail
 cases c₀
 simp_all [bodyPostS,results,Tryz.results179]
@[go_sem] theorem as_errno (v:Value) (X:TypeId) (W:World):(Instr.typeAssert (.iface 24 v) X 24 true).run Tryz.prog W=.ok (.tuple #[v,.bool true]) W:=by kernel_rfl
theorem ZlM (R E:Nat) (w:World) (k:Int) (h:ZaJ) (x:Int) (hR:Blk w R (Zae h) 35) (hE:Blk w E #[.int .i64 x] 24):
  CallsD Tryz.prog 179 #[.pointer (some ⟨R,0,none⟩),.pointer (some ⟨E,0,none⟩)] (.panicking [{v:= .iface 24 (.int .i64 k),recovered:=false}]) w fun e u' w'=>e= .returned (.tuple #[])∧u'= .panicking [{v:= .iface 24 (.int .i64 k),recovered:=true}]∧Blk w' R (Zae zDH) 35∧Blk w' E #[.int .i64 k] 24∧w'=(w.setRow R (Zae zDH)).setCell ⟨E,0,none⟩ (.int .i64 k):=by
 refine callsD_of_wpS Tryz.func179 rfl fun c₀ cs hu=>?_
 apply wpS_seq
 apply wpS_region
 simp[wpOpsS,go_sem,recoverD,hu,Tryz.ntmps179,Exit.thenS]
 rw[show(#[Value.pointer (some ⟨R,0,none⟩),Value.pointer (some ⟨E,0,none⟩)]++((Array.replicate 16 undef).setIfInBounds 3 (Value.iface 24 (Value.int IntKind.i64 k))).setIfInBounds 0 (Value.iface 24 (Value.int IntKind.i64 k)))=#[Value.pointer (some ⟨R,0,none⟩),Value.pointer (some ⟨E,0,none⟩),Value.iface 24 (Value.int IntKind.i64 k),undef,undef,Value.iface 24 (Value.int IntKind.i64 k),undef,undef,undef,undef,undef,undef,undef,undef,undef,undef,undef,undef] from rfl]
 refine wpS_of_wp ?_
 have hRE:R≠E:=Zea hR hE (by decide)
 have hq:=ZaA hR (Zae zDH)
 have hqg:=Zav w R (Zae zDH)
 have hE2:=hE.but hqg (Ne.symm hRE)
 have HW:=Zhd (Zan hq hE2)
 have hE3:=hE2.set 0 (.int .i64 k)
 have e0:(w.setRow R (Zae zDH)).cell? ⟨E,0,none⟩=some (.int .i64 x):=hE2.cell 0
 have ef:=hE2.free 0
 have HF:=Zhd (Zan (hq.but (Zag _ E 0 (.int .i64 k)) hRE) hE3)
 clear hq hqg hE2 hE3
 go_wp2_with (refine wpList_store_row rfl 35 _ _ rfl R (Zae zDH) rfl rfl 35 (Zae h) hR ZaC rfl (Zbp _) ?_)
 have hf:=HF.out
 cases c₀
 simp_all [bodyPostS,results,Tryz.results179]
theorem GdEnd.ok {w w':World} {r:Nat} {res:Zaq×Int} {e:Ending} (h:GdEnd w w' r res e) (h0:res.2=0):∃ h,e= .returned (.agg (Zae h))∧IsData w' h res.1∧DataIn (Zak mT w') h∧w.grownBy w' (some r):=by
 rcases h with⟨_,⟨h,a,b,c⟩,d⟩|⟨h1,_⟩
 ·exact⟨h,a,b,c,d⟩
 ·exact absurd h0 h1
theorem GdEnd.no {w w':World} {r:Nat} {res:Zaq×Int} {e:Ending} (h:GdEnd w w' r res e) (h0:res.2≠0):e=Zju res.2∧w.grownBy w' (some r):=by
 rcases h with⟨h1,_⟩|⟨_,a,b⟩
 ·exact absurd h1 h0
 ·exact⟨a,b⟩
def ZrL (w w':World) (res:Zaq×Int) (e:Ending):Prop:=∃ h,e= .returned (.tuple #[.agg (Zae h),.int .i64 res.2])∧IsData w' h res.1∧DataIn (Zak mT w') h∧Below w.heap.size w w'
theorem Zf8 {tmps:Array Value} {w:World} {R Q:Nat} {h:ZaJ} {x:Int} (h2:tmps[8]?=some (.pointer (some ⟨R,0,none⟩))) (h3:tmps[9]?=some (.pointer (some ⟨Q,0,none⟩))) (hB:Blk w R (Zae h) 35) (hQ:Blk w Q #[.int .i64 x] 24):
  (results Tryz.f166 tmps).run Tryz.prog w= .ok (.tuple #[.agg (Zae h),.int .i64 x]) w:=by
 have c0:=hB.cell 0
 have c1:=hB.cell 1
 have c2:=hB.cell 2
 have c3:=hB.cell 3
 have c4:=hB.cell 4
 have d0:=hQ.cell 0
 simp[Zae] at c0 c1 c2 c3 c4 d0
 simp[results,go_sem,h2,h3,c0,c1,c2,c3,c4,d0,Zae]
theorem ZeZ (W:World):IsData W zDH Zcv∧DataIn (Zak mT W) zDH:=
 have hr0:∀ W:World,Row W none 0 0 []:=fun W=>Row.empty (by decide) (fun _=>rfl)
 ⟨⟨hr0 _,⟨hr0 _,fun s hs=>by cases hs⟩,⟨hr0 _,fun s hs=>by cases hs⟩,hr0 _,⟨hr0 _,fun s hs=>by cases hs⟩,fun n hn=>by cases hn⟩,⟨Za3 _ _,Za3 _ _,Za3 _ _,Za3 _ _,Za3 _ _⟩⟩
theorem Zmh (w:World) (bo:Option Addr) (bl bc:Nat) (l:List UInt8) (hl:ZbP w bo bl bc l) (hbl:bl≤900000) (hne:∀ a,bo=some a→a.block<w.heap.size) (p n:Nat) (hpn:p+n≤bl) (k:Int) (hk:1≤k∧k≤65535) (t0 t4 t5:Int) (t1 t2 t3 t6 t7:Bool)
  (hsh:∀ w',Calls Tryz.prog 152 #[.int .i64 k] w' fun e w2=>e= .returned (.agg (ZaF t0 t1 t2 t3 t4 t5 t6 t7))∧Below w'.heap.size w' w2) (res:Zaq×Int) (hres:res.2≠0→res.1=Zcv)
  (hdt:∀ W r,ZbP W bo bl bc l→(∀ a,bo=some a→a.block≠r∧a.block<W.heap.size)→Blk W r (gdC bo bl bc p (p+n)) 237→Calls Tryz.prog 180 #[.pointer (some ⟨r,0,none⟩),.agg (ZaF t0 t1 t2 t3 t4 t5 t6 t7)] W fun e w'=>GdEnd W w' r res e):
  Calls Tryz.prog 166 #[.slice bo bl bc,.int .i64 (p:Int),.int .i64 (n:Int),.int .i64 k] w fun e w'=>ZrL w w' res e:=by
 have hmf:∀ (fn:Fn) (first cap:Array Value) (w:World),(Instr.makeFunc fn first cap).run Tryz.prog w= .ok (.func fn first cap) w:=fun _ _ _ _=>rfl
 obtain⟨m,hm⟩:∃ m:Nat,bl-p=m:=⟨_,rfl⟩
 have hw2:IntKind.i64.wrap ((bl:Int)-(p:Int))=(m:Int):=by rw[IntWalk.i64_in _ (by omega)];omega
 have g1: ¬(p:Int)<0:=by omega
 have g2: ¬(n:Int)<0:=by omega
 have g3: ¬k<1:=by omega
 have g4: ¬65535<k:=by omega
 have g5: ¬(bl:Int)<(p:Int):=by omega
 have g6: ¬(m:Int)<(n:Int):=by omega
 have HP:=Zhd (Zan hpn hm)
 obtain⟨W1,hW1⟩:∃ W1,W1=w.alloc (.cells (Zae zDH) 35):=⟨_,rfl⟩
 obtain⟨W2,hW2⟩:∃ W2,W2=W1.alloc (.cells #[.int .i64 0] 24):=⟨_,rfl⟩
 obtain⟨W3,hW3⟩:∃ W3,W3=W2.alloc (.cells (gdC bo bl bc p (p+n)) 237):=⟨_,rfl⟩
 have hb1:Below w.heap.size w W1:=by rw[hW1];exact Zbr.alloc Zlr _
 have hb2:Below W1.heap.size W1 W2:=by rw[hW2];exact Zbr.alloc Zlr _
 have hb3:Below W2.heap.size W2 W3:=by rw[hW3];exact Zbr.alloc Zlr _
 have z1:W1.heap.size=w.heap.size+1:=by rw[hW1];exact Array.size_push _
 have z2:W2.heap.size=w.heap.size+1+1:=by rw[hW2];exact(Array.size_push _).trans (by rw[z1])
 have a1:Blk W1 w.heap.size (Zae zDH) 35:=by rw[hW1];exact Zha w _
 have a2:Blk W2 (w.heap.size+1) #[.int .i64 0] 24:=by rw[←z1,hW2];exact Zha W1 _
 have a3:Blk W3 (w.heap.size+1+1) (gdC bo bl bc p (p+n)) 237:=by rw[←z2,hW3];exact Zha W2 _
 have b1:=(a1.on hb2).on hb3
 have b2:=a2.on hb3
 have hbw:=Zaa (Zaa hb1 hb2 (by omega)) hb3 (by omega)
 have hlit:((w.alloc (.cells #[.slice none 0 0,.slice none 0 0,.slice none 0 0,.slice none 0 0,.slice none 0 0] 35)).alloc (.cells #[.int .i64 0] 24)).alloc (.cells #[.slice bo bl bc,.int .i64 (p:Int),.int .i64 ((p:Int)+(n:Int))] 237)=W3:=by rw[hW3,hW2,hW1];rfl
 have H3:=Zhd (Zan a3 (Zan b1 (Zan b2 hbw)))
 have HX:=Zhd hlit
 have HH:=Zhd hdt
 have HL:=Zhd hl
 have HN:=Zhd hne
 have HS:=Zhd hsh
 clear hlit hW1 hW2 hW3 hb1 hb2 hb3 z1 z2 a1 a2 a3 b1 b2 hbw hdt hl hne hsh hpn hm hk
 by_cases h0:res.2=0
 ·obtain⟨d,q⟩:=res
  simp only at h0
  subst h0
  clear hres
  go_enter_defers Tryz.func166,Tryz.ntmps166
  go_upto_region 7 with fail
  have hw:wrap64 ((p:Int)+(n:Int))=(p:Int)+(n:Int):=IntWalk.wrap64_in _ (by have:=HP.out;omega)
  rw[hw,HX.out]
  clear hw
  go_wp2_with (first
   |(refine wpList_store_row rfl 35 _ _ rfl w.heap.size (Zae h) rfl rfl 35 (Zae zDH) H5.out.1 ZaC rfl (Zbp h) ?_;have hq:=ZaA H5.out.1 (Zae h);have hqg:=Zav W5 w.heap.size (Zae h);have hsm:=Same.but (T:=mT) hqg H5.out.1 (by decide);(try change wpList _ _ _ _ _ (W5.setRow w.heap.size (Zae h)));generalize W5.setRow w.heap.size (Zae h)=W6 at hq hqg hsm⊢;have hq2:=H5.out.2.1.but hqg (by omega);have e0:W6.cell? ⟨w.heap.size+1,0,none⟩=some (.int .i64 0):=hq2.cell 0;have ef:=hq2.free 0;have hd:=Zb0.step (T:=mT) (h:=h) (x:=d) ⟨H5.out.2.2.2.1,H5.out.2.2.2.2⟩ hsm;have H6:=Zhd (Zan hq (Zan hq2 (Zan (H5.out.2.2.1.trans (Zam hqg (by omega) H5.out.2.2.1.size)) hd)));clear hq hqg hsm hq2 hd)
   |(go_at_call 180;refine(HH.out W4 (w.heap.size+1+1) (HL.out.below H4.out.2.2.2 Zlr) (fun a ha=>⟨by have:=HN.out a ha;omega,Nat.lt_of_lt_of_le (HN.out a ha) H4.out.2.2.2.size⟩) H4.out.1).mono ?_;rintro e W5 hE;obtain⟨h,rfl,hI,hM,hg⟩:=hE.ok rfl;have H5:=Zhd (Zan (H4.out.2.1.but hg (by omega)) (Zan (H4.out.2.2.1.but hg (by omega)) (Zan (H4.out.2.2.2.trans (Zam hg (by omega) H4.out.2.2.2.size)) (Zan hI hM))));clear hE hg hI hM)
   |(go_at_call 152;refine(HS.out W3).mono ?_;rintro e W4 ⟨rfl,hb⟩;have H4:=Zhd (Zan (H3.out.1.on hb) (Zan (H3.out.2.1.on hb) (Zan (H3.out.2.2.1.on hb) (Zaa H3.out.2.2.2 hb (by have:=H3.out.2.2.2.size;omega)))));clear hb))
  refine leaves_cons (f:=179) (args:=#[.pointer (some ⟨w.heap.size,0,none⟩),.pointer (some ⟨w.heap.size+1,0,none⟩)]) (by simp) (by simp[go_sem]) ?_
  refine(Zm4 _ _ _).mono ?_
  rintro e u' w'' ⟨rfl,rfl,rfl⟩
  have hgz:=Zag W6 (w.heap.size+1) 0 (.int .i64 0)
  have hsm:=Same.but (T:=mT) hgz H6.out.2.1 (by decide)
  have hd:=Zb0.step (T:=mT) (h:=h) (x:=d) H6.out.2.2.2 hsm
  have hbl:=H6.out.2.2.1.trans (Zam hgz (by omega) H6.out.2.2.1.size)
  exact⟨_,Zf8 rfl rfl (H6.out.1.but hgz (by omega)) (H6.out.2.1.set 0 (.int .i64 0)),h,rfl,hd.1,hd.2,hbl⟩
 ·obtain⟨d,q⟩:=res
  simp only at h0 hres
  obtain rfl:=hres h0
  have HK:=Zhd h0
  clear h0 hres
  go_enter_defers Tryz.func166,Tryz.ntmps166
  go_upto_region 7 with fail
  have hw:wrap64 ((p:Int)+(n:Int))=(p:Int)+(n:Int):=IntWalk.wrap64_in _ (by have:=HP.out;omega)
  rw[hw,HX.out]
  clear hw
  go_wp2_with (first
   |(go_at_call 180;refine(HH.out W4 (w.heap.size+1+1) (HL.out.below H4.out.2.2.2 Zlr) (fun a ha=>⟨by have:=HN.out a ha;omega,Nat.lt_of_lt_of_le (HN.out a ha) H4.out.2.2.2.size⟩) H4.out.1).mono ?_;rintro e W5 hE;obtain⟨rfl,hg⟩:=hE.no HK.out;have H5:=Zhd (Zan (H4.out.2.1.but hg (by omega)) (Zan (H4.out.2.2.1.but hg (by omega)) (H4.out.2.2.2.trans (Zam hg (by omega) H4.out.2.2.2.size))));clear hE hg;(try simp only[Zju]))
   |(go_at_call 152;refine(HS.out W3).mono ?_;rintro e W4 ⟨rfl,hb⟩;have H4:=Zhd (Zan (H3.out.1.on hb) (Zan (H3.out.2.1.on hb) (Zan (H3.out.2.2.1.on hb) (Zaa H3.out.2.2.2 hb (by have:=H3.out.2.2.2.size;omega)))));clear hb))
  have hg1:=Zav W5 w.heap.size (Zae zDH)
  have hg2:=Zag (W5.setRow w.heap.size (Zae zDH)) (w.heap.size+1) 0 (.int .i64 q)
  have hb1:=H5.out.2.2.trans (Zam hg1 (by omega) H5.out.2.2.size)
  have hbl:=hb1.trans (Zam hg2 (by omega) hb1.size)
  refine leaves_cons (f:=179) (args:=#[.pointer (some ⟨w.heap.size,0,none⟩),.pointer (some ⟨w.heap.size+1,0,none⟩)]) (by simp) (by simp[go_sem]) ?_
  refine(ZlM _ _ W5 q zDH 0 H5.out.1 H5.out.2.1).mono ?_
  rintro e u' w'' ⟨rfl,rfl,hR,hE,rfl⟩
  exact⟨_,Zf8 rfl rfl hR hE,zDH,rfl,(ZeZ _).1,(ZeZ _).2,hbl⟩
theorem Znq (w:World) (r:Nat) (bo:Option Addr) (bl bc:Nat) (l:List UInt8) (hl:ZbP w bo bl bc l) (p en:Nat) (hp:p≤en) (hen:en≤bl) (hbl:bl≤900000) (hne:∀ a,bo=some a→a.block≠r∧a.block<w.heap.size) (hr:Blk w r (gdC bo bl bc p en) 237):
  Calls Tryz.prog 180 #[.pointer (some ⟨r,0,none⟩),.agg #[.int .i64 (-1),.bool false,.bool false,.bool false,.int .i64 0,.int .i64 0,.bool false,.bool false]] w fun e w'=>GdEnd w w' r (gd2 l en p) e:=by
 have hst:=GdSt.start w r bo bl bc p en #[.int .i64 (-1),.bool false,.bool false,.bool false,.int .i64 0,.int .i64 0,.bool false,.bool false] hr
 have hrl:=hr.lt
 have HBY:=Zhd (fun W (hg:w.grownBy W (some r))=>hl.grown hg (fun a ha h=>(hne a ha).1 (Zsi h)))
 have HNE:=Zhd hne
 clear hr hl hne
 go_enter Tryz.func180,Tryz.ntmps180
 go_upto_region 1 with fail
 generalize (w.alloc (.cells #[.int .i64 (-1),.bool false,.bool false,.bool false,.int .i64 0,.int .i64 0,.bool false,.bool false] 211)).alloc (.cells #[.slice none 0 0,.slice none 0 0,.slice none 0 0,.slice none 0 0,.slice none 0 0] 35)=W0 at hst⊢
 have q0:=hst.sb.cell 0
 simp at q0
 have H0:=Zhd hst
 clear hst
 go_upto_region 4 with fail
 have iz:=H0.out.dr
 have y1:W0.drew.cell? ⟨r,1,none⟩=some (.int .i64 (p:Int)):=iz.rb.cell 1
 have y2:W0.drew.cell? ⟨r,2,none⟩=some (.int .i64 (en:Int)):=iz.rb.cell 2
 have hby:=ZcA W0.drew r bo bl bc l (HBY.out _ iz.fr) p en (en-p) hp hen (by omega) (by omega) (fun a ha=>(HNE.out a ha).1) iz.rb
 rw[if_neg (by omega)] at hby
 have e1:p+(en-p)=en:=by omega
 rw[e1] at hby
 have HZ:=Zhd (Zan hby iz)
 have hsub:IntKind.i64.wrap ((en:Int)-(p:Int))=((en-p:Nat):Int):=by rw[IntWalk.i64_in _ (by omega)];omega
 clear hby iz q0 e1
 have HY1:=Zhd y1
 have HY2:=Zhd y2
 clear y1 y2
 rename_i K0 hK0
 have HK0:=Zhd hK0
 clear hK0
 refine Zcg (m:=70) 10 (by kernel_rfl) (fun x y=>Below x.heap.size x y) (fun i v xw=>match i with|0=>v= .pointer (some ⟨r,0,none⟩)|1=>v= .pointer (some ⟨r,0,none⟩)|2=>v= .pointer (some ⟨r,0,none⟩)|3=>v= .pointer (some ⟨r,2,none⟩)|4=>v= .int .i64 ((en:Int))|5=>v= .pointer (some ⟨r,0,none⟩)|6=>v= .pointer (some ⟨r,0,none⟩)|7=>v= .pointer (some ⟨r,1,none⟩)|8=>v= .int .i64 ((p:Int))|9=>v= .int .i64 (IntKind.i64.wrap ((en:Int)-(p:Int)))|_=>True) rfl (by kernel_rfl) (by kernel_rfl) (fun _ _ _ h1 h2=>Zaa h1 h2 Zlr) Zbr (fun _ _ _ _ h _=>h) (ZdS (by kernel_rfl)) ?_ ?_
 rotate_left
 ·intro a W hR hS hdep
  have e0:a.tmps.getD 0 undef= .pointer (some ⟨r,0,none⟩):=hS.keep 0 (by kernel_rfl)
  have e4:a.tmps.getD 4 undef= .pointer (some ⟨(w.heap.size+1),0,none⟩):=hS.keep 4 (by kernel_rfl)
  have e18:a.tmps.getD 18 undef= .pointer (some ⟨r,0,none⟩):=hdep 0 (by decide+kernel)
  have e27:a.tmps.getD 27 undef= .int .i64 (IntKind.i64.wrap ((en:Int)-(p:Int))):=hdep 9 (by decide+kernel)
  obtain⟨T,df⟩:=a
  obtain rfl:df=[]:=hS.defers
  have hT:=ZdJ hS 70 rfl [18,19,20,21,22,23,24,25,26,27] (by kernel_rfl)
  simp only[List.foldl_cons,List.foldl_nil,List.setIfInBounds_toArray,List.set_cons_succ,List.set_cons_zero] at hT
  have k18:T.getD 18 undef= .pointer (some ⟨r,0,none⟩):=e18
  have k27:T.getD 27 undef= .int .i64 (IntKind.i64.wrap ((en:Int)-(p:Int))):=e27
  clear hS hdep
  rw[hT]
  rw[k18]
  clear k18 e18
  rw[k27]
  clear k27 e27
  clear hT
  generalize T.getD 19 undef=u19
  generalize T.getD 20 undef=u20
  generalize T.getD 21 undef=u21
  generalize T.getD 22 undef=u22
  generalize T.getD 23 undef=u23
  generalize T.getD 24 undef=u24
  generalize T.getD 25 undef=u25
  generalize T.getD 26 undef=u26
  simp only[List.drop_succ_cons,List.drop_zero]
  have hbx:=Zaa (B:=W0.heap.size) (Below.drew Zbr) hR Zlr
  have iz:=H0.out.on hbx
  have hby:=ZcA W r bo bl bc l (HBY.out _ iz.fr) p en (en-p) hp hen (by omega) (by omega) (fun a ha=>(HNE.out a ha).1) iz.rb
  rw[if_neg (by omega)] at hby
  have e1:p+(en-p)=en:=by omega
  rw[e1] at hby
  have HZ2:=Zhd (Zan hby iz)
  clear hby iz e1 hbx hR
  rw[hsub]
  clear hsub
  have HLb:=Zhd (show([]:List Int).length≤140737488355328∧∀ z∈([]:List Int),wfi z from⟨by simp,fun z hz=>by cases hz⟩)
  have HNb:=Zhd (show Zbx l en 0 0 en=([],en,0) from rfl)
  have hxb: ¬((en:Nat):Int)<(en:Int):=by omega
  go_wp2_with (first|(go_at_call 182;refine HZ2.out.1.mono ?_;rintro e W1 ⟨v,hre,hv⟩;obtain⟨rfl,hok⟩:=hre.ok;obtain⟨a1,c1,rfl,ho⟩:=hv Zlr;have j:=HZ2.out.2.step hok hrl;have t1:W1.cell? ⟨w.heap.size+1,0,none⟩=some (.slice none 0 0):=j.db.cell 0;have u1:=j.db.free 0;have i:=j.bytes hrl ho;have H1:=Zhd i;clear hre hv hok ho i j))
  refine HK0.out _ _ ?_
  clear HK0 t1 u1 HZ2 HY1 HY2
  have i:=H1.out
  have q01:=i.sb.cell 0
  have q11:=i.sb.cell 1
  have q21:=i.sb.cell 2
  have q31:=i.sb.cell 3
  have q41:=i.sb.cell 4
  have q51:=i.sb.cell 5
  have q61:=i.sb.cell 6
  have q71:=i.sb.cell 7
  simp at q01 q11 q21 q31 q41 q51 q61 q71
  clear i
  go_wp2_with (first
   |(go_at_call 184;refine(Za9 _ r bo bl bc l (HBY.out _ H1.out.fr) en en (by omega) hen (by omega) (fun a ha=>⟨(HNE.out a ha).1,Nat.lt_of_lt_of_le (HNE.out a ha).2 H1.out.fr.size⟩) H1.out.rb _ _ _ _ 0 0 _ _ (by decide) (by decide) (by decide) [] en 0 HNb.out).mono ?_;rintro e W2 ⟨v,hre,hv⟩;obtain⟨rfl,hok⟩:=hre.ok;obtain⟨a2,c2,rfl,ho⟩:=Zai (hv rfl) HLb.out.1;have y12:W2.cell? ⟨r,1,none⟩=some (.int .i64 ((en:Nat):Int)):=hok.blk.cell 1;have y22:W2.cell? ⟨r,2,none⟩=some (.int .i64 ((en:Nat):Int)):=hok.blk.cell 2;have j:=H1.out.step hok hrl;have t2:=j.db.cell 3;have u2:=j.db.free 3;simp[Zae,zDH] at t2;have i:=j.nums hrl ho HLb.out.2;have q02:=i.sb.cell 0;have q12:=i.sb.cell 1;have q22:=i.sb.cell 2;have q32:=i.sb.cell 3;have q42:=i.sb.cell 4;have q52:=i.sb.cell 5;have q62:=i.sb.cell 6;have q72:=i.sb.cell 7;simp at q02 q12 q22 q32 q42 q52 q62 q72;have H2:=Zhd i;clear hre hv hok ho i j))
  have iz:=H2.out.dr
  have z1:=iz.rb.cell 1
  have z2:=iz.rb.cell 2
  change _=some (Value.int IntKind.i64 ((en:Nat):Int)) at z1
  change _=some (Value.int IntKind.i64 ((en:Nat):Int)) at z2
  have HZ:=Zhd iz
  clear iz
  clear q01 q11 q21 q31 q41 q51 q61 q71 q02 q12 q22 q32 q42 q52 q62 q72 t2 u2
  go_region
  all_goals go_wp2_with (first
   |(refine wpList_store_row rfl 35 _ _ rfl (w.heap.size+1) (Zae _) rfl rfl 35 (Zae _) HZ.out.db ZaC rfl (Zbp _) ?_)
   |(refine wpList_load_row rfl 35 _ rfl (w.heap.size+1) rfl 35 (Zae _) (0,0) _ HZ.out.db Tryz.underlying35 rfl ZaC ?_))
  all_goals
   have hf:=HZ.out.fin hrl
   exact bodyPost_ret (results_cell_row (p:=4) (ty:=35) rfl _ _ (w.heap.size+1) 35 _ (0,0) _ rfl hf.1 Tryz.underlying35 rfl ZaC) rfl hf.2
 refine Zac rfl rfl (fun a W hR hS hdep K hK=>?_) ?_
 ·have e0:a.tmps[0]?.getD undef= .pointer (some ⟨r,0,none⟩):=Zad (hS.keep 0 (by kernel_rfl))
  go_simp
  exact hK _ _ Zbr (by first|rfl|simp)
 refine Zac rfl rfl (fun a W hR hS hdep K hK=>?_) ?_
 ·have e0:a.tmps[0]?.getD undef= .pointer (some ⟨r,0,none⟩):=Zad (hS.keep 0 (by kernel_rfl))
  go_simp
  exact hK _ _ Zbr (by first|rfl|simp)
 refine Zac rfl rfl (fun a W hR hS hdep K hK=>?_) ?_
 ·have e19:a.tmps[19]?.getD undef= .pointer (some ⟨r,0,none⟩):=Zad (hdep 1 (by decide+kernel))
  go_simp
  exact hK _ _ Zbr (by first|rfl|simp)
 refine Zac rfl rfl (fun a W hR hS hdep K hK=>?_) ?_
 ·have e20:a.tmps[20]?.getD undef= .pointer (some ⟨r,0,none⟩):=Zad (hdep 2 (by decide+kernel))
  go_simp
  exact hK _ _ Zbr (by first|rfl|simp)
 refine Zac rfl rfl (fun a W hR hS hdep K hK=>?_) ?_
 ·have e21:a.tmps[21]?.getD undef= .pointer (some ⟨r,2,none⟩):=Zad (hdep 3 (by decide+kernel))
  have m0:=Zab hR HY2.out
  go_simp
  exact hK _ _ Zbr (by first|rfl|simp)
 refine Zac rfl rfl (fun a W hR hS hdep K hK=>?_) ?_
 ·have e0:a.tmps[0]?.getD undef= .pointer (some ⟨r,0,none⟩):=Zad (hS.keep 0 (by kernel_rfl))
  go_simp
  exact hK _ _ Zbr (by first|rfl|simp)
 refine Zac rfl rfl (fun a W hR hS hdep K hK=>?_) ?_
 ·have e23:a.tmps[23]?.getD undef= .pointer (some ⟨r,0,none⟩):=Zad (hdep 5 (by decide+kernel))
  go_simp
  exact hK _ _ Zbr (by first|rfl|simp)
 refine Zac rfl rfl (fun a W hR hS hdep K hK=>?_) ?_
 ·have e24:a.tmps[24]?.getD undef= .pointer (some ⟨r,0,none⟩):=Zad (hdep 6 (by decide+kernel))
  go_simp
  exact hK _ _ Zbr (by first|rfl|simp)
 refine Zac rfl rfl (fun a W hR hS hdep K hK=>?_) ?_
 ·have e25:a.tmps[25]?.getD undef= .pointer (some ⟨r,1,none⟩):=Zad (hdep 7 (by decide+kernel))
  have m0:=Zab hR HY1.out
  go_simp
  exact hK _ _ Zbr (by first|rfl|simp)
 refine Zac rfl rfl (fun a W hR hS hdep K hK=>?_) ?_
 ·have e22:a.tmps[22]?.getD undef= .int .i64 ((en:Int)):=Zad (hdep 4 (by decide+kernel))
  have e26:a.tmps[26]?.getD undef= .int .i64 ((p:Int)):=Zad (hdep 8 (by decide+kernel))
  go_simp
  exact hK _ _ Zbr (congrArg (Value.int IntKind.i64) hsub.symm)
 exact fun j h1 h2=>absurd h1 (by omega)
def gdK (k:Int) (l:List UInt8) (en p:Nat):Zaq×Int:=
 if k=1 then gd1 4 l en p else if k=28 then gd1 16 l en p else if k=2∨k=5∨k=12 then gd4 l en p else if k=15 then gd5 1 l en p else if k=6 then gd6 l en p else if k=33 then gd5 3 l en p else if k=16 then gd3 l en p else gd2 l en p
theorem ZfP {c:Prop} [Decidable c] {a b:Zaq×Int} (ha:a.2≠0→a.1=Zcv) (hb:b.2≠0→b.1=Zcv):(if c then a else b).2≠0→(if c then a else b).1=Zcv:=by
 split
 ·exact ha
 ·exact hb
theorem Zp7 {n:Nat} {l:List UInt8} {en p:Nat} (h:(gd1 n l en p).2≠0):(gd1 n l en p).1=Zcv:=by
 unfold gd1 at h⊢
 exact ZfP (fun _=>rfl) (ZfP (fun _=>rfl) (fun h=>absurd rfl h)) h
theorem Zrp {l:List UInt8} {en p:Nat} (h:(gd3 l en p).2≠0):(gd3 l en p).1=Zcv:=by
 unfold gd3 at h⊢
 exact ZfP (fun _=>rfl) (ZfP (fun _=>rfl) (fun h=>absurd rfl h)) h
theorem Zrq {l:List UInt8} {en p:Nat} (h:(gd4 l en p).2≠0):(gd4 l en p).1=Zcv:=by
 unfold gd4 at h⊢
 exact ZfP (fun _=>rfl) (ZfP (fun _=>rfl) (fun h=>absurd rfl h)) h
theorem Zp8 {c:Nat} {l:List UInt8} {en p:Nat} (h:(gd5 c l en p).2≠0):(gd5 c l en p).1=Zcv:=by
 unfold gd5 at h⊢
 exact ZfP (fun _=>rfl) (ZfP (fun _=>rfl) (ZfP (fun _=>rfl) (fun h=>absurd rfl h))) h
theorem Zrr {l:List UInt8} {en p:Nat} (h:(gd6 l en p).2≠0):(gd6 l en p).1=Zcv:=by
 unfold gd6 at h⊢
 exact ZfP (fun _=>rfl) (ZfP (fun _=>rfl) (ZfP (fun _=>rfl) (ZfP (fun _=>rfl) (fun h=>absurd rfl h)))) h
theorem ZpI (w:World) (bo:Option Addr) (bl bc:Nat) (l:List UInt8) (hl:ZbP w bo bl bc l) (hbl:bl≤900000) (hne:∀ a,bo=some a→a.block<w.heap.size) (p n:Nat) (hpn:p+n≤bl) (k:Int) (hk:1≤k∧k≤65535):
  Calls Tryz.prog 166 #[.slice bo bl bc,.int .i64 (p:Int),.int .i64 (n:Int),.int .i64 k] w fun e w'=>ZrL w w' (gdK k l (p+n) p) e:=by
 have go:=fun (s0 s4 s5:Int) (s1 s2 s3 s6 s7:Bool) hsh res hres hdt=>Zmh w bo bl bc l hl hbl hne p n hpn k hk s0 s4 s5 s1 s2 s3 s6 s7 hsh res hres hdt
 have hp:p≤p+n:=Nat.le_add_right _ _
 rcases Zc2 k with h|rfl|rfl|h|rfl|rfl|rfl|rfl|⟨_,h⟩
 ·omega
 ·exact go 4 0 0 false false false false false ZiJ (gd1 4 l (p+n) p) Zp7 (fun W r h1 h2 h3=>Zjc W r bo bl bc l h1 p (p+n) hp hpn hbl h2 h3 4 (by decide))
 ·exact go 16 0 0 false false false false false Ze7 (gd1 16 l (p+n) p) Zp7 (fun W r h1 h2 h3=>Zjc W r bo bl bc l h1 p (p+n) hp hpn hbl h2 h3 16 (by decide))
 ·have e:gdK k l (p+n) p=gd4 l (p+n) p:=by rw[gdK,if_neg (by omega),if_neg (by omega),if_pos h]
  rw[e]
  exact go 0 0 0 true false true false false (fun W=>Zhb W k h) _ Zrq (fun W r h1 h2 h3=>Zo4 W r bo bl bc l h1 p (p+n) hp hpn hbl h2 h3 true)
 ·exact go 0 1 2 true false true false true Zg9 (gd5 1 l (p+n) p) Zp8 (fun W r h1 h2 h3=>Zo3 W r bo bl bc l h1 p (p+n) hp hpn hbl h2 h3 true)
 ·exact go 0 5 4 true true true false false ZfV (gd6 l (p+n) p) Zrr (fun W r h1 h2 h3=>Znr W r bo bl bc l h1 p (p+n) hp hpn hbl h2 h3 true)
 ·exact go 0 3 2 true false false false true ZfW (gd5 3 l (p+n) p) Zp8 (fun W r h1 h2 h3=>Zns W r bo bl bc l h1 p (p+n) hp hpn hbl h2 h3 false)
 ·exact go 0 0 0 false false false true false ZfX (gd3 l (p+n) p) Zrp (fun W r h1 h2 h3=>Znt W r bo bl bc l h1 p (p+n) hp hpn hbl h2 h3)
 ·have e:gdK k l (p+n) p=gd2 l (p+n) p:=by
   rw[gdK,if_neg (by omega),if_neg (by omega),if_neg (by omega),if_neg (by omega),if_neg (by omega),if_neg (by omega),if_neg (by omega)]
  rw[e]
  exact go (-1) 0 0 false false false false false (fun W=>Zdr W k h) _ (fun hx=>absurd rfl hx) (fun W r h1 h2 h3=>Znq W r bo bl bc l h1 p (p+n) hp hpn hbl h2 h3)
theorem AtB.cut {l:List UInt8} {p:Nat} {bs:List UInt8} (h:AtB l p bs) {en:Nat} (hen:p+bs.length≤en):AtB (l.take en) p bs:=by
 obtain⟨pre,post,rfl,rfl⟩:=h
 refine⟨pre,post.take (en-(pre++bs).length),?_,rfl⟩
 rw[List.take_append,List.take_of_length_le (by rw[Zla];exact hen)]
theorem Zgs {l:List UInt8} {p f en:Nat} {ss:List ByteArray} (h:Rd l p p ss f) (hs:1+Za0 ss≤255) (hen:f≤en):ZbA l en p=(ss,f,0):=by
 rw[ZbA,Zip h hs,if_neg (fun h2=>by have:=h2.2;simp only at this;omega)]
theorem Zl6 (z:Int) (zs:List Int) (size:Nat):ZaH (z::zs) size=Za1 z size++ZaH zs size:=by simp[ZaH]
theorem Zit {l:List UInt8} {en size:Nat}:∀ (zs:List Int) (p:Nat),AtB (l.take en) p (ZaH zs size)→(zs.all fun n=>ZcU n size)=true→Zbx l en size zs.length p=(zs,p+zs.length*size,0)
 |[],p,_,_=>by simp[Zbx]
 |z::zs,p,h,hf=>by
  rw[Zl6] at h
  rw[List.all_cons,Zae2] at hf
  have h1:=h.left.num (ZqH hf.1)
  have h2:=h.right
  rw[Zap] at h2
  have ih:=Zit zs (p+size) h2 hf.2
  rw[List.length_cons,Zbx,h1,if_pos rfl,ih]
  simp only[Prod.mk.injEq,true_and,and_true]
  rw[Nat.add_mul]
  omega
theorem Zoy {t:ByteArray} (h:t.size≤255):ZjR t=Zfl t:=by rw[ZjR,Zn1 (by omega)];rfl
theorem Zhl (t:ByteArray) (ts:List ByteArray):ZaX (t::ts)=ZjR t++ZaX ts:=by simp[ZaX]
theorem Zhk (t:ByteArray):(ZjR t).length=1+t.size:=by
 rw[ZjR,Zla,Zap]
 rfl
theorem ZjS {l:List UInt8} {en:Nat}:∀ (ts:List ByteArray) (f c p:Nat),AtB l p (ZaX ts)→en=p+(ZaX ts).length→c+ts.length≤64→(∀ t∈ts,t.size≤255)→ts.length≤f→ZbQ l en f c p=(ts,en,0)
 |[],f,c,p,_,he,_,_,_=>by
  have e:en=p:=by simpa [ZaX] using he
  subst e
  cases f
  ·rfl
  ·rw[ZbQ,if_neg (Nat.lt_irrefl _)]
 |t::ts,0,c,p,_,_,_,_,hf=>by simp at hf
 |t::ts,f+1,c,p,h,he,hc,ht,hf=>by
  have h255:=ht t (List.mem_cons_self ..)
  rw[Zhl] at h he
  rw[Zla,Zhk] at he
  rw[List.length_cons] at hc hf
  have h1:=h.left
  rw[Zoy h255] at h1
  have hg:=h1.get
  have h2:=h.right
  rw[Zhk] at h2
  have hsz:(l.getD p 0).toNat=t.size:=by rw[hg.2];simp;omega
  have ih:=ZjS (en:=en) ts f (c+1) (p+(1+t.size)) h2 (by omega) (by omega) (fun x hx=>ht x (List.mem_cons_of_mem _ hx)) (by omega)
  rw[←Nat.add_assoc] at ih
  have e1:p<en:=by omega
  have e2: ¬c=64:=by omega
  have e3: ¬en<p+1+t.size:=by omega
  rw[ZbQ,hsz,if_pos e1,if_neg e2,if_neg e3,ih,ZjN h1]
theorem ZoB (ts:List ByteArray):ts.length≤(ZaX ts).length:=by
 induction ts with
 |nil=>simp[ZaX]
 |cons t ts ih=>rw[Zhl,Zla,Zhk,List.length_cons];omega
def Zqh (k:Int) (d:Zaq) (x:List (List UInt8×Nat)×List UInt8) (b:List UInt8):Prop:=
 (∃ q,x.2=b++q)∧(∀ post,gdK k (x.2++post) x.2.length b.length=(d,0))∧TabOK x.1 x.2
theorem ZkL {k:Int} {d:Zaq} {rs:List (List UInt8×Nat)} {b:List UInt8} (hT:TabOK rs b) (hx:rdW k d rs b=(rs,b++d.bytes)) (hg:∀ l en p,gdK k l en p=gd1 d.bytes.length l en p) (hd:d=⟨d.bytes,[],[],[],[]⟩):Zqh k d (rdW k d rs b) b:=by
 rw[hx]
 refine⟨⟨_,rfl⟩,fun post=>?_,hT.app _⟩
 have ht:=((AtB.end' b d.bytes).app post).take
 rw[hg,gd1]
 simp only[Zla]
 rw[if_neg (by omega),if_neg (by omega),ht,←hd]
theorem ZmP {k:Int} {c:Nat} {short:Bool} {ho:List ByteArray} {ns:List Int} {rs:List (List UInt8×Nat)} {b:List UInt8} (h1:ZaG ho=true) (h5:ns.length=c) (h6:(ns.all fun n=>ZcU n 2)=true) (hT:TabOK rs b)
  (e:rdW k ⟨[],ho,[],ns,[]⟩ rs b=nameW short ho rs (b++ZaH ns 2)) (hg:∀ l en p,gdK k l en p=gd5 c l en p):Zqh k ⟨[],ho,[],ns,[]⟩ (rdW k ⟨[],ho,[],ns,[]⟩ rs b) b:=by
 obtain⟨⟨q,h2⟩,h3,h4⟩:=ZcN short h1 (hT.app (ZaH ns 2))
 rw[e]
 generalize nameW short ho rs (b++ZaH ns 2)=x at h2 h3 h4⊢
 refine⟨⟨ZaH ns 2++q,by rw[h2,List.append_assoc]⟩,fun post=>?_,h4⟩
 have hl:(b++ZaH ns 2).length=b.length+c*2:=by rw[Zla,ZbL,h5]
 have r3:AtB ((x.2++post).take x.2.length) b.length (ZaH ns 2):=by
  rw[List.take_left' rfl,h2]
  exact(AtB.end' _ _).app _
 have n3:=Zit ns b.length r3 h6
 rw[h5] at n3
 rw[hl] at h3
 have g1:=Zgs (h3.app post) (ZcR h1).2 Zlr
 rw[hg,gd5,n3]
 simp only[g1]
 simp
theorem ZmO {k:Int} {d:Zaq} {rs:List (List UInt8×Nat)} {b:List UInt8} (hd:ZaB k d=true) (hT:TabOK rs b):Zqh k d (rdW k d rs b) b:=by
 have hd0:=hd
 obtain⟨bs,ho,ma,ns,ts⟩:=d
 rcases Zc2 k with hk|rfl|rfl|hk|rfl|rfl|rfl|rfl|⟨⟨k1,k2⟩,hk⟩
 ·rw[Zec hk] at hd;cases hd
 ·simp[ZaB,ZaD] at hd
  obtain⟨h1,rfl,rfl,rfl,rfl⟩:=hd
  refine ZkL hT (by simp[rdW,ZdP,Zcd,ZgN,ZgU,Zeh,ZaX,ZaH]) (fun l en p=>?_) rfl
  simp only
  rw[h1];rfl
 ·simp[ZaB,ZaD] at hd
  obtain⟨h1,rfl,rfl,rfl,rfl⟩:=hd
  refine ZkL hT (by simp[rdW,ZdP,Zcd,ZgN,ZgU,Zeh,ZaX,ZaH]) (fun l en p=>?_) rfl
  simp only
  rw[h1];rfl
 ·simp only[ZaB,ZaD] at hd
  rw[if_neg (by omega),if_neg (by omega),if_neg (by omega),if_pos hk] at hd
  simp at hd
  obtain⟨h1,rfl,rfl,rfl,rfl⟩:=hd
  have e:rdW k ⟨[],ho,[],[],[]⟩ rs b=nameW true ho rs b:=by
   rcases hk with rfl|rfl|rfl<;>simp[rdW,ZdP,Zcd,ZgN,ZgU,Zeh,Zhc,ZaX,ZaH]
  have hg:∀ l en p,gdK k l en p=gd4 l en p:=fun l en p=>by rw[gdK,if_neg (by omega),if_neg (by omega),if_pos hk]
  obtain⟨h2,h3,h4⟩:=ZcN true h1 hT
  rw[e]
  refine⟨h2,fun post=>?_,h4⟩
  rw[hg,gd4,Zgs (h3.app post) (ZcR h1).2 Zlr]
  simp
 ·simp[ZaB,ZaD,Zgo] at hd
  obtain⟨⟨h1,h5,h6⟩,rfl,rfl,rfl⟩:=hd
  have e:rdW 15 ⟨[],ho,[],ns,[]⟩ rs b=nameW true ho rs (b++ZaH ns 2):=by
   simp[rdW,ZdP,Zcd,ZgN,ZgU,Zeh,Zhc,ZkA,ZaX]
  exact ZmP (c:=1) h1 h5 (by simpa [List.all_eq_true] using h6) hT e (fun _ _ _=>rfl)
 ·simp[ZaB,ZaD,Zgo] at hd
  obtain⟨⟨⟨h1,h7⟩,h5,h6⟩,rfl,rfl⟩:=hd
  have e:rdW 6 ⟨[],ho,ma,ns,[]⟩ rs b=((nameW true ma (nameW true ho rs b).1 (nameW true ho rs b).2).1,(nameW true ma (nameW true ho rs b).1 (nameW true ho rs b).2).2++ZaH ns 4):=by
   simp[rdW,ZdP,Zcd,ZgN,ZgU,Zeh,Zhc,ZkA,ZaX]
  have hall:(ns.all fun n=>ZcU n 4)=true:=by simpa [List.all_eq_true] using h6
  obtain⟨⟨q1,h2⟩,h3,h4⟩:=ZcN true h1 hT
  rw[e]
  generalize nameW true ho rs b=x1 at h2 h3 h4⊢
  obtain⟨⟨q2,k2⟩,k3,k4⟩:=ZcN true h7 h4
  generalize nameW true ma x1.1 x1.2=x2 at k2 k3 k4⊢
  refine⟨⟨q1++q2++ZaH ns 4,by simp only;rw[k2,h2];simp⟩,fun post=>?_,k4.app _⟩
  have hx1:x1.2.length≤x2.2.length:=by rw[k2,Zla];omega
  have r1:Rd (x2.2++ZaH ns 4++post) b.length b.length ho x1.2.length:=by
   rw[k2,List.append_assoc,List.append_assoc];exact h3.app _
  have r2:Rd (x2.2++ZaH ns 4++post) x1.2.length x1.2.length ma x2.2.length:=by
   rw[List.append_assoc];exact k3.app _
  have r3:AtB ((x2.2++ZaH ns 4++post).take (x2.2++ZaH ns 4).length) x2.2.length (ZaH ns 4):=by
   rw[List.take_left']
   ·exact AtB.end' _ _
   ·rfl
  have n3:=Zit ns x2.2.length r3 hall
  rw[h5] at n3
  have g1:=Zgs (en:=(x2.2++ZaH ns 4).length) r1 (ZcR h1).2 (by rw[Zla];omega)
  have g2:=Zgs (en:=(x2.2++ZaH ns 4).length) r2 (ZcR h7).2 (by rw[Zla];omega)
  show gd6 _ _ _=_
  simp only[gd6,g1,g2,n3]
  rw[if_neg (by simp),if_neg (by simp),if_neg (by simp),if_neg (by rw[Zla,ZbL,h5];omega)]
 ·simp[ZaB,ZaD,Zgo] at hd
  obtain⟨⟨h1,h5,h6⟩,rfl,rfl,rfl⟩:=hd
  have e:rdW 33 ⟨[],ho,[],ns,[]⟩ rs b=nameW false ho rs (b++ZaH ns 2):=by
   simp[rdW,ZdP,Zcd,ZgN,ZgU,Zeh,Zhc,ZkA,ZaX]
  exact ZmP (c:=3) h1 h5 (by simpa [List.all_eq_true] using h6) hT e (fun _ _ _=>rfl)
 ·simp[ZaB,ZaD] at hd
  obtain⟨⟨h1,h2,rfl,rfl,rfl,rfl⟩,h3⟩:=hd
  have e:rdW 16 ⟨[],[],[],[],ts⟩ rs b=(rs,b++ZaX ts):=by
   simp[rdW,ZdP,Zcd,ZgN,ZgU,Zeh,ZkA,ZaH]
  rw[e]
  refine⟨⟨_,rfl⟩,fun post=>?_,hT.app _⟩
  have hr:=ZjS (en:=(b++ZaX ts).length) ts ((b++ZaX ts).length+1) 0 b.length ((AtB.end' b (ZaX ts)).app post) (by rw[Zla]) (by omega) h3 (by have:=ZoB ts;rw[Zla];omega)
  have hA:Zcw (b++ZaX ts++post) (b++ZaX ts).length b.length=(ts,(b++ZaX ts).length,0):=by
   rw[Zcw,hr,if_neg]
   intro h
   have h4:=h.2
   simp only at h4
   rw[h4] at h1
   simp at h1
  show gd3 _ _ _=_
  simp only[gd3,hA]
  simp
 ·rw[Zc7 k1 k2 hk] at hd
  simp[ZaD] at hd
  obtain⟨h1,rfl,rfl,rfl,rfl⟩:=hd
  have e:rdW k ⟨bs,[],[],[],[]⟩ rs b=(rs,b++bs):=by
   obtain⟨a1,a2,a3,a4,a5,a6,a7,a8,a9⟩:=hk
   simp[rdW,ZdP,Zcd,ZgN,ZgU,Zeh,ZaX,ZaH,a3,a4,a5,a6,a7,a8]
  have hg:∀ l en p,gdK k l en p=gd2 l en p:=fun l en p=>by
   rw[gdK,if_neg (by omega),if_neg (by omega),if_neg (by omega),if_neg (by omega),if_neg (by omega),if_neg (by omega),if_neg (by omega)]
  rw[e]
  refine⟨⟨_,rfl⟩,fun post=>?_,hT.app _⟩
  have ht:=((AtB.end' b bs).app post).take
  rw[hg,gd2]
  simp only[Zla]
  rw[show b.length+bs.length-b.length=bs.length by omega,ht]
theorem ZiZ (w:World) (r:Nat) (bo:Option Addr) (bl bc:Nat) (l:List UInt8) (hl:ZbP w bo bl bc l) (hbl:bl≤1000000) (p:Nat) (hp:p≤1000000) (ss:List ByteArray) (nx:Nat) (hg:ZeP l p=(ss,nx,0)) (hr:Blk w r (rdC bo bl bc p) 113):
  Calls Tryz.prog 94 #[.pointer (some ⟨r,0,none⟩)] w fun e w'=>(∃ v,e= .returned v∧w'.ownsRow w.heap.size 9 1 v ss.length (ss.map .string))∧Blk w' r (rdC bo bl bc nx) 113∧w.grownBy w' (some r):=by
 have hbd:=Below.drew (Below.refl w.heap.size w)
 have hrd:=hr.on hbd
 have c0:w.drew.cell? ⟨r,0,none⟩=some (.slice bo bl bc):=hrd.cell 0
 have c1:w.drew.cell? ⟨r,1,none⟩=some (.int .i64 (p:Int)):=hrd.cell 1
 have hgk:=Zly w.drew bo bl bc l (hl.below hbd Zlr) hbl p hp
 rw[hg] at hgk
 simp only at hgk
 have HG:=Zhd hgk
 have H0:=Zhd (Zan hrd (Zan hbd (Zaw r hbd)))
 clear hgk hl hr hrd hbd hg
 have HR:=Zhd (fun W (hb:Below w.drew.heap.size w.drew W)=>Zan (Blk.on H0.out.1 hb) (Zaa H0.out.2.1 hb Zlr))
 go_enter Tryz.func94,Tryz.ntmps94
 go_wp2_with fail
 go_region_held3 (fun w'=>w'.cell? ⟨r,0,none⟩=some (.slice bo bl bc)∧w'.cell? ⟨r,1,none⟩=some (.int .i64 (p:Int)))
  (first|go_keep|exact hd2)
  (first|(go_at_call 141;refine HG.out.mono ?_;rintro e W2 ⟨⟨v,rfl,ho⟩,hb⟩;obtain⟨hr2,hb2⟩:=HR.out W2 hb;have hd2:W2.cell? ⟨r,0,none⟩=some (.slice bo bl bc)∧W2.cell? ⟨r,1,none⟩=some (.int .i64 (p:Int)):=⟨hr2.cell 0,hr2.cell 1⟩;have f2:=hr2.free 1;have H2:=Zhd (Zan hr2 (Zan hb2 ho));clear hr2 hb2 hb ho))
 all_goals go_split_ands
 all_goals go_wp2_with (go_at_call 139;refine(Zio _).mono ?_;rintro e w2 ⟨rfl,rfl⟩)
 all_goals go_ret
 all_goals
  have hs:=H2.out.1.set 1 (.int .i64 (nx:Int))
  have hgs:=Zag w2 r 1 (.int .i64 (nx:Int))
  have hrs:Blk (w2.setCell ⟨r,1,none⟩ (.int .i64 (nx:Int))) r (rdC bo bl bc nx) 113:=by simpa [rdC] using hs
  have hown:(w2.setCell ⟨r,1,none⟩ (.int .i64 (nx:Int))).ownsRow w.heap.size 9 1 v ss.length (ss.map .string):=Zgv H2.out.2.2 hgs H2.out.1 (by decide)
  exact⟨⟨v,rfl,hown⟩,hrs,Zah (Zaw r H2.out.2.1) hgs⟩
theorem ZkM (w:World) (r:Nat) (bo:Option Addr) (bl bc:Nat) (l:List UInt8) (hl:ZbP w bo bl bc l) (hbl:bl≤900000) (hne:∀ a,bo=some a→a.block≠r∧a.block<w.heap.size) (p n:Nat) (hpn:p+2+n≤bl) (k:Int) (hk:1≤k∧k≤65535) (hg:Zdl l p 2=((n:Int),0)) (d:Zaq) (hd:gdK k ((l.drop (p+2)).take n) n 0=(d,0)) (hr:Blk w r (rdC bo bl bc p) 113):
  Calls Tryz.prog 140 #[.pointer (some ⟨r,0,none⟩),.int .i64 k] w fun e w'=>(∃ h,e= .returned (.agg (Zae h))∧IsData w' h d∧DataIn (Zak mT w') h)∧Blk w' r (rdC bo bl bc (p+2+n)) 113∧w.grownBy w' (some r):=by
 have hal:Below w.heap.size w (w.alloc (.cells (Zae zDH) 35)):=Zbr.alloc Zlr _
 have hA:Blk (w.alloc (.cells (Zae zDH) 35)) w.heap.size (Zae zDH) 35:=Zha w _
 have hE:w.heap.size≠r:=fun e=>by have:=hr.lt;omega
 have hlA:=hl.below hal Zlr
 have hrA:=hr.on hal
 have h1:=ZcG _ r bo bl bc l hlA p 2 (n:Int) (by omega) (by omega) (by omega) hg hrA
 have HE:=Zhd (Zan hal (Zan hA (Zan hE (Zan hlA (Zan hrA (Zan hne hd))))))
 have H1:=Zhd h1
 obtain⟨pp,hpp⟩:∃ pp,pp=p+2:=⟨_,rfl⟩
 rw[←hpp] at hpn
 have HQ:=Zhd hpp
 have HRL:=Zhd hr.lt
 clear hal hA hlA hrA h1 hl hr hne hg hE hd hpp
 go_enter Tryz.func140,Tryz.ntmps140
 go_upto_region 2 with(go_at_call 92;refine H1.out.mono ?_;rintro e W1 ⟨rfl,hr1,hg1⟩;rw[←HQ.out] at hr1;have hb1:=HE.out.2.1.but hg1 HE.out.2.2.1;have hl1:ZbP W1 bo bl bc l:=HE.out.2.2.2.1.grown hg1 (fun a ha h=>(HE.out.2.2.2.2.2.1 a ha).1 (Zsi h));have H2:=Zhd (Zan hr1 (Zan hb1 (Zan hl1 hg1)));clear hr1 hb1 hl1 hg1)
 have hbd:=Below.drew (Below.refl W1.heap.size W1)
 have y0:W1.drew.cell? ⟨r,0,none⟩=some (.slice bo bl bc):=(H2.out.1.on hbd).cell 0
 have y1:W1.drew.cell? ⟨r,1,none⟩=some (.int .i64 (pp:Int)):=(H2.out.1.on hbd).cell 1
 obtain⟨W2,hW2⟩:∃ W2,W2=W1.drew:=⟨_,rfl⟩
 have H3:=Zhd (show Blk W2 r (rdC bo bl bc pp) 113∧Blk W2 w.heap.size (Zae zDH) 35∧ZbP W2 bo bl bc l∧Below W1.heap.size W1 W2 from⟨hW2▸H2.out.1.on hbd,hW2▸H2.out.2.1.on hbd,hW2▸H2.out.2.2.1.below hbd Zlr,hW2▸hbd⟩)
 clear hbd
 have hlt: ¬((bl:Int)-(pp:Int)<(n:Int)):=by omega
 go_region
 all_goals go_upto_region 4 with fail
 all_goals rw[←hW2]
 clear hlt y0 y1
 have hbd:=Below.drew (Below.refl W2.heap.size W2)
 have HY0:=Zhd (show W2.drew.cell? ⟨r,0,none⟩=some (.slice bo bl bc) from(H3.out.1.on hbd).cell 0)
 have HY1:=Zhd (show W2.drew.cell? ⟨r,1,none⟩=some (.int .i64 (pp:Int)) from(H3.out.1.on hbd).cell 1)
 clear hbd
 obtain⟨m,hm⟩:∃ m,m=pp+n:=⟨_,rfl⟩
 have HM:=Zhd (show IntKind.i64.wrap ((pp:Int)+(n:Int))=(m:Int) from by rw[IntWalk.i64_in _ (by omega)];omega)
 obtain⟨so,hso⟩:∃ so:Option Addr,so=if bc=pp then bo else Option.map (fun x=>x.add pp) bo:=⟨_,rfl⟩
 have hle:=H3.out.2.2.1.hle
 have hcp:=H3.out.2.2.1.hcap
 have hsl:∀ W,ZbP W bo bl bc l→ZbP W so n (bc-pp) ((l.drop pp).take n):=by
  intro W hW
  by_cases hbq:bc=pp
  ·have h:=Zg3 (Row.cut0 hW (k:=pp) (by omega) hbq) (m:=n) (by omega)
   rw[←List.map_drop,←List.map_take] at h
   rw[hso,if_pos hbq,hbq,Nat.sub_self]
   exact h
  ·have h:=Zg3 (Row.cut hW (k:=pp) (by omega)) (m:=n) (by omega)
   rw[←List.map_drop,←List.map_take] at h
   rw[hso,if_neg hbq]
   exact h
 have hsn:∀ a,so=some a→a.block<w.heap.size:=by
  intro a ha
  rw[hso] at ha
  split at ha
  ·exact(HE.out.2.2.2.2.2.1 a ha).2
  ·obtain⟨b,hb,rfl⟩:=Option.map_eq_some_iff.1 ha
   have:=(HE.out.2.2.2.2.2.1 b hb).2
   unfold Addr.add
   split<;>exact this
 have HGT:=Zhd (show ∀ W,Below W2.heap.size W2 W→Calls Tryz.prog 166 #[.slice so n (bc-pp),.int .i64 0,.int .i64 (n:Int),.int .i64 k] W fun e w'=>ZrL W w' (d,0) e from fun W hb=>by
  have h:=ZpI W so n (bc-pp) ((l.drop pp).take n) (hsl W (H3.out.2.2.1.below hb Zlr)) (by omega) (fun a ha=>by have:=hsn a ha;have:=H2.out.2.2.2.size;have:=H3.out.2.2.2.size;have:=hb.size;have:=HE.out.1.size;omega) 0 n (by omega) k hk
  rw[Nat.zero_add,HQ.out,HE.out.2.2.2.2.2.2] at h
  rw[HQ.out]
  exact h)
 have g1:m≤bc:=by omega
 have g2:pp≤m:=by omega
 have g3:m-pp=n:=by omega
 have HSO:=Zhd hso
 have HMM:=Zhd hm
 have HB:=Zhd (Zan hpn hbl)
 clear hso hsl hsn hle hcp hm hpn hbl
 refine ZjY (m:=55) 22 20 (by kernel_rfl) (fun x y=>Below x.heap.size x y) (fun i v xw=>match i with|0=>v= .pointer (some ⟨r,0,none⟩)|1=>v= .pointer (some ⟨r,0,none⟩)|2=>v= .pointer (some ⟨r,0,none⟩)|3=>v= .slice bo bl bc|4=>v= .pointer (some ⟨r,0,none⟩)|5=>v= .pointer (some ⟨r,0,none⟩)|6=>v= .pointer (some ⟨r,1,none⟩)|7=>v= .int .i64 ((pp:Int))|8=>v= .pointer (some ⟨r,0,none⟩)|9=>v= .pointer (some ⟨r,0,none⟩)|10=>v= .pointer (some ⟨r,1,none⟩)|11=>v= .int .i64 ((pp:Int))|12=>v= .int .i64 ((n:Int))|13=>v= .int .i64 ((m:Int))|14=>v= .slice so n (bc-pp)|15=>v= .int .i64 ((n:Int))|16=>v= .int .i64 k|17=>∃ h,v= .tuple #[.agg (Zae h),.int .i64 0]∧IsData xw h d∧DataIn (Zak mT xw) h|18=>∃ h,v= .tuple #[.agg (Zae h),.int .i64 0]∧IsData xw h d∧DataIn (Zak mT xw) h|19=>∃ h,v= .agg (Zae h)∧IsData xw h d∧DataIn (Zak mT xw) h|20=>v= .int .i64 0|21=>∃ b,v= .pointer (some ⟨b,0,none⟩)∧W2.heap.size≤b∧Blk xw b (Zae zDH) 35|_=>True) rfl (by kernel_rfl) (by kernel_rfl) (fun _ _ _ h1 h2=>Zaa h1 h2 Zlr) Zbr (by intro i v x y h hxy;match i,h with|0,h=>exact h|1,h=>exact h|2,h=>exact h|3,h=>exact h|4,h=>exact h|5,h=>exact h|6,h=>exact h|7,h=>exact h|8,h=>exact h|9,h=>exact h|10,h=>exact h|11,h=>exact h|12,h=>exact h|13,h=>exact h|14,h=>exact h|15,h=>exact h|16,h=>exact h|17,⟨h,e,hr⟩=>exact⟨h,e,Zb0.step (T:=mT) (h:=h) (x:=d) hr (Same.below hxy _)⟩|18,⟨h,e,hr⟩=>exact⟨h,e,Zb0.step (T:=mT) (h:=h) (x:=d) hr (Same.below hxy _)⟩|19,⟨h,e,hr⟩=>exact⟨h,e,Zb0.step (T:=mT) (h:=h) (x:=d) hr (Same.below hxy _)⟩|20,h=>exact h|21,⟨b,e,hl,hr⟩=>exact⟨b,e,hl,hr.on hxy⟩|_+22,_=>trivial) (ZdS (by kernel_rfl)) ?_ ?_
 rotate_left
 ·intro a W hR hS hdep
  have e0:a.tmps.getD 0 undef= .pointer (some ⟨r,0,none⟩):=hS.keep 0 (by kernel_rfl)
  have e4:a.tmps.getD 4 undef= .pointer (some ⟨w.heap.size,0,none⟩):=hS.keep 4 (by kernel_rfl)
  have e5:a.tmps.getD 5 undef= .int .i64 ((n:Int)):=hS.keep 5 (by kernel_rfl)
  obtain⟨h3,q,rh3⟩:=hdep 19 (by decide+kernel) (by decide)
  have e42:a.tmps.getD 42 undef= .agg (Zae h3):=q
  clear q
  obtain⟨bq,q,hbq,rbq⟩:=hdep 21 (by decide+kernel) (by decide)
  have e6:a.tmps.getD 6 undef= .pointer (some ⟨bq,0,none⟩):=q
  clear q
  obtain⟨h2,q,rh2⟩:=hdep 18 (by decide+kernel) (by decide)
  have e23:a.tmps.getD 23 undef= .tuple #[.agg (Zae h2),.int .i64 0]:=q
  clear q
  obtain⟨T,df⟩:=a
  obtain rfl:df=[]:=hS.defers
  have hT:=ZdJ hS 55 rfl [6,23,24,25,26,27,28,29,30,31,32,33,34,35,36,37,38,39,40,41,42,43] (by kernel_rfl)
  simp only[List.foldl_cons,List.foldl_nil,List.setIfInBounds_toArray,List.set_cons_succ,List.set_cons_zero] at hT
  have k42:T.getD 42 undef= .agg (Zae h3):=e42
  have k6:T.getD 6 undef= .pointer (some ⟨bq,0,none⟩):=e6
  have k23:T.getD 23 undef= .tuple #[.agg (Zae h2),.int .i64 0]:=e23
  clear hS hdep
  rw[hT]
  rw[k42]
  clear k42 e42
  rw[k6]
  clear k6 e6
  rw[k23]
  clear k23 e23
  clear hT
  generalize T.getD 24 undef=u24
  generalize T.getD 25 undef=u25
  generalize T.getD 26 undef=u26
  generalize T.getD 27 undef=u27
  generalize T.getD 28 undef=u28
  generalize T.getD 29 undef=u29
  generalize T.getD 30 undef=u30
  generalize T.getD 31 undef=u31
  generalize T.getD 32 undef=u32
  generalize T.getD 33 undef=u33
  generalize T.getD 34 undef=u34
  generalize T.getD 35 undef=u35
  generalize T.getD 36 undef=u36
  generalize T.getD 37 undef=u37
  generalize T.getD 38 undef=u38
  generalize T.getD 39 undef=u39
  generalize T.getD 40 undef=u40
  generalize T.getD 41 undef=u41
  generalize T.getD 43 undef=u43
  have hbx:=Zaa (B:=W2.heap.size) (Below.drew Zbr) hR Zlr
  have hbx1:=Zaa H3.out.2.2.2 hbx Zlr
  clear hR
  simp only[List.filterMap_cons,List.filterMap_nil,List.getElem?_toArray,List.getElem?_cons_succ,List.getElem?_cons_zero]
  have hg0:=Zah (Zaw r HE.out.1) H2.out.2.2.2
  have hsz:=hg0.size
  have hsz2:=hbx1.size
  have hsz3:=H3.out.2.2.2.size
  have hrl:=H2.out.1.lt
  have hrw:r<w.heap.size:=HRL.out
  have hg1:=Zah hg0 (Zaw r hbx1)
  have hgq:=Zav W bq (Zae h3)
  have hg2:=Zc4 hg1 hgq (by omega)
  have hbq1:=ZaA rbq (Zae h3)
  have hbr:=(H2.out.1.on hbx1).but hgq (by omega)
  have hbd:=(H2.out.2.1.on hbx1).but hgq (by have:=H2.out.2.1.lt;omega)
  have hdd:=Zb0.step (T:=mT) (h:=h3) (x:=d) rh3 (Same.but hgq rbq (by decide))
  obtain⟨W5,hW5⟩:∃ W5,W5=W.setRow bq (Zae h3):=⟨_,rfl⟩
  rw[←hW5] at hg2 hbq1 hbr hbd hdd
  have HW:=Zhd hW5
  have hgs:=Zag W5 r 1 (.int .i64 (m:Int))
  have H6:=Zhd (show Blk (W5.setCell ⟨r,1,none⟩ (.int .i64 (m:Int))) bq (Zae h3) 35∧Blk (W5.setCell ⟨r,1,none⟩ (.int .i64 (m:Int))) r (rdC bo bl bc m) 113∧Blk (W5.setCell ⟨r,1,none⟩ (.int .i64 (m:Int))) w.heap.size (Zae zDH) 35∧(IsData (W5.setCell ⟨r,1,none⟩ (.int .i64 (m:Int))) h3 d∧DataIn (Zak mT (W5.setCell ⟨r,1,none⟩ (.int .i64 (m:Int)))) h3)∧w.grownBy (W5.setCell ⟨r,1,none⟩ (.int .i64 (m:Int))) (some r) from
   ⟨hbq1.but hgs (by omega),by have h:=hbr.set 1 (.int .i64 (m:Int));simpa [rdC] using h,hbd.but hgs (by omega),Zb0.step (T:=mT) (h:=h3) (x:=d) hdd (Same.but hgs hbr (by decide)),Zah hg2 hgs⟩)
  have H5:=Zhd (Zan hbq1 (Zan hbr (Zan hbd (Zan hdd hg2))))
  have HBQ:=Zhd (show r<w.heap.size∧w.heap.size<bq from⟨hrw,by have:=H2.out.2.1.lt;omega⟩)
  clear hgs hbx hbx1 hg0 hsz hsz2 hsz3 hrl hrw hg1 hgq hg2 hbq1 hbr hbd hdd rh3 hW5 hbq
  refine⟨fun hp=>?_,?_⟩
  ·have e43:u43= .int .i64 0:=hp
   subst e43
   clear hp
   refine wpList_store_row rfl 35 _ _ rfl bq (Zae h3) rfl rfl 35 (Zae zDH) rbq ZaC rfl (Zbp h3) ?_
   (try change wpList _ _ _ _ _ (W.setRow bq (Zae h3)))
   rw[←HW.out]
   have y1:W5.cell? ⟨r,1,none⟩=some (.int .i64 (pp:Int)):=H5.out.2.1.cell 1
   have f1:=H5.out.2.1.free 1
   have hwm:wrap64 ((pp:Int)+(n:Int))=(m:Int):=by rw[←IntWalk.i64_left];exact HM.out
   go_wp2_with (first
    |(refine wpList_store_row rfl 35 _ _ rfl w.heap.size (Zae h3) rfl rfl 35 (Zae zDH) H6.out.2.2.1 ZaC rfl (Zbp h3) ?_)
    |(refine wpList_load_row rfl 35 _ rfl bq rfl 35 (Zae h3) (0,0) _ H6.out.1 Tryz.underlying35 rfl ZaC ?_)
    |(go_at_call 139;refine(Zio _).mono ?_;rintro e w6 ⟨rfl,rfl⟩))
   have hgf:=Zav (w6.setCell ⟨r,1,none⟩ (.int .i64 (m:Int))) w.heap.size (Zae h3)
   have hfin:=ZaA H6.out.2.2.1 (Zae h3)
   have hdf:=Zb0.step (T:=mT) (h:=h3) (x:=d) H6.out.2.2.2.1 (Same.but hgf H6.out.2.2.1 (by decide))
   have hrf:=H6.out.2.1.but hgf (by have:=HBQ.out.1;omega)
   have hgg:=Zc4 H6.out.2.2.2.2 hgf Zlr
   rw[show p+2+n=m by rw[HMM.out,HQ.out]]
   exact bodyPost_ret (results_cell_row (p:=4) (ty:=35) rfl _ _ w.heap.size 35 _ (0,0) _ rfl hfin Tryz.underlying35 rfl ZaC) rfl ⟨⟨h3,rfl,hdf.1,hdf.2⟩,hrf,hgg⟩
  ·skip
   refine wpList_store_row rfl 35 _ _ rfl bq (Zae h3) rfl rfl 35 (Zae zDH) rbq ZaC rfl (Zbp h3) ?_
   (try change wpList _ _ _ _ _ (W.setRow bq (Zae h3)))
   rw[←HW.out]
   have y1:W5.cell? ⟨r,1,none⟩=some (.int .i64 (pp:Int)):=H5.out.2.1.cell 1
   have f1:=H5.out.2.1.free 1
   have hwm:wrap64 ((pp:Int)+(n:Int))=(m:Int):=by rw[←IntWalk.i64_left];exact HM.out
   go_wp2_with (first
    |(refine wpList_store_row rfl 35 _ _ rfl w.heap.size (Zae h3) rfl rfl 35 (Zae zDH) H6.out.2.2.1 ZaC rfl (Zbp h3) ?_)
    |(refine wpList_load_row rfl 35 _ rfl bq rfl 35 (Zae h3) (0,0) _ H6.out.1 Tryz.underlying35 rfl ZaC ?_)
    |(go_at_call 139;refine(Zio _).mono ?_;rintro e w6 ⟨rfl,rfl⟩))
   have hgf:=Zav (w6.setCell ⟨r,1,none⟩ (.int .i64 (m:Int))) w.heap.size (Zae h3)
   have hfin:=ZaA H6.out.2.2.1 (Zae h3)
   have hdf:=Zb0.step (T:=mT) (h:=h3) (x:=d) H6.out.2.2.2.1 (Same.but hgf H6.out.2.2.1 (by decide))
   have hrf:=H6.out.2.1.but hgf (by have:=HBQ.out.1;omega)
   have hgg:=Zc4 H6.out.2.2.2.2 hgf Zlr
   rw[show p+2+n=m by rw[HMM.out,HQ.out]]
   exact bodyPost_ret (results_cell_row (p:=4) (ty:=35) rfl _ _ w.heap.size 35 _ (0,0) _ rfl hfin Tryz.underlying35 rfl ZaC) rfl ⟨⟨h3,rfl,hdf.1,hdf.2⟩,hrf,hgg⟩
 refine Zac rfl rfl (fun a W hR hS hdep K hK=>?_) ?_
 ·have e0:a.tmps[0]?.getD undef= .pointer (some ⟨r,0,none⟩):=Zad (hS.keep 0 (by kernel_rfl))
  go_simp
  exact hK _ _ Zbr (by first|rfl|simp)
 refine Zac rfl rfl (fun a W hR hS hdep K hK=>?_) ?_
 ·have e24:a.tmps[24]?.getD undef= .pointer (some ⟨r,0,none⟩):=Zad (hdep 0 (by decide+kernel))
  go_simp
  exact hK _ _ Zbr (by first|rfl|simp)
 refine Zac rfl rfl (fun a W hR hS hdep K hK=>?_) ?_
 ·have e25:a.tmps[25]?.getD undef= .pointer (some ⟨r,0,none⟩):=Zad (hdep 1 (by decide+kernel))
  go_simp
  exact hK _ _ Zbr (by first|rfl|simp)
 refine Zac rfl rfl (fun a W hR hS hdep K hK=>?_) ?_
 ·have e26:a.tmps[26]?.getD undef= .pointer (some ⟨r,0,none⟩):=Zad (hdep 2 (by decide+kernel))
  have m0:=Zab hR HY0.out
  go_simp
  exact hK _ _ Zbr (by first|rfl|simp)
 refine Zac rfl rfl (fun a W hR hS hdep K hK=>?_) ?_
 ·have e0:a.tmps[0]?.getD undef= .pointer (some ⟨r,0,none⟩):=Zad (hS.keep 0 (by kernel_rfl))
  go_simp
  exact hK _ _ Zbr (by first|rfl|simp)
 refine Zac rfl rfl (fun a W hR hS hdep K hK=>?_) ?_
 ·have e28:a.tmps[28]?.getD undef= .pointer (some ⟨r,0,none⟩):=Zad (hdep 4 (by decide+kernel))
  go_simp
  exact hK _ _ Zbr (by first|rfl|simp)
 refine Zac rfl rfl (fun a W hR hS hdep K hK=>?_) ?_
 ·have e29:a.tmps[29]?.getD undef= .pointer (some ⟨r,0,none⟩):=Zad (hdep 5 (by decide+kernel))
  go_simp
  exact hK _ _ Zbr (by first|rfl|simp)
 refine Zac rfl rfl (fun a W hR hS hdep K hK=>?_) ?_
 ·have e30:a.tmps[30]?.getD undef= .pointer (some ⟨r,1,none⟩):=Zad (hdep 6 (by decide+kernel))
  have m0:=Zab hR HY1.out
  go_simp
  exact hK _ _ Zbr (by first|rfl|simp)
 refine Zac rfl rfl (fun a W hR hS hdep K hK=>?_) ?_
 ·have e0:a.tmps[0]?.getD undef= .pointer (some ⟨r,0,none⟩):=Zad (hS.keep 0 (by kernel_rfl))
  go_simp
  exact hK _ _ Zbr (by first|rfl|simp)
 refine Zac rfl rfl (fun a W hR hS hdep K hK=>?_) ?_
 ·have e32:a.tmps[32]?.getD undef= .pointer (some ⟨r,0,none⟩):=Zad (hdep 8 (by decide+kernel))
  go_simp
  exact hK _ _ Zbr (by first|rfl|simp)
 refine Zac rfl rfl (fun a W hR hS hdep K hK=>?_) ?_
 ·have e33:a.tmps[33]?.getD undef= .pointer (some ⟨r,0,none⟩):=Zad (hdep 9 (by decide+kernel))
  go_simp
  exact hK _ _ Zbr (by first|rfl|simp)
 refine Zac rfl rfl (fun a W hR hS hdep K hK=>?_) ?_
 ·have e34:a.tmps[34]?.getD undef= .pointer (some ⟨r,1,none⟩):=Zad (hdep 10 (by decide+kernel))
  have m0:=Zab hR HY1.out
  go_simp
  exact hK _ _ Zbr (by first|rfl|simp)
 refine Zac rfl rfl (fun a W hR hS hdep K hK=>?_) ?_
 ·have e5:a.tmps[5]?.getD undef= .int .i64 ((n:Int)):=Zad (hS.keep 5 (by kernel_rfl))
  go_simp
  exact hK _ _ Zbr (by first|rfl|simp)
 refine Zac rfl rfl (fun a W hR hS hdep K hK=>?_) ?_
 ·have e35:a.tmps[35]?.getD undef= .int .i64 ((pp:Int)):=Zad (hdep 11 (by decide+kernel))
  have e36:a.tmps[36]?.getD undef= .int .i64 ((n:Int)):=Zad (hdep 12 (by decide+kernel))
  go_simp
  exact hK _ _ Zbr (congrArg (Value.int IntKind.i64) HM.out)
 refine Zac rfl rfl (fun a W hR hS hdep K hK=>?_) ?_
 ·have e27:a.tmps[27]?.getD undef= .slice bo bl bc:=Zad (hdep 3 (by decide+kernel))
  have e31:a.tmps[31]?.getD undef= .int .i64 ((pp:Int)):=Zad (hdep 7 (by decide+kernel))
  have e37:a.tmps[37]?.getD undef= .int .i64 ((m:Int)):=Zad (hdep 13 (by decide+kernel))
  go_simp
  exact hK _ _ Zbr (congrArg (fun x=>Value.slice x n (bc-pp)) HSO.out.symm)
 refine Zac rfl rfl (fun a W hR hS hdep K hK=>?_) ?_
 ·have e5:a.tmps[5]?.getD undef= .int .i64 ((n:Int)):=Zad (hS.keep 5 (by kernel_rfl))
  go_simp
  exact hK _ _ Zbr (by first|rfl|simp)
 refine Zac rfl rfl (fun a W hR hS hdep K hK=>?_) ?_
 ·have e1:a.tmps[1]?.getD undef= .int .i64 k:=Zad (hS.keep 1 (by kernel_rfl))
  go_simp
  exact hK _ _ Zbr (by first|rfl|simp)
 refine Zac rfl rfl (fun a W hR hS hdep K hK=>?_) ?_
 ·obtain q:=hdep 14 (by decide+kernel)
  have e38:a.tmps[38]?.getD undef= .slice so n ((bc-pp)):=Zad q
  clear q
  have e39:a.tmps[39]?.getD undef= .int .i64 ((n:Int)):=Zad (hdep 15 (by decide+kernel))
  have e40:a.tmps[40]?.getD undef= .int .i64 k:=Zad (hdep 16 (by decide+kernel))
  go_simp
  have hbx:=Zaa (B:=W2.heap.size) (Below.drew Zbr) hR Zlr
  refine(HGT.out _ hbx).mono ?_
  rintro e W' ⟨h,rfl,hI,hM,hb⟩
  exact hK _ _ hb ⟨h,rfl,hI,hM⟩
 refine Zac rfl rfl (fun a W hR hS hdep K hK=>?_) ?_
 ·obtain⟨h1,q,rh1⟩:=hdep 17 (by decide+kernel)
  have e41:a.tmps[41]?.getD undef= .tuple #[.agg (Zae h1),.int .i64 0]:=Zad q
  clear q
  go_simp
  exact hK _ _ Zbr ⟨h1,rfl,rh1⟩
 refine Zac rfl rfl (fun a W hR hS hdep K hK=>?_) ?_
 ·obtain⟨h2,q,rh2⟩:=hdep 18 (by decide+kernel)
  have e23:a.tmps[23]?.getD undef= .tuple #[.agg (Zae h2),.int .i64 0]:=Zad q
  clear q
  go_simp
  exact hK _ _ Zbr ⟨h2,rfl,rh2⟩
 refine Zac rfl rfl (fun a W hR hS hdep K hK=>?_) ?_
 ·obtain⟨h2,q,rh2⟩:=hdep 18 (by decide+kernel)
  have e23:a.tmps[23]?.getD undef= .tuple #[.agg (Zae h2),.int .i64 0]:=Zad q
  clear q
  go_simp
  exact hK _ _ Zbr rfl
 refine Zac rfl rfl (fun a W hR hS hdep K hK=>?_) ?_
 ·go_simp
  have hbx:=Zaa (B:=W2.heap.size) (Below.drew Zbr) hR Zlr
  exact hK _ _ (Zbr.alloc Zlr _) ⟨_,rfl,hbx.size,Zha _ _⟩
 exact fun j h1 h2=>absurd h1 (by omega)
theorem Zm3 {l:List UInt8} {p:Nat} {k:Int} {d:Zaq} (h:AtB l p (ZeX k d)) (hd:ZaB k d=true):Zdl l p 2=(((cdW k d).length:Int),0)∧p+2+(cdW k d).length≤l.length∧gdK k ((l.drop (p+2)).take (cdW k d).length) (cdW k d).length 0=(d,0):=by
 have h1:=h.left
 have h2:=h.right
 rw[Zap] at h2
 have hl:=Zka hd
 have hfc:Za2 ((cdW k d).length:Int) 2=true:=ZeU (by omega) (by
  have:(256:Int)^2=65536:=by decide
  omega)
 refine⟨h1.num hfc,h2.len,?_⟩
 have hb:=(ZmO hd (TabOK.nil [])).2.1 []
 rw[List.append_nil] at hb
 rw[h2.take]
 exact hb
theorem Zmn {k:Int} {ds:List Zaq} {t:Nat} (h:t<ds.length):Zd1 k ds=(Zd1 k (ds.take t)++ZeX k ds[t])++Zd1 k (ds.drop (t+1)):=by
 have e:ds=ds.take t++(ds[t]::ds.drop (t+1)):=by rw[←List.drop_eq_getElem_cons h,List.take_append_drop]
 have e2:∀ (u v:List Zaq) (x:Zaq),Zd1 k (u++(x::v))=(Zd1 k u++ZeX k x)++Zd1 k v:=fun u v x=>by simp[Zd1]
 rw[←e2,←e]
theorem ZrF {l:List UInt8} {p t:Nat} {k:Int} {ds:List Zaq} (h:AtB l p (Zd1 k ds)) (ht:t<ds.length):AtB l (p+(Zd1 k (ds.take t)).length) (ZeX k ds[t]):=by
 rw[Zmn ht] at h
 exact h.left.right
structure ZpV (l:List UInt8) (p:Nat) (f:Zas) (q:Nat):Prop where
 name:ZeP l p=(f.name,q,0)
 typ:Zdl l q 2=(f.typ,0)
 kind:Zdl l (q+2) 1=(f.kind,0)
 rank:Zdl l (q+3) 1=(f.rank,0)
 got:Zdl l (q+4) 7=(f.got,0)
 ttl:Zdl l (q+11) 4=(f.ttl,0)
theorem Zfi {f:Zas} {rs:List (List UInt8×Nat)} {b:List UInt8} (hf:Zdn f) (hT:TabOK rs b) (post:List UInt8):
  ∃ q,(ZaV f rs b).2.length=q+15∧ZpV ((ZaV f rs b).2++post) b.length f q∧TabOK (ZaV f rs b).1 (ZaV f rs b).2:=by
 obtain⟨-,h2,h3⟩:=ZcN false hf.name hT
 unfold ZaV
 generalize nameW false f.name rs b=x at h2 h3⊢
 have hA:AtB ((((((x.2++Za1 f.typ 2)++Za1 f.kind 1)++Za1 f.rank 1)++Za1 f.got 7)++Za1 f.ttl 4)++post) x.2.length (Za1 f.typ 2++(Za1 f.kind 1++(Za1 f.rank 1++(Za1 f.got 7++Za1 f.ttl 4)))):=⟨x.2,post,by simp,rfl⟩
 have a1:=hA.left
 have b1:=hA.right
 rw[Zap] at b1
 have a2:=b1.left
 have b2:=b1.right
 rw[Zap,Nat.add_assoc] at b2
 have a3:=b2.left
 have b3:=b2.right
 rw[Zap,Nat.add_assoc] at b3
 have a4:=b3.left
 have b4:=b3.right
 rw[Zap,Nat.add_assoc] at b4
 refine⟨x.2.length,by simp only[Zla,Zap],⟨?_,a1.num hf.typ,a2.num hf.kind,a3.num hf.rank,a4.num hf.got,b4.num hf.ttl⟩,?_⟩
 ·refine Zip ?_ (ZcR hf.name).2
  simp only[List.append_assoc]
  exact h2.app _
 ·simp only[List.append_assoc]
  exact h3.app _
structure ZkH (l:List UInt8) (p:Nat) (f:Zas) (q:Nat):Prop where
 head:ZpV l p f q
 pos:f.kind=1→Zdl l (q+15) 1=((f.set.length:Int),0)∧AtB l (q+16) (Zd1 f.typ f.set)
 neg:f.kind≠1→∃ z,ZeP l (q+15)=(f.zone,z,0)∧AtB l z (ZeX 6 f.soa)
theorem Znf {f:Zas} {rs:List (List UInt8×Nat)} {b:List UInt8} (hf:Zdn f) (hT:TabOK rs b):∃ q,ZkH (Zd2 f rs b) b.length f q∧q+15≤(Zd2 f rs b).length:=by
 obtain⟨q,h1,-,h3⟩:=Zfi hf hT []
 by_cases hk:f.kind=1
 ·have e:Zd2 f rs b=(ZaV f rs b).2++(Za1 (f.set.length:Int) 1++Zd1 f.typ f.set):=by rw[Zd2,if_pos hk,List.append_assoc]
  obtain⟨q',g1,g2,-⟩:=Zfi hf hT (Za1 (f.set.length:Int) 1++Zd1 f.typ f.set)
  obtain rfl:q'=q:=by omega
  have hA:=AtB.end' (ZaV f rs b).2 (Za1 (f.set.length:Int) 1++Zd1 f.typ f.set)
  rw[←e,h1] at hA
  rw[←e] at g2
  have hr:=hA.right
  rw[Zap] at hr
  have hln:=(hf.pos hk).2.1
  have hfc:Za2 (f.set.length:Int) 1=true:=ZeU (by omega) (by
   have:(256:Int)^1=256:=by decide
   omega)
  refine⟨q',⟨g2,fun _=>⟨hA.left.num hfc,hr⟩,fun h=>absurd hk h⟩,?_⟩
  rw[e,Zla,h1]
  omega
 ·obtain⟨hz,hs,-⟩:=hf.neg hk
  obtain⟨⟨y,hy⟩,k2,-⟩:=ZcN false hz h3
  have e:Zd2 f rs b=(nameW false f.zone (ZaV f rs b).1 (ZaV f rs b).2).2++ZeX 6 f.soa:=by rw[Zd2,if_neg hk,ZeX,List.append_assoc]
  have e2:Zd2 f rs b=(ZaV f rs b).2++(y++ZeX 6 f.soa):=by rw[e,hy,List.append_assoc]
  obtain⟨q',g1,g2,-⟩:=Zfi hf hT (y++ZeX 6 f.soa)
  obtain rfl:q'=q:=by omega
  rw[←e2] at g2
  have hR:=k2.app (ZeX 6 f.soa)
  rw[←e,h1] at hR
  have hA:=AtB.end' (nameW false f.zone (ZaV f rs b).1 (ZaV f rs b).2).2 (ZeX 6 f.soa)
  rw[←e] at hA
  refine⟨q',⟨g2,fun h=>absurd h hk,fun _=>⟨_,Zip hR (ZcR hz).2,hA⟩⟩,?_⟩
  rw[e2,Zla,h1]
  omega
theorem ZpG {f:Zas} (hf:Zdn f):Zdl (ZcY f) 0 1=(1,0)∧∃ q,ZkH (ZcY f) 1 f q∧q+15≤(ZcY f).length:=by
 have e1:([]++Za1 1 1:List UInt8).length=1:=by simp[Zap]
 obtain⟨q,h1,h2⟩:=Znf hf (TabOK.nil ([]++Za1 1 1))
 rw[e1] at h1
 refine⟨?_,q,h1,h2⟩
 have hA:∃ y,ZcY f=Za1 1 1++y:=by
  obtain⟨⟨y,hy⟩,-,h3⟩:=ZcN false hf.name (TabOK.nil ([]++Za1 1 1))
  unfold ZcY Zd2
  by_cases hk:f.kind=1
  ·rw[if_pos hk,ZaV,hy]
   exact⟨_,by simp only[List.nil_append,List.append_assoc];rfl⟩
  ·have hH:∃ v,(ZaV f [] ([]++Za1 1 1)).2=Za1 1 1++v:=⟨_,by rw[ZaV,hy];simp only[List.nil_append,List.append_assoc];rfl⟩
   obtain⟨q2,-,-,h4⟩:=Zfi hf (TabOK.nil ([]++Za1 1 1)) []
   obtain⟨⟨u,hu⟩,-,-⟩:=ZcN false (hf.neg hk).1 h4
   obtain⟨v,hv⟩:=hH
   rw[if_neg hk,hu,hv]
   exact⟨_,by simp only[List.append_assoc];rfl⟩
 obtain⟨y,hy⟩:=hA
 rw[hy]
 exact AtB.num ⟨[],y,by simp,rfl⟩ (by decide)
def fcC (h:ZaU) (f:Zas) (v:Value):Array Value:=#[.slice h.na h.nl h.nc,.int .i64 f.typ,.int .i64 f.kind,.int .i64 f.rank,.int .i64 f.got,.int .i64 f.ttl,v,.slice h.za h.zl h.zc,
 .slice h.d.ba h.d.bl h.d.bc,.slice h.d.ha h.d.hl h.d.hc,.slice h.d.ma h.d.ml h.d.mc,.slice h.d.na h.d.nl h.d.nc,.slice h.d.ta h.d.tl h.d.tc]
def zFH:ZaU:=⟨none,0,0,none,0,0,none,0,0,zDH⟩
def zFP:Zas:=⟨[],0,0,0,0,0,[],[],Zcv⟩
structure FcSt (w W:World) (r:Nat) (bo:Option Addr) (bl bc p:Nat) (h:ZaU) (f:Zas) (v:Value) (ds:List Zaq):Prop where
 fb:Blk W w.heap.size (fcC h f v) 37
 rb:Blk W r (rdC bo bl bc p) 113
 fr:w.grownBy W (some r)
 is:IsFact (Zak mT W) W h f
 ga:Gath Zb0 mT 35 w.heap.size W v ds
theorem FcSt.start (w:World) (r:Nat) (bo:Option Addr) (bl bc p:Nat) (hr:Blk w r (rdC bo bl bc p) 113):FcSt w (w.alloc (.cells ZfE 37)) r bo bl bc p zFH zFP (.slice none 0 0) []:=by
 have hal:Below w.heap.size w (w.alloc (.cells ZfE 37)):=Zbr.alloc Zlr _
 have hr0:∀ W:World,Row W none 0 0 []:=fun W=>Row.empty (by decide) (fun _=>rfl)
 have hz:=ZeZ (w.alloc (.cells ZfE 37))
 exact⟨Zha w _,hr.on hal,Zaw r hal,⟨⟨hr0 _,fun s hs=>by cases hs⟩,Za3 _ _,by decide,by decide,by decide,by decide,by decide,Seq.nil _ _ (by decide) (fun _=>rfl),⟨hr0 _,fun s hs=>by cases hs⟩,Za3 _ _,hz.1,hz.2⟩,Gath.nil _ _ _ _ _⟩
theorem FcSt.step {w W W':World} {r:Nat} {bo:Option Addr} {bl bc p p':Nat} {h:ZaU} {f:Zas} {v:Value} {ds:List Zaq} (i:FcSt w W r bo bl bc p h f v ds) (hb:Blk W' r (rdC bo bl bc p') 113) (hg:W.grownBy W' (some r)) (hr:r<w.heap.size):FcSt w W' r bo bl bc p' h f v ds:=
 ⟨i.fb.but hg (by omega),hb,Zah i.fr hg,i.is.step (Same.but hg i.rb (by decide)),i.ga.step (Same.but hg i.rb (by decide))⟩
theorem FcSt.on {w W W':World} {r:Nat} {bo:Option Addr} {bl bc p:Nat} {h:ZaU} {f:Zas} {v:Value} {ds:List Zaq} (i:FcSt w W r bo bl bc p h f v ds) (hb:Below W.heap.size W W'):FcSt w W' r bo bl bc p h f v ds:=
 ⟨i.fb.on hb,i.rb.on hb,Zah i.fr (Zaw r hb),i.is.step (Same.below hb _),i.ga.on hb⟩
theorem FcSt.put {w W W':World} {r:Nat} {bo:Option Addr} {bl bc p:Nat} {h:ZaU} {f:Zas} {v:Value} {ds:List Zaq} (i:FcSt w W r bo bl bc p h f v ds) (hr:r<w.heap.size) (hg:W.grownBy W' (some w.heap.size)):Blk W' r (rdC bo bl bc p) 113∧w.grownBy W' (some r)∧IsFact (Zak mT W') W' h f∧Gath Zb0 mT 35 w.heap.size W' v ds:=
 ⟨i.rb.but hg (by omega),Zc4 i.fr hg Zlr,i.is.step (Same.but hg i.fb (by decide)),i.ga.step (Same.but hg i.fb (by decide))⟩
theorem FcSt.typ {w W:World} {r:Nat} {bo:Option Addr} {bl bc p:Nat} {h:ZaU} {f:Zas} {v:Value} {ds:List Zaq} (i:FcSt w W r bo bl bc p h f v ds) (hr:r<w.heap.size) (n:Int) (hn:wfi n):FcSt w (W.setCell ⟨w.heap.size,1,none⟩ (.int .i64 n)) r bo bl bc p h {f with typ:=n} v ds:=by
 obtain⟨h1,h2,h3,h4⟩:=i.put hr (Zag W w.heap.size 1 (.int .i64 n))
 exact⟨by have:=i.fb.set 1 (.int .i64 n);simpa [fcC] using this,h1,h2,⟨h3.name,h3.nameIn,hn,h3.kind,h3.rank,h3.got,h3.ttl,h3.set,h3.zone,h3.zoneIn,h3.soa,h3.soaIn⟩,h4⟩
theorem FcSt.kind {w W:World} {r:Nat} {bo:Option Addr} {bl bc p:Nat} {h:ZaU} {f:Zas} {v:Value} {ds:List Zaq} (i:FcSt w W r bo bl bc p h f v ds) (hr:r<w.heap.size) (n:Int) (hn:wfi n):FcSt w (W.setCell ⟨w.heap.size,2,none⟩ (.int .i64 n)) r bo bl bc p h {f with kind:=n} v ds:=by
 obtain⟨h1,h2,h3,h4⟩:=i.put hr (Zag W w.heap.size 2 (.int .i64 n))
 exact⟨by have:=i.fb.set 2 (.int .i64 n);simpa [fcC] using this,h1,h2,⟨h3.name,h3.nameIn,h3.typ,hn,h3.rank,h3.got,h3.ttl,h3.set,h3.zone,h3.zoneIn,h3.soa,h3.soaIn⟩,h4⟩
theorem FcSt.rank {w W:World} {r:Nat} {bo:Option Addr} {bl bc p:Nat} {h:ZaU} {f:Zas} {v:Value} {ds:List Zaq} (i:FcSt w W r bo bl bc p h f v ds) (hr:r<w.heap.size) (n:Int) (hn:wfi n):FcSt w (W.setCell ⟨w.heap.size,3,none⟩ (.int .i64 n)) r bo bl bc p h {f with rank:=n} v ds:=by
 obtain⟨h1,h2,h3,h4⟩:=i.put hr (Zag W w.heap.size 3 (.int .i64 n))
 exact⟨by have:=i.fb.set 3 (.int .i64 n);simpa [fcC] using this,h1,h2,⟨h3.name,h3.nameIn,h3.typ,h3.kind,hn,h3.got,h3.ttl,h3.set,h3.zone,h3.zoneIn,h3.soa,h3.soaIn⟩,h4⟩
theorem FcSt.got {w W:World} {r:Nat} {bo:Option Addr} {bl bc p:Nat} {h:ZaU} {f:Zas} {v:Value} {ds:List Zaq} (i:FcSt w W r bo bl bc p h f v ds) (hr:r<w.heap.size) (n:Int) (hn:wfi n):FcSt w (W.setCell ⟨w.heap.size,4,none⟩ (.int .i64 n)) r bo bl bc p h {f with got:=n} v ds:=by
 obtain⟨h1,h2,h3,h4⟩:=i.put hr (Zag W w.heap.size 4 (.int .i64 n))
 exact⟨by have:=i.fb.set 4 (.int .i64 n);simpa [fcC] using this,h1,h2,⟨h3.name,h3.nameIn,h3.typ,h3.kind,h3.rank,hn,h3.ttl,h3.set,h3.zone,h3.zoneIn,h3.soa,h3.soaIn⟩,h4⟩
theorem FcSt.ttl {w W:World} {r:Nat} {bo:Option Addr} {bl bc p:Nat} {h:ZaU} {f:Zas} {v:Value} {ds:List Zaq} (i:FcSt w W r bo bl bc p h f v ds) (hr:r<w.heap.size) (n:Int) (hn:wfi n):FcSt w (W.setCell ⟨w.heap.size,5,none⟩ (.int .i64 n)) r bo bl bc p h {f with ttl:=n} v ds:=by
 obtain⟨h1,h2,h3,h4⟩:=i.put hr (Zag W w.heap.size 5 (.int .i64 n))
 exact⟨by have:=i.fb.set 5 (.int .i64 n);simpa [fcC] using this,h1,h2,⟨h3.name,h3.nameIn,h3.typ,h3.kind,h3.rank,h3.got,hn,h3.set,h3.zone,h3.zoneIn,h3.soa,h3.soaIn⟩,h4⟩
theorem FcSt.name {w W:World} {r:Nat} {bo:Option Addr} {bl bc p:Nat} {h:ZaU} {f:Zas} {v:Value} {ds:List Zaq} (i:FcSt w W r bo bl bc p h f v ds) (hr:r<w.heap.size) {ao:Option Addr} {n c:Nat} {x:List ByteArray} {B:Nat} (ho:Own1 [9] B W ao n c (x.map .string)) (hx:∀ s∈x,s.size≤9223372036854775807):FcSt w (W.setCell ⟨w.heap.size,0,none⟩ (.slice ao n c)) r bo bl bc p {h with na:=ao,nl:=n,nc:=c} {f with name:=x} v ds:=by
 have hg:=Zag W w.heap.size 0 (.slice ao n c)
 obtain⟨h1,h2,h3,h4⟩:=i.put hr hg
 have ho2:Own1 [9] B (W.setCell ⟨w.heap.size,0,none⟩ (.slice ao n c)) ao n c (x.map .string):=Ze2 ho hg i.fb (by decide)
 exact⟨by have:=i.fb.set 0 (.slice ao n c);simpa [fcC] using this,h1,h2,⟨⟨ho2.row,hx⟩,Ze3 ho2 (by decide),h3.typ,h3.kind,h3.rank,h3.got,h3.ttl,h3.set,h3.zone,h3.zoneIn,h3.soa,h3.soaIn⟩,h4⟩
theorem FcSt.zone {w W:World} {r:Nat} {bo:Option Addr} {bl bc p:Nat} {h:ZaU} {f:Zas} {v:Value} {ds:List Zaq} (i:FcSt w W r bo bl bc p h f v ds) (hr:r<w.heap.size) {ao:Option Addr} {n c:Nat} {x:List ByteArray} {B:Nat} (ho:Own1 [9] B W ao n c (x.map .string)) (hx:∀ s∈x,s.size≤9223372036854775807):FcSt w (W.setCell ⟨w.heap.size,7,none⟩ (.slice ao n c)) r bo bl bc p {h with za:=ao,zl:=n,zc:=c} {f with zone:=x} v ds:=by
 have hg:=Zag W w.heap.size 7 (.slice ao n c)
 obtain⟨h1,h2,h3,h4⟩:=i.put hr hg
 have ho2:Own1 [9] B (W.setCell ⟨w.heap.size,7,none⟩ (.slice ao n c)) ao n c (x.map .string):=Ze2 ho hg i.fb (by decide)
 exact⟨by have:=i.fb.set 7 (.slice ao n c);simpa [fcC] using this,h1,h2,⟨h3.name,h3.nameIn,h3.typ,h3.kind,h3.rank,h3.got,h3.ttl,h3.set,⟨ho2.row,hx⟩,Ze3 ho2 (by decide),h3.soa,h3.soaIn⟩,h4⟩
theorem FcSt.soa {w W:World} {r:Nat} {bo:Option Addr} {bl bc p:Nat} {h:ZaU} {f:Zas} {v:Value} {ds:List Zaq} (i:FcSt w W r bo bl bc p h f v ds) (hr:r<w.heap.size) {k:ZaJ} {d:Zaq} (hd:IsData W k d) (hi:DataIn (Zak mT W) k):FcSt w (((((W.setCell ⟨w.heap.size,8,none⟩ (.slice k.ba k.bl k.bc)).setCell ⟨w.heap.size,9,none⟩ (.slice k.ha k.hl k.hc)).setCell ⟨w.heap.size,10,none⟩ (.slice k.ma k.ml k.mc)).setCell ⟨w.heap.size,11,none⟩ (.slice k.na k.nl k.nc)).setCell ⟨w.heap.size,12,none⟩ (.slice k.ta k.tl k.tc)) r bo bl bc p {h with d:=k} {f with soa:=d} v ds:=by
 have hg:W.grownBy (((((W.setCell ⟨w.heap.size,8,none⟩ (.slice k.ba k.bl k.bc)).setCell ⟨w.heap.size,9,none⟩ (.slice k.ha k.hl k.hc)).setCell ⟨w.heap.size,10,none⟩ (.slice k.ma k.ml k.mc)).setCell ⟨w.heap.size,11,none⟩ (.slice k.na k.nl k.nc)).setCell ⟨w.heap.size,12,none⟩ (.slice k.ta k.tl k.tc)) (some w.heap.size):=Zah (Zah (Zah (Zah (Zag _ _ _ _) (Zag _ _ _ _)) (Zag _ _ _ _)) (Zag _ _ _ _)) (Zag _ _ _ _)
 have hs:Blk (((((W.setCell ⟨w.heap.size,8,none⟩ (.slice k.ba k.bl k.bc)).setCell ⟨w.heap.size,9,none⟩ (.slice k.ha k.hl k.hc)).setCell ⟨w.heap.size,10,none⟩ (.slice k.ma k.ml k.mc)).setCell ⟨w.heap.size,11,none⟩ (.slice k.na k.nl k.nc)).setCell ⟨w.heap.size,12,none⟩ (.slice k.ta k.tl k.tc)) w.heap.size _ 37:=(((((i.fb.set 8 _).set 9 _).set 10 _).set 11 _).set 12 _)
 generalize (((((W.setCell ⟨w.heap.size,8,none⟩ (.slice k.ba k.bl k.bc)).setCell ⟨w.heap.size,9,none⟩ (.slice k.ha k.hl k.hc)).setCell ⟨w.heap.size,10,none⟩ (.slice k.ma k.ml k.mc)).setCell ⟨w.heap.size,11,none⟩ (.slice k.na k.nl k.nc)).setCell ⟨w.heap.size,12,none⟩ (.slice k.ta k.tl k.tc))=W' at hg hs⊢
 obtain⟨h1,h2,h3,h4⟩:=i.put hr hg
 have hk:=Zb0.step (T:=mT) (h:=k) (x:=d) ⟨hd,hi⟩ (Same.but hg i.fb (by decide))
 exact⟨by simpa [fcC] using hs,h1,h2,⟨h3.name,h3.nameIn,h3.typ,h3.kind,h3.rank,h3.got,h3.ttl,h3.set,h3.zone,h3.zoneIn,hk.1,hk.2⟩,h4⟩
theorem ZiU {W W':World} {r:Nat} {cs:Array Value} {T:TypeId} {o:Option Nat} (h:Blk W r cs T) (h2:W.grownBy W' o) (ho:o≠some r):Blk W' r cs T:=by
 unfold Blk at h⊢
 rw[h2.block r (Array.getElem?_eq_some_iff.1 h).1 (fun e=>ho e.symm),h]
theorem ZnP:35∉mT:=by decide
theorem ZlJ:(Tryz.prog.info? 35).map (fun i=>(i.zero.map fun z=>z.cells.size,i.size,decide (i.bytes≤1000)))=some (some 5,5,true):=by kernel_rfl
theorem FcSt.push {w W:World} {r:Nat} {bo:Option Addr} {bl bc p:Nat} {h:ZaU} {f:Zas} {v:Value} {ds:List Zaq} (i:FcSt w W r bo bl bc p h f v ds) (hr:r<w.heap.size) (hr2:w.heap.size≤W.heap.size) (hl:ds.length≤1000000) {k:ZaJ} {d:Zaq} (hd:IsData W k d) (hi:DataIn (Zak mT W) k) {g:Nat} (hgb:Blk W g (Zae k) 35):
  ∃ v' W',(Builtin.append_ #[32,32] 32 #[v,.slice (some ⟨g,0,none⟩) 1 1]).run Tryz.prog W= .ok v' W'∧FcSt w (W'.setCell ⟨w.heap.size,6,none⟩ v') r bo bl bc p h f v' (ds++[d])∧Blk W' w.heap.size (fcC h f v) 37:=by
 obtain⟨i0,hi0,hii⟩:=Option.map_eq_some_iff.1 ZlJ
 simp only[Prod.mk.injEq,Zde] at hii
 obtain⟨z,hz,hzs⟩:=Option.map_eq_some_iff.1 hii.1
 obtain⟨v',W',hrun,hga,hgr,hob,-⟩:=i.ga.push ZnP i0 z (ts:=32) Tryz.underlying32 hi0 hz hii.2.1 hzs hii.2.2 hl hr2 k d ⟨hd,hi⟩ ⟨g,0,none⟩ 1 (fun j hj=>by rw[ZbB];have:=hgb.cell j;simpa [Zb0] using this) 32
 have hob2:∀ b,v.ownBlock=some b→w.heap.size≤b∧b≠w.heap.size:=fun b hb=>by
  obtain⟨cs,hB,hle⟩:=hob b hb
  exact⟨hle,Zea hB i.fb (by decide)⟩
 have hF:Blk W' w.heap.size (fcC h f v) 37:=ZiU i.fb hgr (fun e=>(hob2 _ e).2 rfl)
 have hR:Blk W' r (rdC bo bl bc p) 113:=ZiU i.rb hgr (fun e=>by have:=(hob2 _ e).1;omega)
 have hst:Same (Zak mT W) W W':=Same.grown hgr (fun b ht e=>by
  obtain⟨cs,hB,_⟩:=hob b e.symm
  exact Zbe hB ZnP ht rfl)
 have hI:=i.is.step hst
 have hg2:=ZdO i.fr hgr (fun b hb=>(hob2 b hb).1)
 have hsF:=hF.set 6 v'
 have hgs:=Zag W' w.heap.size 6 v'
 refine⟨v',W',hrun,⟨by simpa [fcC] using hsF,hR.but hgs (by omega),Zc4 hg2 hgs Zlr,hI.step (Same.but hgs hF (by decide)),hga.step (Same.but hgs hF (by decide))⟩,hF⟩
theorem FcSt.fin {w W:World} {r:Nat} {bo:Option Addr} {bl bc p:Nat} {h:ZaU} {f:Zas} {v:Value} {ds:List Zaq} (i:FcSt w W r bo bl bc p h f v ds):∃ h',fcC h f v=Zaj h' {f with set:=ds}∧IsFact (Zak fT W) W h' {f with set:=ds}:=by
 obtain⟨ao,c,rfl,hs,-⟩:=i.ga.seq
 have h3:=i.is.mono (S':=Zak fT W) (fun b _ ht=>Za4 ht (by decide))
 exact⟨{h with sa:=ao,sl:=ds.length,sc:=c},rfl,⟨h3.name,h3.nameIn,h3.typ,h3.kind,h3.rank,h3.got,h3.ttl,hs.mono (fun b _ ht=>Za4 ht (by decide)),h3.zone,h3.zoneIn,h3.soa,h3.soaIn⟩⟩
open Go
def ZgD (P:Program) (ops:Array Oper) (Q:Exit→Act→World→Prop) (n:Nat):Exit→Act→World→Prop:=Exit.then (wpList P ops Q (ops.toList.drop n)) Q
def Zid (ops:Array Oper) (n:Nat):Bool:=(List.range n).all fun i=>match (ops[i]?).bind (·.guard) with|some (j,_)=>decide (j<n)|none=>true
variable {P:Program} {ops kops:Array Oper} {Q:Exit→Act→World→Prop} {n:Nat}
theorem Zpt {o:Oper} {a:Act} {w:World} {K:Act→World→Prop} {Q':Exit→Act→World→Prop} (hq:∀ c a w,Q' (.panic c) a w→Q (.panic c) a w) (hl:LetsOut Q'→LetsOut Q) (hh:o.wp P a w K Q'):o.wp P a w K Q:=by
 unfold Oper.wp at*
 generalize (execOp a.eval o).run P w=r at*
 cases r with
 |ok n w'=>
  cases n<;>simp only[Oper.upon] at hh⊢ <;>
   first
    |exact hh
    |exact Calls.mono hh (fun e w'' he=>by cases e<;>first|exact he|exact hq _ _ _ he|exact hl he)
 |halt x w'=>cases x<;>simp only[Oper.upon] at hh⊢ <;>first|exact hh|exact hq _ _ _ hh
theorem Zmc (hk:∀ i,i<n→kops[i]?=ops[i]?) (hok:∀ i,i<ops.size→∀ j∈ZbY ops i,j<i) {listed lk:Array Bool} (hl:∀ j,j<n→lk.getD j true=listed.getD j true∧lk.getD j false=listed.getD j false) {i:Nat} (hi:i<n) (h:i∈Region.ready .any ops listed):i∈Region.ready .any kops lk:=by
 obtain⟨h1,o,ho,h3⟩:=mem_ready.1 h
 refine mem_ready.2 ⟨by rw[(hl i hi).1];exact h1,o,by rw[hk i hi];exact ho,fun e he hb=>?_⟩
 have h4:=h3 e he hb
 have hlt:i<ops.size:=(Array.getElem?_eq_some_iff.1 ho).1
 have hj:e.on<i:=hok i hlt e.on (by
  simp only[ZbY,ho,List.mem_map,List.mem_filter]
  exact⟨e,⟨by simpa using he,hb⟩,rfl⟩)
 rw[(hl e.on (by omega)).2]
 exact h4
theorem ZoE (hk:∀ i,i<n→kops[i]?=ops[i]?) (hg:Zid ops n=true) {i:Nat} (hi:i<n) {K K':Act→World→Prop} (hK:∀ a w,K a w→K' a w) {a:Act} {w:World} (h:wpOp P kops (ZgD P ops Q n) i K a w):wpOp P ops Q i K' a w:=by
 unfold wpOp at h⊢
 rw[hk i hi] at h
 cases ho:ops[i]? with
 |none=>rw[ho] at h;exact hK _ _ h
 |some o=>
  rw[ho] at h
  simp only at h⊢
  have hw:Region.wanted o (yielded kops a.tmps)=Region.wanted o (yielded ops a.tmps):=by
   unfold Region.wanted
   cases hgd:o.guard with
   |none=>rfl
   |some g=>
    obtain⟨j,b⟩:=g
    have h5:=List.all_eq_true.1 hg i (List.mem_range.2 hi)
    simp only[ho,Option.bind_some,hgd] at h5
    have hj:j<n:=by simpa using h5
    simp only[yielded,hk j hj]
  rw[hw] at h
  split at h
  ·rename_i h6
   rw[if_pos h6]
   rcases h with h|⟨h,hl⟩
   ·exact .inl (Oper.wp_mono hK (Zpt (fun _ _ _ h=>h) (fun ⟨a,w,h⟩=>⟨a,w,h⟩) h))
   ·exact .inr ⟨h,by obtain⟨a,w,h⟩:=hl;exact⟨a,w,h⟩⟩
  ·rename_i h6
   rw[if_neg h6]
   exact hK _ _ h
theorem ZpP {m:Nat} (hk:∀ i,i<n→kops[i]?=ops[i]?) (hks:kops.size=n) (hok:Zds ops m=true) (hok2:Zds kops m=true) (he:Zhj ops n=true) (hg:Zid ops n=true):
  ∀ (fuel:Nat) (listed lk:Array Bool) (a:Act) (w:World),listed.size=ops.size→lk.size=n→(∀ j,j<n→lk.getD j true=listed.getD j true∧lk.getD j false=listed.getD j false)→
    (∀ i,i<ops.size→listed.getD i false=true→∀ j∈ZbY ops i,listed.getD j false=true)→(∀ j,n≤j→j<ops.size→listed.getD j false=false)→
    wpAny P .any kops (ZgD P ops Q n) fuel lk a w→wpAny P .any ops Q (fuel+(ops.size-n)) listed a w:=by
 obtain⟨hsz,hall,hch⟩:=ZeN he
 have hlt:∀ i,i<ops.size→∀ j∈ZbY ops i,j<i:=fun i hi j hj=>by
  have h4:=List.all_eq_true.1 hok i (List.mem_range.2 hi)
  simp only[Zae2] at h4
  exact of_decide_eq_true (List.all_eq_true.1 h4.1 j hj)
 have hdoneT:∀ (listed:Array Bool) (a:Act) (w:World) (fuel:Nat),listed.size=ops.size→(∀ j,j<n→listed.getD j false=true)→(∀ j,n≤j→j<ops.size→listed.getD j false=false)→ops.size-n≤fuel→ZgD P ops Q n .normal a w→wpAny P .any ops Q fuel listed a w:=
  fun listed a w fuel hs hd hl hf h=>Zow (n:=n) hok he fuel n listed a w hs (fun j hj=>by
   by_cases hjn:j<n
   ·rw[hd j hjn,Zdt hjn]
   ·rw[hl j (by omega) hj,Zdf hjn]) Zlr hf h
 intro fuel
 induction fuel with
 |zero=>
  intro listed lk a w hs hsk hl hc hleft h
  have hd:=ZcE (n:=m) (by rw[hsk,hks]) hok2 h.1
  exact hdoneT listed a w _ hs (fun j hj=>by rw[←(hl j hj).2];exact hd j (by omega)) hleft (by omega) h.2
 |succ fuel ih=>
  intro listed lk a w hs hsk hl hc hleft h
  by_cases hd:∀ j,j<n→listed.getD j false=true
  ·have hr:Region.ready .any kops lk=[]:=Zep fun j hj=>by rw[(hl j (by omega)).2];exact hd j (by omega)
   exact hdoneT listed a w _ hs hd hleft (by omega) (h.1 hr)
  ·rw[show fuel+1+(ops.size-n)=(fuel+(ops.size-n))+1 by omega]
   refine⟨fun hr=>absurd (ZcE hs hok hr n hsz) (by rw[hleft n Zlr hsz];decide),fun i hi=>?_⟩
   obtain⟨h1,h2,h3⟩:=Zcm hi
   have hin:i<n:=by
    rcases Nat.lt_or_ge i n with hlt|hge
    ·exact hlt
    ·exfalso
     have hieq:i=n:=by
      rcases Nat.lt_or_ge n i with hlt|hle
      ·have h6:=h3 (i-1) (hch i h1 hlt)
       rw[hleft (i-1) (by omega) (by omega)] at h6
       cases h6
      ·omega
     subst hieq
     apply hd
     have hdone:∀ m j,j<i→i-j≤m→listed.getD j false=true:=by
      intro m
      induction m with
      |zero=>intro j hj h0;omega
      |succ m ih=>
       intro j hj h0
       obtain⟨k,hk,hjk,h5⟩:=hall j hj
       by_cases hki:k=i
       ·subst hki;exact h3 j h5
       ·exact hc k (by omega) (ih k (by omega) (by omega)) j h5
     exact fun j hj=>hdone (i-j) j hj Zlr
   refine ZoE hk hg hin (fun a' w' h7=>?_) (h.2 i (Zmc hk hlt hl hin hi))
   refine ih _ _ a' w' (by simp[hs]) (by simp[hsk]) (fun j hj=>?_) (fun j hj hlj d hd=>?_) (fun j hj hjs=>?_) h7
   ·rw[Za7 _ _ _ _ (by omega),Za7 _ _ _ _ (by omega),Za7 _ _ _ _ (by omega),Za7 _ _ _ _ (by omega),(hl j hj).1,(hl j hj).2]
    exact⟨rfl,rfl⟩
   ·rw[Za7 _ _ _ _ (by omega)]
    by_cases hdi:d=i
    ·rw[if_pos hdi]
    ·rw[if_neg hdi]
     by_cases hji:j=i
     ·subst hji;exact h3 d hd
     ·rw[Za7 _ _ _ _ (by omega),if_neg hji] at hlj
      exact hc j hj hlj d hd
   ·rw[Za7 _ _ _ _ (by omega),if_neg (by omega)];exact hleft j hj hjs
theorem ZdA {id:Nat} (n m:Nat) {a:Act} {w:World} (S:World→Prop) (hm:P.follows .mixedOrders=true) (hok:Zds ops m=true) (hok2:Zds (ops.toList.take n).toArray m=true) (he:Zhj ops n=true) (hg:Zid ops n=true) (hS:S w.drew)
  (h:S w.drew→wpAnyH P .any (ops.toList.take n).toArray (ZgD P ops Q n) S n (Array.replicate n false) a w.drew):(Code.region id ops true).wp P Q a w:=by
 have hsz:=(ZeN he).1
 have hsz2:(ops.toList.take n).toArray.size=n:=by rw[List.size_toArray,List.length_take];simp;omega
 have hfl:∀ j,(Array.replicate ops.size false).getD j false=false:=fun j=>by
  rw[Array.getD_eq_getD_getElem?,Array.getElem?_replicate]
  split<;>rfl
 refine wp_region_any hm ?_
 have h2:=ZpP (m:=m) (n:=n) (kops:=(ops.toList.take n).toArray) (fun i hi=>by
  rw[List.getElem?_toArray,List.getElem?_take,if_pos hi,Array.getElem?_toList]) hsz2 hok hok2 he hg n (Array.replicate ops.size false) (Array.replicate n false) a w.drew (by simp) (by simp) (fun j hj=>by
  simp only[Array.getD_eq_getD_getElem?,Array.getElem?_replicate]
  rw[if_pos hj,if_pos (by omega)]
  exact⟨rfl,rfl⟩) (fun i _ hi=>by rw[hfl] at hi;cases hi) (fun j _ _=>hfl j) (wpAny_of_held _ _ _ _ (h hS))
 rw[show n+(ops.size-n)=ops.size by omega] at h2
 exact h2
theorem ZjW {n:Int} {k:Nat} (h:Za2 n k=true) (hk:k≤7):wfi n:=by
 simp only[Za2,Zae2,Zde] at h
 have e:(256:Int)^k≤72057594037927936:=by
  rcases (show k=0∨k=1∨k=2∨k=3∨k=4∨k=5∨k=6∨k=7 by omega) with rfl|rfl|rfl|rfl|rfl|rfl|rfl|rfl<;>decide
 exact⟨by omega,by omega⟩
theorem Zjg {ss:List ByteArray} (h:ZaG ss=true):ss.length≤140737488355328∧∀ s∈ss,s.size≤9223372036854775807:=by
 have h1:=ZcR h
 have h2:=Zbk ss
 exact⟨by omega,fun s hs=>by have:=(h1.1 s hs).2;omega⟩
theorem Zpr {d:Zaq} (h:Zir d=true):d=Zcv:=by
 obtain⟨a,b,c,e,g⟩:=d
 simp only[Zir,Zde] at h
 obtain rfl:a=[]:=List.length_eq_zero_iff.1 (by omega)
 obtain rfl:b=[]:=List.length_eq_zero_iff.1 (by omega)
 obtain rfl:c=[]:=List.length_eq_zero_iff.1 (by omega)
 obtain rfl:e=[]:=List.length_eq_zero_iff.1 (by omega)
 obtain rfl:g=[]:=List.length_eq_zero_iff.1 (by omega)
 rfl
structure ZhZ (f:Zas):Prop where
 fits:Zdn f
 pos:f.kind=1→f.zone=[]∧f.soa=Zcv∧ZbW f.typ=true
 neg:f.kind≠1→f.set=[]
theorem ZqT {f:Zas} (h:Zbl f=true):ZhZ f:=by
 have h0:=h
 simp only[Zbl,Zae2] at h
 obtain⟨-,hk⟩:=h
 refine⟨Zdw h0,fun h1=>?_,fun h1=>(((Zdw h0).neg h1).2.2)⟩
 rw[if_pos h1] at hk
 simp only[ZqL,Zae2,Zde] at hk
 obtain⟨ht,-,-,-,hz,hn⟩:=hk
 exact⟨List.length_eq_zero_iff.1 hz,Zpr hn,ht⟩
theorem ZrC {w:World} {ao:Option Addr} {bl bc:Nat} {l:List UInt8} (h:ZbP w ao bl bc l):l.length=bl:=by
 have:=h.hlen
 rwa [List.length_map] at this
theorem ZrG {f:Zas} (ht:ZbW f.typ=true):1≤f.typ∧f.typ≤65535:=by
 have:=Zf2.1 ht
 omega
theorem FcSt.done {w W:World} {r:Nat} {bo:Option Addr} {bl bc p:Nat} {h:ZaU} {f0:Zas} {v:Value} {ds:List Zaq} (i:FcSt w W r bo bl bc p h f0 v ds) (hr:r<w.heap.size) {f:Zas} (hf:{f0 with set:=ds}=f):
  ∃ h',Blk W w.heap.size (Zaj h' f) 37∧Blk (W.setRow w.heap.size (Zaj h' f)) w.heap.size (Zaj h' f) 37∧IsFact (Zak fT (W.setRow w.heap.size (Zaj h' f))) (W.setRow w.heap.size (Zaj h' f)) h' f∧(∃ p',Blk (W.setRow w.heap.size (Zaj h' f)) r (rdC bo bl bc p') 113)∧w.grownBy (W.setRow w.heap.size (Zaj h' f)) (some r):=by
 obtain⟨h',e,hI⟩:=i.fin
 rw[hf] at e hI
 have hb:=i.fb
 rw[e] at hb
 have hg:=Zav W w.heap.size (Zaj h' f)
 obtain⟨h1,h2,-,-⟩:=i.put hr hg
 exact⟨h',hb,ZaA hb _,hI.step (Same.but hg hb (by decide)),⟨_,h1⟩,h2⟩
theorem ZmY (w:World) (r:Nat) (bo:Option Addr) (bl bc:Nat) (l:List UInt8) (hl:ZbP w bo bl bc l) (hbl:bl≤900000) (hne:∀ a,bo=some a→a.block≠r∧a.block<w.heap.size) (p:Nat) (f:Zas) (q:Nat) (hp:p≤900000) (hF:ZkH l p f q) (hq:q+15≤l.length) (hff:ZhZ f) (hr:Blk w r (rdC bo bl bc p) 113):
  Calls Tryz.prog 93 #[.pointer (some ⟨r,0,none⟩)] w fun e w'=>(∃ h,e= .returned (.agg (Zaj h f))∧IsFact (Zak fT w') w' h f)∧(∃ p',Blk w' r (rdC bo bl bc p') 113)∧w.grownBy w' (some r):=by
 have hst:=FcSt.start w r bo bl bc p hr
 have hrl:=hr.lt
 simp only[ZfE] at hst
 have hlen:=ZrC hl
 have HBY:=Zhd (fun W (hg:w.grownBy W (some r))=>hl.grown hg (fun a ha h=>(hne a ha).1 (Zsi h)))
 have HNE:=Zhd hne
 have HF:=Zhd (Zan hF hff)
 have HLn:=Zhd (Zjg hff.fits.name)
 rw[hlen] at hq
 have HLL:=Zhd hlen
 clear hr hl hne hlen hF hff
 go_enter Tryz.func93,Tryz.ntmps93
 go_upto_region 1 with fail
 generalize (w.alloc (.cells #[.slice none 0 0,.int .i64 0,.int .i64 0,.int .i64 0,.int .i64 0,.int .i64 0,.slice none 0 0,.slice none 0 0,.slice none 0 0,.slice none 0 0,.slice none 0 0,.slice none 0 0,.slice none 0 0] 37))=W0 at hst⊢
 have H0:=Zhd hst
 clear hst
 go_upto_region 7 with(first
  |(go_at_call 92;refine(ZcG _ r bo bl bc l (HBY.out _ H5.out.fr) (q+11) 4 f.ttl (by omega) (by omega) (by omega) HF.out.1.head.ttl H5.out.rb).mono ?_;rintro e W6 ⟨rfl,hb,hg⟩;have hb2:Blk W6 r (rdC bo bl bc (q+15)) 113:=hb;have j:=H5.out.step hb2 hg hrl;have t6:=j.fb.cell 5;have u6:=j.fb.free 5;simp[fcC,zFP,zFH,zDH,Zcv] at t6;have i:=j.ttl hrl f.ttl (ZjW HF.out.2.fits.ttl (by omega));have k6:W6.cell? ⟨w.heap.size,2,none⟩=some (.int .i64 f.kind):=j.fb.cell 2;have y6:W6.cell? ⟨w.heap.size,1,none⟩=some (.int .i64 f.typ):=j.fb.cell 1;have H6:=Zhd i;clear hb hb2 hg j i)
  |(go_at_call 92;refine(ZcG _ r bo bl bc l (HBY.out _ H4.out.fr) (q+4) 7 f.got (by omega) (by omega) (by omega) HF.out.1.head.got H4.out.rb).mono ?_;rintro e W5 ⟨rfl,hb,hg⟩;have hb2:Blk W5 r (rdC bo bl bc (q+11)) 113:=hb;have j:=H4.out.step hb2 hg hrl;have t5:=j.fb.cell 4;have u5:=j.fb.free 4;simp[fcC,zFP,zFH,zDH,Zcv] at t5;have i:=j.got hrl f.got (ZjW HF.out.2.fits.got (by omega));have H5:=Zhd i;clear hb hb2 hg j i)
  |(go_at_call 92;refine(ZcG _ r bo bl bc l (HBY.out _ H3.out.fr) (q+3) 1 f.rank (by omega) (by omega) (by omega) HF.out.1.head.rank H3.out.rb).mono ?_;rintro e W4 ⟨rfl,hb,hg⟩;have hb2:Blk W4 r (rdC bo bl bc (q+4)) 113:=hb;have j:=H3.out.step hb2 hg hrl;have t4:=j.fb.cell 3;have u4:=j.fb.free 3;simp[fcC,zFP,zFH,zDH,Zcv] at t4;have i:=j.rank hrl f.rank (ZjW HF.out.2.fits.rank (by omega));have H4:=Zhd i;clear hb hb2 hg j i)
  |(go_at_call 92;refine(ZcG _ r bo bl bc l (HBY.out _ H2.out.fr) (q+2) 1 f.kind (by omega) (by omega) (by omega) HF.out.1.head.kind H2.out.rb).mono ?_;rintro e W3 ⟨rfl,hb,hg⟩;have hb2:Blk W3 r (rdC bo bl bc (q+3)) 113:=hb;have j:=H2.out.step hb2 hg hrl;have t3:=j.fb.cell 2;have u3:=j.fb.free 2;simp[fcC,zFP,zFH,zDH,Zcv] at t3;have i:=j.kind hrl f.kind (ZjW HF.out.2.fits.kind (by omega));have H3:=Zhd i;clear hb hb2 hg j i)
  |(go_at_call 92;refine(ZcG _ r bo bl bc l (HBY.out _ H1.out.fr) q 2 f.typ (by omega) (by omega) (by omega) HF.out.1.head.typ H1.out.rb).mono ?_;rintro e W2 ⟨rfl,hb,hg⟩;have hb2:Blk W2 r (rdC bo bl bc (q+2)) 113:=hb;have j:=H1.out.step hb2 hg hrl;have t2:=j.fb.cell 1;have u2:=j.fb.free 1;simp[fcC,zFP,zFH,zDH,Zcv] at t2;have i:=j.typ hrl f.typ (ZjW HF.out.2.fits.typ (by omega));have H2:=Zhd i;clear hb hb2 hg j i)
  |(go_at_call 94;refine(ZiZ _ r bo bl bc l (HBY.out _ H0.out.fr) (by omega) p (by omega) f.name q HF.out.1.head.name H0.out.rb).mono ?_;rintro e W1 ⟨⟨v,rfl,ho⟩,hb,hg⟩;obtain⟨a1,c1,rfl,ho1⟩:=Zai ho HLn.out.1;have j:=H0.out.step hb hg hrl;have t1:=j.fb.cell 0;have u1:=j.fb.free 0;simp[fcC,zFH] at t1;have i:=j.name hrl ho1 HLn.out.2;have H1:=Zhd i;clear ho ho1 hb hg j i))
 have h6:=H6.out
 generalize W6.setCell ⟨w.heap.size,5,none⟩ (.int .i64 f.ttl)=W7 at h6⊢
 have k7:W7.cell? ⟨w.heap.size,2,none⟩=some (.int .i64 f.kind):=h6.fb.cell 2
 have y7:W7.cell? ⟨w.heap.size,1,none⟩=some (.int .i64 f.typ):=h6.fb.cell 1
 have H7:=Zhd h6
 clear H6 h6 H0 H1 H2 H3 H4 H5 t1 u1 t2 u2 t3 u3 t4 u4 t5 u5 t6 u6 k6 y6 HLn
 by_cases hk:f.kind=1
 ·have hkb:(f.kind==1)=true:=by simpa using hk
  obtain⟨hzn,hsn,hty⟩:=HF.out.2.pos hk
  obtain⟨hct,hA⟩:=HF.out.1.pos hk
  obtain⟨hds,h64,h1n,-,-⟩:=HF.out.2.fits.pos hk
  have hfe:{(⟨f.name,f.typ,f.kind,f.rank,f.got,f.ttl,[],[],Zcv⟩:Zas) with set:=f.set}=f:=by
   cases f
   simp_all
  obtain⟨n,hn⟩:∃ n,n=f.set.length:=⟨_,rfl⟩
  rw[←hn] at hct h64 h1n
  have HP:=Zhd (Zan hct (Zan hA (Zan hds (Zan hn hfe))))
  have HTY:=Zhd hty
  have HLQ:=Zhd (show q+16≤bl by have:=hA.len;have:=HLL.out;omega)
  clear hk hzn hsn hty hct hA hds hn hfe h1n
  go_wp2_with (first
   |(go_at_call 92;refine(ZcG _ r bo bl bc l (HBY.out _ H7.out.fr) (q+15) 1 (n:Int) (by have:=HLQ.out;omega) (by omega) (by omega) HP.out.1 H7.out.rb).mono ?_;rintro e W8 ⟨rfl,hb,hg⟩;have j:=H7.out.step hb hg hrl;have H8:=Zhd j;clear hb hg j)
   |(go_at_call 103;refine(ZjV _ f.typ).mono ?_;rintro e W ⟨rfl,rfl⟩;rw[HTY.out]))
  have hi0:Hid (∃ hh v,FcSt w W8 r bo bl bc (q+16+(Zd1 f.typ (f.set.take 0)).length) hh ⟨f.name,f.typ,f.kind,f.rank,f.got,f.ttl,[],[],Zcv⟩ v (f.set.take 0)):=Zhd ⟨_,_,by rw[show(Zd1 f.typ (f.set.take 0)).length=0 from rfl];exact H8.out⟩
  clear H8 H7 k7 y7
  go_loopw [38] (fun si wr=>∃ t:Nat,t≤n∧si= .int .i64 (t:Int)∧Hid (∃ hh v,FcSt w wr r bo bl bc (q+16+(Zd1 f.typ (f.set.take t)).length) hh ⟨f.name,f.typ,f.kind,f.rank,f.got,f.ttl,[],[],Zcv⟩ v (f.set.take t))) (fun si _=>(n-intOf si).toNat)
  case atStart=>exact⟨0,Nat.zero_le _,rfl,hi0⟩
  case round=>
   obtain⟨t,ht,rfl,hinv⟩:=hrel
   by_cases hlt:t<n
   ·obtain⟨hh,v,hst⟩:=hinv.out
    have hts:t<f.set.length:=by rw[←HP.out.2.2.2.1];exact hlt
    obtain⟨d1,d2,d3⟩:=Zm3 (ZrF HP.out.2.1 hts) (HP.out.2.2.1 _ (List.getElem_mem hts))
    rw[HLL.out] at d2
    have hsn:=Zg8 f.typ f.set hts
    have htk:f.set.take (t+1)=f.set.take t++[f.set[t]]:=List.take_succ_eq_append_getElem hts
    have hwt:=ZrG HTY.out
    obtain⟨dd,hdd⟩:∃ dd,dd=f.set[t]:=⟨_,rfl⟩
    rw[←hdd] at d1 d2 d3 hsn htk
    obtain⟨p0,hp0⟩:∃ p0,p0=q+16+(Zd1 f.typ (f.set.take t)).length:=⟨_,rfl⟩
    obtain⟨m,hm⟩:∃ m,m=(cdW f.typ dd).length:=⟨_,rfl⟩
    rw[←hm] at d1 d2 d3
    rw[←hp0] at d1 d2 d3 hst
    have hpn:p0+2+m=q+16+(Zd1 f.typ (f.set.take (t+1))).length:=by
     rw[hsn,Zla,Zla,Zap,hp0,hm]
     omega
    have HST:=Zhd hst
    have HD:=Zhd (Zan d1 (Zan d2 (Zan d3 (Zan hpn (Zan htk hwt)))))
    have HTL:=Zhd (show(f.set.take t).length≤1000000 by rw[List.length_take];omega)
    clear hinv hts d1 d2 d3 hsn htk hdd hp0 hm hpn hst hwt
    go_upto_region 15 with fail
    have hsd:=HST.out.on (Below.drew (Below.refl wr.heap.size wr))
    have c6:wr.drew.cell? ⟨w.heap.size,6,none⟩=some v:=hsd.fb.cell 6
    have c1:wr.drew.cell? ⟨w.heap.size,1,none⟩=some (.int .i64 f.typ):=hsd.fb.cell 1
    have HSD:=Zhd hsd
    clear hsd
    refine ZdA 7 51 (fun w'=>w'.cell? ⟨w.heap.size,6,none⟩=some v∧w'.cell? ⟨w.heap.size,1,none⟩=some (.int .i64 f.typ)) (by kernel_rfl) (by kernel_rfl) (by kernel_rfl) (by kernel_rfl) (by kernel_rfl) ?_ (fun hHeld0=>?_)
    ·exact⟨c6,c1⟩
    simp only[List.take_succ_cons,List.take_zero]
    refine wpAnyH_take (i:=0) (v:=?_) rfl (by kernel_rfl) (by kernel_rfl) (by kernel_rfl) (fun _ _ _ h=>h) (Or.inl ⟨by rfl,?_⟩) (by assumption) ?_
    rotate_left
    ·intro w' hSw
     (try dsimp only at hSw)
     go_simp
     first|done|with_reducible rfl|(rw[if_neg (by omega)])
    try simp only[Act.put,List.setIfInBounds_toArray]
    refine wpAnyH_take (i:=1) (v:=?_) rfl (by kernel_rfl) (by kernel_rfl) (by kernel_rfl) (fun _ _ _ h=>h) (Or.inl ⟨by rfl,?_⟩) (by assumption) ?_
    rotate_left
    ·intro w' hSw
     (try dsimp only at hSw)
     go_simp
     first|done|with_reducible rfl|(rw[if_neg (by omega)])
    try simp only[Act.put]
    refine wpAnyH_take (i:=2) (v:=?_) rfl (by kernel_rfl) (by kernel_rfl) (by kernel_rfl) (fun _ _ _ h=>h) (Or.inl ⟨by rfl,?_⟩) (by assumption) ?_
    rotate_left
    ·intro w' hSw
     (try dsimp only at hSw)
     go_simp
     first|done|with_reducible rfl|(rw[if_neg (by omega)])
    try simp only[Act.put]
    refine wpAnyH_take (i:=3) (v:=?_) rfl (by kernel_rfl) (by kernel_rfl) (by kernel_rfl) (fun _ _ _ h=>h) (Or.inl ⟨by rfl,?_⟩) (by assumption) ?_
    rotate_left
    ·intro w' hSw
     (try dsimp only at hSw)
     go_simp
     first|done|with_reducible rfl|(rw[if_neg (by omega)])
    try simp only[Act.put]
    refine wpAnyH_take (i:=4) (v:=?_) rfl (by kernel_rfl) (by kernel_rfl) (by kernel_rfl) (fun _ _ _ h=>h) (Or.inl ⟨by rfl,?_⟩) (by assumption) ?_
    rotate_left
    ·intro w' hSw
     (try dsimp only at hSw)
     go_simp
     first|done|with_reducible rfl|(rw[if_neg (by omega)])
    try simp only[Act.put]
    refine wpAnyH_ready (rs:=[5]) (by kernel_rfl) (by simp) ?_
    refine AllReadyH.cons rfl (fun K hK=>?_) AllReadyH.nil
    go_simp
    refine(ZkM _ r bo bl bc l (HBY.out _ HSD.out.fr) (by omega) (fun a ha=>⟨(HNE.out a ha).1,Nat.lt_of_lt_of_le (HNE.out a ha).2 HSD.out.fr.size⟩) p0 m HD.out.2.1 f.typ HD.out.2.2.2.2.2 HD.out.1 dd HD.out.2.2.1 HSD.out.rb).mono ?_
    rintro e W4 ⟨⟨k,rfl,hI,hM⟩,hb,hg⟩
    have j:=HSD.out.step hb hg hrl
    have hal:Below W4.heap.size W4 (W4.alloc (.cells (Zae k) 35)):=Zbr.alloc Zlr _
    have hkd:=Zb0.step (T:=mT) (h:=k) (x:=dd) ⟨hI,hM⟩ (Same.below hal _)
    have j2:=j.on hal
    obtain⟨v',W6,hrun,hnx,hfb⟩:=j2.push hrl (by have:=j2.fr.size;exact this) HTL.out hkd.1 hkd.2 (Zha W4 _)
    obtain⟨ao',c',hv',-,-⟩:=hnx.ga.seq
    generalize (f.set.take t++[dd]).length=ln at hv'
    subst hv'
    have d6:W6.cell? ⟨w.heap.size,6,none⟩=some v:=hfb.cell 6
    have e6:=hfb.free 6
    have HRUN:=Zhd hrun
    have HNX:=Zhd hnx
    have HJ:=Zhd (Zan j j2)
    clear hb hg hI hM hal hkd hrun hnx hfb j j2
    go_wp2_with fail
    refine hK.out _ _ ?_ (fun hHeld1=>?_)
    ·exact⟨HJ.out.1.fb.cell 6,HJ.out.1.fb.cell 1⟩
    clear hK K
    try simp only[Act.put,List.setIfInBounds_toArray,List.set_cons_zero,List.set_cons_succ]
    refine wpAnyH_ready (rs:=[6]) (by kernel_rfl) (by simp) ?_
    refine AllReadyH.cons rfl (fun K hK=>?_) AllReadyH.nil
    go_simp
    refine hK.out _ _ ?_ (fun hHeld2=>?_)
    ·exact⟨HJ.out.2.fb.cell 6,HJ.out.2.fb.cell 1⟩
    clear hK K
    try simp only[Act.put,List.setIfInBounds_toArray,List.set_cons_zero,List.set_cons_succ]
    refine wpAnyH_done (by kernel_rfl) ?_ _
    show wpList _ _ _ _ _ _
    simp only[List.drop_succ_cons,List.drop_zero]
    go_wp2_with (at_builtin;refine Zao rfl _ _ _ rfl _ _ rfl rfl HRUN.out ?_)
    go_roundw
    case rel=>
     have h:=HNX.out
     rw[HD.out.2.2.2.1,←HD.out.2.2.2.2.1] at h
     exact⟨t+1,hlt,by simp,Zhd ⟨_,_,h⟩⟩
    case measure=>simp[intOf];omega
   ·obtain rfl:t=n:=by omega
    obtain⟨hh,v,hst⟩:=hinv.out
    have htk:f.set.take t=f.set:=by rw[HP.out.2.2.2.1,List.take_length]
    rw[htk] at hst
    obtain⟨h',hb,hfin⟩:=hst.done hrl HP.out.2.2.2.2
    clear hinv hst htk hi0
    have HB:=Zhd hb
    go_wp2_with (first
     |(refine wpList_store_row rfl 37 _ _ rfl w.heap.size (Zaj h' f) rfl rfl 37 (Zaj h' f) HB.out Zcj rfl (Zeg h' f) ?_)
     |(refine wpList_load_row rfl 37 _ rfl w.heap.size rfl 37 (Zaj h' f) (0,0) _ HB.out Tryz.underlying37 rfl Zcj ?_))
    exact bodyPost_ret (results_cell_row (p:=2) (ty:=37) rfl _ _ w.heap.size 37 _ (0,0) _ rfl hfin.1 Tryz.underlying37 rfl Zcj) rfl ⟨⟨h',rfl,hfin.2.1⟩,hfin.2.2.1,hfin.2.2.2⟩
 ·have hkb:(f.kind==1)=false:=by simpa using hk
  obtain⟨hzs,hds,hse⟩:=HF.out.2.fits.neg hk
  obtain⟨z,hz,hA⟩:=HF.out.1.neg hk
  obtain⟨d1,d2,d3⟩:=Zm3 hA hds
  obtain⟨n,hn⟩:∃ n,n=(cdW 6 f.soa).length:=⟨_,rfl⟩
  rw[←hn] at d1 d2 d3
  have hll:=HLL.out
  rw[hll] at d2
  have HD:=Zhd (Zan d1 (Zan d2 (Zan d3 (Zan hz (Zjg hzs)))))
  have hfe:{(⟨f.name,f.typ,f.kind,f.rank,f.got,f.ttl,[],f.zone,f.soa⟩:Zas) with set:=[]}=f:=by
   have:=HF.out.2.neg hk
   cases f
   simp_all
  have HFE:=Zhd hfe
  clear hk hzs hse hA hds hz d1 d2 d3 hn hll hfe
  go_upto_region 10 with(first
   |(go_at_call 140;refine(ZkM _ r bo bl bc l (HBY.out _ H8.out.fr) (by omega) (fun a ha=>⟨(HNE.out a ha).1,Nat.lt_of_lt_of_le (HNE.out a ha).2 H8.out.fr.size⟩) z n HD.out.2.1 6 (by omega) HD.out.1 f.soa HD.out.2.2.1 H8.out.rb).mono ?_;rintro e W9 ⟨⟨k,rfl,hI,hM⟩,hb,hg⟩;have j:=H8.out.step hb hg hrl;have s8:=j.fb.cell 8;have s9:=j.fb.cell 9;have s10:=j.fb.cell 10;have s11:=j.fb.cell 11;have s12:=j.fb.cell 12;simp[fcC,zFH,zDH] at s8 s9 s10 s11 s12;have v8:=j.fb.free 8;have v9:=j.fb.free 9;have v10:=j.fb.free 10;have v11:=j.fb.free 11;have v12:=j.fb.free 12;have i:=j.soa hrl hI hM;have H9:=Zhd i;clear hI hM hb hg j i;simp only[Zae])
   |(go_at_call 94;refine(ZiZ _ r bo bl bc l (HBY.out _ H7.out.fr) (by omega) (q+15) (by omega) f.zone z HD.out.2.2.2.1 H7.out.rb).mono ?_;rintro e W8 ⟨⟨v,rfl,ho⟩,hb,hg⟩;obtain⟨a8,c8,rfl,ho8⟩:=Zai ho HD.out.2.2.2.2.1;have j:=H7.out.step hb hg hrl;have t8:=j.fb.cell 7;have u8:=j.fb.free 7;simp[fcC,zFH,zDH] at t8;have i:=j.zone hrl ho8 HD.out.2.2.2.2.2;have H8:=Zhd i;clear ho ho8 hb hg j i))
  have h9:=H9.out
  generalize (((((W9.setCell ⟨w.heap.size,8,none⟩ (.slice k.ba k.bl k.bc)).setCell ⟨w.heap.size,9,none⟩ (.slice k.ha k.hl k.hc)).setCell ⟨w.heap.size,10,none⟩ (.slice k.ma k.ml k.mc)).setCell ⟨w.heap.size,11,none⟩ (.slice k.na k.nl k.nc)).setCell ⟨w.heap.size,12,none⟩ (.slice k.ta k.tl k.tc))=W10 at h9⊢
  obtain⟨h',hb,hfin⟩:=h9.done hrl HFE.out
  clear s8 s9 s10 s11 s12 v8 v9 v10 v11 v12 t8 u8 k7 y7 h9 H9 H8 H7
  have HB:=Zhd hb
  go_wp2_with (first
   |(refine wpList_store_row rfl 37 _ _ rfl w.heap.size (Zaj h' f) rfl rfl 37 (Zaj h' f) HB.out Zcj rfl (Zeg h' f) ?_)
   |(refine wpList_load_row rfl 37 _ rfl w.heap.size rfl 37 (Zaj h' f) (0,0) _ HB.out Tryz.underlying37 rfl Zcj ?_))
  exact bodyPost_ret (results_cell_row (p:=2) (ty:=37) rfl _ _ w.heap.size 37 _ (0,0) _ rfl hfin.1 Tryz.underlying37 rfl Zcj) rfl ⟨⟨h',rfl,hfin.2.1⟩,hfin.2.2.1,hfin.2.2.2⟩
theorem ZlG (w:World) (r:Nat) (bo:Option Addr) (bl bc:Nat) (l:List UInt8) (hl:ZbP w bo bl bc l) (hbl:bl≤900000) (hne:∀ a,bo=some a→a.block≠r∧a.block<w.heap.size) (p:Nat) (f:Zas) (q:Nat) (hp:p+1≤900000) (hg1:Zdl l p 1=(1,0)) (hF:ZkH l (p+1) f q) (hq:q+15≤l.length) (hff:ZhZ f) (hr:Blk w r (rdC bo bl bc p) 113):
  Calls Tryz.prog 52 #[.pointer (some ⟨r,0,none⟩)] w fun e w'=>(∃ h,e= .returned (.agg (ZbK h f))∧IsFact (Zak fT w') w' h f)∧w.grownBy w' (some r):=by
 have hal:Below w.heap.size w (w.alloc (.cells (Zar 0 0 (.slice none 0 0)) 66)):=Zbr.alloc Zlr _
 have hA:Blk (w.alloc (.cells (Zar 0 0 (.slice none 0 0)) 66)) w.heap.size (Zar 0 0 (.slice none 0 0)) 66:=Zha w _
 have hrl:=hr.lt
 have HBY:=Zhd (fun W (hg:w.grownBy W (some r))=>hl.grown hg (fun a ha h=>(hne a ha).1 (Zsi h)))
 have h1:=ZcG _ r bo bl bc l (HBY.out _ (Zaw r hal)) p 1 1 (by omega) (by omega) (by omega) hg1 (hr.on hal)
 have H0:=Zhd (Zan hal (Zan hA (Zan hne (Zan hF (Zan hq hff)))))
 have H1:=Zhd h1
 clear hal hA h1 hl hr hne hg1 hF hq hff
 go_enter Tryz.func52,Tryz.ntmps52
 go_upto_region 9 with(first
  |(go_at_call 93;refine H2.out.1.mono ?_;rintro e W2 ⟨⟨h,rfl,hI⟩,-,hg⟩;have hb:=H2.out.2.1.but hg (by omega);have z2:=hb.cell 2;have z3:=hb.cell 3;have z4:=hb.cell 4;have z5:=hb.cell 5;have z6:=hb.cell 6;have z7:=hb.cell 7;have z8:=hb.cell 8;have z9:=hb.cell 9;have z10:=hb.cell 10;have z11:=hb.cell 11;have z12:=hb.cell 12;have z13:=hb.cell 13;have z14:=hb.cell 14;simp[Zar] at z2 z3 z4 z5 z6 z7 z8 z9 z10 z11 z12 z13 z14;have x2:=hb.free 2;have x3:=hb.free 3;have x4:=hb.free 4;have x5:=hb.free 5;have x6:=hb.free 6;have x7:=hb.free 7;have x8:=hb.free 8;have x9:=hb.free 9;have x10:=hb.free 10;have x11:=hb.free 11;have x12:=hb.free 12;have x13:=hb.free 13;have x14:=hb.free 14;have hs:Blk (((((((((((((W2.setCell ⟨w.heap.size,2,none⟩ (.slice h.na h.nl h.nc)).setCell ⟨w.heap.size,3,none⟩ (.int .i64 f.typ)).setCell ⟨w.heap.size,4,none⟩ (.int .i64 f.kind)).setCell ⟨w.heap.size,5,none⟩ (.int .i64 f.rank)).setCell ⟨w.heap.size,6,none⟩ (.int .i64 f.got)).setCell ⟨w.heap.size,7,none⟩ (.int .i64 f.ttl)).setCell ⟨w.heap.size,8,none⟩ (.slice h.sa h.sl h.sc)).setCell ⟨w.heap.size,9,none⟩ (.slice h.za h.zl h.zc)).setCell ⟨w.heap.size,10,none⟩ (.slice h.d.ba h.d.bl h.d.bc)).setCell ⟨w.heap.size,11,none⟩ (.slice h.d.ha h.d.hl h.d.hc)).setCell ⟨w.heap.size,12,none⟩ (.slice h.d.ma h.d.ml h.d.mc)).setCell ⟨w.heap.size,13,none⟩ (.slice h.d.na h.d.nl h.d.nc)).setCell ⟨w.heap.size,14,none⟩ (.slice h.d.ta h.d.tl h.d.tc)) w.heap.size (ZbK h f) 66:=(by have hq:=(((((((((((((hb.set 2 (.slice h.na h.nl h.nc)).set 3 (.int .i64 f.typ)).set 4 (.int .i64 f.kind)).set 5 (.int .i64 f.rank)).set 6 (.int .i64 f.got)).set 7 (.int .i64 f.ttl)).set 8 (.slice h.sa h.sl h.sc)).set 9 (.slice h.za h.zl h.zc)).set 10 (.slice h.d.ba h.d.bl h.d.bc)).set 11 (.slice h.d.ha h.d.hl h.d.hc)).set 12 (.slice h.d.ma h.d.ml h.d.mc)).set 13 (.slice h.d.na h.d.nl h.d.nc)).set 14 (.slice h.d.ta h.d.tl h.d.tc));simpa [ZbK,Zar] using hq);have hgs:W2.grownBy (((((((((((((W2.setCell ⟨w.heap.size,2,none⟩ (.slice h.na h.nl h.nc)).setCell ⟨w.heap.size,3,none⟩ (.int .i64 f.typ)).setCell ⟨w.heap.size,4,none⟩ (.int .i64 f.kind)).setCell ⟨w.heap.size,5,none⟩ (.int .i64 f.rank)).setCell ⟨w.heap.size,6,none⟩ (.int .i64 f.got)).setCell ⟨w.heap.size,7,none⟩ (.int .i64 f.ttl)).setCell ⟨w.heap.size,8,none⟩ (.slice h.sa h.sl h.sc)).setCell ⟨w.heap.size,9,none⟩ (.slice h.za h.zl h.zc)).setCell ⟨w.heap.size,10,none⟩ (.slice h.d.ba h.d.bl h.d.bc)).setCell ⟨w.heap.size,11,none⟩ (.slice h.d.ha h.d.hl h.d.hc)).setCell ⟨w.heap.size,12,none⟩ (.slice h.d.ma h.d.ml h.d.mc)).setCell ⟨w.heap.size,13,none⟩ (.slice h.d.na h.d.nl h.d.nc)).setCell ⟨w.heap.size,14,none⟩ (.slice h.d.ta h.d.tl h.d.tc)) (some w.heap.size):=Zah (Zah (Zah (Zah (Zah (Zah (Zah (Zah (Zah (Zah (Zah (Zah (Zag _ _ _ _) (Zag _ _ _ _)) (Zag _ _ _ _)) (Zag _ _ _ _)) (Zag _ _ _ _)) (Zag _ _ _ _)) (Zag _ _ _ _)) (Zag _ _ _ _)) (Zag _ _ _ _)) (Zag _ _ _ _)) (Zag _ _ _ _)) (Zag _ _ _ _)) (Zag _ _ _ _);have hI2:=hI.step (Same.but hgs hb (by decide));have hgg:=Zc4 (Zah H2.out.2.2 hg) hgs Zlr;have H3:=Zhd (Zan hs (Zan hI2 hgg));clear hI hg hb hs hgs hI2 hgg;simp only[Zaj])
  |(go_at_call 92;refine H1.out.mono ?_;rintro e W1 ⟨rfl,hr1,hg1⟩;have hb1:=H0.out.2.1.but hg1 (by omega);have c0:W1.cell? ⟨w.heap.size,0,none⟩=some (.int .i64 0):=hb1.cell 0;have f0:=hb1.free 0;have hs1:=hb1.set 0 (.int .i64 1);have hgs:=Zag W1 w.heap.size 0 (.int .i64 1);have hr1s:=hr1.but hgs (by omega);have hgg:=Zc4 (Zah (Zaw r H0.out.1) hg1) hgs Zlr;have h2:=ZmY _ r bo bl bc l (HBY.out _ hgg) hbl (fun a ha=>⟨(H0.out.2.2.1 a ha).1,Nat.lt_of_lt_of_le (H0.out.2.2.1 a ha).2 hgg.size⟩) (p+1) f q (by omega) H0.out.2.2.2.1 H0.out.2.2.2.2.1 H0.out.2.2.2.2.2 hr1s;have H2:=Zhd (Zan h2 (Zan hs1 hgg));clear hr1 hg1 hb1 hs1 hgs hr1s h2 hgg))
 have h3:=H3.out
 generalize (((((((((((((W2.setCell ⟨w.heap.size,2,none⟩ (.slice h.na h.nl h.nc)).setCell ⟨w.heap.size,3,none⟩ (.int .i64 f.typ)).setCell ⟨w.heap.size,4,none⟩ (.int .i64 f.kind)).setCell ⟨w.heap.size,5,none⟩ (.int .i64 f.rank)).setCell ⟨w.heap.size,6,none⟩ (.int .i64 f.got)).setCell ⟨w.heap.size,7,none⟩ (.int .i64 f.ttl)).setCell ⟨w.heap.size,8,none⟩ (.slice h.sa h.sl h.sc)).setCell ⟨w.heap.size,9,none⟩ (.slice h.za h.zl h.zc)).setCell ⟨w.heap.size,10,none⟩ (.slice h.d.ba h.d.bl h.d.bc)).setCell ⟨w.heap.size,11,none⟩ (.slice h.d.ha h.d.hl h.d.hc)).setCell ⟨w.heap.size,12,none⟩ (.slice h.d.ma h.d.ml h.d.mc)).setCell ⟨w.heap.size,13,none⟩ (.slice h.d.na h.d.nl h.d.nc)).setCell ⟨w.heap.size,14,none⟩ (.slice h.d.ta h.d.tl h.d.tc))=W3 at h3⊢
 have hgf:=Zav W3 w.heap.size (ZbK h f)
 have hbf:=ZaA h3.1 (ZbK h f)
 have hIf:=h3.2.1.step (Same.but hgf h3.1 (by decide))
 have hgg:=Zc4 h3.2.2 hgf Zlr
 have HB:=Zhd h3.1
 clear z2 x2 z3 x3 z4 x4 z5 x5 z6 x6 z7 x7 z8 x8 z9 x9 z10 x10 z11 x11 z12 x12 z13 x13 z14 x14 c0 f0 H3 h3
 go_wp2_with (first
  |(refine wpList_store_row rfl 66 _ _ rfl w.heap.size (ZbK h f) rfl rfl 66 (ZbK h f) HB.out Za5 rfl (Zfw h f) ?_)
  |(refine wpList_load_row rfl 66 _ rfl w.heap.size rfl 66 (ZbK h f) (0,0) _ HB.out Tryz.underlying66 rfl Za5 ?_))
 exact bodyPost_ret (results_cell_row (p:=2) (ty:=66) rfl _ _ w.heap.size 66 _ (0,0) _ rfl hbf Tryz.underlying66 rfl Za5) rfl ⟨⟨h,rfl,hIf⟩,hgg⟩
theorem ZkN (p q:Addr) (w:World):
  CallsD Tryz.prog 51 #[.pointer (some p),.pointer (some q)] .returning w fun e u' w'=>e= .returned (.tuple #[])∧u'= .returning∧w'=w:=by
 refine callsD_of_wpS Tryz.func51 rfl fun c₀ cs hu=>?_
 apply wpS_seq
 apply wpS_region
 simp[wpOpsS,go_sem,recoverD,hu,Tryz.ntmps51,Exit.thenS]
 rw[show(#[Value.pointer (some p),Value.pointer (some q)]++(Array.replicate 11 undef).setIfInBounds 3 Value.nilIface)=#[Value.pointer (some p),Value.pointer (some q),undef,undef,undef,Value.nilIface,undef,undef,undef,undef,undef,undef,undef] from rfl]
 refine wpS_of_wp ?_
 go_wp2_with fail
 cases c₀
 simp_all [bodyPostS,results,Tryz.results51]
theorem ZmZ (t:Int) (htf:Za2 t 7=true):Zdl (Zbq t) 0 1=(3,0)∧Zdl (Zbq t) 1 7=(t,0):=by
 have hlen:=ZbN t
 obtain⟨n,rfl⟩:∃ n:Nat,t=(n:Int):=⟨t.toNat,by have:=(Zhu htf).1;omega⟩
 have hn:n<256^7:=by have:=(Zhu htf).2;omega
 have h1:(Za1 3 1).length=1:=Zap 3 1
 have h7:(Za1 (n:Int) 7).length=7:=Zap _ 7
 constructor
 ·rw[Zdl,if_pos (by omega)]
  have e:((Zbq (n:Int)).drop 0).take 1=Za1 3 1:=by
   rw[Zbq,List.nil_append,List.drop_zero,List.take_append_of_le_length (by omega),List.take_of_length_le (by omega)]
  rw[e,show(Za1 3 1:List UInt8)=Za1 ((3:Nat):Int) 1 from rfl,Zex 1 3 (by omega)]
  rfl
 ·rw[Zdl,if_pos (by omega)]
  have e:((Zbq (n:Int)).drop 1).take 7=Za1 (n:Int) 7:=by
   rw[Zbq,List.nil_append,List.drop_append_of_le_length (by omega),List.drop_of_length_le (by omega),List.nil_append,List.take_of_length_le (by omega)]
  rw[e,Zex 7 n hn]
theorem Zkc {tmps:Array Value} {w:World} {R Q:Nat} {k t x:Int} (h2:tmps[2]?=some (.pointer (some ⟨R,0,none⟩))) (h3:tmps[3]?=some (.pointer (some ⟨Q,0,none⟩))) (hB:Blk w R (Zar k t (.slice none 0 0)) 66) (hQ:Blk w Q #[.int .i64 x] 24):
  (results Tryz.f23 tmps).run Tryz.prog w= .ok (.tuple #[.agg (Zar k t (.slice none 0 0)),.int .i64 x]) w:=by
 have c0:=hB.cell 0
 have c1:=hB.cell 1
 have c2:=hB.cell 2
 have c3:=hB.cell 3
 have c4:=hB.cell 4
 have c5:=hB.cell 5
 have c6:=hB.cell 6
 have c7:=hB.cell 7
 have c8:=hB.cell 8
 have c9:=hB.cell 9
 have c10:=hB.cell 10
 have c11:=hB.cell 11
 have c12:=hB.cell 12
 have c13:=hB.cell 13
 have c14:=hB.cell 14
 have c15:=hB.cell 15
 have d0:=hQ.cell 0
 simp[Zar] at c0 c1 c2 c3 c4 c5 c6 c7 c8 c9 c10 c11 c12 c13 c14 c15 d0
 simp[results,go_sem,h2,h3,c0,c1,c2,c3,c4,c5,c6,c7,c8,c9,c10,c11,c12,c13,c14,c15,d0,Zar]
theorem Zi3 (w:World) (bo:Option Addr) (bc:Nat) (t:Int) (hl:ZbP w bo 8 bc (Zbq t)) (hne2:∀ a,bo=some a→a.block<w.heap.size) (ht:Za6 t=true) (htf:Za2 t 7=true):
  Calls Tryz.prog 23 #[.slice bo 8 bc] w fun e w'=>e= .returned (.tuple #[.agg (Zar 3 t (.slice none 0 0)),.int .i64 0])∧Below w.heap.size w w':=by
 have hmf:∀ (fn:Fn) (first cap:Array Value) (w:World),(Instr.makeFunc fn first cap).run Tryz.prog w= .ok (.func fn first cap) w:=fun _ _ _ _=>rfl
 have HT:=Zhd (Zan ht htf)
 obtain⟨W1,hW1⟩:∃ W1,W1=w.alloc (.cells (Zar 0 0 (.slice none 0 0)) 66):=⟨_,rfl⟩
 obtain⟨W2,hW2⟩:∃ W2,W2=W1.alloc (.cells #[.int .i64 0] 24):=⟨_,rfl⟩
 obtain⟨W3,hW3⟩:∃ W3,W3=W2.alloc (.cells (rdC bo 8 bc 0) 113):=⟨_,rfl⟩
 have hb1:Below w.heap.size w W1:=by rw[hW1];exact Zbr.alloc Zlr _
 have hb2:Below W1.heap.size W1 W2:=by rw[hW2];exact Zbr.alloc Zlr _
 have hb3:Below W2.heap.size W2 W3:=by rw[hW3];exact Zbr.alloc Zlr _
 have s1:W1.heap.size=w.heap.size+1:=by rw[hW1];exact Array.size_push _
 have s2:W2.heap.size=w.heap.size+2:=by rw[hW2];exact(Array.size_push _).trans (by rw[s1])
 have a1:Blk W1 w.heap.size (Zar 0 0 (.slice none 0 0)) 66:=by rw[hW1];exact Zha w _
 have a2:Blk W2 (w.heap.size+1) #[.int .i64 0] 24:=by rw[←s1,hW2];exact Zha W1 _
 have a3:Blk W3 (w.heap.size+2) (rdC bo 8 bc 0) 113:=by rw[←s2,hW3];exact Zha W2 _
 have b1:=(a1.on hb2).on hb3
 have b2:=a2.on hb3
 have hbw:=Zaa (Zaa hb1 hb2 (by omega)) hb3 (by omega)
 have hl3:=hl.below hbw Zlr
 have hg:=ZmZ t htf
 have he:=ZiW W3 (w.heap.size+2) bo 8 bc (Zbq t) hl3 (fun a ha=>by have:=hne2 a ha;omega) (fun a ha=>by have:=hne2 a ha;have:=hbw.size;omega) 0 t (by omega) hg.1 hg.2 a3
 rw[hW3,hW2,hW1] at he
 have HE:=Zhd he
 have H3:=Zhd (Zan hl3 (Zan b1 (Zan b2 (Zan hbw (Zan hne2 (Zan hW3 (Zan hW2 hW1)))))))
 clear hW1 hW2 hW3 hb1 hb2 hb3 s1 s2 a1 a2 a3 b1 b2 hbw hl3 hg he hl hne2 ht htf
 go_enter_defers Tryz.func23,Tryz.ntmps23
 go_upto_region 3 with(first
  |(refine wpList_store_row rfl 66 _ _ rfl w.heap.size (Zar 3 t (.slice none 0 0)) rfl rfl 66 (Zar 0 0 (.slice none 0 0)) H4.out.2.1 Za5 rfl (Zey 3 t) ?_;have hq:=ZaA H4.out.2.1 (Zar 3 t (.slice none 0 0));have hqg:=Zav W4 w.heap.size (Zar 3 t (.slice none 0 0));(try change wpList _ _ _ _ _ (W4.setRow w.heap.size (Zar 3 t (.slice none 0 0))));generalize W4.setRow w.heap.size (Zar 3 t (.slice none 0 0))=W5 at hq hqg⊢;have hq2:=H4.out.2.2.1.but hqg (by omega);have hl5:ZbP W5 bo 8 bc (Zbq t):=H4.out.1.grown hqg (fun a ha h=>by have:=H3.out.2.2.2.2.1 a ha;have:=Zsi h;omega);have H5:=Zhd (Zan hl5 (Zan hq (Zan hq2 (H4.out.2.2.2.trans (Zam hqg Zlr H4.out.2.2.2.size)))));clear hq hqg hq2 hl5)
  |(go_at_call 52;refine HE.out.mono ?_;rintro e W4 ⟨rfl,hr4,hg4⟩;rw[←H3.out.2.2.2.2.2.2.2,←H3.out.2.2.2.2.2.2.1,←H3.out.2.2.2.2.2.1] at hg4;have H4:=Zhd (show ZbP W4 bo 8 bc (Zbq t)∧Blk W4 w.heap.size (Zar 0 0 (.slice none 0 0)) 66∧Blk W4 (w.heap.size+1) #[.int .i64 0] 24∧Below w.heap.size w W4 from⟨H3.out.1.grown hg4 (fun a ha h=>by have:=H3.out.2.2.2.2.1 a ha;have:=Zsi h;omega),H3.out.2.1.but hg4 (by omega),H3.out.2.2.1.but hg4 (by omega),H3.out.2.2.2.1.trans (Zam hg4 (by omega) H3.out.2.2.2.1.size)⟩);clear hr4 hg4))
 go_wp2_with (first
  |(refine wpList_load_row rfl 66 _ rfl w.heap.size rfl 66 (Zar 3 t (.slice none 0 0)) (0,0) _ H7.out.2.1 Tryz.underlying66 rfl Za5 ?_)
  |(refine wpList_load_row rfl 66 _ rfl w.heap.size rfl 66 (Zar 3 t (.slice none 0 0)) (0,0) _ H5.out.2.1 Tryz.underlying66 rfl Za5 ?_)
  |(refine wpList_store_row rfl 66 _ _ rfl w.heap.size (Zar 3 t (.slice none 0 0)) rfl rfl 66 (Zar 3 t (.slice none 0 0)) H7.out.2.1 Za5 rfl (Zey 3 t) ?_;have hq:=ZaA H7.out.2.1 (Zar 3 t (.slice none 0 0));have hqg:=Zav W7 w.heap.size (Zar 3 t (.slice none 0 0));(try change wpList _ _ _ _ _ (W7.setRow w.heap.size (Zar 3 t (.slice none 0 0))));generalize W7.setRow w.heap.size (Zar 3 t (.slice none 0 0))=W8 at hq hqg⊢;have hq2:=H7.out.2.2.1.but hqg (by omega);have z0:W8.cell? ⟨w.heap.size+1,0,none⟩=some (.int .i64 0):=hq2.cell 0;have zf:W8.frozen? ⟨w.heap.size+1,0,none⟩=false:=hq2.free 0;have H8:=Zhd (Zan hq (Zan hq2 (H7.out.2.2.2.trans (Zam hqg Zlr H7.out.2.2.2.size))));clear hq hqg hq2)
  |(go_at_call 54;refine HQ.out.mono ?_;rintro e W7 ⟨rfl,rfl⟩)
  |(go_at_call 55;refine(Zjx W6 t HT.out.2 _ _ _ _ _ _ _ _ _ _ _ _ _ _).mono ?_;rintro e W7 ⟨⟨ao,c,rfl,ho⟩,hb⟩;clear c0 c1 c2 c3 c4 c5 c6 c7 c8 c9 c10 c11 c12 c13 c14 c15;have hl7:=H6.out.1.below hb Zlr;have hb7:=H6.out.2.1.on hb;have hq7:=H6.out.2.2.1.on hb;have HQ:=Zhd (ZfH W7 ao 8 c (Zbq t) ho.row bo 8 bc (Zbq t) hl7);rw[show decide (Zbq t=Zbq t)=true from Zdt rfl] at HQ;have H7:=Zhd (Zan hl7 (Zan hb7 (Zan hq7 (Zaa H6.out.2.2.2 hb Zlr))));clear ho hb hl7 hb7 hq7)
  |(go_at_call 53;refine(Zf7 W5 t).mono ?_;rintro e W6 ⟨rfl,hb⟩;rw[HT.out.1];have hl6:=H5.out.1.below hb Zlr;have hb6:=H5.out.2.1.on hb;have hq6:=H5.out.2.2.1.on hb;have c0:=hb6.cell 0;have c1:=hb6.cell 1;have c2:=hb6.cell 2;have c3:=hb6.cell 3;have c4:=hb6.cell 4;have c5:=hb6.cell 5;have c6:=hb6.cell 6;have c7:=hb6.cell 7;have c8:=hb6.cell 8;have c9:=hb6.cell 9;have c10:=hb6.cell 10;have c11:=hb6.cell 11;have c12:=hb6.cell 12;have c13:=hb6.cell 13;have c14:=hb6.cell 14;have c15:=hb6.cell 15;simp[Zar] at c0 c1 c2 c3 c4 c5 c6 c7 c8 c9 c10 c11 c12 c13 c14 c15;have H6:=Zhd (Zan hl6 (Zan hb6 (Zan hq6 (Zaa H5.out.2.2.2 hb Zlr))));clear hb hl6 hb6 hq6))
 refine leaves_cons (f:=51) (args:=#[.pointer (some ⟨w.heap.size,0,none⟩),.pointer (some ⟨w.heap.size+1,0,none⟩)]) (by simp) (by simp[go_sem]) ?_
 refine(ZkN ⟨w.heap.size,0,none⟩ ⟨w.heap.size+1,0,none⟩ _).mono ?_
 rintro e u' w'' ⟨rfl,rfl,rfl⟩
 have hgz:=Zag W8 (w.heap.size+1) 0 (.int .i64 0)
 have hB:=H8.out.1.but hgz (by omega)
 have hQ:=H8.out.2.1.set 0 (.int .i64 0)
 have hbel:=H8.out.2.2.trans (Zam hgz (by omega) H8.out.2.2.size)
 exact⟨_,Zkc rfl rfl hB hQ,rfl,hbel⟩
theorem Zi2 {tmps:Array Value} {w:World} {R Q:Nat} {ev:Array Value} {x:Int} (h2:tmps.getD 2 undef= .pointer (some ⟨R,0,none⟩)) (h3:tmps.getD 3 undef= .pointer (some ⟨Q,0,none⟩)) (hs:ev.size=16) (hB:Blk w R ev 66) (hQ:Blk w Q #[.int .i64 x] 24):
  (results Tryz.f23 tmps).run Tryz.prog w= .ok (.tuple #[.agg ev,.int .i64 x]) w:=by
 have hc:∀ i,i<16→w.cell? ⟨R,i,none⟩=some (ev.getD i undef):=fun i hi=>by
  rw[hB.cell i,Array.getElem?_eq_getElem (by omega),Array.getD_eq_getD_getElem?,Array.getElem?_eq_getElem (by omega),Option.getD_some]
 have d0:=hQ.cell 0
 simp at d0
 have h2':tmps[2]?=some (.pointer (some ⟨R,0,none⟩)):=by
  rw[Array.getD_eq_getD_getElem?] at h2
  cases h:tmps[2]? with
  |none=>rw[h] at h2;cases h2
  |some v=>rw[h] at h2;exact congrArg some h2
 have h3':tmps[3]?=some (.pointer (some ⟨Q,0,none⟩)):=by
  rw[Array.getD_eq_getD_getElem?] at h3
  cases h:tmps[3]? with
  |none=>rw[h] at h3;cases h3
  |some v=>rw[h] at h3;exact congrArg some h3
 have e:ev=#[ev.getD 0 undef,ev.getD 1 undef,ev.getD 2 undef,ev.getD 3 undef,ev.getD 4 undef,ev.getD 5 undef,ev.getD 6 undef,ev.getD 7 undef,ev.getD 8 undef,ev.getD 9 undef,ev.getD 10 undef,ev.getD 11 undef,ev.getD 12 undef,ev.getD 13 undef,ev.getD 14 undef,ev.getD 15 undef]:=Zcy ev 16 hs
 rw[e]
 have c0:=hc 0 (by omega);have c1:=hc 1 (by omega);have c2:=hc 2 (by omega);have c3:=hc 3 (by omega);have c4:=hc 4 (by omega);have c5:=hc 5 (by omega);have c6:=hc 6 (by omega);have c7:=hc 7 (by omega)
 have c8:=hc 8 (by omega);have c9:=hc 9 (by omega);have c10:=hc 10 (by omega);have c11:=hc 11 (by omega);have c12:=hc 12 (by omega);have c13:=hc 13 (by omega);have c14:=hc 14 (by omega);have c15:=hc 15 (by omega)
 generalize ev.getD 0 undef=v0 at*;generalize ev.getD 1 undef=v1 at*;generalize ev.getD 2 undef=v2 at*;generalize ev.getD 3 undef=v3 at*;generalize ev.getD 4 undef=v4 at*;generalize ev.getD 5 undef=v5 at*;generalize ev.getD 6 undef=v6 at*;generalize ev.getD 7 undef=v7 at*
 generalize ev.getD 8 undef=v8 at*;generalize ev.getD 9 undef=v9 at*;generalize ev.getD 10 undef=v10 at*;generalize ev.getD 11 undef=v11 at*;generalize ev.getD 12 undef=v12 at*;generalize ev.getD 13 undef=v13 at*;generalize ev.getD 14 undef=v14 at*;generalize ev.getD 15 undef=v15 at*
 simp[results,go_sem,h2',h3',c0,c1,c2,c3,c4,c5,c6,c7,c8,c9,c10,c11,c12,c13,c14,c15,d0]
theorem ZlL (w:World) (bo:Option Addr) (bc:Nat) (f:Zas) (hl:ZbP w bo (ZcY f).length bc (ZcY f)) (hbl:(ZcY f).length≤900000) (hne2:∀ a,bo=some a→a.block<w.heap.size) (hf:Zbl f=true):
  Calls Tryz.prog 23 #[.slice bo (ZcY f).length bc] w fun e w'=>(∃ h,e= .returned (.tuple #[.agg (ZbK h f),.int .i64 0])∧IsFact (Zak fT w') w' h f)∧Below w.heap.size w w':=by
 have hmf:∀ (fn:Fn) (first cap:Array Value) (w:World),(Instr.makeFunc fn first cap).run Tryz.prog w= .ok (.func fn first cap) w:=fun _ _ _ _=>rfl
 have HT:=Zhd (Zan hf True.intro)
 obtain⟨hg1,q,hF,hq2⟩:=ZpG (Zdw hf)
 obtain⟨l,hll⟩:∃ l,l=ZcY f:=⟨_,rfl⟩
 rw[←hll] at hl hbl hg1 hF hq2⊢
 obtain⟨bl,hbb⟩:∃ bl,bl=l.length:=⟨_,rfl⟩
 rw[←hbb] at hl hbl⊢
 have HLL:=Zhd (Zan hll hbb)
 obtain⟨W1,hW1⟩:∃ W1,W1=w.alloc (.cells (Zar 0 0 (.slice none 0 0)) 66):=⟨_,rfl⟩
 obtain⟨W2,hW2⟩:∃ W2,W2=W1.alloc (.cells #[.int .i64 0] 24):=⟨_,rfl⟩
 obtain⟨W3,hW3⟩:∃ W3,W3=W2.alloc (.cells (rdC bo bl bc 0) 113):=⟨_,rfl⟩
 have hb1:Below w.heap.size w W1:=by rw[hW1];exact Zbr.alloc Zlr _
 have hb2:Below W1.heap.size W1 W2:=by rw[hW2];exact Zbr.alloc Zlr _
 have hb3:Below W2.heap.size W2 W3:=by rw[hW3];exact Zbr.alloc Zlr _
 have s1:W1.heap.size=w.heap.size+1:=by rw[hW1];exact Array.size_push _
 have s2:W2.heap.size=w.heap.size+2:=by rw[hW2];exact(Array.size_push _).trans (by rw[s1])
 have a1:Blk W1 w.heap.size (Zar 0 0 (.slice none 0 0)) 66:=by rw[hW1];exact Zha w _
 have a2:Blk W2 (w.heap.size+1) #[.int .i64 0] 24:=by rw[←s1,hW2];exact Zha W1 _
 have a3:Blk W3 (w.heap.size+2) (rdC bo bl bc 0) 113:=by rw[←s2,hW3];exact Zha W2 _
 have b1:=(a1.on hb2).on hb3
 have b2:=a2.on hb3
 have hbw:=Zaa (Zaa hb1 hb2 (by omega)) hb3 (by omega)
 have hl3:=hl.below hbw Zlr
 have he:=ZlG W3 (w.heap.size+2) bo bl bc l hl3 hbl (fun a ha=>⟨by have:=hne2 a ha;omega,by have:=hne2 a ha;have:=hbw.size;omega⟩) 0 f q (by omega) hg1 hF hq2 (ZqT hf) a3
 rw[hW3,hW2,hW1] at he
 have HE:=Zhd he
 have H3:=Zhd (Zan hl3 (Zan b1 (Zan b2 (Zan hbw (Zan hne2 (Zan hW3 (Zan hW2 hW1)))))))
 clear hW1 hW2 hW3 hb1 hb2 hb3 s1 s2 a1 a2 a3 b1 b2 hbw hl3 he hl hne2 hll hbb hg1 hF hq2 hf
 go_enter_defers Tryz.func23,Tryz.ntmps23
 go_upto_region 3 with(first
  |(refine wpList_store_row rfl 66 _ _ rfl w.heap.size (ZbK h f) rfl rfl 66 (Zar 0 0 (.slice none 0 0)) H4.out.2.1 Za5 rfl (Zfw h f) ?_;have hq:=ZaA H4.out.2.1 (ZbK h f);have hqg:=Zav W4 w.heap.size (ZbK h f);have hsm:=Same.but (T:=fT) hqg H4.out.2.1 (by decide);(try change wpList _ _ _ _ _ (W4.setRow w.heap.size (ZbK h f)));generalize W4.setRow w.heap.size (ZbK h f)=W5 at hq hqg hsm⊢;have H5:=Zhd (show ZbP W5 bo bl bc l∧Blk W5 w.heap.size (ZbK h f) 66∧Blk W5 (w.heap.size+1) #[.int .i64 0] 24∧Below w.heap.size w W5∧IsFact (Zak fT W5) W5 h f from⟨H4.out.1.grown hqg (fun a ha h=>by have:=H3.out.2.2.2.2.1 a ha;have:=Zsi h;omega),hq,H4.out.2.2.1.but hqg (by omega),H4.out.2.2.2.1.trans (Zam hqg Zlr H4.out.2.2.2.1.size),H4.out.2.2.2.2.step hsm⟩);clear hq hqg hsm)
  |(go_at_call 52;refine HE.out.mono ?_;rintro e W4 ⟨⟨h,rfl,hI⟩,hg4⟩;rw[←H3.out.2.2.2.2.2.2.2,←H3.out.2.2.2.2.2.2.1,←H3.out.2.2.2.2.2.1] at hg4;have H4:=Zhd (show ZbP W4 bo bl bc l∧Blk W4 w.heap.size (Zar 0 0 (.slice none 0 0)) 66∧Blk W4 (w.heap.size+1) #[.int .i64 0] 24∧Below w.heap.size w W4∧IsFact (Zak fT W4) W4 h f from⟨H3.out.1.grown hg4 (fun a ha h=>by have:=H3.out.2.2.2.2.1 a ha;have:=Zsi h;omega),H3.out.2.1.but hg4 (by omega),H3.out.2.2.1.but hg4 (by omega),H3.out.2.2.2.1.trans (Zam hg4 (by omega) H3.out.2.2.2.1.size),hI⟩);clear hg4 hI))
 go_wp2_with (first
  |(refine wpList_load_row rfl 66 _ rfl w.heap.size rfl 66 (ZbK h f) (0,0) _ H7.out.2.1 Tryz.underlying66 rfl Za5 ?_)
  |(refine wpList_load_row rfl 66 _ rfl w.heap.size rfl 66 (ZbK h f) (0,0) _ H5.out.2.1 Tryz.underlying66 rfl Za5 ?_)
  |(refine wpList_store_row rfl 66 _ _ rfl w.heap.size (ZbK h f) rfl rfl 66 (ZbK h f) H7.out.2.1 Za5 rfl (Zfw h f) ?_;have hq:=ZaA H7.out.2.1 (ZbK h f);have hqg:=Zav W7 w.heap.size (ZbK h f);have hsm:=Same.but (T:=fT) hqg H7.out.2.1 (by decide);(try change wpList _ _ _ _ _ (W7.setRow w.heap.size (ZbK h f)));generalize W7.setRow w.heap.size (ZbK h f)=W8 at hq hqg hsm⊢;have hq2:=H7.out.2.2.1.but hqg (by omega);have z0:W8.cell? ⟨w.heap.size+1,0,none⟩=some (.int .i64 0):=hq2.cell 0;have zf:W8.frozen? ⟨w.heap.size+1,0,none⟩=false:=hq2.free 0;have H8:=Zhd (Zan hq (Zan hq2 (Zan (H7.out.2.2.2.1.trans (Zam hqg Zlr H7.out.2.2.2.1.size)) (show IsFact (Zak fT W8) W8 h f from H7.out.2.2.2.2.step hsm))));clear hq hqg hq2 hsm)
  |(go_at_call 54;refine HQ.out.mono ?_;rintro e W7 ⟨rfl,rfl⟩)
  |(go_at_call 55;refine(Zn2 W6 h f (H6.out.2.2.2.2.mono (fun b hb _=>hb)) (Zdw HT.out.1)).mono ?_;rintro e W7 ⟨⟨ao,c,rfl,ho⟩,hb⟩;rw[←HLL.out.1,←HLL.out.2] at ho⊢;clear c0 c1 c2 c3 c4 c5 c6 c7 c8 c9 c10 c11 c12 c13 c14 c15;have hl7:=H6.out.1.below hb Zlr;have HQ:=Zhd (ZfH W7 ao bl c l ho.row bo bl bc l hl7);rw[show decide (l=l)=true from Zdt rfl] at HQ;have H7:=Zhd (show ZbP W7 bo bl bc l∧Blk W7 w.heap.size (ZbK h f) 66∧Blk W7 (w.heap.size+1) #[.int .i64 0] 24∧Below w.heap.size w W7∧IsFact (Zak fT W7) W7 h f from⟨H6.out.1.below hb Zlr,H6.out.2.1.on hb,H6.out.2.2.1.on hb,Zaa H6.out.2.2.2.1 hb Zlr,H6.out.2.2.2.2.step (Same.below hb _)⟩);clear ho hb hl7)
  |(go_at_call 53;refine(ZhJ W5 _ h f H5.out.2.2.2.2).mono ?_;rintro e W6 ⟨rfl,hb⟩;rw[HT.out.1];have hb6:=H5.out.2.1.on hb;have c0:=hb6.cell 0;have c1:=hb6.cell 1;have c2:=hb6.cell 2;have c3:=hb6.cell 3;have c4:=hb6.cell 4;have c5:=hb6.cell 5;have c6:=hb6.cell 6;have c7:=hb6.cell 7;have c8:=hb6.cell 8;have c9:=hb6.cell 9;have c10:=hb6.cell 10;have c11:=hb6.cell 11;have c12:=hb6.cell 12;have c13:=hb6.cell 13;have c14:=hb6.cell 14;have c15:=hb6.cell 15;simp[ZbK] at c0 c1 c2 c3 c4 c5 c6 c7 c8 c9 c10 c11 c12 c13 c14 c15;have H6:=Zhd (show ZbP W6 bo bl bc l∧Blk W6 w.heap.size (ZbK h f) 66∧Blk W6 (w.heap.size+1) #[.int .i64 0] 24∧Below w.heap.size w W6∧IsFact (Zak fT W6) W6 h f from⟨H5.out.1.below hb Zlr,H5.out.2.1.on hb,H5.out.2.2.1.on hb,Zaa H5.out.2.2.2.1 hb Zlr,H5.out.2.2.2.2.step (Same.below hb _)⟩);clear hb hb6))
 refine leaves_cons (f:=51) (args:=#[.pointer (some ⟨w.heap.size,0,none⟩),.pointer (some ⟨w.heap.size+1,0,none⟩)]) (by simp) (by simp[go_sem]) ?_
 refine(ZkN ⟨w.heap.size,0,none⟩ ⟨w.heap.size+1,0,none⟩ _).mono ?_
 rintro e u' w'' ⟨rfl,rfl,rfl⟩
 have hgz:=Zag W8 (w.heap.size+1) 0 (.int .i64 0)
 have hsm:=Same.but (T:=fT) hgz H8.out.2.1 (by decide)
 have hB:=H8.out.1.but hgz (by omega)
 have hQ:=H8.out.2.1.set 0 (.int .i64 0)
 have hbel:=H8.out.2.2.1.trans (Zam hgz (by omega) H8.out.2.2.1.size)
 have hI:=H8.out.2.2.2.step hsm
 exact⟨_,Zi2 rfl rfl rfl hB hQ,⟨h,rfl,hI⟩,hbel⟩
theorem Zny (w:World) (S:Nat→Prop) (B C:Nat) (most stale:Int) (k:Nat) (L:List ZaP) (hC:IsCache B w C most stale k L) (hk:k<4000000000000000000) (hL:L.length<100000) (h:ZaU) (f:Zas) (hf:IsFact S w h f) (hl:Zmy f):
  Calls Tryz.prog 56 #[.pointer (some ⟨C,0,none⟩),.agg (Zaj h f)] w fun e w'=>e= .returned (.bool (Zbl f))∧Left B w w'∧(Zbl f=true→∃ b kk,IsCache B w' C most stale (k+1) (ZfB most (ZdH L (Zax f)++[⟨b,kk,f,k+1⟩])))∧(Zbl f=false→IsCache B w' C most stale k L):=by
 have hb1:Below w.heap.size w (w.alloc (.cells (Zaj h f) 37)):=Zbr.alloc Zlr _
 have hA:Blk (w.alloc (.cells (Zaj h f) 37)) w.heap.size (Zaj h f) 37:=Zha w _
 have hBw:B≤w.heap.size:=by
  obtain⟨M,h1,_⟩:=hC.ex
  have:=hC.base
  have:=h1.lt
  omega
 have HA:=Zhd hA
 have HB:=Zhd (Zan hb1 hBw)
 have HCC:=Zhd hC
 have HF1:=Zhd (hf.on hb1)
 have HV:=Zhd (Zan hl (Zan hk hL))
 obtain⟨m0,m1,m2,m3,m4,m5,m6,m7,m8,m9,m10,m11,m12⟩:=Zc13 (show Blk ((w.alloc (.cells (Zaj h f) 37))) w.heap.size _ _ from hA)
 have HS:=Zhd (ZdE _ S _ _ HF1.out)
 clear hA hC hf hl hb1 hk hL hBw
 cases hFB:Zbl f with
 |false=>
  rw[hFB] at HS
  go_enter Tryz.func56,Tryz.ntmps56
  simp only[Zaj]
  go_wp2_with (go_at_call 58;refine HS.out.mono ?_;rintro e W ⟨rfl,hb⟩;have HW:=Zhd (Zaa HB.out.1 hb Zlr);clear hb)
  go_ret
  exact⟨rfl,Left.below HW.out HB.out.2,fun e=>absurd e (by simp),fun _=>HCC.out.on HW.out⟩
 |true=>
  rw[hFB] at HS
  go_enter Tryz.func56,Tryz.ntmps56
  simp only[Zaj]
  go_wp2_with (first|(go_at_call 58;go_loud (refine HS.out.mono ?_;rintro e W ⟨rfl,hb⟩;have HW:=Zhd (Zaa HB.out.1 hb Zlr);have hAW:=HA.out.on hb;have HFW:=Zhd (HF1.out.on hb);clear m0 m1 m2 m3 m4 m5 m6 m7 m8 m9 m10 m11 m12;have n0:W.cell? ⟨w.heap.size,0,none⟩=some (.slice h.na h.nl h.nc):=hAW.cell 0;have n1:W.cell? ⟨w.heap.size,1,none⟩=some (.int .i64 f.typ):=hAW.cell 1;have n2:W.cell? ⟨w.heap.size,2,none⟩=some (.int .i64 f.kind):=hAW.cell 2;have n3:W.cell? ⟨w.heap.size,3,none⟩=some (.int .i64 f.rank):=hAW.cell 3;have n4:W.cell? ⟨w.heap.size,4,none⟩=some (.int .i64 f.got):=hAW.cell 4;have n5:W.cell? ⟨w.heap.size,5,none⟩=some (.int .i64 f.ttl):=hAW.cell 5;have n6:W.cell? ⟨w.heap.size,6,none⟩=some (.slice h.sa h.sl h.sc):=hAW.cell 6;have n7:W.cell? ⟨w.heap.size,7,none⟩=some (.slice h.za h.zl h.zc):=hAW.cell 7;have n8:W.cell? ⟨w.heap.size,8,none⟩=some (.slice h.d.ba h.d.bl h.d.bc):=hAW.cell 8;have n9:W.cell? ⟨w.heap.size,9,none⟩=some (.slice h.d.ha h.d.hl h.d.hc):=hAW.cell 9;have n10:W.cell? ⟨w.heap.size,10,none⟩=some (.slice h.d.ma h.d.ml h.d.mc):=hAW.cell 10;have n11:W.cell? ⟨w.heap.size,11,none⟩=some (.slice h.d.na h.d.nl h.d.nc):=hAW.cell 11;have n12:W.cell? ⟨w.heap.size,12,none⟩=some (.slice h.d.ta h.d.tl h.d.tc):=hAW.cell 12;clear hb hAW))|(go_at_call 61;go_loud (refine(Zij W S B C most stale k L (HCC.out.on HW.out) HV.out.2.1 HV.out.2.2 h f HFW.out hFB HV.out.1).mono ?_;rintro e V2 ⟨rfl,b,kk,hI,hL⟩;have HQ:=Zhd (Zan hI hL);clear hI hL)))
  go_ret
  exact⟨rfl,(Left.below HW.out HB.out.2).trans HQ.out.2,fun _=>⟨b,kk,HQ.out.1⟩,fun e=>absurd e (by simp)⟩
end Go.Proofs.YtjpefpclmndgeaaGreat

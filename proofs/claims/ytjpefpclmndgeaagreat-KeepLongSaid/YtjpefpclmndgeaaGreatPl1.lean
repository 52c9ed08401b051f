/- Contracts of the given program's functions, in the order in which they are proved. -/
import Derived.WalkKit
import Derived.ProofKit
import Derived.Lib.Hide
import Derived.SliceStrings
import Derived.Laws.AppendOwnNone
import Derived.Deep.Draws
import Derived.Test.YtjpefpclmndgeaaGreatChecked
import Derived.Test.YtjpefpclmndgeaaGreatRows
import Derived.SizedLaws
import Derived.OpenShut
import Derived.ShutString
import Derived.ChangeOld
import Derived.Laws.Rows
import Derived.Lib.Builder
import Derived.Lib.ConvBytes
import Derived.Deep.RegionHeld3
import Derived.BigQuiet
import Derived.Deep.QuietTactic
import Derived.WalkSpells
import Derived.ChangeArms
import Derived.Deep.Slices
import Derived.Laws.CopyOwn
import Derived.Laws.MakeOwn
import Derived.Laws.BitsAllLaws
import Derived.Lib.AppendZerosOnto
import Derived.Maps.AppendAt
import Derived.Lib.AppendStr
import Derived.Lib.UnsafeStr
import Derived.Lib.Strings
import Derived.Lib.Slices
import Derived.Lib.Walk
import Derived.Laws.Externs
import Derived.Laws.BytesArg
import Derived.Laws.BytesString
import Derived.Orders
import Derived.RegionTactic
namespace Go.Proofs.YtjpefpclmndgeaaGreat
set_option maxHeartbeats 64000000
set_option maxRecDepth 100000
open Go.ChangeShapes Go.WideShapes Go.ChangeAt Go.RowKit
theorem Zhd {p:Prop} (h:p):Hid p:=Lib.hid h
theorem Zan {a b:Prop} (h:a) (k:b):a∧b:=⟨h,k⟩
theorem Zlr {n:Nat}:n≤n:=Nat.le_refl n
theorem Zbr {B:Nat} {w:World}:Below B w w:=Below.refl B w
theorem Zha (w:World) (o:Obj):(w.alloc o).heap[w.heap.size]?=some o:=heap_alloc_new w o
theorem Zla {α:Type} {xs ys:List α}:(xs++ys).length=xs.length+ys.length:=List.length_append
theorem Zsi {α:Type} {a b:α} (h:some a=some b):a=b:=Option.some.inj h
theorem Zae2 (a b:Bool):((a&&b)=true)=(a=true∧b=true):=Bool.and_eq_true a b
theorem Zde {p:Prop} [Decidable p]:(decide p=true)=p:=decide_eq_true_eq
theorem Zdf {p:Prop} [Decidable p] (h:¬p):decide p=false:=decide_eq_false h
theorem Zdt {p:Prop} [Decidable p] (h:p):decide p=true:=decide_eq_true h
theorem Zaf {a b:Bool} (h:a=b):Ending.returned (.bool a)= .returned (.bool b):=by rw[h]
theorem Zbh {k:IntKind} {a b:Int} (h:a=b):Ending.returned (.int k a)= .returned (.int k b):=by rw[h]
structure Row (w:World) (ao:Option Addr) (len cap:Nat) (vs:List Value):Prop where
 hlen:vs.length=len
 hle:len≤cap
 hcap:cap≤9223372036854775807
 hmax:len≤140737488355328
 hnil:ao=none→cap=0
 hcells:0<len→∃ b off,ao=some ⟨b,off,none⟩∧∀ i (h:i<vs.length),w.cell? ⟨b,off+i,none⟩=some vs[i]
theorem Row.empty {w:World} {ao:Option Addr} {cap:Nat} (h:cap≤9223372036854775807) (hn:ao=none→cap=0):Row w ao 0 cap []:=
 ⟨rfl,Nat.zero_le _,h,by omega,hn,fun h=>absurd h (by omega)⟩
theorem Row.lt {w:World} {b off:Nat} {len cap:Nat} {vs:List Value} (h:Row w (some ⟨b,off,none⟩) len cap vs) (h0:0<len):b<w.heap.size:=by
 obtain⟨b',off',e,hc⟩:=h.hcells h0
 cases e
 exact World.block_lt_of_cell? w _ (hc 0 (by have:=h.hlen;omega))
theorem Row.below {w w':World} {ao:Option Addr} {len cap:Nat} {vs:List Value} (h:Row w ao len cap vs) {B:Nat} (hb:Below B w w') (hB:w.heap.size≤B):Row w' ao len cap vs:=by
 refine⟨h.hlen,h.hle,h.hcap,h.hmax,h.hnil,fun h0=>?_⟩
 obtain⟨b,off,e,hc⟩:=h.hcells h0
 refine⟨b,off,e,fun i hi=>?_⟩
 have:=World.block_lt_of_cell? w _ (hc i hi)
 rw[hb.cell (p:=⟨b,off+i,none⟩) (by simp at this⊢;omega)]
 exact hc i hi
theorem Row.at {w:World} {b off:Nat} {len cap:Nat} {vs:List Value} (h:Row w (some ⟨b,off,none⟩) len cap vs) {i:Nat} (hi:i<len):w.cell? ⟨b,off+i,none⟩=some (vs[i]'(by have:=h.hlen;omega)):=by
 obtain⟨b',off',e,hc⟩:=h.hcells (by omega)
 cases e
 exact hc i (by have:=h.hlen;omega)
theorem Row.split {w:World} {ao:Option Addr} {len cap:Nat} {vs:List Value} (h:Row w ao len cap vs):len=0∨∃ b off,0<len∧ao=some ⟨b,off,none⟩:=by
 rcases Nat.eq_zero_or_pos len with h0|h0
 ·exact .inl h0
 ·obtain⟨b,off,e,_⟩:=h.hcells h0
  exact .inr ⟨b,off,h0,e⟩
theorem Row.addr {w:World} {ao:Option Addr} {len cap:Nat} {vs:List Value} (h:Row w ao len cap vs) {k:Nat} (hk:k<len):∃ b off,ao=some ⟨b,off,none⟩:=by
 obtain⟨b,off,e,_⟩:=h.hcells (by omega)
 exact⟨b,off,e⟩
theorem Zab {w w':World} {p:Addr} {v:Value} (hb:Below w.heap.size w w') (h:w.cell? p=some v):w'.cell? p=some v:=by
 rw[hb.cell (World.block_lt_of_cell? w _ h)];exact h
theorem Zaa {w w1 w2:World} {B:Nat} (h1:Below B w w1) (h2:Below w1.heap.size w1 w2) (hB:B≤w.heap.size):Below B w w2:=
 h1.trans (h2.mono (Nat.le_trans hB h1.size))
structure Strs (w:World) (ao:Option Addr) (len cap:Nat) (ss:List ByteArray):Prop where
 row:Row w ao len cap (ss.map .string)
 small:∀ s∈ss,s.size≤9223372036854775807
theorem Strs.len {w:World} {ao:Option Addr} {len cap:Nat} {ss:List ByteArray} (h:Strs w ao len cap ss):ss.length=len:=by simpa using h.row.hlen
theorem Strs.below {w w':World} {ao:Option Addr} {len cap:Nat} {ss:List ByteArray} (h:Strs w ao len cap ss) {B:Nat} (hb:Below B w w') (hB:w.heap.size≤B):Strs w' ao len cap ss:=⟨h.row.below hb hB,h.small⟩
theorem Strs.at {w:World} {b off:Nat} {len cap:Nat} {ss:List ByteArray} (h:Strs w (some ⟨b,off,none⟩) len cap ss) {i:Nat} (hi:i<len):w.cell? ⟨b,off+i,none⟩=some (.string (ss[i]'(by have:=h.len;omega))):=by
 rw[h.row.at hi];simp
theorem Strs.get_small {w:World} {ao:Option Addr} {len cap:Nat} {ss:List ByteArray} (h:Strs w ao len cap ss) {i:Nat} (hi:i<ss.length):(ss[i]).size≤9223372036854775807:=h.small _ (List.getElem_mem hi)
theorem Row.drop {w:World} {ao:Option Addr} {len cap:Nat} {vs:List Value} (h:Row w ao len cap vs) {k:Nat} (hk:k≤len) (ao':Option Addr) (he:k<len→∀ b off,ao=some ⟨b,off,none⟩→ao'=some ⟨b,off+k,none⟩) (hn:ao'=none→cap-k=0):Row w ao' (len-k) (cap-k) (vs.drop k):=by
 have hl:=h.hlen
 refine⟨by simp[hl],by have:=h.hle;omega,by have:=h.hcap;omega,by have:=h.hmax;omega,hn,fun h0=>?_⟩
 obtain⟨b,off,e,hc⟩:=h.hcells (by omega)
 refine⟨b,off+k,he (by omega) b off e,fun i hi=>?_⟩
 have hi':k+i<vs.length:=by simp at hi;omega
 have:=hc (k+i) hi'
 rw[show off+k+i=off+(k+i) from by omega,this]
 simp
theorem Strs.drop {w:World} {ao:Option Addr} {len cap:Nat} {ss:List ByteArray} (h:Strs w ao len cap ss) {k:Nat} (hk:k≤len) (ao':Option Addr) (he:k<len→∀ b off,ao=some ⟨b,off,none⟩→ao'=some ⟨b,off+k,none⟩) (hn:ao'=none→cap-k=0):Strs w ao' (len-k) (cap-k) (ss.drop k):=
 ⟨by rw[List.map_drop];exact h.row.drop hk ao' he hn,fun s hs=>h.small s (List.mem_of_mem_drop hs)⟩
theorem ZbB (b off k:Nat):(⟨b,off,none⟩:Addr).add k=⟨b,off+k,none⟩:=by unfold Addr.add;split<;>simp_all
theorem Row.cut {w:World} {ao:Option Addr} {len cap:Nat} {vs:List Value} (h:Row w ao len cap vs) {k:Nat} (hk:k≤len):Row w (Option.map (fun x=>x.add k) ao) (len-k) (cap-k) (vs.drop k):=
 h.drop hk _ (fun _ b off e=>by subst e;simp[ZbB]) (fun e=>by cases ao with|none=>simp[h.hnil rfl]|some a=>simp at e)
theorem Row.cut0 {w:World} {ao:Option Addr} {len cap:Nat} {vs:List Value} (h:Row w ao len cap vs) {k:Nat} (hk:k≤len) (hc:cap=k):Row w ao (len-k) 0 (vs.drop k):=by
 have:=h.drop hk ao (fun h1=>absurd h.hle (by omega)) (fun _=>by omega)
 rwa [show cap-k=0 from by omega] at this
theorem Strs.cut {w:World} {ao:Option Addr} {len cap:Nat} {ss:List ByteArray} (h:Strs w ao len cap ss) {k:Nat} (hk:k≤len):Strs w (Option.map (fun x=>x.add k) ao) (len-k) (cap-k) (ss.drop k):=
 ⟨by rw[List.map_drop];exact h.row.cut hk,fun s hs=>h.small s (List.mem_of_mem_drop hs)⟩
theorem Strs.cut0 {w:World} {ao:Option Addr} {len cap:Nat} {ss:List ByteArray} (h:Strs w ao len cap ss) {k:Nat} (hk:k≤len) (hc:cap=k):Strs w ao (len-k) 0 (ss.drop k):=
 ⟨by rw[List.map_drop];exact h.row.cut0 hk hc,fun s hs=>h.small s (List.mem_of_mem_drop hs)⟩
theorem Zao {P:Program} {w:World} {ops:Array Oper} {rest:List Oper} {o:Oper} {a:Act} {Q:Exit→Act→World→Prop} (hgd:o.guard=none) (s x:Operand) (t:TypeId)
  (ho:o.op= .call {callee:= .builtin .append,args:=#[s,x],argTypes:=#[t,t]}) (v xv:Value) (hs:a.eval s=v) (hx:a.eval x=xv) {v':Value} {w':World}
  (hrun:(Builtin.append_ #[t,t] o.type #[v,xv]).run P w= .ok v' w') (h:wpList P ops Q rest (a.put o.dst v') w'):wpList P ops Q (o::rest) a w:=by
 refine wpList_plain hgd fun K hK=>?_
 unfold Oper.wp
 simp[execOp,ho,resolve,invoke,builtin,hs,hx,hrun,Result.andThen]
 exact hK _ _ h
theorem Zba {P:Program} (w:World) (base:Nat) (t ty e:TypeId) (i:TypeInfo) (z:Value) (bytes:Nat) (ht:P.underlying t=some (.slice e)) (hi:P.info? e=some i) (hz:i.zero=some z)
  (hsize:i.size=1) (hby:i.bytes=bytes) (hzs:z.cells.size=1) (v:Value) (n:Nat) (xs:List Value) (hown:w.ownsRow base e 1 v n xs)
  (ao:Option Addr) (m c:Nat) (news:List Value) (hr:Row w ao m c news) (h1:∀ u∈news,u.oneCell'=true) (h63:n+m≤9223372036854775807) (hbytes:(n+m)*bytes≤140737488355328) (hbase:base≤w.heap.size):
  ∃ v' w',(Builtin.append_ #[t,t] ty #[v,.slice ao m c]).run P w= .ok v' w'∧w'.ownsRow base e 1 v' (n+m) (xs++news)∧w.grownBy w' v.ownBlock:=by
 have hl:=hr.hlen
 cases ao with
 |none=>
  have hc:=hr.hnil rfl
  have hm:m=0:=by have:=hr.hle;omega
  subst hc;subst hm
  obtain rfl:news=[]:=List.eq_nil_of_length_eq_zero hl
  exact⟨v,w,run_append_owned_none (P:=P) (w:=w) base t ty e i 1 ht hi v n xs hown,by simpa using hown,World.grownBy.refl _ _⟩
 |some a=>
  obtain⟨v',w',h2,h3,h4,_⟩:=run_append_own (P:=P) w base t ty e i z 1 bytes ht hi hz hsize hby hzs (by decide) v n xs hown a m c news (by omega) (by
   intro j u hj
   have hj':j<news.length:=by
    rcases Nat.lt_or_ge j news.length with h|h
    ·exact h
    ·rw[List.getElem?_eq_none h] at hj;cases hj
   obtain⟨b,off,e',hc⟩:=hr.hcells (by omega)
   cases e'
   rw[ZbB,hc j hj',←hj,List.getElem?_eq_getElem hj']) h1 (by unfold maxLen;omega) hbytes hbase
  exact⟨v',w',h2,h3,h4⟩
theorem ZbG {w:World} {base:Nat} {e:TypeId} {v:Value} {n:Nat} {xs:List Value} (h:w.ownsRow base e 1 v n xs) (hmx:n≤140737488355328):
  ∃ ao cap,v= .slice ao n cap∧Row w ao n cap xs:=by
 obtain⟨h1,h2⟩:=h
 rcases h2 with⟨rfl,rfl⟩|⟨g,cap,cur,rfl,hg,hh,hn,hm,hs,ht⟩
 ·exact⟨none,0,rfl,by omega,Nat.le_refl _,by omega,by omega,fun _=>rfl,fun h0=>absurd h0 (by omega)⟩
 ·refine⟨_,_,rfl,by omega,hn,hm,hmx,fun e=>(by cases e),fun h0=>⟨g,0,rfl,fun i hi=>?_⟩⟩
  have hi':i<cur.size:=by omega
  simp only[World.cell?,hh,Nat.zero_add]
  have e1:xs[i]?=cur[i]?:=by
   rw[←ht,List.getElem?_take,if_pos (by omega)]
   simp
  rw[List.getElem?_eq_getElem hi] at e1
  simpa using e1.symm
theorem ZjM {w:World} {base:Nat} {e:TypeId} {v:Value} {n:Nat} {ss:List ByteArray} (h:w.ownsRow base e 1 v n (ss.map .string)) (hmx:n≤140737488355328) (hs:∀ s∈ss,s.size≤9223372036854775807):
  ∃ ao cap,v= .slice ao n cap∧Strs w ao n cap ss:=by
 obtain⟨ao,cap,e,hr⟩:=ZbG h hmx
 exact⟨ao,cap,e,hr,hs⟩
theorem Zft {w w':World} {base:Nat} {e:TypeId} {size:Nat} {v:Value} {n:Nat} {xs:List Value} (h:w.ownsRow base e size v n xs) (hb:Below w.heap.size w w'):w'.ownsRow base e size v n xs:=
 h.kept (row:=none) ⟨hb.os,hb.tape,hb.output,hb.size,fun k hk _=>hb.block k hk⟩ (by cases v.ownBlock<;>simp)
theorem ZfS (w:World) (x:Value) (e:TypeId):Row (w.alloc (.cells #[x] e)) (some ⟨w.heap.size,0,none⟩) 1 1 [x]:=by
 refine⟨rfl,Nat.le_refl _,by omega,by omega,fun e=>(by cases e),fun h0=>⟨w.heap.size,0,rfl,fun i hi=>?_⟩⟩
 have:=World.cell?_alloc_new w #[x] e i
 rw[Nat.zero_add,this]
 simp at hi
 subst hi
 rfl
theorem Zbf {B:Nat} {a w:World} (h:Below B a w) (n:Nat):Below B a (w.drewN n):=h.trans ⟨rfl,rfl,rfl,Nat.le_refl _,fun _ _=>rfl⟩
def Zqn (w:World) (ss:List ByteArray) (e:Ending) (w':World):Prop:=
 ∃ ao cap,e= .returned (.slice ao ss.length cap)∧Strs w' ao ss.length cap ss∧Below w.heap.size w w'
def Za2 (n:Int) (size:Nat):Bool:=decide (0≤n)&&decide (n<256^size)
theorem ZqF {n d:Int} {k:Nat} (h0:0≤n) (h:(256:Int)^k=d) (hd:0<d):(n/d==0)=Za2 n k:=by
 subst h
 simp only[Za2,h0,decide_true,Bool.true_and]
 by_cases hl:n<256^k
 ·rw[Int.ediv_eq_zero_of_lt h0 hl];simp[hl]
 ·have h1: ¬n/256^k=0:=by
   intro e
   have:=Int.lt_ediv_add_one_mul_self n hd
   rw[e] at this
   omega
  simp[hl,h1]
theorem Zfh (w:World) (n:Int) (size:Nat) (hs:1≤size) (hs7:size≤7):
  Calls Tryz.prog 86 #[.int .i64 n,.int .i64 (size:Int)] w fun e w'=>e= .returned (.bool (Za2 n size))∧w'=w:=by
 by_cases h0:0≤n
 ·have hz:size=1∨size=2∨size=3∨size=4∨size=5∨size=6∨size=7:=by omega
  rcases hz with rfl|rfl|rfl|rfl|rfl|rfl|rfl
  all_goals
   first|simp only[Int.cast_ofNat_Int]|simp only[Int.natCast_one]
   go_enter Tryz.func86,Tryz.ntmps86
   go_wp2_with fail
   go_ret
   exact⟨Zaf (ZqF h0 (by decide) (by decide)),rfl⟩
 ·have hf:Za2 n size=false:=by simp[Za2,h0]
  have hd:decide ((0:Int)≤n)=false:=by simpa using h0
  have hd1:decide ((1:Int)≤(size:Int))=true:=by simp;omega
  have hd7:decide ((size:Int)≤(7:Int))=true:=by simp;omega
  clear h0
  rw[hf]
  clear hf
  go_enter Tryz.func86,Tryz.ntmps86
  go_wp2_with fail
  go_ret
  exact⟨rfl,rfl⟩
theorem own:ownKnob Tryz.prog.godebug=none:=by kernel_rfl
theorem Row.grown {w w':World} {ao:Option Addr} {len cap:Nat} {vs:List Value} {row:Option Nat} (h:Row w ao len cap vs) (hg:w.grownBy w' row) (hne:∀ a,ao=some a→some a.block≠row):Row w' ao len cap vs:=by
 refine⟨h.hlen,h.hle,h.hcap,h.hmax,h.hnil,fun h0=>?_⟩
 obtain⟨b,off,e,hc⟩:=h.hcells h0
 exact⟨b,off,e,fun i hi=>hg.cell (a:=⟨b,off+i,none⟩) (hc i hi) (hne ⟨b,off,none⟩ e)⟩
theorem Strs.grown {w w':World} {ao:Option Addr} {len cap:Nat} {ss:List ByteArray} {row:Option Nat} (h:Strs w ao len cap ss) (hg:w.grownBy w' row) (hne:∀ a,ao=some a→some a.block≠row):Strs w' ao len cap ss:=⟨h.row.grown hg hne,h.small⟩
def Elem (B:Nat) (w:World) (v:Value) (ns:List ByteArray):Prop:=∃ ao cap,v= .slice ao ns.length cap∧Strs w ao ns.length cap ns∧∀ a,ao=some a→B<a.block
theorem Elem.below {B B':Nat} {w w':World} {v:Value} {ns:List ByteArray} (h:Elem B w v ns) (hb:Below B' w w') (hB:w.heap.size≤B'):Elem B w' v ns:=by
 obtain⟨ao,cap,e,hs,hf⟩:=h
 exact⟨ao,cap,e,hs.below hb hB,hf⟩
theorem Elem.grown {B:Nat} {w w':World} {v:Value} {ns:List ByteArray} (h:Elem B w v ns) (hg:w.grownBy w' (some B)):Elem B w' v ns:=by
 obtain⟨ao,cap,e,hs,hf⟩:=h
 exact⟨ao,cap,e,hs.grown hg (fun a ha=>by have:=hf a ha;simp;omega),hf⟩
theorem Zaw {w w':World} (g:Nat) (hb:Below w.heap.size w w'):w.grownBy w' (some g):=⟨hb.os,hb.tape,hb.output,hb.size,fun k hk _=>hb.block k hk⟩
theorem Zah {w w1 w2:World} {g:Nat} (h1:w.grownBy w1 (some g)) (h2:w1.grownBy w2 (some g)):w.grownBy w2 (some g):=
 ⟨h2.os.trans h1.os,h2.tape.trans h1.tape,h2.output.trans h1.output,Nat.le_trans h1.size h2.size,fun k hk hne=>(h2.block k (Nat.lt_of_lt_of_le hk h1.size) hne).trans (h1.block k hk hne)⟩
theorem Zag (w:World) (g j:Nat) (v:Value):w.grownBy (w.setCell ⟨g,j,none⟩ v) (some g):=
 ⟨rfl,rfl,rfl,by simp,fun k _ hne=>heap_setCell_other w ⟨g,j,none⟩ k v (fun e=>hne (by rw[e]))⟩
theorem Zam {w w':World} {g:Nat} (h:w.grownBy w' (some g)) {B:Nat} (hB:B≤g) (hw:B≤w.heap.size):Below B w w':=
 ⟨h.os,h.tape,h.output,h.size,fun k hk=>h.block k (by omega) (by simp;omega)⟩
def Blk (w:World) (g:Nat) (cs:Array Value) (T:TypeId):Prop:=w.heap[g]?=some (.cells cs T (0,0))
theorem Blk.cell {w:World} {g:Nat} {cs:Array Value} {T:TypeId} (h:Blk w g cs T) (j:Nat):w.cell? ⟨g,j,none⟩=cs[j]?:=Lib.cell_of_heap h j
theorem Blk.free {w:World} {g:Nat} {cs:Array Value} {T:TypeId} (h:Blk w g cs T) (j:Nat):w.frozen? ⟨g,j,none⟩=false:=Lib.frozen_of_heap h j
theorem Blk.lt {w:World} {g:Nat} {cs:Array Value} {T:TypeId} (h:Blk w g cs T):g<w.heap.size:=(Array.getElem?_eq_some_iff.1 h).1
theorem Blk.on {w w':World} {g:Nat} {cs:Array Value} {T:TypeId} (h:Blk w g cs T) (hb:Below w.heap.size w w'):Blk w' g cs T:=by
 unfold Blk;rw[hb.block g h.lt];exact h
theorem Blk.set {w:World} {g:Nat} {cs:Array Value} {T:TypeId} (h:Blk w g cs T) (j:Nat) (v:Value):Blk (w.setCell ⟨g,j,none⟩ v) g (cs.setIfInBounds j v) T:=heap_setCell_same w g j cs T v h
theorem Blk.but {w w':World} {g k:Nat} {cs:Array Value} {T:TypeId} (h:Blk w k cs T) (hg:w.grownBy w' (some g)) (hne:k≠g):Blk w' k cs T:=by
 unfold Blk;rw[hg.block k h.lt (by simp;omega)];exact h
def Za0:List ByteArray→Nat
 |[]=>0
 |s::ss=>s.size+1+Za0 ss
theorem Zer (a b:List ByteArray):Za0 (a++b)=Za0 a+Za0 b:=by
 induction a with
 |nil=>simp[Za0]
 |cons x a ih=>simp[Za0,ih];omega
theorem Zco (ss:List ByteArray) (k:Nat) (h:k<ss.length):Za0 (ss.take (k+1))=Za0 (ss.take k)+(ss[k].size+1):=by
 rw[List.take_succ_eq_append_getElem h,Zer];simp[Za0]
theorem Zcn (ss:List ByteArray) (k:Nat):Za0 (ss.take k)≤Za0 ss:=by
 conv=>rhs;rw[←List.take_append_drop k ss,Zer]
 omega
theorem ZpL (w:World) (ao:Option Addr) (len cap:Nat) (ss:List ByteArray) (hs:Strs w ao len cap ss) (hb:Za0 ss<4611686018427387904):
  Calls Tryz.prog 144 #[.slice ao len cap] w fun e w'=>e= .returned (.int .i64 (1+Za0 ss))∧w=w':=by
 have hl:=hs.len
 have hcap:=hs.row.hcap
 have hle:=hs.row.hle
 go_enter Tryz.func144,Tryz.ntmps144
 go_wp2
 go_loop [3,8,5] (fun t i _=>∃ k:Nat,k≤len∧i= .int .i64 k∧t= .int .i64 (1+Za0 (ss.take k))) (fun _ i _=>len-(intOf i).toNat)
 case atStart=>exact⟨0,Nat.zero_le _,rfl,by simp[Za0]⟩
 case round=>
  obtain⟨k,hk,rfl,rfl⟩:=hrel
  by_cases hlt:k<len
  ·obtain⟨b,off,rfl⟩:=hs.row.addr hlt
   have hc:=hs.at hlt
   have h1:=Zco ss k (by omega)
   have h2:=Zcn ss (k+1)
   have h3:=hs.get_small (i:=k) (by omega)
   obtain⟨s,hsk⟩:∃ s,s=ss[k]:=⟨_,rfl⟩
   rw[←hsk] at hc h1 h3
   have H1:=Zhd h1
   have h4:Za0 (ss.take k)+(s.size+1)<4611686018427387904:=by omega
   clear h1 h2 hsk
   go_wp2
   go_round
   case rel=>exact⟨k+1,by omega,by go_num,by rw[H1.out];go_num⟩
   case measure=>simp[intOf];omega
  ·go_wp2
   go_ret
   exact⟨Zbh (by rw[List.take_of_length_le (by omega)]),rfl⟩
theorem Zob (w:World) (ao:Option Addr) (len cap:Nat) (ss:List ByteArray) (hs:Strs w ao len cap ss) (hb:Za0 ss<4611686018427387904):
  Calls Tryz.prog 131 #[.slice ao len cap] w fun e w'=>e= .returned (.int .i64 (1+Za0 ss))∧w=w':=by
 have hl:=hs.len
 have hcap:=hs.row.hcap
 have hle:=hs.row.hle
 go_enter Tryz.func131,Tryz.ntmps131
 go_wp2
 go_loop [3,4] (fun t i=>∃ k:Nat,k≤len∧i= .int .i64 k∧t= .int .i64 (1+Za0 (ss.take k))) (fun _ i=>len-(intOf i).toNat)
 case atStart=>exact⟨0,Nat.zero_le _,rfl,by simp[Za0]⟩
 case round=>
  obtain⟨k,hk,rfl,rfl⟩:=hrel
  by_cases hlt:k<len
  ·obtain⟨b,off,rfl⟩:=hs.row.addr hlt
   have hc:=hs.at hlt
   have h1:=Zco ss k (by omega)
   have h2:=Zcn ss (k+1)
   have h3:=hs.get_small (i:=k) (by omega)
   obtain⟨s,hsk⟩:∃ s,s=ss[k]:=⟨_,rfl⟩
   rw[←hsk] at hc h1 h3
   have H1:=Zhd h1
   have h4:Za0 (ss.take k)+(s.size+1)<4611686018427387904:=by omega
   clear h1 h2 hsk
   go_wp2
   go_round
   case rel=>exact⟨k+1,by omega,by go_num,by rw[H1.out];go_num⟩
   case measure=>simp[intOf];omega
  ·go_wp2
   go_ret
   exact⟨Zbh (by rw[List.take_of_length_le (by omega)]),rfl⟩
def Zo7 {α:Type} (p:α→Bool) (l:List α):Int:=match l.findIdx? p with|some i=>i|none=> -1
theorem ZfN {α:Type} {p:α→Bool} {l:List α} {k:Nat} (hk:k<l.length) (h:∀ j (hj:j<k),p (l[j]'(by omega))=false) (hp:p l[k]=true):Zo7 p l=k:=by
 have:l.findIdx? p=some k:=by
  rw[List.findIdx?_eq_some_iff_getElem]
  exact⟨hk,hp,fun j hj=>by simp[h j hj]⟩
 simp[Zo7,this]
theorem ZgO {α:Type} {p:α→Bool} {l:List α} (h:∀ j (hj:j<l.length),p l[j]=false):Zo7 p l= -1:=by
 have:l.findIdx? p=none:=by
  rw[List.findIdx?_eq_none_iff]
  intro x hx
  obtain⟨i,hi,rfl⟩:=List.getElem_of_mem hx
  exact h i hi
 simp[Zo7,this]
theorem Zif {α:Type} (p:α→Bool) (l:List α):decide (0≤Zo7 p l)=l.any p:=by
 unfold Zo7
 cases h:l.findIdx? p with
 |none=>
  rw[List.findIdx?_eq_none_iff] at h
  have:l.any p=false:=by simp only[List.any_eq_false];intro x hx;simp[h x hx]
  simp[this]
 |some i=>
  rw[List.findIdx?_eq_some_iff_getElem] at h
  obtain⟨hi,hp,_⟩:=h
  have:l.any p=true:=List.any_eq_true.2 ⟨_,List.getElem_mem hi,hp⟩
  simp[this]
def Zgf (s:ByteArray):Bool:=s.size==0||decide (63<s.size)
theorem Zqu {s:ByteArray} (h1:1≤s.size) (h2:s.size≤63):Zgf s=false:=by
 have: ¬s.size=0:=by omega
 have h3: ¬63<s.size:=by omega
 simp only[Zgf,Bool.or_eq_false_iff,beq_eq_false_iff_ne,decide_eq_false_iff_not]
 exact⟨this,h3⟩
theorem ZoQ {s:ByteArray} (h:s.size<1∨63<s.size):Zgf s=true:=by
 simp only[Zgf,Bool.or_eq_true,beq_iff_eq,Zde]
 omega
theorem ZhW (s:ByteArray):s.data.toList=[]↔s.size=0:=by
 rw[List.eq_nil_iff_length_eq_zero];simp
theorem Zmp (w:World) (s:ByteArray) (hs:s.size≤9223372036854775807):
  Calls Tryz.prog 143 #[.string s] w fun e w'=>e= .returned (.bool (Zgf s))∧w=w':=by
 go_enter Tryz.func143,Tryz.ntmps143
 go_wp2
 ·go_ret
  have h:s.toList=[]:=by assumption
  rw[ByteArray.toList_eq,ZhW] at h
  exact⟨Zaf (by simp[Zgf,h]),rfl⟩
 ·go_ret
  have h: ¬s.toList=[]:=by assumption
  refine⟨Zaf ?_,rfl⟩
  have e:s.toList.isEmpty=(s.size==0):=by
   rw[Bool.eq_iff_iff,List.isEmpty_iff,ByteArray.toList_eq,ZhW];simp
  show(s.toList.isEmpty||decide ((63:Int)<s.size))=Zgf s
  rw[e,Zgf]
  congr 1
  exact decide_eq_decide.2 (by omega)
theorem Zhv (w:World) (ao:Option Addr) (len cap:Nat) (ss:List ByteArray) (hs:Strs w ao len cap ss):
  Calls Tryz.prog 167 #[.slice ao len cap,.func (.func 143) #[] #[]] w fun e w'=>e= .returned (.int .i64 (Zo7 Zgf ss))∧w=w':=by
 have hl:=hs.len
 have hcap:=hs.row.hcap
 have hle:=hs.row.hle
 go_enter Tryz.func167,Tryz.ntmps167
 go_wp2
 go_loop [8,5] (fun i _=>∃ k:Nat,k≤len∧i= .int .i64 k∧Hid (∀ j (hj:j<ss.length),j<k→Zgf ss[j]=false)) (fun i _=>len-(intOf i).toNat)
 case atStart=>exact⟨0,Nat.zero_le _,rfl,fun j hj h=>absurd h (by omega)⟩
 case round=>
  obtain⟨k,hk,rfl,hno⟩:=hrel
  by_cases hlt:k<len
  ·obtain⟨b,off,rfl⟩:=hs.row.addr hlt
   have hc:=hs.at hlt
   have h3:=hs.get_small (i:=k) (by omega)
   obtain⟨s,hsk⟩:∃ s,s=ss[k]:=⟨_,rfl⟩
   rw[←hsk] at hc h3
   have HK:=Zhd hsk
   clear hsk
   cases hb:Zgf s
   all_goals
    have HB:=Zhd hb
    go_wp2_with (go_at_call 143;refine(Zmp _ _ (by assumption)).mono ?_;rintro e w' ⟨rfl,rfl⟩)
   ·go_round
    case rel=>
     refine⟨k+1,by omega,by go_num,fun j hj h=>?_⟩
     rcases Nat.lt_succ_iff_lt_or_eq.1 h with h|rfl
     ·exact hno.out j hj h
     ·rw[←HK.out];exact HB.out
    case measure=>simp[intOf];omega
   ·go_ret
    exact⟨Zbh (ZfN (by omega) (fun j hj=>hno.out j (by omega) hj) (by rw[←HK.out];exact HB.out)).symm,rfl⟩
  ·go_wp2
   go_ret
   exact⟨Zbh (ZgO fun j hj=>hno.out j hj (by omega)).symm,rfl⟩
theorem ZdD (w:World) (ao:Option Addr) (len cap:Nat) (ss:List ByteArray) (hs:Strs w ao len cap ss):
  Calls Tryz.prog 142 #[.slice ao len cap,.func (.func 143) #[] #[]] w fun e w'=>e= .returned (.bool (ss.any Zgf))∧w=w':=by
 go_enter Tryz.func142,Tryz.ntmps142
 go_wp2_with (go_at_call 167;refine(Zhv _ _ _ _ _ hs).mono ?_;rintro e w' ⟨rfl,rfl⟩)
 go_ret
 exact⟨Zaf (Zif Zgf ss),rfl⟩
def ZaG (ss:List ByteArray):Bool:=decide (ss.length≤255)&&(!(ss.any Zgf)&&decide (1+Za0 ss≤255))
theorem ZeM:∀ (ss:List ByteArray),ss.any Zgf=false→2*ss.length≤Za0 ss∧Za0 ss≤64*ss.length
 |[],_=>by simp[Za0]
 |s::ss,h=>by
  simp only[List.any_cons,Bool.or_eq_false_iff] at h
  have ih:=ZeM ss h.2
  have hs:=h.1
  simp only[Zgf,Bool.or_eq_false_iff,beq_eq_false_iff_ne,decide_eq_false_iff_not] at hs
  simp only[Za0,List.length_cons]
  omega
theorem ZcQ (w:World) (ao:Option Addr) (len cap:Nat) (ss:List ByteArray) (hs:Strs w ao len cap ss):
  Calls Tryz.prog 96 #[.slice ao len cap] w fun e w'=>e= .returned (.bool (ZaG ss))∧w=w':=by
 have hl:=hs.len
 have hcap:=hs.row.hcap
 have hle:=hs.row.hle
 by_cases h1:len≤255
 ·cases h2:ss.any Zgf
  ·have hf:=ZeM ss h2
   have H2:=Zhd h2
   have hz:Za0 ss<4611686018427387904:=by omega
   clear hf
   go_enter Tryz.func96,Tryz.ntmps96
   go_wp2_with (first|(go_at_call 142;refine(ZdD _ _ _ _ _ hs).mono ?_;rintro e w' ⟨rfl,rfl⟩)|(go_at_call 144;refine(ZpL _ _ _ _ _ hs (by assumption)).mono ?_;rintro e w' ⟨rfl,rfl⟩))
   go_ret
   exact⟨Zaf (by simp only[ZaG,hl,h1,H2.out,decide_true,Bool.not_false,Bool.true_and];exact decide_eq_decide.2 (by omega)),rfl⟩
  ·go_enter Tryz.func96,Tryz.ntmps96
   go_wp2_with (go_at_call 142;refine(ZdD _ _ _ _ _ hs).mono ?_;rintro e w' ⟨rfl,rfl⟩)
   go_ret
   exact⟨Zaf (by simp[ZaG,h2]),rfl⟩
 ·go_enter Tryz.func96,Tryz.ntmps96
  go_wp2
  go_ret
  exact⟨Zaf (by simp[ZaG];omega),rfl⟩
theorem ZjK {ss:List ByteArray} (h:127<ss.length):ZaG ss=false:=by
 cases h2:ss.any Zgf
 ·have hf:=ZeM ss h2
  have: ¬1+Za0 ss≤255:=by omega
  simp[ZaG,this]
 ·simp[ZaG,h2]
theorem Zre {α:Type} {p:α→Bool} {l:List α} {k:Nat} (hk:k<l.length) (h:p l[k]=true):l.any p=true:=List.any_eq_true.2 ⟨_,List.getElem_mem hk,h⟩
theorem ZoP {α:Type} {p:α→Bool} {l:List α} (h:∀ j (hj:j<l.length),p l[j]=false):l.any p=false:=by
 simp only[List.any_eq_false];intro x hx
 obtain⟨i,hi,rfl⟩:=List.getElem_of_mem hx
 simp[h i hi]
theorem ZfT (w:World) (ao:Option Addr) (len cap:Nat) (ss:List ByteArray) (hs:Strs w ao len cap ss):
  Calls Tryz.prog 72 #[.slice ao len cap] w fun e w'=>e= .returned (.bool (ZaG ss))∧w=w':=by
 have hl:=hs.len
 have hcap:=hs.row.hcap
 have hle:=hs.row.hle
 by_cases h1:len≤127
 ·go_enter Tryz.func72,Tryz.ntmps72
  go_wp2
  go_loop [3] (fun i=>∃ k:Nat,k≤len∧i= .int .i64 k∧Hid (∀ j (hj:j<ss.length),j<k→Zgf ss[j]=false)) (fun i=>len-(intOf i).toNat)
  case atStart=>exact⟨0,Nat.zero_le _,rfl,fun j hj h=>absurd h (by omega)⟩
  case round=>
   obtain⟨k,hk,rfl,hno⟩:=hrel
   by_cases hlt:k<len
   ·obtain⟨b,off,rfl⟩:=hs.row.addr hlt
    have hc:=hs.at hlt
    have h3:=hs.get_small (i:=k) (by omega)
    obtain⟨s,hsk⟩:∃ s,s=ss[k]:=⟨_,rfl⟩
    rw[←hsk] at hc h3
    have HK:=Zhd hsk
    clear hsk
    by_cases hb:1≤s.size∧s.size≤63
    ·obtain⟨b1,b2⟩:=hb
     have HB:Hid (Zgf s=false):=Zqu b1 b2
     go_wp2
     go_round
     case rel=>
      refine⟨k+1,by omega,by go_num,fun j hj h=>?_⟩
      rcases Nat.lt_succ_iff_lt_or_eq.1 h with h|rfl
      ·exact hno.out j hj h
      ·rw[←HK.out];exact HB.out
     case measure=>simp[intOf];omega
    ·have HB:Hid (ZaG ss=false):=by
      have:ss.any Zgf=true:=Zre (k:=k) (by omega) (by rw[←HK.out];exact ZoQ (by omega))
      simp[Hid,ZaG,this]
     have hb':s.size<1∨63<s.size:=by omega
     clear hb
     rcases hb' with hb|hb
     all_goals
      go_wp2
      go_ret
      exact⟨Zaf HB.out.symm,rfl⟩
   ·have H2:=Zhd (ZoP (p:=Zgf) (l:=ss) fun j hj=>hno.out j hj (by omega))
    have hf:=ZeM ss H2.out
    have hz:Za0 ss<4611686018427387904:=by omega
    clear hf
    go_wp2_with (go_at_call 131;refine(Zob _ _ _ _ _ hs (by assumption)).mono ?_;rintro e w' ⟨rfl,rfl⟩)
    go_ret
    have h1':len≤255:=by omega
    exact⟨Zaf (by simp only[ZaG,hl,h1',H2.out,decide_true,Bool.not_false,Bool.true_and];exact decide_eq_decide.2 (by omega)),rfl⟩
 ·go_enter Tryz.func72,Tryz.ntmps72
  go_wp2
  go_ret
  exact⟨Zaf (ZjK (by omega)).symm,rfl⟩
def ByteRow (w:World) (B:Nat) (l:List UInt8):Prop:=∀ i (h:i<l.length),w.cell? ⟨B,i,none⟩=some (.int .u8 (l[i].toNat:Int))∧w.frozen? ⟨B,i,none⟩=false
theorem ByteRow.cell {w:World} {B:Nat} {l:List UInt8} (h:ByteRow w B l) {i:Nat} (hi:i<l.length):w.cell? ⟨B,i,none⟩=some (.int .u8 (l[i].toNat:Int)):=(h i hi).1
theorem ByteRow.free {w:World} {B:Nat} {l:List UInt8} (h:ByteRow w B l) {i:Nat} (hi:i<l.length):w.frozen? ⟨B,i,none⟩=false:=(h i hi).2
theorem ByteRow.set {w:World} {B:Nat} {l:List UInt8} (h:ByteRow w B l) {k:Nat} (hk:k<l.length) {x:Int} {c:UInt8} (hx:x=(c.toNat:Int)):ByteRow (w.setCell ⟨B,k,none⟩ (.int .u8 x)) B (l.set k c):=by
 intro i hi
 have hi':i<l.length:=by simpa using hi
 subst hx
 constructor
 ·by_cases e:i=k
  ·subst e
   rw[List.getElem_set_self]
   exact World.cell?_setCell_same' w _ _ (by rw[h.cell hi'];rfl)
  ·rw[List.getElem_set_ne (by omega),World.cell?_setCell_other (w:=w) (a:=⟨B,k,none⟩) (b:=⟨B,i,none⟩) (h:=fun h=>e (by cases h;rfl))]
   exact h.cell hi'
 ·rw[World.frozen?_setCell]
  exact h.free hi'
theorem Zc1 {P:Program} (w:World) (src dst e:TypeId) (s:ByteArray) {u:TypeDesc} (hs:P.underlying src=some u) (hd:P.underlying dst=some (.slice e)) (he:P.underlying e=some (.int .u8)) (hlen:s.size≤9223372036854775807):
  ∃ cap w1,(convert src dst (.string s)).run P w= .ok (.slice (some ⟨w.heap.size,0,none⟩) s.size cap) w1∧s.size≤cap∧cap≤9223372036854775807∧Below w.heap.size w w1∧w1.heap.size=w.heap.size+1∧ByteRow w1 w.heap.size s.data.toList:=by
 refine⟨_,_,Lib.run_convert_string_bytes w src dst e s hs hd he,grownCap_ge _ _ _ _,grownCap_le_maxLen _ _ _ _ hlen,?_,Lib.bytesWorld_size _ _ _,fun i hi=>⟨?_,?_⟩⟩
 ·refine⟨?_,?_,?_,by rw[Lib.bytesWorld_size];omega,fun k hk=>Lib.bytesWorld_at_old w e s k hk⟩
  all_goals
   unfold Lib.bytesWorld World.freeze
   split<;>rfl
 ·rw[Lib.bytesWorld_cell w e s i (by simpa using hi)]
  rw[List.getD_eq_getElem?_getD,List.getElem?_eq_getElem hi];rfl
 ·have:=Lib.bytesWorld_at_new w e s
  simp only[World.frozen?,this]
  have h2:s.size≤(Lib.bytesCells w e s).size:=by simp[Lib.bytesCells]
  have h3:i<s.size:=by simpa using hi
  simp;omega
def ZnL (c:UInt8):UInt8:=if 65≤c.toNat∧c.toNat≤90 then UInt8.ofNat (c.toNat+32) else c
def small (s:ByteArray):ByteArray:=⟨(s.data.toList.map ZnL).toArray⟩
theorem ZfY (s:ByteArray):(small s).size=s.size:=by
 show((s.data.toList.map ZnL).toArray).size=s.data.size
 simp
theorem Zk2 {c:UInt8} (h1:65≤c.toNat) (h2:c.toNat≤90):((ZnL c).toNat:Int)=(c.toNat:Int)+32:=by
 rw[ZnL,if_pos ⟨h1,h2⟩]
 have:(UInt8.ofNat (c.toNat+32)).toNat=c.toNat+32:=by
  rw[UInt8.toNat_ofNat'];omega
 omega
theorem Zjm {c:UInt8} (h:c.toNat<65∨90<c.toNat):ZnL c=c:=by
 rw[ZnL,if_neg (by omega)]
def Zd4 (l:List UInt8) (k:Nat):List UInt8:=(l.take k).map ZnL++l.drop k
theorem ZhR (l:List UInt8):Zd4 l 0=l:=by simp[Zd4]
theorem Zjn (l:List UInt8) (k:Nat) (h:l.length≤k):Zd4 l k=l.map ZnL:=by simp[Zd4,List.take_of_length_le h,List.drop_eq_nil_of_le h]
theorem Zbw (l:List UInt8) (k:Nat):(Zd4 l k).length=l.length:=by simp[Zd4];omega
theorem Zjo (l:List UInt8) (k:Nat) (h:k<l.length):(Zd4 l k)[k]'(by rw[Zbw];exact h)=l[k]:=by
 simp only[Zd4]
 rw[List.getElem_append_right (by simp;omega)]
 simp[Nat.min_eq_left (Nat.le_of_lt h)]
theorem Zjp (l:List UInt8) (k:Nat) (h:k<l.length):(Zd4 l k).set k (ZnL l[k])=Zd4 l (k+1):=by
 simp only[Zd4]
 have hl:((l.take k).map ZnL).length=k:=by simp;omega
 rw[List.set_append_right _ _ (by omega),hl,Nat.sub_self,List.drop_eq_getElem_cons h,List.set_cons_zero,List.take_succ_eq_append_getElem h,List.map_append,List.append_assoc]
 rfl
theorem ZhQ (l:List UInt8) (k:Nat) (h:k<l.length) (hs:ZnL l[k]=l[k]):Zd4 l (k+1)=Zd4 l k:=by
 simp only[Zd4]
 rw[List.take_succ_eq_append_getElem h,List.drop_eq_getElem_cons h,List.map_append,List.append_assoc]
 simp only[List.map_cons,List.map_nil,hs]
 rfl
theorem Zcq (l:List UInt8):strOfNums (l.map fun c=>(c.toNat:Int))=⟨l.toArray⟩:=by
 simp only[strOfNums,List.map_map]
 congr 2
 conv=>rhs;rw[←List.map_id l]
 exact List.map_congr_left fun c _=>by simp
theorem Zi0 {P:Program} (w:World) (src dst e:TypeId) (hs:P.underlying src=some (.slice e)) (he:P.underlying e=some (.int .u8)) (hd:P.underlying dst=some .string) (B cap n:Nat) (l:List UInt8) (hl:l.length=n) (hr:ByteRow w B l):
  (convert src dst (.slice (some ⟨B,0,none⟩) n cap)).run P w= .ok (.string ⟨l.toArray⟩) w:=by
 have:=run_convert_bytes_arg (P:=P) w src e hs he B 0 n cap (l.map fun c=>(c.toNat:Int)) (by simpa using hl) (fun i hi=>by
  have:=hr.cell (i:=i) (by omega)
  simp[List.getD,show i<l.length by omega,this]) dst hd
 rw[this,Zcq]
theorem Zhh (w:World) (s:ByteArray) (hs:s.size≤9223372036854775807):
  Calls Tryz.prog 156 #[.string s] w fun e w'=>e= .returned (.string (small s))∧Below w.heap.size w w':=by
 obtain⟨cap,w1,hrun,hc1,hc2,hb1,hz1,hr1⟩:=Zc1 w 9 22 5 s Tryz.underlying9 Tryz.underlying22 Tryz.underlying5 hs
 have hsl:s.data.toList.length=s.size:=by simp
 go_enter Tryz.func156,Tryz.ntmps156
 go_wp2
 clear hrun
 have HZ:=Zhd hz1;clear hz1
 have hzl:w.heap.size<w1.heap.size:=by have:=HZ.out;omega
 go_loopw [10,4,5] (fun i _ _ wr=>∃ k:Nat,k≤s.size∧i= .int .i64 k∧Below w.heap.size w wr∧ByteRow wr w.heap.size (Zd4 s.data.toList k)) (fun i _ _ _=>s.size-(intOf i).toNat)
 case atStart=>exact⟨0,Nat.zero_le _,rfl,hb1,by rw[ZhR];exact hr1⟩
 case round=>
  obtain⟨k,hk,rfl,hbr,hrr⟩:=hrel
  by_cases hlt:k<s.size
  ·have hkl:k<s.data.toList.length:=by omega
   have hc:=hrr.cell (i:=k) (by rw[Zbw];exact hkl)
   rw[Zjo _ _ hkl] at hc
   have hf:=hrr.free (i:=k) (by rw[Zbw];exact hkl)
   have hset:=fun (x:Int) (c:UInt8) (hx:x=(c.toNat:Int))=>hrr.set (k:=k) (by rw[Zbw];exact hkl) hx
   have hse:=Zjp s.data.toList k hkl
   have hsa:=ZhQ s.data.toList k hkl
   obtain⟨c,hck⟩:∃ c,c=s.data.toList[k]:=⟨_,rfl⟩
   rw[←hck] at hc hse hsa
   have HK:=Zhd hck;clear hck
   have H1:=Zhd hse;clear hse
   have H2:=Zhd hsa;clear hsa
   have H3:=Zhd hset;clear hset
   have H4:=Zhd hrr;clear hrr
   by_cases hx:65≤c.toNat∧c.toNat≤90
   ·obtain⟨x1,x2⟩:=hx
    go_wp2
    go_roundw
    case rel=>
     refine⟨k+1,by omega,by go_num,hbr.setCell (by simp) _,?_⟩
     rw[←H1.out]
     exact H3.out _ _ (by rw[Zk2 x1 x2];omega)
    case measure=>simp[intOf];omega
   ·have hx':c.toNat<65∨90<c.toNat:=by omega
    clear hx
    have H5:=Zhd (H2.out (Zjm hx'))
    rcases hx' with hx|hx
    all_goals
     go_wp2
     go_roundw
     case rel=>exact⟨k+1,by omega,by go_num,hbr,by rw[H5.out];exact H4.out⟩
     case measure=>simp[intOf];omega
  ·have hke:k=s.size:=by omega
   have hback:=Zi0 wr 22 9 5 Tryz.underlying22 Tryz.underlying5 Tryz.underlying9 w.heap.size cap s.size (Zd4 s.data.toList k) (by rw[Zbw];exact hsl) hrr
   rw[Zjn _ _ (by omega)] at hback
   clear hke
   go_wp2
   go_ret
   exact⟨rfl,hbr⟩
theorem Zmi (w:World) (s:ByteArray) (hs:s.size≤9223372036854775807):
  Calls Tryz.prog 78 #[.string s] w fun e w'=>e= .returned (.string (small s))∧Below w.heap.size w w':=by
 obtain⟨cap,w1,hrun,hc1,hc2,hb1,hz1,hr1⟩:=Zc1 w 9 22 5 s Tryz.underlying9 Tryz.underlying22 Tryz.underlying5 hs
 have hsl:s.data.toList.length=s.size:=by simp
 go_enter Tryz.func78,Tryz.ntmps78
 go_wp2
 clear hrun
 have HZ:=Zhd hz1;clear hz1
 have hzl:w.heap.size<w1.heap.size:=by have:=HZ.out;omega
 go_loopw [4] (fun i wr=>∃ k:Nat,k≤s.size∧i= .int .i64 k∧Below w.heap.size w wr∧ByteRow wr w.heap.size (Zd4 s.data.toList k)) (fun i _=>s.size-(intOf i).toNat)
 case atStart=>exact⟨0,Nat.zero_le _,rfl,hb1,by rw[ZhR];exact hr1⟩
 case round=>
  obtain⟨k,hk,rfl,hbr,hrr⟩:=hrel
  by_cases hlt:k<s.size
  ·have hkl:k<s.data.toList.length:=by omega
   have hc:=hrr.cell (i:=k) (by rw[Zbw];exact hkl)
   rw[Zjo _ _ hkl] at hc
   have hf:=hrr.free (i:=k) (by rw[Zbw];exact hkl)
   have hset:=fun (x:Int) (c:UInt8) (hx:x=(c.toNat:Int))=>hrr.set (k:=k) (by rw[Zbw];exact hkl) hx
   have hse:=Zjp s.data.toList k hkl
   have hsa:=ZhQ s.data.toList k hkl
   obtain⟨c,hck⟩:∃ c,c=s.data.toList[k]:=⟨_,rfl⟩
   rw[←hck] at hc hse hsa
   have HK:=Zhd hck;clear hck
   have H1:=Zhd hse;clear hse
   have H2:=Zhd hsa;clear hsa
   have H3:=Zhd hset;clear hset
   have H4:=Zhd hrr;clear hrr
   by_cases hx:65≤c.toNat∧c.toNat≤90
   ·obtain⟨x1,x2⟩:=hx
    go_wp2
    go_roundw
    case rel=>
     refine⟨k+1,by omega,by go_num,hbr.setCell (by simp) _,?_⟩
     rw[←H1.out]
     exact H3.out _ _ (by rw[Zk2 x1 x2])
    case measure=>simp[intOf];omega
   ·have hx':c.toNat<65∨90<c.toNat:=by omega
    clear hx
    have H5:=Zhd (H2.out (Zjm hx'))
    rcases hx' with hx|hx
    all_goals
     go_wp2
     go_roundw
     case rel=>exact⟨k+1,by omega,by go_num,hbr,by rw[H5.out];exact H4.out⟩
     case measure=>simp[intOf];omega
  ·have hke:k=s.size:=by omega
   have hback:=Zi0 wr 22 9 5 Tryz.underlying22 Tryz.underlying5 Tryz.underlying9 w.heap.size cap s.size (Zd4 s.data.toList k) (by rw[Zbw];exact hsl) hrr
   rw[Zjn _ _ (by omega)] at hback
   clear hke
   go_wp2
   go_ret
   exact⟨rfl,hbr⟩
def Zhz (x y:ByteArray):Bool:=decide (small x=small y)
theorem Zc3 (x y:ByteArray):(x.toList==y.toList)=decide (x=y):=by
 rw[Bool.eq_iff_iff,beq_iff_eq,decide_eq_true_iff,ByteArray.toList_eq,ByteArray.toList_eq]
 constructor
 ·intro h
  cases x;cases y
  simp at h
  rw[h]
 ·intro h;rw[h]
theorem ZlT (w:World) (x y:ByteArray) (hx:x.size≤9223372036854775807) (hy:y.size≤9223372036854775807):
  Calls Tryz.prog 171 #[.string x,.string y] w fun e w'=>e= .returned (.bool (Zhz x y))∧Below w.heap.size w w':=by
 go_enter Tryz.func171,Tryz.ntmps171
 go_wp2_with fail
 refine(Zhh _ _ hx).mono ?_
 rintro e w1 ⟨rfl,hb1⟩
 go_wp2_with fail
 refine(Zhh _ _ hy).mono ?_
 rintro e w2 ⟨rfl,hb2⟩
 go_wp2
 go_ret
 exact⟨Zaf (Zc3 _ _),Zaa hb1 hb2 Zlr⟩
def eqB (a b:List ByteArray):Bool:=decide (a.map small=b.map small)
theorem Znb {a b:List ByteArray} (h: ¬a.length=b.length):eqB a b=false:=by
 simp only[eqB,decide_eq_false_iff_not]
 intro e
 exact h (by simpa using congrArg List.length e)
theorem Zp5 {a b:List ByteArray} {k:Nat} (ha:k<a.length) (hb:k<b.length) (h:Zhz a[k] b[k]=false):eqB a b=false:=by
 simp only[eqB,decide_eq_false_iff_not]
 intro e
 simp only[Zhz,decide_eq_false_iff_not] at h
 apply h
 have:=congrArg (fun l=>l[k]?) e
 simpa [ha,hb] using this
theorem Znc {a b:List ByteArray} (hl:a.length=b.length) (h:∀ k (ha:k<a.length) (hb:k<b.length),Zhz a[k] b[k]=true):eqB a b=true:=by
 simp only[eqB,decide_eq_true_iff]
 apply List.ext_getElem
 ·simpa using hl
 ·intro i h1 h2
  simp at h1 h2
  have:=h i h1 h2
  simp only[Zhz,decide_eq_true_iff] at this
  simpa using this
theorem Zh8 (w:World) (ao bo:Option Addr) (la ca lb cb:Nat) (sa sb:List ByteArray) (ha:Strs w ao la ca sa) (hb:Strs w bo lb cb sb):
  Calls Tryz.prog 170 #[.slice ao la ca,.slice bo lb cb,.func (.func 171) #[] #[]] w fun e w'=>e= .returned (.bool (eqB sa sb))∧Below w.heap.size w w':=by
 have hla:=ha.len
 have hlb:=hb.len
 have hca:=ha.row.hcap
 have hle:=ha.row.hle
 have hcb:=hb.row.hcap
 have hleb:=hb.row.hle
 by_cases hll:la=lb
 ·subst hll
  go_enter Tryz.func170,Tryz.ntmps170
  go_wp2
  go_loopw [17,7,8,9] (fun i _ _ _ wr=>∃ k:Nat,k≤la∧i= .int .i64 k∧Below w.heap.size w wr∧Hid (∀ j (hj:j<sa.length) (hj':j<sb.length),j<k→Zhz sa[j] sb[j]=true)) (fun i _ _ _ _=>la-(intOf i).toNat)
  case atStart=>exact⟨0,Nat.zero_le _,rfl,Below.refl _ _,fun j hj _ h=>absurd h (by omega)⟩
  case round=>
   obtain⟨k,hk,rfl,hbr,hno⟩:=hrel
   by_cases hlt:k<la
   ·obtain⟨b1,off1,rfl⟩:=ha.row.addr hlt
    obtain⟨b2,off2,rfl⟩:=hb.row.addr hlt
    have hc1:=(ha.below hbr Zlr).at hlt
    have hc2:=(hb.below hbr Zlr).at hlt
    have hx:=ha.get_small (i:=k) (by omega)
    have hy:=hb.get_small (i:=k) (by omega)
    obtain⟨x,hxk⟩:∃ x,x=sa[k]:=⟨_,rfl⟩
    obtain⟨y,hyk⟩:∃ y,y=sb[k]:=⟨_,rfl⟩
    rw[←hxk] at hc1 hx
    rw[←hyk] at hc2 hy
    have HX:=Zhd hxk;clear hxk
    have HY:=Zhd hyk;clear hyk
    cases hs:Zhz x y
    all_goals
     have HS:=Zhd hs
     go_wp2_with fail
     refine(ZlT _ _ _ hx hy).mono ?_
     rintro e w2 ⟨rfl,hb2⟩
     go_wp2
    ·go_ret
     exact⟨Zaf (Zp5 (k:=k) (by omega) (by omega) (by rw[←HX.out,←HY.out];exact HS.out)).symm,Zaa hbr hb2 Zlr⟩
    ·go_roundw
     case rel=>
      refine⟨k+1,by omega,by go_num,Zaa hbr hb2 Zlr,fun j hj hj' h=>?_⟩
      rcases Nat.lt_succ_iff_lt_or_eq.1 h with h|rfl
      ·exact hno.out j hj hj' h
      ·rw[←HX.out,←HY.out];exact HS.out
     case measure=>simp[intOf];omega
   ·go_wp2
    go_ret
    exact⟨Zaf (Znc (by omega) fun j hj hj'=>hno.out j hj hj' (by omega)).symm,hbr⟩
 ·have hne:((la:Int)!=(lb:Int))=true:=by rw[bne_iff_ne];omega
  go_enter Tryz.func170,Tryz.ntmps170
  go_wp2
  go_ret
  exact⟨Zaf (Znb (by omega)).symm,Below.refl _ _⟩
theorem Zff (w:World) (ao bo:Option Addr) (la ca lb cb:Nat) (sa sb:List ByteArray) (ha:Strs w ao la ca sa) (hb:Strs w bo lb cb sb):
  Calls Tryz.prog 148 #[.slice ao la ca,.slice bo lb cb] w fun e w'=>e= .returned (.bool (eqB sa sb))∧Below w.heap.size w w':=by
 go_enter Tryz.func148,Tryz.ntmps148
 go_wp2_with fail
 refine(Zh8 _ _ _ _ _ _ _ _ _ ha hb).mono ?_
 rintro e w2 ⟨rfl,hb2⟩
 go_wp2
 go_ret
 exact⟨rfl,hb2⟩
theorem ZeJ (w:World) (ao bo:Option Addr) (la ca lb cb:Nat) (sa sb:List ByteArray) (ha:Strs w ao la ca sa) (hb:Strs w bo lb cb sb):
  Calls Tryz.prog 40 #[.slice ao la ca,.slice bo lb cb] w fun e w'=>e= .returned (.bool (eqB sa sb))∧Below w.heap.size w w':=by
 have hla:=ha.len
 have hlb:=hb.len
 have hca:=ha.row.hcap
 have hle:=ha.row.hle
 have hcb:=hb.row.hcap
 have hleb:=hb.row.hle
 by_cases hll:la=lb
 ·subst hll
  go_enter Tryz.func40,Tryz.ntmps40
  go_wp2
  go_loopw [5] (fun i wr=>∃ k:Nat,k≤la∧i= .int .i64 k∧Below w.heap.size w wr∧Hid (∀ j (hj:j<sa.length) (hj':j<sb.length),j<k→Zhz sa[j] sb[j]=true)) (fun i _=>la-(intOf i).toNat)
  case atStart=>exact⟨0,Nat.zero_le _,rfl,Below.refl _ _,fun j hj _ h=>absurd h (by omega)⟩
  case round=>
   obtain⟨k,hk,rfl,hbr,hno⟩:=hrel
   by_cases hlt:k<la
   ·obtain⟨b1,off1,rfl⟩:=ha.row.addr hlt
    obtain⟨b2,off2,rfl⟩:=hb.row.addr hlt
    have hc1:=(ha.below hbr Zlr).at hlt
    have hc2:=(hb.below hbr Zlr).at hlt
    have hx:=ha.get_small (i:=k) (by omega)
    have hy:=hb.get_small (i:=k) (by omega)
    obtain⟨x,hxk⟩:∃ x,x=sa[k]:=⟨_,rfl⟩
    obtain⟨y,hyk⟩:∃ y,y=sb[k]:=⟨_,rfl⟩
    rw[←hxk] at hc1 hx
    rw[←hyk] at hc2 hy
    have HX:=Zhd hxk;clear hxk
    have HY:=Zhd hyk;clear hyk
    have hkp:(0:Int)≤(k:Int):=Int.natCast_nonneg _
    have hkl:(k:Int)<(la:Int):=by omega
    cases hs:Zhz x y
    all_goals
     have HS:=Zhd hs
     have hT:((small x).toList==(small y).toList)=Zhz x y:=Zc3 _ _
     rw[hs] at hT
     clear hs
     go_wp2_with fail
     have hbd:Below w.heap.size w wr.drew:=Below.drew hbr
     go_region_held3 (fun w'=>Below w.heap.size w w'∧w'.cell? ⟨b1,off1+k,none⟩=some (.string x)∧w'.cell? ⟨b2,off2+k,none⟩=some (.string y))
      (first|go_keep|(go_split_ands;exact⟨Zaa (by assumption) hb2 Zlr,Zab hb2 (by assumption),Zab hb2 (by assumption)⟩)|(refine⟨?_,?_,?_⟩<;>first|go_keep|exact Below.drew (by assumption)))
      (first|(go_at_call 78;refine(Zmi _ _ (by assumption)).mono ?_;rintro e w2 ⟨rfl,hb2⟩))
     go_split_ands
     go_wp2
    ·go_ret
     exact⟨Zaf (Zp5 (k:=k) (by omega) (by omega) (by rw[←HX.out,←HY.out];exact HS.out)).symm,by assumption⟩
    ·go_roundw
     case rel=>
      refine⟨k+1,by omega,by go_num,by assumption,fun j hj hj' h=>?_⟩
      rcases Nat.lt_succ_iff_lt_or_eq.1 h with h|rfl
      ·exact hno.out j hj hj' h
      ·rw[←HX.out,←HY.out];exact HS.out
     case measure=>simp[intOf];omega
   ·go_wp2
    go_ret
    exact⟨Zaf (Znc (by omega) fun j hj hj'=>hno.out j hj hj' (by omega)).symm,hbr⟩
 ·have hne:((la:Int)!=(lb:Int))=true:=by rw[bne_iff_ne];omega
  go_enter Tryz.func40,Tryz.ntmps40
  go_wp2
  go_ret
  exact⟨Zaf (Znb (by omega)).symm,Below.refl _ _⟩
def ZhX (n z:List ByteArray):Bool:=decide (z.length≤n.length)&&eqB (n.drop (n.length-z.length)) z
theorem ZoC (w:World) (ao bo:Option Addr) (la ca lb cb:Nat) (sa sb:List ByteArray) (ha:Strs w ao la ca sa) (hb:Strs w bo lb cb sb):
  Calls Tryz.prog 102 #[.slice ao la ca,.slice bo lb cb] w fun e w'=>e= .returned (.bool (ZhX sa sb))∧Below w.heap.size w w':=by
 have hla:=ha.len
 have hlb:=hb.len
 have hca:=ha.row.hcap
 have hle:=ha.row.hle
 have hcb:=hb.row.hcap
 have hleb:=hb.row.hle
 by_cases hll:lb≤la
 ·go_enter Tryz.func102,Tryz.ntmps102
  go_wp2_with fail
  ·refine(Zff _ _ _ _ _ _ _ _ _ (ha.cut0 (k:=la-lb) (by omega) (by omega)) hb).mono ?_
   rintro e w2 ⟨rfl,hb2⟩
   go_wp2
   go_ret
   exact⟨Zaf (by simp only[ZhX,hla,hlb,hll,decide_true,Bool.true_and]),hb2⟩
  ·refine(Zff _ _ _ _ _ _ _ _ _ (ha.cut (k:=la-lb) (by omega)) hb).mono ?_
   rintro e w2 ⟨rfl,hb2⟩
   go_wp2
   go_ret
   exact⟨Zaf (by simp only[ZhX,hla,hlb,hll,decide_true,Bool.true_and]),hb2⟩
 ·go_enter Tryz.func102,Tryz.ntmps102
  go_wp2
  go_ret
  exact⟨Zaf (by simp[ZhX];omega),Below.refl _ _⟩
theorem ZiL:(Tryz.prog.info? 9).map (fun i=>(i.zero,i.size,i.bytes))=some (some (.string ByteArray.empty),1,16):=by kernel_rfl
def Zi7 (a b:List ByteArray):Bool:=decide (a=b)
theorem Znd (w:World) (ao bo:Option Addr) (la ca lb cb:Nat) (sa sb:List ByteArray) (ha:Strs w ao la ca sa) (hb:Strs w bo lb cb sb):
  Calls Tryz.prog 134 #[.slice ao la ca,.slice bo lb cb] w fun e w'=>e= .returned (.bool (Zi7 sa sb))∧Below w.heap.size w w':=by
 have hla:=ha.len
 have hlb:=hb.len
 have hmx:=ha.row.hmax
 have hca:=ha.row.hcap
 have hle:=ha.row.hle
 have hcb:=hb.row.hcap
 have hleb:=hb.row.hle
 by_cases hll:la=lb
 ·subst hll
  go_enter Tryz.func134,Tryz.ntmps134
  go_wp2
  go_loopw [5] (fun i wr=>∃ k:Nat,k≤la∧i= .int .i64 k∧Below w.heap.size w wr∧Hid (∀ j (hj:j<sa.length) (hj':j<sb.length),j<k→sa[j]=sb[j])) (fun i _=>la-(intOf i).toNat)
  case atStart=>exact⟨0,Nat.zero_le _,rfl,Below.refl _ _,fun j hj _ h=>absurd h (by omega)⟩
  case round=>
   obtain⟨k,hk,rfl,hbr,hno⟩:=hrel
   by_cases hlt:k<la
   ·obtain⟨b1,off1,rfl⟩:=ha.row.addr hlt
    obtain⟨b2,off2,rfl⟩:=hb.row.addr hlt
    have hc1:=(ha.below hbr Zlr).at hlt
    have hc2:=(hb.below hbr Zlr).at hlt
    obtain⟨x,hxk⟩:∃ x,x=sa[k]:=⟨_,rfl⟩
    obtain⟨y,hyk⟩:∃ y,y=sb[k]:=⟨_,rfl⟩
    rw[←hxk] at hc1
    rw[←hyk] at hc2
    have HX:=Zhd hxk;clear hxk
    have HY:=Zhd hyk;clear hyk
    have hkp:(0:Int)≤(k:Int):=Int.natCast_nonneg _
    have hkl:(k:Int)<(la:Int):=by omega
    by_cases hs:x=y
    all_goals
     have hT:(x.toList==y.toList)=decide (x=y):=Zc3 _ _
     have HS:=Zhd hs
    ·rw[Zdt hs] at hT
     clear hs
     go_wp2_with fail
     go_quiet (fail)
     go_wp2
     go_roundw
     case rel=>
      refine⟨k+1,by omega,by go_num,Zbf hbr _,fun j hj hj' h=>?_⟩
      rcases Nat.lt_succ_iff_lt_or_eq.1 h with h|rfl
      ·exact hno.out j hj hj' h
      ·rw[←HX.out,←HY.out];exact HS.out
     case measure=>simp[intOf];omega
    ·rw[Zdf hs] at hT
     clear hs
     go_wp2_with fail
     go_quiet (fail)
     go_wp2
     go_ret
     refine⟨Zaf ?_,Zbf hbr _⟩
     have: ¬sa=sb:=by
      intro e;subst e
      exact HS.out (HX.out.trans HY.out.symm)
     simp[Zi7,this]
   ·go_wp2
    go_ret
    refine⟨Zaf ?_,hbr⟩
    have:sa=sb:=List.ext_getElem (by omega) (fun j h1 h2=>hno.out j h1 h2 (by omega))
    simp[Zi7,this]
 ·have hne:((la:Int)!=(lb:Int))=true:=by rw[bne_iff_ne];omega
  go_enter Tryz.func134,Tryz.ntmps134
  go_wp2
  go_ret
  refine⟨Zaf ?_,Below.refl _ _⟩
  have: ¬sa=sb:=by intro e;subst e;omega
  simp[Zi7,this]
abbrev ZbP (w:World) (ao:Option Addr) (len cap:Nat) (l:List UInt8):Prop:=Row w ao len cap (l.map fun c=>Value.int .u8 (c.toNat:Int))
abbrev wfi (n:Int):Prop:= -9223372036854775808≤n∧n≤9223372036854775807
structure Zaq where
 bytes:List UInt8
 host:List ByteArray
 mail:List ByteArray
 nums:List Int
 texts:List ByteArray
structure ZaJ where
 ba:Option Addr
 bl:Nat
 bc:Nat
 ha:Option Addr
 hl:Nat
 hc:Nat
 ma:Option Addr
 ml:Nat
 mc:Nat
 na:Option Addr
 nl:Nat
 nc:Nat
 ta:Option Addr
 tl:Nat
 tc:Nat
def Zae (h:ZaJ):Array Value:=#[.slice h.ba h.bl h.bc,.slice h.ha h.hl h.hc,.slice h.ma h.ml h.mc,.slice h.na h.nl h.nc,.slice h.ta h.tl h.tc]
abbrev ZoN (w:World) (ao:Option Addr) (n c:Nat) (l:List Int):Prop:=Row w ao n c (l.map (Value.int .i64))
structure IsData (w:World) (h:ZaJ) (d:Zaq):Prop where
 bytes:ZbP w h.ba h.bl h.bc d.bytes
 host:Strs w h.ha h.hl h.hc d.host
 mail:Strs w h.ma h.ml h.mc d.mail
 nums:ZoN w h.na h.nl h.nc d.nums
 texts:Strs w h.ta h.tl h.tc d.texts
 fits:∀ n∈d.nums,wfi n
theorem IsData.on {w w':World} {h:ZaJ} {d:Zaq} (hd:IsData w h d) (hb:Below w.heap.size w w'):IsData w' h d:=
 ⟨hd.bytes.below hb Zlr,hd.host.below hb Zlr,hd.mail.below hb Zlr,hd.nums.below hb Zlr,hd.texts.below hb Zlr,hd.fits⟩
structure ZmC (h:ZaJ) (d:Zaq):Prop where
 bytes:d.bytes.length=h.bl
 host:d.host.length=h.hl
 mail:d.mail.length=h.ml
 nums:d.nums.length=h.nl
 texts:d.texts.length=h.tl
theorem IsData.len {w:World} {h:ZaJ} {d:Zaq} (hd:IsData w h d):ZmC h d:=
 ⟨by simpa using hd.bytes.hlen,hd.host.len,hd.mail.len,by simpa using hd.nums.hlen,hd.texts.len⟩
def Za1 (n:Int) (size:Nat):List UInt8:=(List.range size).map fun t=>UInt8.ofNat (n.toNat/256^(size-1-t)%256)
def u8V (c:UInt8):Value:= .int .u8 (c.toNat:Int)
def Zlh (l:List UInt8) (n:Int) (size:Nat):List UInt8:=if Za2 n size=true then l++Za1 n size else l
theorem Zho:(Tryz.prog.info? 5).map (fun i=>(i.zero,i.size,i.bytes))=some (some (.int .u8 0),1,1):=by kernel_rfl
theorem Zk3 (z:Value) (n:Nat):madeCells #[z] n=(List.replicate n z).toArray:=by
 unfold madeCells
 apply Array.ext
 ·simp
 ·intro i h1 h2
  simp at h1
  simp[Nat.mod_one]
theorem Zh2 {W:World} {bo:Option Addr} {bl bc:Nat} {l:List UInt8} (h:ZbP W bo bl bc l) (g:Nat):0<(l.map u8V).length→(some (⟨g,0,none⟩:Addr)=some ⟨g,0,none⟩)∧∃ ad,bo=some ad∧∀ j v,(l.map u8V)[j]?=some v→W.cell? (ad.add j)=some v:=fun h0=>by
 have hl:=h.hlen
 rw[List.length_map] at hl h0
 obtain⟨b,off,e,hc⟩:=h.hcells (by omega)
 refine⟨rfl,_,e,fun j v hj=>?_⟩
 rw[ZbB]
 have hj':j<l.length:=by
  rcases Nat.lt_or_ge j l.length with h|h
  ·exact h
  ·rw[List.getElem?_eq_none (by simpa using h)] at hj;cases hj
 rw[hc j (by simpa using hj'),←hj,List.getElem?_eq_getElem (by simpa using hj')]
 rfl
theorem Zlb {w W:World} {l:List UInt8} {bl:Nat} (h:W.heap[w.heap.size]?=some (.cells (l.map u8V++List.replicate 7 (Value.int .u8 0)).toArray 5 (0,0))) (hl:l.length=bl) {B:Nat} (hB:B≤w.heap.size) (hb:bl≤1000000000):W.ownsRow B 5 1 (.slice (some ⟨w.heap.size,0,none⟩) bl (bl+7)) bl (l.map u8V):=by
 refine⟨by simp[hl],.inr ⟨w.heap.size,bl+7,_,rfl,hB,h,by omega,by unfold maxLen;omega,by simp[hl],?_⟩⟩
 simp[hl]
theorem Zdu (l:List UInt8):∀ v∈l.map u8V,v.oneCell'=true:=by
 intro v hv
 obtain⟨c,_,rfl⟩:=List.mem_map.1 hv
 rfl
theorem ZrB (n:Int) (size t:Nat) (h0:0≤n) (ht:t<size):(n/2^(8*(size-1-t))%256:Int)=((UInt8.ofNat (n.toNat/256^(size-1-t)%256)).toNat:Int)∧(Za1 n size).take (t+1)=(Za1 n size).take t++[UInt8.ofNat (n.toNat/256^(size-1-t)%256)]:=by
 constructor
 ·obtain⟨m,rfl⟩:=Int.eq_ofNat_of_zero_le h0
  rw[UInt8.toNat_ofNat',Int.toNat_natCast,Int.pow_mul,show((2:Int)^8)=256 from rfl,Nat.mod_mod_of_dvd _ (show(256:Nat)∣2^8 from⟨1,rfl⟩)]
  simp only[Int.natCast_emod,Int.natCast_ediv,Int.natCast_pow,Int.cast_ofNat_Int]
 ·rw[List.take_succ_eq_append_getElem (by simpa [Za1] using ht)]
  simp[Za1]
theorem Zgx (w:World) (bo:Option Addr) (bl bc:Nat) (l:List UInt8) (hl:ZbP w bo bl bc l) (hbl:bl≤1000000000) (n:Int) (size:Nat) (hs:1≤size) (hs7:size≤7):
  Calls Tryz.prog 87 #[.slice bo bl bc,.int .i64 n,.int .i64 (size:Int)] w fun e w'=>(∃ v,e= .returned v∧w'.ownsRow w.heap.size 5 1 v (Zlh l n size).length ((Zlh l n size).map u8V))∧Below w.heap.size w w':=by
 obtain⟨i0,hi,hz0,hz1,hz2⟩:=info_parts Zho
 have hmk:=run_make (P:=Tryz.prog) w 22 5 i0 _ Tryz.underlying22 hi hz0 .i64 .i64 (bl:Int) ((bl:Int)+7) (by omega) (by omega) (by rw[hz2];omega) (by omega)
 simp only[hz1,Nat.mul_one,Int.toNat_natCast,show((bl:Int)+7).toNat=bl+7 from by omega] at hmk
 have hm0:madeCells (Value.int .u8 0).cells (bl+7)=(List.replicate (bl+7) (Value.int .u8 0)).toArray:=Zk3 _ _
 rw[hm0] at hmk
 clear hm0
 have hA:(w.alloc (.cells (List.replicate (bl+7) (Value.int .u8 0)).toArray 5)).heap[w.heap.size]?=some (.cells (List.replicate (bl+7) (Value.int .u8 0)).toArray 5 (0,0)):=Zha w _
 have hb1:Below w.heap.size w (w.alloc (.cells (List.replicate (bl+7) (Value.int .u8 0)).toArray 5)):=Zbr.alloc Zlr _
 have hlen:=hl.hlen
 rw[List.length_map] at hlen
 have HL:=Zhd (Zan hl hlen)
 have HI:=Zhd (Zan hi (Zan hz0 (Zan hz1 hz2)))
 have HA:=Zhd hA
 have HB1:=Zhd hb1
 clear hl hlen hi hz0 hz1 hz2 hA hb1
 have hc1:(l.map u8V).length=Nat.min bl bl:=by rw[List.length_map,HL.out.2];exact(Nat.min_self _).symm
 have hc2:=Zh2 (HL.out.1.below HB1.out Zlr) w.heap.size
 have hc3:0+(l.map u8V).length≤(List.replicate (bl+7) (Value.int .u8 0)).length:=by rw[List.length_map,HL.out.2,List.length_replicate];omega
 have HC:=Zhd (Zan hc1 (Zan hc2 hc3))
 have HS:Hid (splice (List.replicate (bl+7) (Value.int .u8 0)) 0 (l.map u8V)=l.map u8V++List.replicate 7 (Value.int .u8 0)):=Zhd (by
  rw[splice,List.take_zero,List.nil_append,List.length_map,HL.out.2,List.drop_replicate]
  congr 2;omega)
 clear hc1 hc2 hc3
 cases hf:Za2 n size with
 |false=>
  have HF:=Zhd (fun w=>Zfh w n size hs hs7)
  rw[hf] at HF
  have HP:=Zhd (show Zlh l n size=l by simp[Zlh,hf])
  clear hf
  go_enter Tryz.func87,Tryz.ntmps87
  go_wp2_with (first|(refine wpList_copy_splice rfl _ _ 22 22 rfl 5 Tryz.underlying22 (by kernel_rfl) (some ⟨w.heap.size,0,none⟩) bo bl (bl+7) bl bc rfl rfl w.heap.size 0 (List.replicate (bl+7) (Value.int .u8 0)) 5 HA.out (l.map u8V) HC.out.1 HC.out.2.1 HC.out.2.2 (Zdu l) w.heap.size w HB1.out Zlr ?_;intro W hW hbW;have HW:=Zhd hbW;clear hbW)|(go_at_call 86;refine(HF.out _).mono ?_;rintro e W ⟨rfl,rfl⟩))
  go_ret
  rw[HP.out]
  exact⟨⟨.slice (some ⟨w.heap.size,0,none⟩) bl (bl+7),rfl,by rw[HL.out.2];exact Zlb (w:=w) (W:=W) (by have:=hW.out;rw[HS.out] at this;exact this) HL.out.2 Zlr hbl⟩,HW.out⟩
 |true=>
  have HF:=Zhd (fun w=>Zfh w n size hs hs7)
  rw[hf] at HF
  have HP:=Zhd (show Zlh l n size=l++Za1 n size by simp[Zlh,hf])
  have hn0:0≤n:=by simp only[Za2,Zae2,Zde] at hf;exact hf.1
  clear hf
  go_enter Tryz.func87,Tryz.ntmps87
  go_wp2_with (first|(refine wpList_copy_splice rfl _ _ 22 22 rfl 5 Tryz.underlying22 (by kernel_rfl) (some ⟨w.heap.size,0,none⟩) bo bl (bl+7) bl bc rfl rfl w.heap.size 0 (List.replicate (bl+7) (Value.int .u8 0)) 5 HA.out (l.map u8V) HC.out.1 HC.out.2.1 HC.out.2.2 (Zdu l) w.heap.size w HB1.out Zlr ?_;intro W hW hbW;have HW:=Zhd hbW;clear hbW)|(go_at_call 86;refine(HF.out _).mono ?_;rintro e W ⟨rfl,rfl⟩))
  have HO:=Zhd (Zlb (W:=W) (l:=l) (bl:=bl) (by have:=hW.out;rw[HS.out] at this;exact this) HL.out.2 Zlr (by omega))
  clear hW hmk
  go_loopw [7,8] (fun v k wr=>∃ t:Nat,t≤size∧k= .int .i64 ((size:Int)-1-t)∧Hid (Below w.heap.size w wr∧wr.ownsRow w.heap.size 5 1 v (bl+t) (l.map u8V++((Za1 n size).take t).map u8V))) (fun _ k _=>(intOf k+1).toNat)
  case atStart=>exact⟨0,Nat.zero_le _,by go_num,Zhd ⟨HW.out,by simpa using HO.out⟩⟩
  case round=>
   obtain⟨t,ht,rfl,hinv⟩:=hrel
   clear HO HW
   by_cases hlt:t<size
   ·obtain⟨r,hr⟩:∃ r:Nat,r=size-1-t:=⟨_,rfl⟩
    have hr2:(size:Int)-1-t=r:=by omega
    rw[hr2]
    clear hr2
    have HRQ:=Zhd hr
    have hr6:r≤6:=by omega
    have hx:=ZrB n size t hn0 hlt
    rw[←hr] at hx
    clear hr
    obtain⟨i1,g1,g2,g3⟩:=(⟨i0,HI.out.1,HI.out.2.1,HI.out.2.2⟩:∃ i,Tryz.prog.info? 5=some i∧i.zero=some (.int .u8 0)∧i.size=1∧i.bytes=1)
    obtain⟨v',w6,hrun,hown,hgr⟩:=Zba (P:=Tryz.prog) (wr.alloc (.cells #[.int .u8 (n/2^(8*r)%256)] 5)) w.heap.size 22 22 5 i1 _ 1 Tryz.underlying22 g1 g2 g3.1 g3.2 rfl u7 (bl+t) _ (hinv.out.2.alloc _) (some ⟨wr.heap.size,0,none⟩) 1 1 [.int .u8 (n/2^(8*r)%256)] (ZfS wr _ _) (by intro u hu;simp at hu;subst hu;rfl) (by omega) (by omega) (by have:=hinv.out.1.size;simp;omega)
    have hb6:Below w.heap.size w w6:=(hinv.out.1.alloc hinv.out.1.size _).grown hgr (by have:=hinv.out.1.size;simp;omega) (fun j hj=>(hinv.out.2.lt j hj).1)
    have hlist:l.map u8V++((Za1 n size).take t).map u8V++[.int .u8 (n/2^(8*r)%256)]=l.map u8V++((Za1 n size).take (t+1)).map u8V:=by
     rw[hx.2,List.map_append,List.append_assoc,hx.1];rfl
    rw[hlist] at hown
    have HST:=Zhd (Zan hb6 hown)
    have HRUN:=Zhd hrun
    clear hx g1 g2 g3 hrun hown hgr hb6 hlist hinv
    go_wp2_with (at_builtin;refine Zao rfl _ _ _ rfl _ _ rfl rfl HRUN.out ?_)
    go_roundw
    case rel=>exact⟨t+1,by omega,congrArg (Value.int .i64) (by have:=HRQ.out;omega),HST⟩
    case measure=>simp[intOf]
   ·obtain rfl:t=size:=by omega
    have hneg:(t:Int)-1-t= -1:=by omega
    rw[hneg]
    clear hneg
    go_wp2_with fail
    go_ret
    have h2:=hinv.out.2
    have hpl:(Za1 n t).length=t:=by simp[Za1]
    rw[List.take_of_length_le (by omega),←List.map_append] at h2
    rw[HP.out]
    exact⟨⟨_,rfl,by rw[Zla,hpl,HL.out.2];exact h2⟩,hinv.out.1⟩
def beN (l:List UInt8):Nat:=l.foldl (fun n x=>n*256+x.toNat) 0
theorem Zgn (l:List UInt8) (x:UInt8):beN (l++[x])=beN l*256+x.toNat:=by simp[beN,List.foldl_append]
theorem Zp2:∀ (l:List UInt8),beN l<256^l.length:=by
 intro l
 induction h:l.length generalizing l with
 |zero=>have:=List.eq_nil_of_length_eq_zero h;subst this;decide
 |succ n ih=>
  obtain⟨a,x,rfl⟩:∃ a x,l=a++[x]:=⟨l.dropLast,l.getLast (by intro e;subst e;simp at h),(List.dropLast_concat_getLast _).symm⟩
  have h1:=ih a (by simpa using h)
  have h2:=x.toNat_lt
  rw[Zgn,Nat.pow_succ]
  omega
theorem ZhN (a b:Nat) (ha:a<9223372036854775808) (hb:b<9223372036854775808):bits .or .i64 (a:Int) (b:Int)=((a|||b:Nat):Int):=by
 have hx:a|||b<2^63:=Nat.or_lt_two_pow (by omega) (by omega)
 show IntKind.i64.wrap ((BitVec.ofInt 64 (a:Int)|||BitVec.ofInt 64 (b:Int)).toNat:Int)=_
 rw[BitVec.toNat_or,ofInt_u64 a (by omega),ofInt_u64 b (by omega)]
 simp[IntKind.wrap,IntKind.bits,IntKind.signed]
 omega
theorem ZqS (m x:Nat) (h:m<281474976710656) (hx:x<256):bits BinOp.or IntKind.i64 ((m:Int)*256) (x:Int)=(m:Int)*256+(x:Int):=by
 have h1:=ZhN (m*256) x (by omega) (by omega)
 rw[show((m*256:Nat):Int)=(m:Int)*256 from Int.natCast_mul _ _] at h1
 rw[h1]
 have h2:m*256|||x=m*256+x:=by
  have:=Nat.two_pow_add_eq_or_of_lt (i:=8) (b:=x) (by simpa using hx) m
  rw[show(256:Nat)=2^8 from rfl,Nat.mul_comm m,←this]
 rw[h2,Int.natCast_add,Int.natCast_mul];rfl
def Zdl (l:List UInt8) (pos size:Nat):Int×Int:=if pos+size≤l.length then((beN ((l.drop pos).take size):Int),0) else(0,3)
theorem ZeC (w:World) (bo:Option Addr) (bl bc:Nat) (l:List UInt8) (hl:ZbP w bo bl bc l) (pos size:Nat) (hp:pos≤1000000000000) (hs:1≤size) (hs7:size≤7):
  Calls Tryz.prog 135 #[.slice bo bl bc,.int .i64 (pos:Int),.int .i64 (size:Int)] w fun e w'=>e= .returned (.tuple #[.int .i64 (Zdl l pos size).1,.int .i64 (Zdl l pos size).2])∧w'=w:=by
 have hlen:=hl.hlen
 rw[List.length_map] at hlen
 have hle:=hl.hle
 have hcap:=hl.hcap
 have hmx:=hl.hmax
 by_cases hin:pos+size≤bl
 ·have HG:=Zhd (show Zdl l pos size=((beN ((l.drop pos).take size):Int),0) by rw[Zdl,if_pos (by omega)])
  have hlt: ¬((bl:Int)-(pos:Int)<(size:Int)):=by omega
  obtain⟨b,off,rfl⟩:=hl.addr (k:=pos) (by omega)
  have HL:=Zhd (Zan hl hlen)
  clear hl hlen
  by_cases hcp:bc=pos
  ·exfalso;omega
  go_enter Tryz.func135,Tryz.ntmps135
  go_wp2_with fail
  go_loopw [8,42] (fun v i wr=>∃ t:Nat,t≤size∧i= .int .i64 t∧v= .int .i64 (beN ((l.drop pos).take t):Int)∧wr=w) (fun _ i _=>size-(intOf i).toNat)
  case atStart=>exact⟨0,Nat.zero_le _,rfl,rfl,rfl⟩
  case round=>
   obtain⟨t,ht,rfl,rfl,rfl⟩:=hrel
   by_cases h1:t<size
   ·have hc:=HL.out.1.at (i:=pos+t) (by omega)
    obtain⟨x,hx⟩:∃ x,x=(l[pos+t]'(by have:=HL.out.2;omega)):=⟨_,rfl⟩
    have hc':wr.cell? ⟨b,off+pos+t,none⟩=some (.int .u8 (x.toNat:Int)):=by
     rw[hx,Nat.add_assoc,hc];simp
    clear hc
    have hm1:=Zp2 ((l.drop pos).take t)
    have hm2:(256:Nat)^((l.drop pos).take t).length≤256^6:=Nat.pow_le_pow_right (by decide) (by rw[List.length_take];omega)
    have hm3:=Zgn ((l.drop pos).take t) x
    rw[show(l.drop pos).take t++[x]=(l.drop pos).take (t+1) by
     rw[List.take_succ_eq_append_getElem (by rw[List.length_drop];have:=HL.out.2;omega),hx];simp] at hm3
    have HM3:=Zhd hm3
    obtain⟨m,hm⟩:∃ m,m=beN ((l.drop pos).take t):=⟨_,rfl⟩
    rw[←hm] at HM3 hm1⊢
    have hmb:m<281474976710656:=by have:(256:Nat)^6=281474976710656:=by decide
                                   omega
    obtain⟨xn,hxn⟩:∃ xn,xn=x.toNat:=⟨_,rfl⟩
    have hxb:xn<256:=by rw[hxn];exact x.toNat_lt
    rw[←hxn] at hc' HM3
    have hor:=ZqS m xn hmb hxb
    clear hm hx hm1 hm2 hm3 hxn
    go_wp2_with fail
    go_roundw
    case rel=>exact⟨t+1,by omega,by go_num,congrArg (Value.int .i64) (by rw[HM3.out];push_cast;rfl),trivial⟩
    case measure=>simp[intOf];omega
   ·obtain rfl:t=size:=by omega
    go_wp2_with fail
    go_ret2
    rw[HG.out]
    exact⟨rfl,rfl⟩
 ·have HG:=Zhd (show Zdl l pos size=(0,3) by rw[Zdl,if_neg (by omega)])
  clear hl hlen
  rw[HG.out]
  by_cases hp2:bl<pos
  ·go_enter Tryz.func135,Tryz.ntmps135
   go_wp2_with fail
   go_ret2
   exact⟨rfl,rfl⟩
  ·have hlt:((bl:Int)-(pos:Int)<(size:Int)):=by omega
   clear HG
   go_enter Tryz.func135,Tryz.ntmps135
   go_wp2_with fail
   go_ret2
   exact⟨rfl,rfl⟩
theorem ZdK (z:Value) (n:Nat):Builtin.zeroCells #[z] n=(List.replicate n z).toArray:=by
 unfold Builtin.zeroCells
 apply Array.ext
 ·simp
 ·intro i h1 h2
  simp[Nat.mod_one]
theorem Zhy {P:Program} (w:World) (t tn ty e:TypeId) (i:TypeInfo) (z:Value) (kq kn:IntKind) (ht:P.underlying t=some (.slice e)) (htn:P.underlying tn=some (.int kn)) (hi:P.info? e=some i) (hz:i.zero=some z) (hs:i.size=1) (hzc:z.cells=#[z]) (hz1:z.oneCell'=true) (hby:i.bytes≤1000)
  (g sLen sCap:Nat) (cur:Array Value) (hg:w.heap[g]?=some (.cells cur e (0,0))) (k:Nat) (hk:k≤1000000000) (hroom:sLen+k≤sCap) (hfit:sLen+k≤cur.size):
  (Builtin.append_ #[t,tn] ty #[.slice (some ⟨g,0,none⟩) sLen sCap,.int kq k]).run P w=
   .ok (.slice (some ⟨g,0,none⟩) (sLen+k) sCap) (w.setRow g (cur.toList.take sLen++List.replicate k z++cur.toList.drop (sLen+k)).toArray):=by
 have hw:IntKind.i64.wrap (k:Int)=k:=by rw[IntKind.wrap_i64];omega
 have hneg: ¬((k:Int)<0):=by omega
 have h48i: ¬(281474976710656<(k:Int)*(i.bytes:Int)):=by
  rw[←Int.natCast_mul]
  have:k*i.bytes≤1000000000*1000:=Nat.mul_le_mul hk hby
  omega
 by_cases hk0:k=0
 ·subst hk0
  have hself:w.setRow g (cur.toList.take sLen++List.replicate 0 z++cur.toList.drop (sLen+0)).toArray=w:=by
   simp only[List.replicate_zero,List.append_nil,Nat.add_zero,List.take_append_drop]
   exact setRow_self w g cur _ _ hg
  rw[hself]
  have hst:(storeCells ⟨g,sLen,none⟩ []).run P w= .ok () w:=rfl
  have hw0:IntKind.i64.wrap 0=0:=by decide
  simp[Builtin.append_,run_underlying ht,run_underlying htn,sizeOf,typeInfo,zeroValue,hi,hz,hs,asInt,asIntOf,hw0,hst,Addr.add_lit,show sLen≤sCap by omega]
 ·have hst:=run_storeCells_at P g sLen e (List.replicate k z) 0 cur w hg (by simp;omega) (by intro u hu;rw[List.eq_of_mem_replicate hu];exact hz1)
  simp only[Nat.add_zero] at hst
  simp only[List.length_replicate] at hst
  simp[Builtin.append_,run_underlying ht,run_underlying htn,sizeOf,typeInfo,zeroValue,hi,hz,hs,asInt,asIntOf,hw,hneg,h48i,hk0,hroom,Addr.add_lit,hzc,ZdK,hst]
theorem ZiS {P:Program} (w:World) (base:Nat) (t tn ty e:TypeId) (i:TypeInfo) (z:Value) (kq kn:IntKind) (ht:P.underlying t=some (.slice e)) (htn:P.underlying tn=some (.int kn)) (hi:P.info? e=some i) (hz:i.zero=some z) (hs:i.size=1) (hzc:z.cells=#[z]) (hz1:z.oneCell'=true) (hby:i.bytes≤1000)
  (v:Value) (n:Nat) (xs:List Value) (hown:w.ownsRow base e 1 v n xs) (hn:0<n) (k:Nat) (hk:n+k≤1000000000) (hbase:base≤w.heap.size):
  ∃ v' w',(Builtin.append_ #[t,tn] ty #[v,.int kq k]).run P w= .ok v' w'∧w'.ownsRow base e 1 v' (n+k) (xs++List.replicate k z)∧w.grownBy w' v.ownBlock:=by
 have hmul:(n+k)*i.bytes≤1000000000*1000:=Nat.mul_le_mul hk hby
 have hlen:(xs++List.replicate k z).length=(n+k)*1:=by rw[Zla,hown.1,List.length_replicate];omega
 rcases hown.2 with⟨_,h0⟩|⟨g,cap,cur,rfl,hbg,hg,hnc,hcm,hcs,htake⟩
 ·omega
 ·by_cases hroom:n+k≤cap
  ·have hr:=Zhy (P:=P) w t tn ty e i z kq kn ht htn hi hz hs hzc hz1 hby g n cap cur hg k (by omega) hroom (by omega)
   refine⟨_,_,hr,⟨hlen,.inr ⟨g,cap,_,rfl,hbg,setRow_heap w g cur _ e _ hg,hroom,hcm,?_,?_⟩⟩,⟨rfl,rfl,rfl,by simp,fun k _ hk=>setRow_other w g k _ (fun e=>hk (by simp[Value.ownBlock,e]))⟩⟩
   ·simp only[List.size_toArray,Zla,List.length_take,List.length_drop,Array.length_toList,List.length_replicate]
    omega
   ·rw[Nat.mul_one] at htake
    rw[htake,←hlen]
    exact List.take_left
  ·have holds:∀ j u,xs[j]?=some u→w.drew.cell? ((⟨g,0,none⟩:Addr).add j)=some u:=hown.cells (g:=g) rfl
   have hf:=run_firstCells_some (P:=P) w.drew i.size n ⟨g,0,none⟩ n cap xs (by rw[hs];exact hown.1) holds
   have hr:=Lib.run_append_grow_zeros (P:=P) w t tn ty e i z kq kn ht htn hi hz (some ⟨g,0,none⟩) n cap xs hf k (by omega) (by omega) (by omega) (by omega) (by
    have:k*i.bytes≤1000000000*1000:=Nat.mul_le_mul (by omega) hby
    omega) (growslice_fits (by omega) (by omega))
   have hge:=grownCap_ge w (n+k) cap e
   have hcm2:grownCap w (n+k) cap e≤maxLen:=grownCap_le_maxLen w (n+k) cap e (by unfold maxLen;omega)
   refine⟨_,_,hr,⟨hlen,.inr ⟨w.heap.size,_,_,rfl,hbase,Zha w.drew _,hge,hcm2,?_,?_⟩⟩,⟨rfl,rfl,rfl,by simp,fun k hk _=>heap_alloc_old w.drew _ hk⟩⟩
   ·have h1:=hown.1
    rw[hzc,ZdK,ZdK]
    simp only[Array.size_append,List.size_toArray,List.length_replicate,Nat.mul_one] at h1⊢
    omega
   ·rw[hzc,ZdK,ZdK]
    simp only[Array.toList_append,List.append_assoc]
    rw[←List.append_assoc,←hlen]
    exact List.take_left
def Zak (T:List TypeId) (w:World) (b:Nat):Prop:=∃ cs t,w.heap[b]?=some (.cells cs t (0,0))∧t∈T
def rowIn (S:Nat→Prop) (ao:Option Addr) (n:Nat):Prop:=0<n→∀ a,ao=some a→S a.block
def Same (S:Nat→Prop) (w w':World):Prop:=∀ b,b<w.heap.size→S b→w'.heap[b]?=w.heap[b]?
theorem Same.refl (S:Nat→Prop) (w:World):Same S w w:=fun _ _ _=>rfl
theorem Same.mono {S S':Nat→Prop} {w w':World} (h:Same S w w') (hs:∀ b,b<w.heap.size→S' b→S b):Same S' w w':=fun b hb hS=>h b hb (hs b hb hS)
theorem Same.below {w w':World} (h:Below w.heap.size w w') (S:Nat→Prop):Same S w w':=fun b hb _=>h.block b hb
theorem Same.grown {w w':World} {row:Option Nat} (h:w.grownBy w' row) {S:Nat→Prop} (hS:∀ b,S b→some b≠row):Same S w w':=fun b hb hSb=>h.block b hb (hS b hSb)
theorem ZdI {T:List TypeId} {w:World} {b:Nat} (h:Zak T w b):b<w.heap.size:=by
 obtain⟨cs,t,h,_⟩:=h
 exact(Array.getElem?_eq_some_iff.1 h).1
theorem Zbt {T:List TypeId} {w w':World} {b:Nat} (h:Zak T w b) (hs:w'.heap[b]?=w.heap[b]?):Zak T w' b:=by
 obtain⟨cs,t,h,ht⟩:=h
 exact⟨cs,t,hs.trans h,ht⟩
theorem Za4 {T T':List TypeId} {w:World} {b:Nat} (h:Zak T w b) (ht:∀ t∈T,t∈T'):Zak T' w b:=by
 obtain⟨cs,t,h,h1⟩:=h
 exact⟨cs,t,h,ht t h1⟩
theorem Same.step {T:List TypeId} {w w1 w2:World} (h1:Same (Zak T w) w w1) (h2:Same (Zak T w1) w1 w2):Same (Zak T w) w w2:=fun b hb ht=>by
 have e:=h1 b hb ht
 have t1:=Zbt ht e
 rw[h2 b (ZdI t1) t1,e]
theorem Zbe {T:List TypeId} {w:World} {g b:Nat} {cs:Array Value} {t:TypeId} (hg:Blk w g cs t) (ht:t∉T) (h:Zak T w b):b≠g:=by
 rintro rfl
 obtain⟨cs',t',h,h1⟩:=h
 unfold Blk at hg
 rw[hg] at h
 cases h
 exact ht h1
theorem Same.but {T:List TypeId} {w w':World} {g:Nat} {cs:Array Value} {t:TypeId} (hb:w.grownBy w' (some g)) (hg:Blk w g cs t) (ht:t∉T):Same (Zak T w) w w':=
 Same.grown hb (fun b h e=>Zbe hg ht h (by cases e;rfl))
theorem Zmt {T:List TypeId} {w:World} {g b:Nat} {es:Array MapEntry} {k:Nat} (hg:w.heap[g]?=some (.map es k)) (h:Zak T w b):b≠g:=by
 rintro rfl
 obtain⟨cs',t',h,h1⟩:=h
 rw[hg] at h
 cases h
theorem Row.keep {S:Nat→Prop} {w w':World} {ao:Option Addr} {n c:Nat} {vs:List Value} (h:Row w ao n c vs) (hi:rowIn S ao n) (hs:Same S w w'):Row w' ao n c vs:=by
 refine⟨h.hlen,h.hle,h.hcap,h.hmax,h.hnil,fun h0=>?_⟩
 obtain⟨b,off,e,hc⟩:=h.hcells h0
 refine⟨b,off,e,fun i hi'=>?_⟩
 have hl:=World.block_lt_of_cell? w _ (hc i hi')
 have hsb:=hs b (by simpa using hl) (hi h0 _ e)
 rw[←hc i hi']
 simp[World.cell?,hsb]
theorem Row.mem_lt {w:World} {ao:Option Addr} {n c:Nat} {vs:List Value} (h:Row w ao n c vs):rowIn (fun b=>b<w.heap.size) ao n:=fun h0 a ha=>by
 obtain⟨b,off,e,hc⟩:=h.hcells h0
 rw[e] at ha
 cases ha
 have hl:0<vs.length:=by have:=h.hlen;omega
 have:=World.block_lt_of_cell? w _ (hc 0 hl)
 simpa using this
theorem rowIn.mono {S S':Nat→Prop} {w:World} {ao:Option Addr} {n c:Nat} {vs:List Value} (h:rowIn S ao n) (hr:Row w ao n c vs) (hS:∀ b,b<w.heap.size→S b→S' b):rowIn S' ao n:=
 fun h0 a ha=>hS _ (hr.mem_lt h0 a ha) (h h0 a ha)
theorem Za3 (S:Nat→Prop) (ao:Option Addr):rowIn S ao 0:=fun h=>absurd h (Nat.lt_irrefl 0)
theorem Strs.keep {S:Nat→Prop} {w w':World} {ao:Option Addr} {n c:Nat} {vs:List ByteArray} (h:Strs w ao n c vs) (hi:rowIn S ao n) (hs:Same S w w'):Strs w' ao n c vs:=⟨h.row.keep hi hs,h.small⟩
structure Kind (α:Type) where
 H:Type
 size:Nat
 cells:H→α→Array Value
 is:(Nat→Prop)→World→H→α→Prop
 hsize:∀ h x,(cells h x).size=size
 pos:0<size
 one:∀ h x u,u∈(cells h x).toList→u.oneCell'=true
 mono:∀ {S S':Nat→Prop} {w h x},is S w h x→(∀ b,b<w.heap.size→S b→S' b)→is S' w h x
 keep:∀ {S:Nat→Prop} {w w' h x},is S w h x→Same S w w'→is S w' h x
theorem Kind.on {α:Type} (K:Kind α) {S:Nat→Prop} {w w':World} {h:K.H} {x:α} (hi:K.is S w h x) (hb:Below w.heap.size w w'):K.is S w' h x:=K.keep hi (Same.below hb S)
theorem Kind.step {α:Type} (K:Kind α) {T:List TypeId} {w w':World} {h:K.H} {x:α} (hi:K.is (Zak T w) w h x) (hs:Same (Zak T w) w w'):K.is (Zak T w') w' h x:=by
 have h1:K.is (fun b=>Zak T w b∧b<w.heap.size) w h x:=K.mono hi (fun b hb ht=>⟨ht,hb⟩)
 have h2:=K.keep h1 (hs.mono (fun b _ ht=>ht.1))
 exact K.mono h2 (fun b hb ht=>Zbt ht.1 (hs b ht.2 ht.1))
def Elem1 {α:Type} (K:Kind α) (S:Nat→Prop) (w:World) (b off:Nat) (x:α):Prop:=
 ∃ h,(∀ j,j<K.size→w.cell? ⟨b,off+j,none⟩=(K.cells h x)[j]?)∧K.is S w h x
theorem Elem1.lt {α:Type} {K:Kind α} {S:Nat→Prop} {w:World} {b off:Nat} {x:α} (h:Elem1 K S w b off x):b<w.heap.size:=by
 obtain⟨k,h1,h2⟩:=h
 have h4:=h1 0 K.pos
 have hj':0<(K.cells k x).size:=by rw[K.hsize];exact K.pos
 rw[Array.getElem?_eq_getElem hj'] at h4
 have:=World.block_lt_of_cell? w _ h4
 simpa using this
theorem Elem1.keep {α:Type} {K:Kind α} {S:Nat→Prop} {w w':World} {b off:Nat} {x:α} (h:Elem1 K S w b off x) (hb:S b) (hs:Same S w w'):Elem1 K S w' b off x:=by
 have hl:=h.lt
 obtain⟨k,h1,h2⟩:=h
 refine⟨k,fun j hj=>?_,K.keep h2 hs⟩
 rw[←h1 j hj]
 simp[World.cell?,hs b hl hb]
theorem Elem1.mono {α:Type} {K:Kind α} {S S':Nat→Prop} {w:World} {b off:Nat} {x:α} (h:Elem1 K S w b off x) (hS:∀ b,b<w.heap.size→S b→S' b):Elem1 K S' w b off x:=by
 obtain⟨k,h1,h2⟩:=h
 exact⟨k,h1,K.mono h2 hS⟩
structure Seq {α:Type} (K:Kind α) (S:Nat→Prop) (w:World) (ao:Option Addr) (n c:Nat) (xs:List α):Prop where
 hlen:xs.length=n
 hle:n≤c
 hmax:c≤9223372036854775807
 hnil:ao=none→c=0
 hcells:0<n→∃ b off,ao=some ⟨b,off,none⟩∧S b∧∀ i (h:i<xs.length),Elem1 K S w b (off+i*K.size) xs[i]
theorem Seq.keep {α:Type} {K:Kind α} {S:Nat→Prop} {w w':World} {ao:Option Addr} {n c:Nat} {xs:List α} (h:Seq K S w ao n c xs) (hs:Same S w w'):Seq K S w' ao n c xs:=
 ⟨h.hlen,h.hle,h.hmax,h.hnil,fun h0=>by
  obtain⟨b,off,e,hb,hc⟩:=h.hcells h0
  exact⟨b,off,e,hb,fun i hi=>(hc i hi).keep hb hs⟩⟩
theorem Seq.on {α:Type} {K:Kind α} {S:Nat→Prop} {w w':World} {ao:Option Addr} {n c:Nat} {xs:List α} (h:Seq K S w ao n c xs) (hb:Below w.heap.size w w'):Seq K S w' ao n c xs:=h.keep (Same.below hb S)
theorem Seq.mono {α:Type} {K:Kind α} {S S':Nat→Prop} {w:World} {ao:Option Addr} {n c:Nat} {xs:List α} (h:Seq K S w ao n c xs) (hS:∀ b,b<w.heap.size→S b→S' b):Seq K S' w ao n c xs:=
 ⟨h.hlen,h.hle,h.hmax,h.hnil,fun h0=>by
  obtain⟨b,off,e,hb,hc⟩:=h.hcells h0
  have hl:0<xs.length:=by have:=h.hlen;omega
  exact⟨b,off,e,hS b (hc 0 hl).lt hb,fun i hi=>(hc i hi).mono hS⟩⟩
theorem Seq.step {α:Type} {K:Kind α} {T:List TypeId} {w w':World} {ao:Option Addr} {n c:Nat} {xs:List α} (h:Seq K (Zak T w) w ao n c xs) (hs:Same (Zak T w) w w'):Seq K (Zak T w') w' ao n c xs:=by
 have h1:Seq K (fun b=>Zak T w b∧b<w.heap.size) w ao n c xs:=h.mono (fun b hb ht=>⟨ht,hb⟩)
 have h2:=h1.keep (hs.mono (fun b _ ht=>ht.1))
 exact h2.mono (fun b hb ht=>Zbt ht.1 (hs b ht.2 ht.1))
theorem Seq.nil {α:Type} (K:Kind α) (S:Nat→Prop) {w:World} {ao:Option Addr} {c:Nat} (h:c≤9223372036854775807) (hn:ao=none→c=0):Seq K S w ao 0 c []:=⟨rfl,Nat.zero_le _,h,hn,fun h=>absurd h (Nat.lt_irrefl 0)⟩
theorem Seq.addr {α:Type} {K:Kind α} {S:Nat→Prop} {w:World} {ao:Option Addr} {n c:Nat} {xs:List α} (h:Seq K S w ao n c xs) {k:Nat} (hk:k<n):∃ b off,ao=some ⟨b,off,none⟩:=by
 obtain⟨b,off,e,_⟩:=h.hcells (by omega)
 exact⟨b,off,e⟩
theorem Seq.at {α:Type} {K:Kind α} {S:Nat→Prop} {w:World} {b off:Nat} {n c:Nat} {xs:List α} (h:Seq K S w (some ⟨b,off,none⟩) n c xs) {k:Nat} (hk:k<n):Elem1 K S w b (off+k*K.size) (xs[k]'(by have:=h.hlen;omega)):=by
 obtain⟨b',off',e,_,hc⟩:=h.hcells (by omega)
 cases e
 exact hc k (by have:=h.hlen;omega)
theorem Seq.take {α:Type} {K:Kind α} {S:Nat→Prop} {w:World} {ao:Option Addr} {n c:Nat} {xs:List α} (h:Seq K S w ao n c xs) {k:Nat} (hk:k≤n):Seq K S w ao k c (xs.take k):=by
 have hl:=h.hlen
 refine⟨by simp;omega,by have:=h.hle;omega,h.hmax,h.hnil,fun h0=>?_⟩
 obtain⟨b,off,e,hb,hc⟩:=h.hcells (by omega)
 refine⟨b,off,e,hb,fun i hi=>?_⟩
 rw[List.getElem_take]
 exact hc i (by simp at hi;omega)
def Gath {α:Type} (K:Kind α) (T:List TypeId) (ty:TypeId) (B:Nat) (w:World) (v:Value) (xs:List α):Prop:=
 ∃ cs:List Value,w.ownsRow B ty K.size v xs.length cs∧∀ i (h:i<xs.length),∃ k,(∀ j,j<K.size→cs[i*K.size+j]?=(K.cells k xs[i])[j]?)∧K.is (Zak T w) w k xs[i]
theorem Gath.nil {α:Type} (K:Kind α) (T:List TypeId) (ty:TypeId) (B:Nat) (w:World):Gath K T ty B w (.slice none 0 0) []:=⟨[],World.ownsRow_nil _ _ _ _,fun i h=>absurd h (by simp)⟩
theorem Gath.step {α:Type} {K:Kind α} {T:List TypeId} {ty:TypeId} {B:Nat} {w w':World} {v:Value} {xs:List α} (h:Gath K T ty B w v xs) (hs:Same (Zak (ty::T) w) w w'):Gath K T ty B w' v xs:=by
 obtain⟨cs,⟨hl,ho⟩,h2⟩:=h
 have hsT:Same (Zak T w) w w':=hs.mono (fun b _ ht=>Za4 ht (fun t ht=>List.mem_cons_of_mem _ ht))
 refine⟨cs,⟨hl,?_⟩,fun i hi=>?_⟩
 ·rcases ho with h|⟨g,cap,cur,e,hg,hh,r⟩
  ·exact .inl h
  ·exact .inr ⟨g,cap,cur,e,hg,by rw[hs g (Array.getElem?_eq_some_iff.1 hh).1 ⟨_,_,hh,List.mem_cons_self⟩];exact hh,r⟩
 ·obtain⟨k,h3,h4⟩:=h2 i hi
  exact⟨k,h3,K.step h4 hsT⟩
theorem Gath.on {α:Type} {K:Kind α} {T:List TypeId} {ty:TypeId} {B:Nat} {w w':World} {v:Value} {xs:List α} (h:Gath K T ty B w v xs) (hb:Below w.heap.size w w'):Gath K T ty B w' v xs:=h.step (Same.below hb _)
theorem Gath.push {α:Type} {K:Kind α} {T:List TypeId} {ty ts:TypeId} {B:Nat} {w:World} {v:Value} {xs:List α} (h:Gath K T ty B w v xs) (hT:ty∉T) (i0:TypeInfo) (z:Value)
  (hts:Tryz.prog.underlying ts=some (.slice ty)) (hi:Tryz.prog.info? ty=some i0) (hz:i0.zero=some z) (hsz:i0.size=K.size) (hzs:z.cells.size=K.size) (hby:i0.bytes≤1000) (hlen:xs.length≤1000000) (hB:B≤w.heap.size)
  (k:K.H) (x:α) (hx:K.is (Zak T w) w k x) (src:Addr) (cap:Nat) (hsrc:∀ j,j<K.size→w.cell? (src.add j)=(K.cells k x)[j]?) (tx:TypeId):
  ∃ v' w',(Builtin.append_ #[ts,ts] tx #[v,.slice (some src) 1 cap]).run Tryz.prog w= .ok v' w'∧Gath K T ty B w' v' (xs++[x])∧w.grownBy w' v.ownBlock∧(∀ b,v.ownBlock=some b→∃ cs,Blk w b cs ty∧B≤b)∧v'≠ .slice none 0 0:=by
 obtain⟨cs,h1,h2⟩:=h
 have hmul:(xs.length+1)*i0.bytes≤1000001*1000:=Nat.mul_le_mul (by omega) hby
 have hcl:cs.length=xs.length*K.size:=h1.1
 have hks:=K.hsize k x
 obtain⟨v',w',hrun,hown,hg,hnil,_⟩:=run_append_own_at (P:=Tryz.prog) w B ts tx ty i0 z K.size i0.bytes hts hi hz hsz rfl hzs K.pos v xs.length cs h1
  src 1 cap (K.cells k x).toList (by simp[hks]) (fun j u hj=>by
   have hj':j<(K.cells k x).toList.length:=by
    rcases Nat.lt_or_ge j (K.cells k x).toList.length with h|h
    ·exact h
    ·rw[List.getElem?_eq_none h] at hj;cases hj
   rw[hsrc j (by rw[←hks];simpa using hj')]
   simpa using hj) (K.one k x) (by unfold maxLen;omega) (by omega) hB
 have hrow:∀ b,v.ownBlock=some b→∃ cs,Blk w b cs ty∧B≤b:=by
  intro b hb
  obtain⟨_,h3⟩:=h1
  rcases h3 with⟨rfl,_⟩|⟨g,c,cur,rfl,hg,hh,_⟩
  ·cases hb
  ·cases hb
   exact⟨_,hh,hg⟩
 have hst:Same (Zak T w) w w':=Same.grown hg (fun b ht e=>by
  obtain⟨cs,hB,_⟩:=hrow b e.symm
  exact Zbe hB hT ht rfl)
 refine⟨v',w',hrun,⟨_,by simpa using hown,fun i hi'=>?_⟩,hg,hrow,fun e=>?_⟩
 ·rw[Zla,List.length_singleton] at hi'
  by_cases hlt:i<xs.length
  ·obtain⟨k2,q1,q2⟩:=h2 i hlt
   have hxi:(xs++[x])[i]=xs[i]:=List.getElem_append_left hlt
   rw[hxi]
   refine⟨k2,fun j hj=>?_,K.step q2 hst⟩
   have hij:i*K.size+j<xs.length*K.size:=by
    have:=Nat.mul_le_mul_right K.size (show i+1≤xs.length from hlt)
    rw[Nat.add_mul] at this
    omega
   rw[List.getElem?_append_left (by omega)]
   exact q1 j hj
  ·have hie:i=xs.length:=by omega
   subst hie
   have hxi:(xs++[x])[xs.length]=x:=by simp
   rw[hxi]
   refine⟨k,fun j hj=>?_,K.step hx hst⟩
   rw[List.getElem?_append_right (by omega),hcl]
   simp
 ·have:=(hnil.1 e).2
  omega
theorem Gath.seq {α:Type} {K:Kind α} {T:List TypeId} {ty:TypeId} {B:Nat} {w:World} {v:Value} {xs:List α} (h:Gath K T ty B w v xs):∃ ao c,v= .slice ao xs.length c∧Seq K (Zak (ty::T) w) w ao xs.length c xs∧∀ a,ao=some a→B≤a.block:=by
 obtain⟨cs,⟨hl,h1⟩,h2⟩:=h
 rcases h1 with⟨rfl,h0⟩|⟨g,cap,cur,rfl,hBg,hb,hn,hc,hs,ht⟩
 ·have hx:xs=[]:=List.eq_nil_of_length_eq_zero h0
  subst hx
  exact⟨none,0,rfl,Seq.nil _ _ (by omega) (fun _=>rfl),fun a ha=>by cases ha⟩
 ·refine⟨_,_,rfl,⟨rfl,hn,?_,fun e=>(by cases e),fun _=>⟨g,0,rfl,⟨_,_,hb,List.mem_cons_self⟩,fun i hi=>?_⟩⟩,fun a ha=>by cases ha;exact hBg⟩
  ·unfold maxLen at hc;omega
  ·obtain⟨k2,q1,q2⟩:=h2 i hi
   refine⟨k2,fun j hj=>?_,K.mono q2 (fun b _ ht=>Za4 ht (fun t h=>List.mem_cons_of_mem _ h))⟩
   have hij:i*K.size+j<xs.length*K.size:=by
    have:=Nat.mul_le_mul_right K.size (show i+1≤xs.length from hi)
    rw[Nat.add_mul] at this
    omega
   rw[Nat.zero_add,Lib.cell_of_heap hb,←q1 j hj,←ht,List.getElem?_take,if_pos hij]
   simp
structure Zb7 where
 kind:Int
 epoch:Int
 seq:Int
 part:Int
 parts:Int
def Zat (h:Zb7):Array Value:=#[.int .i64 h.kind,.int .i64 h.epoch,.int .i64 h.seq,.int .i64 h.part,.int .i64 h.parts]
def ZdV (h:Zb7) (n:Nat):Nat→Int
 |0=>h.kind
 |1=>h.epoch
 |2=>h.seq
 |3=>h.part
 |4=>h.parts
 |_=>n
def Zby:Nat→Nat
 |0=>1
 |1=>4
 |2=>7
 |3=>1
 |4=>1
 |_=>2
theorem Zhe (t:Nat):1≤Zby t∧Zby t≤7:=by
 match t with
 |0|1|2|3|4|n+5=>simp[Zby]
def Zd3 (h:Zb7):Bool:=Za2 h.kind 1&&Za2 h.epoch 4&&Za2 h.seq 7&&Za2 h.part 1&&Za2 h.parts 1
theorem Znm {h:Zb7} {n:Nat} (hh:∀ s,s<5→Za2 (ZdV h n s) (Zby s)=true):Zd3 h=true:=by
 have h0:=hh 0 (by omega);have h1:=hh 1 (by omega);have h2:=hh 2 (by omega);have h3:=hh 3 (by omega);have h4:=hh 4 (by omega)
 simp only[ZdV,Zby] at h0 h1 h2 h3 h4
 simp[Zd3,h0,h1,h2,h3,h4]
theorem ZlW {h:Zb7} {n t:Nat} (ht:t<5) (hh:Za2 (ZdV h n t) (Zby t)=false):Zd3 h=false:=by
 have h5:t=0∨t=1∨t=2∨t=3∨t=4:=by omega
 rcases h5 with rfl|rfl|rfl|rfl|rfl
 ·have e:Za2 h.kind 1=false:=hh
  unfold Zd3;rw[e];simp only[Bool.false_and]
 ·have e:Za2 h.epoch 4=false:=hh
  unfold Zd3;rw[e];simp only[Bool.and_false,Bool.false_and]
 ·have e:Za2 h.seq 7=false:=hh
  unfold Zd3;rw[e];simp only[Bool.and_false,Bool.false_and]
 ·have e:Za2 h.part 1=false:=hh
  unfold Zd3;rw[e];simp only[Bool.and_false,Bool.false_and]
 ·have e:Za2 h.parts 1=false:=hh
  unfold Zd3;rw[e];simp only[Bool.and_false]
def Zb9 (h:Zb7) (l:List UInt8):Int:=if Zd3 h=false then 15 else if h.kind=0∨h.parts=0∨h.parts≤h.part then 15 else if 496<l.length then 4 else 0
def Zhr (h:Zb7) (n:Nat):Nat→List UInt8
 |0=>[]
 |t+1=>Zhr h n t++Za1 (ZdV h n t) (Zby t)
def ZcZ (h:Zb7) (l:List UInt8):List UInt8:=Zhr h l.length 6++l++List.replicate (496-l.length) 0
theorem Zap (n:Int) (size:Nat):(Za1 n size).length=size:=by simp[Za1]
theorem ZiA (h:Zb7) (n:Nat):(Zhr h n 6).length=16:=by simp[Zhr,Zap,Zby]
theorem Zog {h:Zb7} {l:List UInt8} (hl:l.length≤496):(ZcZ h l).length=512:=by
 simp[ZcZ,ZiA];omega
theorem ZfA (w:World):Calls Tryz.prog 137 #[] w fun e w'=>(∃ g,e= .returned (.slice (some ⟨g,0,none⟩) 6 6)∧(∀ t,t<6→w'.cell? ⟨g,t,none⟩=some (.int .i64 (Zby t:Int)))∧w.heap.size≤g)∧Below w.heap.size w w':=by
 go_enter Tryz.func137,Tryz.ntmps137
 go_wp2_with fail
 go_ret
 refine⟨⟨w.heap.size,rfl,fun t ht=>?_,Nat.le_refl _⟩,Zbr.alloc Zlr _⟩
 rw[World.cell?_alloc_new]
 match t,ht with
 |0,_|1,_|2,_|3,_|4,_|5,_=>rfl
theorem Zk5 {W:World} {g n:Nat} {h:Zb7} (hB:Blk W g #[.int .i64 h.kind,.int .i64 h.epoch,.int .i64 h.seq,.int .i64 h.part,.int .i64 h.parts,.int .i64 (n:Int)] 3) (t:Nat) (ht:t<6):W.cell? ⟨g,t,none⟩=some (.int .i64 (ZdV h n t)):=by
 have:=hB.cell t
 rw[this]
 match t,ht with
 |0,_|1,_|2,_|3,_|4,_|5,_=>rfl
structure ZmE (w:World) (h:Zb7) (l:List UInt8) (e:Ending) (w':World):Prop where
 ok:Zb9 h l=0→∃ v,e= .returned (.tuple #[v,.int .i64 0])∧w'.ownsRow w.heap.size 5 1 v 512 ((ZcZ h l).map u8V)
 bad:Zb9 h l≠0→e= .returned (.tuple #[.slice none 0 0,.int .i64 (Zb9 h l)])
 bel:Below w.heap.size w w'
theorem ZrA (h:Zb7) (n t:Nat) (ht:t≤6):(Zhr h n t).length≤16:=by
 have h7:t=0∨t=1∨t=2∨t=3∨t=4∨t=5∨t=6:=by omega
 rcases h7 with rfl|rfl|rfl|rfl|rfl|rfl|rfl<;>simp[Zhr,Zap,Zby]
theorem ZfQ {w:World} {B B':Nat} {e:TypeId} {size:Nat} {v:Value} {n:Nat} {xs:List Value} (h:w.ownsRow B e size v n xs) (hB:B'≤B):w.ownsRow B' e size v n xs:=by
 obtain⟨h1,h2⟩:=h
 refine⟨h1,h2.imp id ?_⟩
 rintro⟨g,cap,cur,a,b,c⟩
 exact⟨g,cap,cur,a,by omega,c⟩
theorem Zgk {P:Program} {w:World} {ops:Array Oper} {rest:List Oper} {o:Oper} {a:Act} {Q:Exit→Act→World→Prop} (hgd:o.guard=none) (s x:Operand) (t tn:TypeId)
  (ho:o.op= .call {callee:= .builtin .append,args:=#[s,x],argTypes:=#[t,tn]}) (v xv:Value) (hs:a.eval s=v) (hx:a.eval x=xv) {v':Value} {w':World}
  (hrun:(Builtin.append_ #[t,tn] o.type #[v,xv]).run P w= .ok v' w') (h:wpList P ops Q rest (a.put o.dst v') w'):wpList P ops Q (o::rest) a w:=by
 refine wpList_plain hgd fun K hK=>?_
 unfold Oper.wp
 simp[execOp,ho,resolve,invoke,builtin,hs,hx,hrun,Result.andThen]
 exact hK _ _ h
theorem Zeq {w w':World} {h:Zb7} {l:List UInt8} {k:Int} {e:Ending} (hE:Zb9 h l=k) (hk:k≠0) (he:e= .returned (.tuple #[.slice none 0 0,.int .i64 k])) (hb:Below w.heap.size w w'):ZmE w h l e w':=
 ⟨fun e0=>absurd (hE.symm.trans e0) hk,fun _=>by rw[hE];exact he,hb⟩
theorem ZiG (w:World) (h:Zb7) (bo:Option Addr) (bl bc:Nat) (l:List UInt8) (hl:ZbP w bo bl bc l) (hbl:bl≤1000000):
  Calls Tryz.prog 88 #[.agg (Zat h),.slice bo bl bc] w fun e w'=>ZmE w h l e w':=by
 have hlen:=hl.hlen
 rw[List.length_map] at hlen
 have HL:=Zhd (Zan hl hlen)
 clear hl
 subst hlen
 simp only[Zat]
 have hA:Blk (w.alloc (.cells (Zat h) 108)) w.heap.size (Zat h) 108:=Zha w _
 have hN:Blk ((w.alloc (.cells (Zat h) 108)).alloc (.cells #[.int .i64 h.kind,.int .i64 h.epoch,.int .i64 h.seq,.int .i64 h.part,.int .i64 h.parts,.int .i64 (l.length:Int)] 3)) (w.heap.size+1) #[.int .i64 h.kind,.int .i64 h.epoch,.int .i64 h.seq,.int .i64 h.part,.int .i64 h.parts,.int .i64 (l.length:Int)] 3:=by
  have:=Zha (w.alloc (.cells (Zat h) 108)) (.cells #[.int .i64 h.kind,.int .i64 h.epoch,.int .i64 h.seq,.int .i64 h.part,.int .i64 h.parts,.int .i64 (l.length:Int)] 3)
  simpa [Blk] using this
 have hAN:=hA.on (Zbr.alloc Zlr (.cells #[.int .i64 h.kind,.int .i64 h.epoch,.int .i64 h.seq,.int .i64 h.part,.int .i64 h.parts,.int .i64 (l.length:Int)] 3))
 have hb2:Below w.heap.size w ((w.alloc (.cells (Zat h) 108)).alloc (.cells #[.int .i64 h.kind,.int .i64 h.epoch,.int .i64 h.seq,.int .i64 h.part,.int .i64 h.parts,.int .i64 (l.length:Int)] 3)):=(Zbr.alloc Zlr _).alloc (by simp) _
 have HN:=Zhd (Zan hAN (Zan hN hb2))
 have a0:=hA.cell 0
 have a1:=hA.cell 1
 have a2:=hA.cell 2
 have a3:=hA.cell 3
 have a4:=hA.cell 4
 simp only[Zat] at a0 a1 a2 a3 a4
 clear hA hN hAN hb2
 go_enter Tryz.func88,Tryz.ntmps88
 go_wp2_with fail
 clear a0 a1 a2 a3 a4
 go_loopw [28] (fun i wr=>∃ t:Nat,t≤5∧i= .int .i64 t∧Hid (Below w.heap.size w wr∧Blk wr w.heap.size (Zat h) 108∧Blk wr (w.heap.size+1) #[.int .i64 h.kind,.int .i64 h.epoch,.int .i64 h.seq,.int .i64 h.part,.int .i64 h.parts,.int .i64 (l.length:Int)] 3∧∀ s,s<t→Za2 (ZdV h l.length s) (Zby s)=true)) (fun i _=>5-(intOf i).toNat)
 case atStart=>exact⟨0,Nat.zero_le _,rfl,Zhd ⟨HN.out.2.2,HN.out.1,HN.out.2.1,fun s hs=>absurd hs (by omega)⟩⟩
 case round=>
  obtain⟨t,ht,rfl,hinv⟩:=hrel
  by_cases hlt:t<5
  ·obtain⟨nt,hnt⟩:∃ nt,nt=ZdV h l.length t:=⟨_,rfl⟩
   obtain⟨zt,hzt⟩:∃ zt,zt=Zby t:=⟨_,rfl⟩
   have hz:=Zhe t
   rw[←hzt] at hz
   have c0:wr.cell? ⟨w.heap.size+1,t,none⟩=some (.int .i64 nt):=by rw[hnt];exact Zk5 hinv.out.2.2.1 t (by omega)
   have HI:=Zhd hinv.out
   have HQ:=Zhd (Zan hnt hzt)
   cases hf:Za2 nt zt with
   |false=>
    have HF:=Zhd (show ∀ w,_ from fun w=>Zfh w nt zt hz.1 hz.2)
    rw[hf] at HF
    have HE:=Zhd (show Zb9 h l=15 by rw[Zb9,if_pos (ZlW hlt (by rw[←hnt,←hzt];exact hf))])
    clear hinv hnt hzt hz hf
    go_wp2_with (first|(go_at_call 137;refine(ZfA _).mono ?_;rintro e W ⟨⟨g,rfl,hg,_⟩,hb⟩;have HBW:=Zhd hb;have g0:W.cell? ⟨g,t,none⟩=some (.int .i64 (zt:Int)):=by{rw[HQ.out.2];exact hg t (by omega)};clear hg hb)|(go_at_call 86;refine(HF.out _).mono ?_;rintro e W2 ⟨rfl,rfl⟩))
    go_ret2
    exact Zeq HE.out (by decide) rfl (Zaa HI.out.1 HBW.out Zlr)
   |true=>
    have HF:=Zhd (show ∀ w,_ from fun w=>Zfh w nt zt hz.1 hz.2)
    rw[hf] at HF
    have HT:=Zhd hf
    clear hinv hnt hzt hz hf
    go_wp2_with (first|(go_at_call 137;refine(ZfA _).mono ?_;rintro e W ⟨⟨g,rfl,hg,_⟩,hb⟩;have HBW:=Zhd hb;have g0:W.cell? ⟨g,t,none⟩=some (.int .i64 (zt:Int)):=by{rw[HQ.out.2];exact hg t (by omega)};clear hg hb)|(go_at_call 86;refine(HF.out _).mono ?_;rintro e W2 ⟨rfl,rfl⟩))
    go_roundw
    case rel=>
     refine⟨t+1,by omega,by go_num,Zhd ⟨Zaa HI.out.1 HBW.out Zlr,HI.out.2.1.on HBW.out,HI.out.2.2.1.on HBW.out,fun s hs=>?_⟩⟩
     rcases Nat.lt_succ_iff_lt_or_eq.1 hs with h1|rfl
     ·exact HI.out.2.2.2 s h1
     ·rw[←HQ.out.1,←HQ.out.2];exact HT.out
    case measure=>simp[intOf];omega
  ·obtain rfl:t=5:=by omega
   have hfit:=Znm hinv.out.2.2.2
   have HI:=Zhd hinv.out
   have d0:wr.cell? ⟨w.heap.size,0,none⟩=some (.int .i64 h.kind):=hinv.out.2.1.cell 0
   have d3:wr.cell? ⟨w.heap.size,3,none⟩=some (.int .i64 h.part):=hinv.out.2.1.cell 3
   have d4:wr.cell? ⟨w.heap.size,4,none⟩=some (.int .i64 h.parts):=hinv.out.2.1.cell 4
   have HFT:=Zhd hfit
   clear hinv hfit
   by_cases hc:h.kind=0∨h.parts=0∨h.parts≤h.part
   ·have HE:=Zhd (show Zb9 h l=15 by rw[Zb9,if_neg (by rw[HFT.out];decide),if_pos hc])
    obtain⟨hk,hk'⟩:∃ q:Bool,q=(h.kind==0):=⟨_,rfl⟩
    by_cases c1:h.kind=0
    ·have c1b:(h.kind==0)=true:=by simpa using c1
     clear hc c1 hk hk'
     go_wp2_with fail
     go_ret2
     exact Zeq HE.out (by decide) rfl HI.out.1
    ·have c1b:(h.kind==0)=false:=by simpa using c1
     by_cases c2:h.parts=0
     ·have c2b:(h.parts==0)=true:=by simpa using c2
      clear hc c1 c2 hk hk'
      go_wp2_with fail
      go_ret2
      exact Zeq HE.out (by decide) rfl HI.out.1
     ·have c2b:(h.parts==0)=false:=by simpa using c2
      have c3b:decide (h.parts≤h.part)=true:=by simpa [c1,c2] using hc
      clear hc c1 c2 hk hk'
      go_wp2_with fail
      go_ret2
      exact Zeq HE.out (by decide) rfl HI.out.1
   ·have c1b:(h.kind==0)=false:=by simpa using (fun e=>hc (.inl e))
    have c2b:(h.parts==0)=false:=by simpa using (fun e=>hc (.inr (.inl e)))
    have c3b:decide (h.parts≤h.part)=false:=by simpa using (fun e=>hc (.inr (.inr e)))
    by_cases hbig:496<l.length
    ·have HE:=Zhd (show Zb9 h l=4 by rw[Zb9,if_neg (by rw[HFT.out];decide),if_neg hc,if_pos hbig])
     clear hc
     go_wp2_with fail
     go_ret2
     exact Zeq HE.out (by decide) rfl HI.out.1
    ·have HE:=Zhd (show Zb9 h l=0 by rw[Zb9,if_neg (by rw[HFT.out];decide),if_neg hc,if_neg hbig])
     clear hc
     go_wp2_with fail
     clear d0 d3 d4 c1b c2b c3b
     have hfa:∀ s,s<6→Za2 (ZdV h l.length s) (Zby s)=true:=fun s hs=>by
      rcases Nat.lt_or_ge s 5 with h1|h1
      ·exact HI.out.2.2.2 s h1
      ·obtain rfl:s=5:=by omega
       show Za2 (l.length:Int) 2=true
       simp only[Za2,Zae2,Zde]
       exact⟨by omega,by have:(256:Int)^2=65536:=by decide
                         omega⟩
     have HFA:=Zhd hfa
     have HST:Hid (Below w.heap.size w wr∧Blk wr (w.heap.size+1) #[.int .i64 h.kind,.int .i64 h.epoch,.int .i64 h.seq,.int .i64 h.part,.int .i64 h.parts,.int .i64 (l.length:Int)] 3∧wr.ownsRow w.heap.size 5 1 (.slice none 0 0) (Zhr h l.length 0).length ((Zhr h l.length 0).map u8V)):=Zhd ⟨HI.out.1,HI.out.2.2.1,World.ownsRow_nil _ _ _ _⟩
     clear hfa
     go_loopw [9,63] (fun v i wr=>∃ t:Nat,t≤6∧i= .int .i64 t∧Hid (Below w.heap.size w wr∧Blk wr (w.heap.size+1) #[.int .i64 h.kind,.int .i64 h.epoch,.int .i64 h.seq,.int .i64 h.part,.int .i64 h.parts,.int .i64 (l.length:Int)] 3∧wr.ownsRow w.heap.size 5 1 v (Zhr h l.length t).length ((Zhr h l.length t).map u8V))) (fun _ i _=>6-(intOf i).toNat)
     case atStart=>exact⟨0,Nat.zero_le _,rfl,HST⟩
     case round=>
      rename World=>w3
      obtain⟨t,ht,rfl,hinv⟩:=hrel
      by_cases hlt2:t<6
      ·obtain⟨nt,hnt⟩:∃ nt,nt=ZdV h l.length t:=⟨_,rfl⟩
       obtain⟨zt,hzt⟩:∃ zt,zt=Zby t:=⟨_,rfl⟩
       have hz:=Zhe t
       rw[←hzt] at hz
       have c0:w3.cell? ⟨w.heap.size+1,t,none⟩=some (.int .i64 nt):=by rw[hnt];exact Zk5 hinv.out.2.1 t (by omega)
       have hpl:=ZrA h l.length t ht
       obtain⟨ao,cap,hv,hrow⟩:=ZbG hinv.out.2.2 (by omega)
       have HI2:=Zhd hinv.out
       have HQ:=Zhd (Zan hnt hzt)
       have HRW:=Zhd hrow
       have HPL:=Zhd hpl
       have HPU:=Zhd (show Zlh (Zhr h l.length t) nt zt=Zhr h l.length (t+1) by rw[Zlh,if_pos (by rw[hnt,hzt];exact HFA.out t hlt2),hnt,hzt];rfl)
       have HZ:=Zhd hz
       clear hinv hnt hzt hz hrow hpl
       subst hv
       obtain⟨pn,hpn⟩:∃ pn,pn=(Zhr h l.length t).length:=⟨_,rfl⟩
       rw[←hpn] at HRW HPL⊢
       have HPN:=Zhd hpn
       clear hpn
       go_wp2_with (first|(go_at_call 137;refine(ZfA _).mono ?_;rintro e W ⟨⟨g,rfl,hg,_⟩,hb⟩;have HBW:=Zhd hb;have g0:W.cell? ⟨g,t,none⟩=some (.int .i64 (zt:Int)):=by{rw[HQ.out.2];exact hg t (by omega)};clear hg hb)|(go_at_call 87;refine(Zgx W ao pn cap (Zhr h l.length t) (HRW.out.below HBW.out Zlr) (by have:=HPL.out;omega) nt zt HZ.out.1 HZ.out.2).mono ?_;rintro e W2 ⟨⟨v2,rfl,hown2⟩,hb2⟩;have HO2:=Zhd (Zan hown2 hb2);clear hown2 hb2 g0 c0))
       go_roundw
       case rel=>
        have hb3:=Zaa HI2.out.1 (Zaa HBW.out HO2.out.2 Zlr) Zlr
        have ho:=HO2.out.1
        rw[HPU.out] at ho
        (repeat apply Exists.intro)
        refine⟨?_,rfl⟩
        exact⟨t+1,by omega,by go_num,Zhd ⟨hb3,(HI2.out.2.1.on (Zaa HBW.out HO2.out.2 Zlr)),ZfQ ho (by have:=HI2.out.1.size;have:=HBW.out.size;omega)⟩⟩
       case measure=>simp[intOf];omega
      ·obtain rfl:t=6:=by omega
       have ho:=hinv.out.2.2
       rw[ZiA] at ho
       obtain⟨ao,cap,hv,_⟩:=ZbG ho (by omega)
       subst hv
       obtain⟨i0,hi,hz0,hz1,hz2⟩:=info_parts Zho
       have hbw:=hinv.out.1.size
       obtain⟨v4,w4,hrun4,hown4,hgr4⟩:=Zba (P:=Tryz.prog) w3 w.heap.size 22 22 5 i0 _ 1 Tryz.underlying22 hi hz0 hz1 hz2 rfl _ 16 _ ho bo l.length bc (l.map u8V) (HL.out.1.below hinv.out.1 Zlr) (Zdu l) (by omega) (by omega) hbw
       have hb4:Below w.heap.size w w4:=hinv.out.1.grown hgr4 hbw (fun j hj=>(ho.lt j hj).1)
       obtain⟨q,hq⟩:∃ q,q=16+l.length:=⟨_,rfl⟩
       rw[←hq] at hown4
       obtain⟨a4,c4,hv4,_⟩:=ZbG hown4 (by omega)
       subst hv4
       obtain⟨k,hk⟩:∃ k:Nat,(512:Int)-(q:Int)=(k:Int):=⟨512-q,by omega⟩
       obtain⟨v5,w5,hrun5,hown5,hgr5⟩:=ZiS (P:=Tryz.prog) w4 w.heap.size 22 3 22 5 i0 (.int .u8 0) .i64 .i64 Tryz.underlying22 Tryz.underlying3 hi hz0 hz1 rfl rfl (by rw[hz2];omega) _ q _ hown4 (by omega) k (by omega) hb4.size
       have hb5:Below w.heap.size w w5:=hb4.grown hgr5 hb4.size (fun j hj=>(hown4.lt j hj).1)
       have hfin:(Zhr h l.length 6).map u8V++l.map u8V++List.replicate k (Value.int .u8 0)=(ZcZ h l).map u8V:=by
        rw[ZcZ,List.map_append,List.map_append,List.map_replicate,show 496-l.length=k from by omega]
        rfl
       rw[hfin,show q+k=512 from by omega] at hown5
       have HE5:=Zhd (Zan hown5 hb5)
       have HR4:=Zhd hrun4
       have HR5:=Zhd hrun5
       have hq9:q≤512:=by omega
       clear ho hi hz0 hz1 hz2 hbw hrun4 hown4 hgr4 hb4 hq hrun5 hown5 hgr5 hb5 hfin hinv
       go_wp2_with (first|(at_builtin;refine Zao rfl _ _ _ rfl _ _ rfl rfl HR4.out ?_;clear HR4)|(refine Zgk rfl _ _ _ _ rfl _ _ rfl rfl HR5.out ?_;clear HR5))
       go_ret2
       exact⟨fun _=>⟨v5,rfl,HE5.out.1⟩,fun e=>absurd HE.out e,HE5.out.2⟩
structure DataIn (S:Nat→Prop) (h:ZaJ):Prop where
 iB:rowIn S h.ba h.bl
 iH:rowIn S h.ha h.hl
 iM:rowIn S h.ma h.ml
 iN:rowIn S h.na h.nl
 iT:rowIn S h.ta h.tl
theorem DataIn.mono {S S':Nat→Prop} {w:World} {h:ZaJ} {d:Zaq} (i:DataIn S h) (hd:IsData w h d) (hS:∀ b,b<w.heap.size→S b→S' b):DataIn S' h:=
 ⟨i.iB.mono hd.bytes hS,i.iH.mono hd.host.row hS,i.iM.mono hd.mail.row hS,i.iN.mono hd.nums hS,i.iT.mono hd.texts.row hS⟩
theorem IsData.keep {S:Nat→Prop} {w w':World} {h:ZaJ} {d:Zaq} (hd:IsData w h d) (i:DataIn S h) (hs:Same S w w'):IsData w' h d:=
 ⟨hd.bytes.keep i.iB hs,hd.host.keep i.iH hs,hd.mail.keep i.iM hs,hd.nums.keep i.iN hs,hd.texts.keep i.iT hs,hd.fits⟩
def Zb0:Kind Zaq where
 H:=ZaJ
 size:=5
 cells:=fun h _=>Zae h
 is:=fun S w h d=>IsData w h d∧DataIn S h
 hsize:=fun _ _=>rfl
 pos:=by decide
 one:=fun h x u hu=>by
  simp[Zae] at hu
  rcases hu with rfl|rfl|rfl|rfl|rfl<;>rfl
 mono:=fun h hS=>⟨h.1,h.2.mono h.1 hS⟩
 keep:=fun h hs=>⟨h.1.keep h.2 hs,h.2⟩
abbrev Ze9 (S:Nat→Prop) (w:World) (ao:Option Addr) (n c:Nat) (ds:List Zaq):Prop:=Seq Zb0 S w ao n c ds
theorem ZcL {S:Nat→Prop} {w:World} {b off:Nat} {d:Zaq} (h:Elem1 Zb0 S w b off d):∃ k,(∀ j,j<5→w.cell? ⟨b,off+j,none⟩=(Zae k)[j]?)∧IsData w k d∧DataIn S k:=by
 obtain⟨k,h1,h2⟩:=h
 exact⟨k,h1,h2.1,h2.2⟩
structure Zas where
 name:List ByteArray
 typ:Int
 kind:Int
 rank:Int
 got:Int
 ttl:Int
 set:List Zaq
 zone:List ByteArray
 soa:Zaq
structure ZaU where
 na:Option Addr
 nl:Nat
 nc:Nat
 sa:Option Addr
 sl:Nat
 sc:Nat
 za:Option Addr
 zl:Nat
 zc:Nat
 d:ZaJ
def Zaj (h:ZaU) (f:Zas):Array Value:=#[.slice h.na h.nl h.nc,.int .i64 f.typ,.int .i64 f.kind,.int .i64 f.rank,.int .i64 f.got,.int .i64 f.ttl,.slice h.sa h.sl h.sc,.slice h.za h.zl h.zc,
 .slice h.d.ba h.d.bl h.d.bc,.slice h.d.ha h.d.hl h.d.hc,.slice h.d.ma h.d.ml h.d.mc,.slice h.d.na h.d.nl h.d.nc,.slice h.d.ta h.d.tl h.d.tc]
structure IsFact (S:Nat→Prop) (w:World) (h:ZaU) (f:Zas):Prop where
 name:Strs w h.na h.nl h.nc f.name
 nameIn:rowIn S h.na h.nl
 typ:wfi f.typ
 kind:wfi f.kind
 rank:wfi f.rank
 got:wfi f.got
 ttl:wfi f.ttl
 set:Ze9 S w h.sa h.sl h.sc f.set
 zone:Strs w h.za h.zl h.zc f.zone
 zoneIn:rowIn S h.za h.zl
 soa:IsData w h.d f.soa
 soaIn:DataIn S h.d
theorem IsFact.mono {S S':Nat→Prop} {w:World} {h:ZaU} {f:Zas} (i:IsFact S w h f) (hS:∀ b,b<w.heap.size→S b→S' b):IsFact S' w h f:=
 ⟨i.name,i.nameIn.mono i.name.row hS,i.typ,i.kind,i.rank,i.got,i.ttl,i.set.mono hS,i.zone,i.zoneIn.mono i.zone.row hS,i.soa,i.soaIn.mono i.soa hS⟩
theorem IsFact.keep {S:Nat→Prop} {w w':World} {h:ZaU} {f:Zas} (i:IsFact S w h f) (hs:Same S w w'):IsFact S w' h f:=
 ⟨i.name.keep i.nameIn hs,i.nameIn,i.typ,i.kind,i.rank,i.got,i.ttl,i.set.keep hs,i.zone.keep i.zoneIn hs,i.zoneIn,i.soa.keep i.soaIn hs,i.soaIn⟩
theorem IsFact.on {S:Nat→Prop} {w w':World} {h:ZaU} {f:Zas} (i:IsFact S w h f) (hb:Below w.heap.size w w'):IsFact S w' h f:=i.keep (Same.below hb S)
def Zht:Kind Zas where
 H:=ZaU
 size:=13
 cells:=fun h f=>Zaj h f
 is:=IsFact
 hsize:=fun _ _=>rfl
 pos:=by decide
 one:=fun h x u hu=>by
  simp[Zaj] at hu
  rcases hu with rfl|rfl|rfl|rfl|rfl|rfl|rfl|rfl|rfl|rfl|rfl|rfl|rfl<;>rfl
 mono:=fun h hS=>h.mono hS
 keep:=fun h hs=>h.keep hs
theorem IsFact.step {T:List TypeId} {w w':World} {h:ZaU} {f:Zas} (i:IsFact (Zak T w) w h f) (hs:Same (Zak T w) w w'):IsFact (Zak T w') w' h f:=Zht.step i hs
instance:Inhabited Zaq:=⟨⟨[],[],[],[],[]⟩⟩
instance:Inhabited Zas:=⟨⟨[],0,0,0,0,0,[],[],default⟩⟩
theorem Zd9 (w:World) {ao:Option Addr} {n c:Nat} {vs:List Value} (h:Row w ao n c vs):rowIn (fun b=>b<w.heap.size) ao n:=h.mem_lt
theorem IsData.all {w:World} {h:ZaJ} {d:Zaq} (hd:IsData w h d):DataIn (fun b=>b<w.heap.size) h:=⟨hd.bytes.mem_lt,hd.host.row.mem_lt,hd.mail.row.mem_lt,hd.nums.mem_lt,hd.texts.row.mem_lt⟩
theorem Zhf:(Tryz.prog.info? 164).map (·.size)=some 2:=by kernel_rfl
theorem Zkq:liesAt Tryz.prog Tryz.prog.depth 164 (2/Tryz.prog.cellsOf 164) 0 164 1=true:=by kernel_rfl
theorem ZeD:(Tryz.prog.info? 5).map (fun i=>(i.zero,i.size,i.bytes))=some (some (.int .u8 0),1,1):=by kernel_rfl
abbrev IsB (B b:Nat) (bs:List Value) (w:World):Prop:=Lib.IsBuilder 164 5 B b bs w
theorem ZeT (b:Nat) (w:World) (h0:w.cell? ⟨b,0,none⟩=some (.pointer (some ⟨b,0,none⟩))):
  Calls Tryz.prog 157 #[.pointer (some ⟨b,0,none⟩)] w fun e w'=>e= .returned (.tuple #[])∧w'=w:=by
 obtain⟨j,hj,_⟩:=Option.map_eq_some_iff.1 Zhf
 go_enter Tryz.func157,Tryz.ntmps157
 go_wp2
 rw[Lib.run_neq_ptr_same w _ Tryz.underlying162 hj]
 go_wp2
 go_end0
 exact⟨rfl,rfl⟩
theorem Zeb (b:Nat) (w:World) (h0:w.cell? ⟨b,0,none⟩=some (.pointer none)) (hsh:w.shape? b=some (164,2)) (hfz:w.frozen? ⟨b,0,none⟩=false):
  Calls Tryz.prog 157 #[.pointer (some ⟨b,0,none⟩)] w fun e w'=>e= .returned (.tuple #[])∧w'=w.setCell ⟨b,0,none⟩ (.pointer (some ⟨b,0,none⟩)):=by
 obtain⟨j,hj,hjs⟩:=Option.map_eq_some_iff.1 Zhf
 go_enter Tryz.func157,Tryz.ntmps157
 go_wp2
 rw[Lib.run_to_unsafe w ⟨b,0,none⟩ Tryz.underlying162 Tryz.underlying229 hj (by rw[hjs];decide) hsh (Nat.zero_lt_succ 1)]
 simp only[Result.andThen]
 rw[Oper.upon_value]
 go_wp2
 rw[run_callFunc_extern Tryz.func177 (by kernel_rfl) (by kernel_rfl) (by kernel_rfl) (e:=Extern.AbiNoEscape.same) (by kernel_rfl)]
 rw[Lib.run_noEscape]
 simp only[Result.andThen]
 rw[Oper.upon_value]
 go_wp2
 rw[Lib.run_from_unsafe w ⟨b,0,none⟩ Tryz.underlying229 Tryz.underlying162 hj hsh Zkq]
 simp only[Result.andThen]
 rw[Oper.upon_value]
 go_wp2
 go_end0
 exact⟨rfl,rfl⟩
structure Own1 (T:List TypeId) (B:Nat) (w:World) (ao:Option Addr) (n c:Nat) (vs:List Value):Prop where
 row:Row w ao n c vs
 mem:rowIn (fun b=>Zak T w b∧B≤b) ao n
theorem Own1.step {T:List TypeId} {B:Nat} {w w':World} {ao:Option Addr} {n c:Nat} {vs:List Value} (h:Own1 T B w ao n c vs) (hs:Same (fun b=>Zak T w b∧B≤b) w w'):Own1 T B w' ao n c vs:=
 ⟨h.row.keep h.mem hs,fun h0 a ha=>by
  have h1:=h.mem h0 a ha
  exact⟨Zbt h1.1 (hs _ (ZdI h1.1) h1),h1.2⟩⟩
theorem Own1.on {T:List TypeId} {B:Nat} {w w':World} {ao:Option Addr} {n c:Nat} {vs:List Value} (h:Own1 T B w ao n c vs) (hb:Below w.heap.size w w'):Own1 T B w' ao n c vs:=h.step (Same.below hb _)
theorem Own1.mono {T:List TypeId} {B B':Nat} {w:World} {ao:Option Addr} {n c:Nat} {vs:List Value} (h:Own1 T B w ao n c vs) (hB:B'≤B):Own1 T B' w ao n c vs:=⟨h.row,fun h0 a ha=>⟨(h.mem h0 a ha).1,Nat.le_trans hB (h.mem h0 a ha).2⟩⟩
theorem Zai {w:World} {base:Nat} {e:TypeId} {v:Value} {n:Nat} {xs:List Value} (h:w.ownsRow base e 1 v n xs) (hmx:n≤140737488355328):
  ∃ ao cap,v= .slice ao n cap∧Own1 [e] base w ao n cap xs:=by
 obtain⟨ao,cap,hv,hr⟩:=ZbG h hmx
 refine⟨ao,cap,hv,hr,fun h0 a ha=>?_⟩
 subst hv
 rcases h.2 with⟨_,hn⟩|⟨g,c,cur,e1,hg,hh,_⟩
 ·omega
 ·cases e1
  cases ha
  exact⟨⟨_,_,hh,List.mem_singleton.2 rfl⟩,hg⟩
theorem ZqM:(Tryz.prog.info? 3).map (fun i=>(i.zero,i.size,i.bytes))=some (some (.int .i64 0),1,8):=by kernel_rfl
theorem ZdC (w:World) (ao:Option Addr) (len cap:Nat) (vs:List Value) (hs:Row w ao len cap vs) (h1:∀ u∈vs,u.oneCell'=true) (hb:len*16≤140737488355328):
  Calls Tryz.prog 69 #[.slice ao len cap] w fun e w'=>(∃ ao' c',e= .returned (.slice ao' len c')∧Own1 [9] w.heap.size w' ao' len c' vs)∧Below w.heap.size w w':=by
 have hl:=hs.hlen
 have hmx:=hs.hmax
 cases ao with
 |none=>
  have hc:=hs.hnil rfl
  have hm:len=0:=by have:=hs.hle;omega
  have hs0:=Zhd hs
  subst hc;subst hm
  have hnil:∀ w:World,(binOp .eql 31 (.slice none 0 0) (.slice none 0 0)).run Tryz.prog w= .ok (.bool true) w:=fun w=>by kernel_rfl
  clear hs h1 hl
  go_enter Tryz.func69,Tryz.ntmps69
  go_wp2
  go_ret
  exact⟨⟨none,0,rfl,hs0.out,Za3 _ _⟩,Below.refl _ _⟩
 |some a=>
  obtain⟨i0,hi,hz0,hz1,hz2⟩:=info_parts ZiL
  have hbel:Below w.heap.size w (w.alloc (.cells #[] 9)):=Zbr.alloc Zlr _
  obtain⟨v',w1,hrun,hown,hgrow⟩:=Zba (P:=Tryz.prog) (w.alloc (.cells #[] 9)) w.heap.size 31 31 9 i0 _ 16 Tryz.underlying31 hi hz0 hz1 hz2 rfl (.slice (some ⟨w.heap.size,0,none⟩) 0 0) 0 []
   (World.ownsRow_made w #[] 0 Zlr (by unfold maxLen;omega) rfl) (some a) len cap vs (hs.below hbel Zlr) h1 (by omega) (by omega) (by simp)
  have hg:=Zhd (hbel.grown hgrow (by simp) (by intro k hk;simp[Value.ownBlock] at hk;omega))
  clear hgrow hbel
  rw[List.nil_append,Nat.zero_add] at hown
  obtain⟨ao',cap',rfl,hs'⟩:=Zai hown hmx
  have HO:=Zhd hs'
  clear hown hi hz0 hz1 hz2 hb hs' hs h1 hl
  have HR:=Zhd hrun;clear hrun
  have hnil:∀ w:World,(binOp .eql 31 (.slice (some a) len cap) (.slice none 0 0)).run Tryz.prog w= .ok (.bool false) w:=fun w=>Lib.run_eql_slice_nil w 31 9 (some a) len cap 0 0 Tryz.underlying31
  have hbs:∀ w:World,(Instr.buildSlice 31 0 #[]).run Tryz.prog w= .ok (.slice (some ⟨w.heap.size,0,none⟩) 0 0) (w.alloc (.cells #[] 9)):=fun _=>by kernel_rfl
  go_enter Tryz.func69,Tryz.ntmps69
  go_wp2_with (at_builtin;refine Zao rfl _ _ _ rfl _ _ rfl rfl HR.out ?_)
  go_ret
  exact⟨⟨ao',cap',rfl,HO.out⟩,hg.out⟩
theorem Zc0 (w:World) (ao:Option Addr) (len cap:Nat) (vs:List Value) (hs:Row w ao len cap vs) (h1:∀ u∈vs,u.oneCell'=true) (hb:len*1≤140737488355328):
  Calls Tryz.prog 129 #[.slice ao len cap] w fun e w'=>(∃ ao' c',e= .returned (.slice ao' len c')∧Own1 [5] w.heap.size w' ao' len c' vs)∧Below w.heap.size w w':=by
 have hl:=hs.hlen
 have hmx:=hs.hmax
 cases ao with
 |none=>
  have hc:=hs.hnil rfl
  have hm:len=0:=by have:=hs.hle;omega
  have hs0:=Zhd hs
  subst hc;subst hm
  have hnil:∀ w:World,(binOp .eql 22 (.slice none 0 0) (.slice none 0 0)).run Tryz.prog w= .ok (.bool true) w:=fun w=>by kernel_rfl
  clear hs h1 hl
  go_enter Tryz.func129,Tryz.ntmps129
  go_wp2
  go_ret
  exact⟨⟨none,0,rfl,hs0.out,Za3 _ _⟩,Below.refl _ _⟩
 |some a=>
  obtain⟨i0,hi,hz0,hz1,hz2⟩:=info_parts ZeD
  have hbel:Below w.heap.size w (w.alloc (.cells #[] 5)):=Zbr.alloc Zlr _
  obtain⟨v',w1,hrun,hown,hgrow⟩:=Zba (P:=Tryz.prog) (w.alloc (.cells #[] 5)) w.heap.size 22 22 5 i0 _ 1 Tryz.underlying22 hi hz0 hz1 hz2 rfl (.slice (some ⟨w.heap.size,0,none⟩) 0 0) 0 []
   (World.ownsRow_made w #[] 0 Zlr (by unfold maxLen;omega) rfl) (some a) len cap vs (hs.below hbel Zlr) h1 (by omega) (by omega) (by simp)
  have hg:=Zhd (hbel.grown hgrow (by simp) (by intro k hk;simp[Value.ownBlock] at hk;omega))
  clear hgrow hbel
  rw[List.nil_append,Nat.zero_add] at hown
  obtain⟨ao',cap',rfl,hs'⟩:=Zai hown hmx
  have HO:=Zhd hs'
  clear hown hi hz0 hz1 hz2 hb hs' hs h1 hl
  have HR:=Zhd hrun;clear hrun
  have hnil:∀ w:World,(binOp .eql 22 (.slice (some a) len cap) (.slice none 0 0)).run Tryz.prog w= .ok (.bool false) w:=fun w=>Lib.run_eql_slice_nil w 22 5 (some a) len cap 0 0 Tryz.underlying22
  have hbs:∀ w:World,(Instr.buildSlice 22 0 #[]).run Tryz.prog w= .ok (.slice (some ⟨w.heap.size,0,none⟩) 0 0) (w.alloc (.cells #[] 5)):=fun _=>by kernel_rfl
  go_enter Tryz.func129,Tryz.ntmps129
  go_wp2_with (at_builtin;refine Zao rfl _ _ _ rfl _ _ rfl rfl HR.out ?_)
  go_ret
  exact⟨⟨ao',cap',rfl,HO.out⟩,hg.out⟩
theorem ZlH (w:World) (ao:Option Addr) (len cap:Nat) (vs:List Value) (hs:Row w ao len cap vs) (h1:∀ u∈vs,u.oneCell'=true) (hb:len*8≤140737488355328):
  Calls Tryz.prog 130 #[.slice ao len cap] w fun e w'=>(∃ ao' c',e= .returned (.slice ao' len c')∧Own1 [3] w.heap.size w' ao' len c' vs)∧Below w.heap.size w w':=by
 have hl:=hs.hlen
 have hmx:=hs.hmax
 cases ao with
 |none=>
  have hc:=hs.hnil rfl
  have hm:len=0:=by have:=hs.hle;omega
  have hs0:=Zhd hs
  subst hc;subst hm
  have hnil:∀ w:World,(binOp .eql 33 (.slice none 0 0) (.slice none 0 0)).run Tryz.prog w= .ok (.bool true) w:=fun w=>by kernel_rfl
  clear hs h1 hl
  go_enter Tryz.func130,Tryz.ntmps130
  go_wp2
  go_ret
  exact⟨⟨none,0,rfl,hs0.out,Za3 _ _⟩,Below.refl _ _⟩
 |some a=>
  obtain⟨i0,hi,hz0,hz1,hz2⟩:=info_parts ZqM
  have hbel:Below w.heap.size w (w.alloc (.cells #[] 3)):=Zbr.alloc Zlr _
  obtain⟨v',w1,hrun,hown,hgrow⟩:=Zba (P:=Tryz.prog) (w.alloc (.cells #[] 3)) w.heap.size 33 33 3 i0 _ 8 Tryz.underlying33 hi hz0 hz1 hz2 rfl (.slice (some ⟨w.heap.size,0,none⟩) 0 0) 0 []
   (World.ownsRow_made w #[] 0 Zlr (by unfold maxLen;omega) rfl) (some a) len cap vs (hs.below hbel Zlr) h1 (by omega) (by omega) (by simp)
  have hg:=Zhd (hbel.grown hgrow (by simp) (by intro k hk;simp[Value.ownBlock] at hk;omega))
  clear hgrow hbel
  rw[List.nil_append,Nat.zero_add] at hown
  obtain⟨ao',cap',rfl,hs'⟩:=Zai hown hmx
  have HO:=Zhd hs'
  clear hown hi hz0 hz1 hz2 hb hs' hs h1 hl
  have HR:=Zhd hrun;clear hrun
  have hnil:∀ w:World,(binOp .eql 33 (.slice (some a) len cap) (.slice none 0 0)).run Tryz.prog w= .ok (.bool false) w:=fun w=>Lib.run_eql_slice_nil w 33 3 (some a) len cap 0 0 Tryz.underlying33
  have hbs:∀ w:World,(Instr.buildSlice 33 0 #[]).run Tryz.prog w= .ok (.slice (some ⟨w.heap.size,0,none⟩) 0 0) (w.alloc (.cells #[] 3)):=fun _=>by kernel_rfl
  go_enter Tryz.func130,Tryz.ntmps130
  go_wp2_with (at_builtin;refine Zao rfl _ _ _ rfl _ _ rfl rfl HR.out ?_)
  go_ret
  exact⟨⟨ao',cap',rfl,HO.out⟩,hg.out⟩
theorem ZoV:(Tryz.prog.info? 35).map (fun i=>(i.zero.map fun z=>z.cells.size,i.size))=some (some 5,5):=by kernel_rfl
theorem Zm2:(Tryz.prog.info? 35).map (fun i=>decide (i.bytes≤400))=some true:=by kernel_rfl
def ZbS (ks:List ZaJ):List Value:=ks.flatMap fun k=>(Zae k).toList
theorem ZcW:∀ ks:List ZaJ,(ZbS ks).length=ks.length*5
 |[]=>rfl
 |k::ks=>by
  have:=ZcW ks
  simp only[ZbS,List.flatMap_cons,Zla,List.length_cons] at this⊢
  rw[this]
  simp[Zae]
  omega
theorem Zed:∀ (ks:List ZaJ) (i j:Nat) (hi:i<ks.length),j<5→(ZbS ks)[i*5+j]?=(Zae ks[i])[j]?
 |k::ks,0,j,_,hj=>by
  simp only[ZbS,List.flatMap_cons,List.getElem_cons_zero]
  rw[List.getElem?_append_left (by simp[Zae];omega)]
  simp
 |k::ks,i+1,j,hi,hj=>by
  have ih:=Zed ks i j (by simpa using hi) hj
  simp only[ZbS,List.flatMap_cons,List.getElem_cons_succ] at ih⊢
  rw[List.getElem?_append_right (by simp[Zae];omega),←ih]
  congr 1
  simp[Zae]
  omega
theorem Zh5 (ks:List ZaJ):∀ u∈ZbS ks,u.oneCell'=true:=by
 intro u hu
 obtain⟨k,_,hk⟩:=List.mem_flatMap.1 hu
 simp[Zae] at hk
 rcases hk with rfl|rfl|rfl|rfl|rfl<;>rfl
theorem Seq.handles {S:Nat→Prop} {w:World} {ao:Option Addr} {n c:Nat} {ds:List Zaq} (h:Ze9 S w ao n c ds):∃ ks:List ZaJ,ks.length=n∧(∀ i (hi:i<ks.length) (hd:i<ds.length),IsData w ks[i] ds[i]∧DataIn S ks[i])∧
  (0<n→∃ b off,ao=some ⟨b,off,none⟩∧∀ j u,(ZbS ks)[j]?=some u→w.cell? ⟨b,off+j,none⟩=some u):=by
 have hl:=h.hlen
 rcases Nat.eq_zero_or_pos n with h0|h0
 ·subst h0
  exact⟨[],rfl,fun i hi=>absurd hi (by simp),fun h=>absurd h (by omega)⟩
 ·obtain⟨b,off,e,_,hc⟩:=h.hcells h0
  have key:∀ i,i<n→∃ k:ZaJ,∀ hd:i<ds.length,(∀ j,j<5→w.cell? ⟨b,off+i*5+j,none⟩=(Zae k)[j]?)∧IsData w k ds[i]∧DataIn S k:=by
   intro i hi
   obtain⟨k,h1,h2,h3⟩:=ZcL (hc i (by omega))
   exact⟨k,fun _=>⟨h1,h2,h3⟩⟩
  have inst:Inhabited ZaJ:=⟨⟨none,0,0,none,0,0,none,0,0,none,0,0,none,0,0⟩⟩
  obtain⟨f,hf⟩:=Deep.choose_lt key
  refine⟨(List.range n).map f,by simp,fun i hi hd=>?_,fun _=>⟨b,off,e,fun j u hu=>?_⟩⟩
  ·have:=hf i (by simpa using hi) hd
   simpa using this.2
  ·have hj:j<((List.range n).map f).length*5:=by
    rw[←ZcW]
    rcases Nat.lt_or_ge j (ZbS ((List.range n).map f)).length with h|h
    ·exact h
    ·rw[List.getElem?_eq_none h] at hu;cases hu
   simp only[List.length_map,List.length_range] at hj
   have hq:j/5<n:=by omega
   have hm:j%5<5:=Nat.mod_lt _ (by decide)
   have h1:=(hf (j/5) hq (by omega)).1 (j%5) hm
   have h2:=Zed ((List.range n).map f) (j/5) (j%5) (by simpa using hq) hm
   rw[show j/5*5+j%5=j by omega,hu] at h2
   rw[show off+j=off+j/5*5+j%5 by omega,h1,h2]
   simp
theorem Zkb (w:World) (S:Nat→Prop) (ao:Option Addr) (n c:Nat) (ds:List Zaq) (hds:Ze9 S w ao n c ds) (hn:n≤1048576):
  Calls Tryz.prog 71 #[.slice ao n c] w fun e w'=>(∃ v ks,e= .returned v∧w'.ownsRow w.heap.size 35 5 v n (ZbS ks)∧ks.length=n∧∀ i (hi:i<ks.length) (hd:i<ds.length),IsData w' ks[i] ds[i]∧DataIn (fun b=>S b∧b<w.heap.size) ks[i])∧Below w.heap.size w w':=by
 have hl:=hds.hlen
 have hle:=hds.hle
 have hmx:=hds.hmax
 obtain⟨ks,hkl,hk,hkc⟩:=(hds.mono (S':=fun b=>S b∧b<w.heap.size) (fun b hb h=>⟨h,hb⟩)).handles
 cases ao with
 |none=>
  have hc:=hds.hnil rfl
  have hm:n=0:=by omega
  subst hc;subst hm
  have hnil:∀ w:World,(binOp .eql 32 (.slice none 0 0) (.slice none 0 0)).run Tryz.prog w= .ok (.bool true) w:=fun w=>by kernel_rfl
  have HK:=Zhd hkl
  clear hds hl hk hkc hkl
  go_enter Tryz.func71,Tryz.ntmps71
  go_wp2
  go_ret
  exact⟨⟨_,[],rfl,World.ownsRow_nil _ _ _ _,rfl,fun i hi=>absurd hi (by simp)⟩,Below.refl _ _⟩
 |some a=>
  obtain⟨i0,hi,hii⟩:=Option.map_eq_some_iff.1 ZoV
  simp only[Prod.mk.injEq] at hii
  obtain⟨z,hz,hzs⟩:=Option.map_eq_some_iff.1 hii.1
  have hby:i0.bytes≤400:=by
   have:=Zm2
   rw[hi] at this
   simpa using this
  have hbel:Below w.heap.size w (w.alloc (.cells #[] 35)):=Zbr.alloc Zlr _
  have hmul:n*i0.bytes≤1048576*400:=Nat.mul_le_mul hn hby
  obtain⟨v',w1,hrun,hown,hgrow,_⟩:=run_append_own (P:=Tryz.prog) (w.alloc (.cells #[] 35)) w.heap.size 32 32 35 i0 z 5 i0.bytes Tryz.underlying32 hi hz hii.2 rfl hzs (by decide) (.slice (some ⟨w.heap.size,0,none⟩) 0 0) 0 []
   (World.ownsRow_made w #[] 0 Zlr (by unfold maxLen;omega) rfl) a n c (ZbS ks) (by rw[ZcW,hkl]) (by
   intro j u hj
   have hj':j<n*5:=by
    rw[←hkl,←ZcW]
    rcases Nat.lt_or_ge j (ZbS ks).length with h|h
    ·exact h
    ·rw[List.getElem?_eq_none h] at hj;cases hj
   obtain⟨b,off,e',hc⟩:=hkc (by omega)
   cases e'
   rw[ZbB]
   exact Zab hbel (hc j u hj)) (Zh5 ks) (by unfold maxLen;omega) (by rw[Nat.zero_add];omega) (by simp)
  have hb2:=hbel.grown hgrow (by simp) (by intro k hk;simp[Value.ownBlock] at hk;omega)
  have hg:=Zhd hb2
  rw[List.nil_append,Nat.zero_add] at hown
  have HO:=Zhd hown
  have HK:=Zhd (show ∀ i (hi:i<ks.length) (hd:i<ds.length),IsData w1 ks[i] ds[i]∧DataIn (fun b=>S b∧b<w.heap.size) ks[i] from fun i hi hd=>⟨(hk i hi hd).1.on hb2,(hk i hi hd).2⟩)
  have HKL:=Zhd hkl
  clear hown hi hii hz hzs hby hmul hds hl hk hkc hkl hb2 hbel hgrow
  have HR:=Zhd hrun;clear hrun
  have hnil:∀ w:World,(binOp .eql 32 (.slice (some a) n c) (.slice none 0 0)).run Tryz.prog w= .ok (.bool false) w:=fun w=>Lib.run_eql_slice_nil w 32 35 (some a) n c 0 0 Tryz.underlying32
  have hbs:∀ w:World,(Instr.buildSlice 32 0 #[]).run Tryz.prog w= .ok (.slice (some ⟨w.heap.size,0,none⟩) 0 0) (w.alloc (.cells #[] 35)):=fun _=>by kernel_rfl
  go_enter Tryz.func71,Tryz.ntmps71
  go_wp2_with (at_builtin;refine Zao rfl _ _ _ rfl _ _ rfl rfl HR.out ?_)
  go_ret
  exact⟨⟨_,ks,rfl,HO.out,HKL.out,HK.out⟩,hg.out⟩
theorem ZlC (w:World) (ao:Option Addr) (len cap:Nat) (vs:List Value) (hs:Row w ao len cap vs) (h1:∀ u∈vs,u.oneCell'=true) (hb:len*1≤140737488355328):
  Calls Tryz.prog 138 #[.slice ao len cap] w fun e w'=>(∃ ao' c',e= .returned (.slice ao' len c')∧Own1 [5] w.heap.size w' ao' len c' vs)∧Below w.heap.size w w':=by
 have hl:=hs.hlen
 have hmx:=hs.hmax
 cases ao with
 |none=>
  have hc:=hs.hnil rfl
  have hm:len=0:=by have:=hs.hle;omega
  have hs0:=Zhd hs
  subst hc;subst hm
  have hnil:∀ w:World,(binOp .eql 22 (.slice none 0 0) (.slice none 0 0)).run Tryz.prog w= .ok (.bool true) w:=fun w=>by kernel_rfl
  clear hs h1 hl
  go_enter Tryz.func138,Tryz.ntmps138
  go_wp2
  go_ret
  exact⟨⟨none,0,rfl,hs0.out,Za3 _ _⟩,Below.refl _ _⟩
 |some a=>
  obtain⟨i0,hi,hz0,hz1,hz2⟩:=info_parts ZeD
  have hbel:Below w.heap.size w (w.alloc (.cells #[] 5)):=Zbr.alloc Zlr _
  obtain⟨v',w1,hrun,hown,hgrow⟩:=Zba (P:=Tryz.prog) (w.alloc (.cells #[] 5)) w.heap.size 22 22 5 i0 _ 1 Tryz.underlying22 hi hz0 hz1 hz2 rfl (.slice (some ⟨w.heap.size,0,none⟩) 0 0) 0 []
   (World.ownsRow_made w #[] 0 Zlr (by unfold maxLen;omega) rfl) (some a) len cap vs (hs.below hbel Zlr) h1 (by omega) (by omega) (by simp)
  have hg:=Zhd (hbel.grown hgrow (by simp) (by intro k hk;simp[Value.ownBlock] at hk;omega))
  clear hgrow hbel
  rw[List.nil_append,Nat.zero_add] at hown
  obtain⟨ao',cap',rfl,hs'⟩:=Zai hown hmx
  have HO:=Zhd hs'
  clear hown hi hz0 hz1 hz2 hb hs' hs h1 hl
  have HR:=Zhd hrun;clear hrun
  have hnil:∀ w:World,(binOp .eql 22 (.slice (some a) len cap) (.slice none 0 0)).run Tryz.prog w= .ok (.bool false) w:=fun w=>Lib.run_eql_slice_nil w 22 5 (some a) len cap 0 0 Tryz.underlying22
  have hbs:∀ w:World,(Instr.buildSlice 22 0 #[]).run Tryz.prog w= .ok (.slice (some ⟨w.heap.size,0,none⟩) 0 0) (w.alloc (.cells #[] 5)):=fun _=>by kernel_rfl
  go_enter Tryz.func138,Tryz.ntmps138
  go_wp2_with (at_builtin;refine Zao rfl _ _ _ rfl _ _ rfl rfl HR.out ?_)
  go_ret
  exact⟨⟨ao',cap',rfl,HO.out⟩,hg.out⟩
theorem ZgG {w:World} {bo:Option Addr} {bl bc:Nat} {l:List UInt8} (h:ZbP w bo bl bc l):(convert 22 9 (.slice bo bl bc)).run Tryz.prog w= .ok (.string ⟨l.toArray⟩) w:=by
 have hl:=h.hlen
 rw[List.length_map] at hl
 rcases h.split with h0|⟨b,off,h0,rfl⟩
 ·have he:l=[]:=List.eq_nil_of_length_eq_zero (by omega)
  subst he
  subst h0
  rw[run_convert_bytes_string w 22 9 5 _ 0 bc Tryz.underlying22 Tryz.underlying5 Tryz.underlying9]
  cases bo<;>simp[Conv.bytesToString,loadCells]
  all_goals rfl
 ·have:=run_convert_bytes_arg (P:=Tryz.prog) w 22 5 Tryz.underlying22 Tryz.underlying5 b off bl bc (l.map fun c=>(c.toNat:Int)) (by simpa using hl) (fun i hi=>by
   have:=h.at (i:=i) hi
   simp[List.getD,show i<l.length by omega,this]) 9 Tryz.underlying9
  rw[this,Zcq]
theorem ZfH (w:World) (ao:Option Addr) (al ac:Nat) (a:List UInt8) (ha:ZbP w ao al ac a) (bo:Option Addr) (bl bc:Nat) (b:List UInt8) (hb:ZbP w bo bl bc b):
  Calls Tryz.prog 54 #[.slice ao al ac,.slice bo bl bc] w fun e w'=>e= .returned (.bool (decide (a=b)))∧w'=w:=by
 have h1:=ZgG ha
 have h2:=ZgG hb
 clear ha hb
 go_enter Tryz.func54,Tryz.ntmps54
 go_wp2_with fail
 go_ret
 exact⟨Zaf (by rw[Bool.eq_iff_iff];simp),rfl⟩
open Go
def Zd7 (ops:Array Oper) (a:Act) (j:Nat):Value:=match (ops[j]?).bind (·.dst) with|some d=>a.tmps.getD d undef|none=>undef
def ZbY (ops:Array Oper) (i:Nat):List Nat:=match ops[i]? with|some o=>(o.after.toList.filter fun e=>Region.binds .any e).map (·.on)|none=>[]
def Zry (ops:Array Oper) (t:Nat):Bool:=(List.range ops.size).all fun j=>(ops[j]?).bind (·.dst)!=some t
def Zds (ops:Array Oper) (n:Nat):Bool:=
 (List.range ops.size).all fun i=>(ZbY ops i).all (fun j=>decide (j<i))&&match (ops[i]?).bind (·.dst) with|none=>true|some d=>decide (d<n)&&(List.range ops.size).all fun j=>j==i||(ops[j]?).bind (·.dst)!=some d
structure Zcx (ops:Array Oper) (a0 a:Act):Prop where
 defers:a.defers=a0.defers
 size:a.tmps.size=a0.tmps.size
 keep:∀ t,Zry ops t=true→a.tmps.getD t undef=a0.tmps.getD t undef
variable {P:Program} {ops ks:Array Oper} {Q:Exit→Act→World→Prop} {R:World→World→Prop} {F:Nat→Value→World→Prop} {w0:World} {a0:Act}
def ZcV (P:Program) (ops ks:Array Oper) (Q:Exit→Act→World→Prop) (R:World→World→Prop) (F:Nat→Value→World→Prop) (w0:World) (a0:Act) (i:Nat):Prop:=
 ∀ o,ops[i]?=some o→∀ (a:Act) (w:World),R w0 w→Zcx ks a0 a→(∀ j∈ZbY ops i,F j (Zd7 ops a j) w)→
   ∀ K:Act→World→Prop,(∀ v w',R w w'→F i v w'→K (a.put o.dst v) w')→if Region.wanted o (yielded ops a.tmps)=true then Oper.wp P o a w K Q else K (a.put o.dst undef) w
structure ZpY (ops ks:Array Oper) (R:World→World→Prop) (F:Nat→Value→World→Prop) (w0:World) (a0:Act) (listed:Array Bool) (a:Act) (w:World):Prop where
 size:listed.size=ops.size
 rel:R w0 w
 same:Zcx ks a0 a
 facts:∀ j,j<ops.size→listed.getD j false=true→F j (Zd7 ops a j) w
theorem Za7 (l:Array Bool) (i j:Nat) (d:Bool) (hi:i<l.size):(l.setIfInBounds i true).getD j d=if j=i then true else l.getD j d:=by
 simp only[Array.getD_eq_getD_getElem?,Array.getElem?_setIfInBounds]
 by_cases h:i=j
 ·subst h;simp[hi]
 ·have: ¬j=i:=fun e=>h e.symm
  simp[h,this]
theorem Zic (a:Act) (d t:Nat) (v:Value) (hd:d<a.tmps.size):(a.tmps.setIfInBounds d v).getD t undef=if t=d then v else a.tmps.getD t undef:=by
 simp only[Array.getD_eq_getD_getElem?,Array.getElem?_setIfInBounds]
 by_cases h:d=t
 ·subst h;simp[hd]
 ·have: ¬t=d:=fun e=>h e.symm
  simp[h,this]
def Zck (n:Nat) (listed:Array Bool):Nat:=((List.range n).filter fun i=> !listed.getD i true).length
theorem Zi9 {α:Type} (p q:α→Bool) (h:∀ x,p x=true→q x=true):∀ l:List α,(l.filter p).length≤(l.filter q).length
 |[]=>Nat.le_refl _
 |x::l=>by
  have ih:=Zi9 p q h l
  cases hp:p x
  ·cases hq:q x<;>simp[hp,hq]<;>omega
  ·simp[hp,h x hp];omega
theorem Zfg {α:Type} (p q:α→Bool) (h:∀ x,p x=true→q x=true):∀ (l:List α) (y:α),y∈l→p y=false→q y=true→(l.filter p).length<(l.filter q).length
 |x::l,y,hy,hp,hq=>by
  rcases List.mem_cons.1 hy with rfl|hy
  ·have:=Zi9 p q h l
   simp[hp,hq];omega
  ·have ih:=Zfg p q h l y hy hp hq
   cases hpx:p x
   ·cases hqx:q x<;>simp[hpx,hqx]<;>omega
   ·simp[hpx,h x hpx];omega
theorem Zcm {listed:Array Bool} {i:Nat} (h:i∈Region.ready .any ops listed):i<ops.size∧listed.getD i true=false∧∀ j∈ZbY ops i,listed.getD j false=true:=by
 simp only[Region.ready,List.mem_filter,List.mem_range,Zae2,Bool.not_eq_true'] at h
 refine⟨h.1,h.2.1,fun j hj=>?_⟩
 have h2:=h.2.2
 rw[Array.getElem?_eq_getElem h.1] at h2
 simp only[ZbY,Array.getElem?_eq_getElem h.1,List.mem_map,List.mem_filter] at hj
 obtain⟨e,⟨he,hb⟩,rfl⟩:=hj
 simp only[Option.map_some,Option.getD_some,Array.all_eq_true'] at h2
 have:=h2 e (by simpa using he)
 simpa [hb] using this
theorem ZcE {listed:Array Bool} {n:Nat} (hs:listed.size=ops.size) (hok:Zds ops n=true) (h:Region.ready .any ops listed=[]):∀ j,j<ops.size→listed.getD j false=true:=by
 intro j
 induction j using Nat.strongRecOn with
 |ind j ih=>
  intro hj
  cases hl:listed.getD j true with
  |true=>
   rw[Array.getD_eq_getD_getElem?,Array.getElem?_eq_getElem (by omega)] at hl⊢
   exact hl
  |false=>
   exfalso
   have:j∈Region.ready .any ops listed:=by
    simp only[Region.ready,List.mem_filter,List.mem_range,Zae2,Bool.not_eq_true']
    refine⟨hj,hl,?_⟩
    rw[Array.getElem?_eq_getElem hj]
    simp only[Option.map_some,Option.getD_some,Array.all_eq_true']
    intro e he
    cases hb:Region.binds .any e with
    |false=>rfl
    |true=>
     have h1:=List.all_eq_true.1 hok j (List.mem_range.2 hj)
     simp only[Zae2] at h1
     have h2:=List.all_eq_true.1 h1.1 e.on (by
      simp only[ZbY,Array.getElem?_eq_getElem hj,List.mem_map,List.mem_filter]
      exact⟨e,⟨by simpa using he,hb⟩,rfl⟩)
     have h3:=ih e.on (of_decide_eq_true h2) (by have:=of_decide_eq_true h2;omega)
     simpa using h3
   rw[h] at this
   cases this
theorem ZiC {a:Act} {i:Nat} {o:Oper} {v:Value} (ho:ops[i]?=some o) (hk:ks[i]?=some o) (hok:Zds ops a0.tmps.size=true) (h:Zcx ks a0 a):
  Zcx ks a0 (a.put o.dst v)∧(∀ j,j≠i→Zd7 ops (a.put o.dst v) j=Zd7 ops a j)∧(Zd7 ops (a.put o.dst v) i=match o.dst with|some _=>v|none=>undef):=by
 have hi:i<ops.size:=by
  rcases Nat.lt_or_ge i ops.size with h|h
  ·exact h
  ·rw[Array.getElem?_eq_none h] at ho;cases ho
 have h1:=List.all_eq_true.1 hok i (List.mem_range.2 hi)
 simp only[Zae2,ho,Option.bind_some] at h1
 cases hd:o.dst with
 |none=>exact⟨h,fun _ _=>rfl,by simp[Zd7,ho,hd]⟩
 |some d=>
  rw[hd] at h1
  simp only[Zae2,Zde] at h1
  obtain⟨_,h2,h3⟩:=h1
  have hsz:d<a.tmps.size:=by rw[h.size];exact h2
  refine⟨⟨h.defers,by simp[Act.put,h.size],fun t ht=>?_⟩,fun j hj=>?_,?_⟩
  ·have hne: ¬t=d:=by
    rintro rfl
    have hik:i<ks.size:=by
     rcases Nat.lt_or_ge i ks.size with h|h
     ·exact h
     ·rw[Array.getElem?_eq_none h] at hk;cases hk
    have:=List.all_eq_true.1 ht i (List.mem_range.2 hik)
    simp[hk,hd] at this
   show(a.tmps.setIfInBounds d v).getD t undef=_
   rw[Zic a d t v hsz,if_neg hne]
   exact h.keep t ht
  ·simp only[Zd7]
   cases hj2:(ops[j]?).bind (·.dst) with
   |none=>rfl
   |some d'=>
    have hjl:j<ops.size:=by
     rcases Nat.lt_or_ge j ops.size with h|h
     ·exact h
     ·rw[Array.getElem?_eq_none h] at hj2;cases hj2
    have h4:=List.all_eq_true.1 h3 j (List.mem_range.2 hjl)
    have hne: ¬d'=d:=by
     rintro rfl
     simp[hj,hj2] at h4
    show(a.tmps.setIfInBounds d v).getD d' undef=_
    rw[Zic a d d' v hsz,if_neg hne]
  ·simp only[Zd7,ho,Option.bind_some,hd]
   show(a.tmps.setIfInBounds d v).getD d undef=_
   rw[Zic a d d v hsz,if_pos rfl]
theorem Zoo (hks:∀ i,i<ops.size→ks[i]?=ops[i]?) (hok:Zds ops a0.tmps.size=true) (hRt:∀ x y z,R x y→R y z→R x z) (hF:∀ i v x y,F i v x→R x y→F i v y) (hF0:∀ i o,ops[i]?=some o→o.dst=none→∀ v x,F i v x→F i undef x)
  (step:∀ i,i<ops.size→ZcV P ops ks Q R F w0 a0 i) (done:∀ a w,R w0 w→Zcx ks a0 a→(∀ j,j<ops.size→F j (Zd7 ops a j) w)→Q .normal a w):
  ∀ (fuel:Nat) (listed:Array Bool) (a:Act) (w:World),ZpY ops ks R F w0 a0 listed a w→Zck ops.size listed≤fuel→wpAny P .any ops Q fuel listed a w
 |0,listed,a,w,h,hm=>by
  have hr:Region.ready .any ops listed=[]:=by
   rw[List.eq_nil_iff_forall_not_mem]
   intro i hi
   obtain⟨h1,h2,_⟩:=Zcm hi
   have:i∈(List.range ops.size).filter fun i=> !listed.getD i true:=List.mem_filter.2 ⟨List.mem_range.2 h1,by simp[h2]⟩
   have hnil:((List.range ops.size).filter fun i=> !listed.getD i true)=[]:=List.eq_nil_of_length_eq_zero (Nat.le_zero.1 hm)
   rw[hnil] at this
   cases this
  exact⟨hr,done a w h.rel h.same fun j hj=>h.facts j hj (ZcE h.size hok hr j hj)⟩
 |fuel+1,listed,a,w,h,hm=>by
  refine⟨fun hr=>done a w h.rel h.same fun j hj=>h.facts j hj (ZcE h.size hok hr j hj),fun i hi=>?_⟩
  obtain⟨h1,h2,h3⟩:=Zcm hi
  have ho:ops[i]?=some ops[i]:=Array.getElem?_eq_getElem h1
  have hlt:∀ j∈ZbY ops i,j<i:=by
   intro j hj
   have h4:=List.all_eq_true.1 hok i (List.mem_range.2 h1)
   simp only[Zae2] at h4
   exact of_decide_eq_true (List.all_eq_true.1 h4.1 j hj)
  refine wpOp_step ho fun K' hK=>step i h1 _ ho a w h.rel h.same (fun j hj=>h.facts j (by have:=hlt j hj;omega) (h3 j hj)) K' fun v w' hR hFi=>hK _ _ ?_
  obtain⟨p1,p2,p3⟩:=ZiC (v:=v) ho ((hks i h1).trans ho) hok h.same
  refine Zoo hks hok hRt hF hF0 step done fuel _ _ _ ⟨by simp[h.size],hRt _ _ _ h.rel hR,p1,fun j hj hl=>?_⟩ ?_
  ·by_cases hji:j=i
   ·subst hji
    rw[p3]
    split
    ·exact hFi
    ·rename_i hd
     exact hF0 j _ ho hd v w' hFi
   ·rw[p2 j hji]
    rw[Za7 _ _ _ _ (by rw[h.size];exact h1),if_neg hji] at hl
    exact hF _ _ _ _ (h.facts j hj hl) hR
  ·have:Zck ops.size (listed.setIfInBounds i true)<Zck ops.size listed:=by
    refine Zfg _ _ (fun x hx=>?_) _ i (List.mem_range.2 h1) ?_ ?_
    ·rw[Za7 _ _ _ _ (by rw[h.size];exact h1)] at hx
     by_cases hxi:x=i
     ·simp[hxi] at hx
     ·simpa [hxi] using hx
    ·rw[Za7 _ _ _ _ (by rw[h.size];exact h1)];simp
    ·simp[h2]
   omega
theorem Zq2 {id m:Nat} (hm:P.follows .mixedOrders=true) (R:World→World→Prop) (F:Nat→Value→World→Prop) (hsz:a0.tmps.size=m) (hok:Zds ops m=true) (hRt:∀ x y z,R x y→R y z→R x z) (hRr:R w0.drew w0.drew)
  (hF:∀ i v x y,F i v x→R x y→F i v y) (hF0:∀ i o,ops[i]?=some o→o.dst=none→∀ v x,F i v x→F i undef x)
  (step:∀ i,i<ops.size→ZcV P ops ops Q R F w0.drew a0 i) (done:∀ a w,R w0.drew w→Zcx ops a0 a→(∀ j,j<ops.size→F j (Zd7 ops a j) w)→Q .normal a w):
  (Code.region id ops true).wp P Q a0 w0:=by
 subst hsz
 refine wp_region_any hm ?_
 refine Zoo (ks:=ops) (R:=R) (F:=F) (w0:=w0.drew) (a0:=a0) (fun _ _=>rfl) hok hRt hF hF0 step done _ _ _ _ ⟨by simp,hRr,⟨rfl,rfl,fun _ _=>rfl⟩,fun j hj hl=>?_⟩ ?_
 ·rw[Array.getD_eq_getD_getElem?,Array.getElem?_replicate,if_pos hj] at hl
  cases hl
 ·have:=List.length_filter_le (fun i=> !(Array.replicate ops.size false).getD i true) (List.range ops.size)
  simpa [Zck] using this
theorem Zep {listed:Array Bool} (h:∀ j,j<ops.size→listed.getD j false=true):Region.ready .any ops listed=[]:=by
 rw[List.eq_nil_iff_forall_not_mem]
 intro i hi
 obtain⟨h1,h2,_⟩:=Zcm hi
 have h3:=h i h1
 rw[Array.getD_eq_getD_getElem?] at h2 h3
 cases h4:listed[i]? with
 |none=>rw[h4] at h3;cases h3
 |some b=>rw[h4] at h2 h3;rw[Option.getD_some] at h2 h3;rw[h2] at h3;cases h3
theorem Zac {n i:Nat} {o:Oper} (ho:ops[i]?=some o) {ds:List Nat} (hd:ZbY ops i=ds)
  (h:∀ (a:Act) (w:World),R w0 w→Zcx ks a0 a→(∀ j∈ds,F j (Zd7 ops a j) w)→
   ∀ K:Act→World→Prop,(∀ v w',R w w'→F i v w'→K (a.put o.dst v) w')→if Region.wanted o (yielded ops a.tmps)=true then Oper.wp P o a w K Q else K (a.put o.dst undef) w)
  (hs:∀ j,j<n→i+1≤j→ZcV P ops ks Q R F w0 a0 j):∀ j,j<n→i≤j→ZcV P ops ks Q R F w0 a0 j:=fun j h1 h2=>by
 by_cases hj:j=i
 ·subst hj
  intro o' ho'
  obtain rfl:o=o':=Zsi (ho.symm.trans ho')
  intro a w hR hS hdep
  rw[hd] at hdep
  exact h a w hR hS hdep
 ·exact hs j h1 (by omega)
theorem Zcs {id m:Nat} (hm:P.follows .mixedOrders=true) (R:World→World→Prop) (F:Nat→Value→World→Prop) (hsz:a0.tmps.size=m) (hok:Zds ops m=true) (hRt:∀ x y z,R x y→R y z→R x z) (hRr:R w0.drew w0.drew)
  (hF:∀ i v x y,F i v x→R x y→F i v y) (hF0:∀ i o,ops[i]?=some o→o.dst=none→∀ v x,F i v x→F i undef x)
  (step:∀ j,j<ops.size→0≤j→ZcV P ops ops Q R F w0.drew a0 j) (done:∀ a w,R w0.drew w→Zcx ops a0 a→(∀ j,j<ops.size→F j (Zd7 ops a j) w)→Q .normal a w):
  (Code.region id ops true).wp P Q a0 w0:=Zq2 hm R F hsz hok hRt hRr hF hF0 (fun i hi=>step i hi (Nat.zero_le _)) done
def Zrl (ops:Array Oper) (n:Nat):Bool:=(List.range ops.size).all fun i=>i==n||((ops[i]?).bind (·.dst)).isSome
theorem Zc8 (n:Nat) (h:Zrl ops n=true) (hn:∀ v x,F n v x→F n undef x):∀ i o,ops[i]?=some o→o.dst=none→∀ v x,F i v x→F i undef x:=fun i o ho hd=>by
 have hi:i<ops.size:=by
  rcases Nat.lt_or_ge i ops.size with h|h
  ·exact h
  ·rw[Array.getElem?_eq_none h] at ho;cases ho
 have h1:=List.all_eq_true.1 h i (List.mem_range.2 hi)
 rw[ho,Option.bind_some,hd] at h1
 simp at h1
 subst h1
 exact hn
theorem Zcy (T:Array Value) (n:Nat) (h:T.size=n):T=((List.range n).map fun i=>T.getD i undef).toArray:=by
 apply Array.ext_getElem?
 intro i
 have e:((List.range n).map fun i=>T.getD i undef).toArray[i]?=((List.range n).map fun i=>T.getD i undef)[i]?:=List.getElem?_toArray
 rw[e,List.getElem?_map]
 by_cases hi:i<n
 ·rw[List.getElem?_range hi,Option.map_some,Array.getD_eq_getD_getElem?,Array.getElem?_eq_getElem (by omega)]
  rfl
 ·rw[Array.getElem?_eq_none (by omega),List.getElem?_eq_none (by simp;omega)]
  rfl
theorem Zad {T:Array Value} {t:Nat} {v:Value} (h:T.getD t undef=v):T[t]?.getD undef=v:=by rw[←Array.getD_eq_getD_getElem?];exact h
theorem ZkU (T:Array Value):∀ (ds:List Nat) (acc:Array Value) (i:Nat),(ds.foldl (fun acc d=>acc.setIfInBounds d (T.getD d undef)) acc)[i]?=if i∈ds∧i<acc.size then some (T.getD i undef) else acc[i]?
 |[],acc,i=>by simp
 |d::ds,acc,i=>by
  rw[List.foldl_cons,ZkU T ds]
  simp only[Array.size_setIfInBounds,List.mem_cons]
  by_cases h1:i∈ds
  ·simp only[h1,or_true,true_and]
   split
   ·rfl
   ·rename_i h2
    rw[Array.getElem?_eq_none (by simp;omega),Array.getElem?_eq_none (by omega)]
  ·simp only[h1,or_false,false_and,if_false]
   by_cases h3:i=d
   ·subst h3
    simp only[true_and]
    rw[Array.getElem?_setIfInBounds]
    simp only[if_true]
    split
    ·rfl
    ·rw[Array.getElem?_eq_none (by omega)]
   ·simp only[h3,false_and,if_false]
    rw[Array.getElem?_setIfInBounds,if_neg (fun h=>h3 h.symm)]
def Zrg (ks:Array Oper) (m:Nat) (ds:List Nat):Bool:=(List.range m).all fun t=>ds.contains t||Zry ks t
theorem ZdJ {ks:Array Oper} {a0 a:Act} (h:Zcx ks a0 a) (m:Nat) (hm:a0.tmps.size=m) (ds:List Nat) (hds:Zrg ks m ds=true):a.tmps=ds.foldl (fun acc d=>acc.setIfInBounds d (a.tmps.getD d undef)) a0.tmps:=by
 apply Array.ext_getElem?
 intro i
 rw[ZkU]
 by_cases hi:i<a.tmps.size
 ·have hi0:i<a0.tmps.size:=by rw[←h.size];exact hi
  have h2:a.tmps[i]?=some (a.tmps.getD i undef):=by rw[Array.getD_eq_getD_getElem?,Array.getElem?_eq_getElem hi];rfl
  by_cases hn:i∈ds∧i<a0.tmps.size
  ·rw[if_pos hn];exact h2
  ·rw[if_neg hn]
   have h3:i∉ds:=fun h=>hn ⟨h,hi0⟩
   have h4:=List.all_eq_true.1 hds i (List.mem_range.2 (by omega))
   simp only[Bool.or_eq_true,List.contains_iff_mem,h3,false_or] at h4
   have h5:=h.keep i h4
   rw[h2,h5,Array.getD_eq_getD_getElem?,Array.getElem?_eq_getElem hi0]
   rfl
 ·have hs:=h.size
  rw[Array.getElem?_eq_none (by omega),if_neg (by omega),Array.getElem?_eq_none (by omega)]
theorem Zau {T:Array Value} {t m:Nat} {v:Value} (hs:T.size=m) (ht:t<m) (h:T.getD t undef=v):T[t]?=some v:=by
 rw[Array.getD_eq_getD_getElem?,Array.getElem?_eq_getElem (by omega)] at h
 rw[Array.getElem?_eq_getElem (by omega)]
 exact congrArg some h
def Zhj (ops:Array Oper) (n:Nat):Bool:=
 decide (n<ops.size)&&((List.range n).all fun j=>(List.range (n+1)).any fun i=>decide (j<i)&&(ZbY ops i).contains j)&&(List.range ops.size).all fun i=>decide (i≤n)||(ZbY ops i).contains (i-1)
variable {P:Program} {ops ks:Array Oper} {Q:Exit→Act→World→Prop} {R:World→World→Prop} {F:Nat→Value→World→Prop} {w0:World} {a0:Act}
theorem ZeN {n:Nat} (h:Zhj ops n=true):n<ops.size∧(∀ j,j<n→∃ i,i≤n∧j<i∧j∈ZbY ops i)∧∀ i,i<ops.size→n<i→i-1∈ZbY ops i:=by
 simp only[Zhj,Zae2,Zde] at h
 refine⟨h.1.1,fun j hj=>?_,fun i hi hn=>?_⟩
 ·have h4:=List.all_eq_true.1 h.1.2 j (List.mem_range.2 hj)
  obtain⟨k,hk,h5⟩:=List.any_eq_true.1 h4
  simp only[Zae2,Zde,List.contains_iff_mem] at h5
  have:=List.mem_range.1 hk
  exact⟨k,by omega,h5.1,h5.2⟩
 ·have h4:=List.all_eq_true.1 h.2 i (List.mem_range.2 hi)
  simp only[Bool.or_eq_true,Zde,List.contains_iff_mem] at h4
  rcases h4 with h4|h4
  ·omega
  ·exact h4
theorem Zow {n m:Nat} (hok:Zds ops m=true) (he:Zhj ops n=true):
  ∀ (fuel k:Nat) (listed:Array Bool) (a:Act) (w:World),listed.size=ops.size→(∀ j,j<ops.size→listed.getD j false=decide (j<k))→n≤k→ops.size-k≤fuel→wpList P ops Q (ops.toList.drop k) a w→wpAny P .any ops Q fuel listed a w:=by
 obtain⟨hn,_,hch⟩:=ZeN he
 intro fuel
 induction fuel with
 |zero=>
  intro k listed a w hs hl hk hf h
  have hend:Region.ready .any ops listed=[]:=Zep fun j hj=>by rw[hl j hj,Zdt (by omega)]
  rw[List.drop_eq_nil_of_le (by simp;omega)] at h
  exact⟨hend,h⟩
 |succ fuel ih=>
  intro k listed a w hs hl hk hf h
  by_cases hks:k<ops.size
  ·refine⟨fun hr=>?_,fun i hi=>?_⟩
   ·have:=ZcE hs hok hr k hks
    rw[hl k hks,Zdf (by omega)] at this
    cases this
   ·obtain⟨h1,h2,h3⟩:=Zcm hi
    have hik:i=k:=by
     have hge:k≤i:=by
      rcases Nat.lt_or_ge i k with hlt|hge
      ·have h5:=hl i h1
       rw[Zdt hlt,Array.getD_eq_getD_getElem?,Array.getElem?_eq_getElem (by omega)] at h5
       rw[Array.getD_eq_getD_getElem?,Array.getElem?_eq_getElem (by omega)] at h2
       rw[Option.getD_some] at h2 h5
       rw[h2] at h5
       cases h5
      ·exact hge
     rcases Nat.lt_or_ge k i with hlt|hle
     ·have h6:=h3 (i-1) (hch i h1 (by omega))
      rw[hl (i-1) (by omega),Zdf (by omega)] at h6
      cases h6
     ·omega
    subst hik
    have ho:ops[i]?=some ops[i]:=Array.getElem?_eq_getElem h1
    have hd:ops.toList.drop i=ops[i]::ops.toList.drop (i+1):=by rw[List.drop_eq_getElem_cons (by simpa using h1)];simp
    rw[hd] at h
    have hK:∀ a w,wpList P ops Q (ops.toList.drop (i+1)) a w→wpAny P .any ops Q fuel (listed.setIfInBounds i true) a w:=fun a w h7=>
     ih (i+1) _ a w (by simp[hs]) (fun j hj=>by
      rw[Za7 _ _ _ _ (by omega)]
      by_cases hji:j=i
      ·rw[if_pos hji,Zdt (by omega)]
      ·rw[if_neg hji,hl j hj]
       by_cases hlt:j<i
       ·rw[Zdt hlt,Zdt (by omega)]
       ·rw[Zdf hlt,Zdf (by omega)]) (by omega) (by omega) h7
    unfold wpOp
    rw[ho]
    simp only[wpList] at h
    simp only
    split
    ·rename_i hw
     rw[if_pos hw] at h
     rcases h with h|h
     ·exact .inl (Oper.wp_mono hK h)
     ·exact .inr h
    ·rename_i hw
     rw[if_neg hw] at h
     exact hK _ _ h
  ·have hend:Region.ready .any ops listed=[]:=Zep fun j hj=>by rw[hl j hj,Zdt (by omega)]
   rw[List.drop_eq_nil_of_le (by simp;omega)] at h
   exact⟨fun _=>h,fun i hi=>by rw[hend] at hi;cases hi⟩
structure ZkI (ops ks:Array Oper) (n:Nat) (R:World→World→Prop) (F:Nat→Value→World→Prop) (w0:World) (a0:Act) (listed:Array Bool) (a:Act) (w:World):Prop extends ZpY ops ks R F w0 a0 listed a w where
 closed:∀ i,i<ops.size→listed.getD i false=true→∀ j∈ZbY ops i,listed.getD j false=true
 left:∀ j,n≤j→j<ops.size→listed.getD j false=false
theorem Zge {n:Nat} (hks:∀ i,i<n→ks[i]?=ops[i]?) (hok:Zds ops a0.tmps.size=true) (he:Zhj ops n=true) (hRt:∀ x y z,R x y→R y z→R x z) (hF:∀ i v x y,F i v x→R x y→F i v y) (hF0:∀ i o,i<n→ops[i]?=some o→o.dst=none→∀ v x,F i v x→F i undef x)
  (step:∀ i,i<n→ZcV P ops ks Q R F w0 a0 i)
  (tail:∀ a w,R w0 w→Zcx ks a0 a→(∀ j,j<n→F j (Zd7 ops a j) w)→wpList P ops Q (ops.toList.drop n) a w):
  ∀ (fuel:Nat) (listed:Array Bool) (a:Act) (w:World),ZkI ops ks n R F w0 a0 listed a w→Zck ops.size listed≤fuel→wpAny P .any ops Q fuel listed a w
 |fuel,listed,a,w,h,hm=>by
  obtain⟨hsz,hall,hch⟩:=ZeN he
  have hnil:Region.ready .any ops listed=[]→False:=fun hr=>by
   have:=ZcE h.size hok hr n (by omega)
   rw[h.left n Zlr hsz] at this
   cases this
  by_cases hd:∀ j,j<n→listed.getD j false=true
  ·refine Zow (n:=n) hok he fuel n listed a w h.size (fun j hj=>?_) Zlr ?_ (tail a w h.rel h.same fun j hj=>h.facts j (by omega) (hd j hj))
   ·by_cases hjn:j<n
    ·rw[hd j hjn,Zdt hjn]
    ·rw[h.left j (by omega) hj,Zdf hjn]
   ·have h8:((List.range ops.size).filter fun i=> !listed.getD i true).length=Zck ops.size listed:=rfl
    have h9:((List.range ops.size).drop n).length≤((List.range ops.size).filter fun i=> !listed.getD i true).length:=by
     have hs:((List.range ops.size).drop n).Sublist ((List.range ops.size).filter fun i=> !listed.getD i true):=by
      have h10:(List.range ops.size).drop n=((List.range ops.size).drop n).filter fun i=> !listed.getD i true:=by
       symm
       rw[List.filter_eq_self]
       intro x hx
       obtain⟨i,hi,rfl⟩:=List.getElem_of_mem hx
       simp only[List.length_drop,List.length_range] at hi
       rw[List.getElem_drop,List.getElem_range]
       have h11:=h.left (n+i) (by omega) (by omega)
       have hsz2:=h.size
       rw[Array.getD_eq_getD_getElem?,Array.getElem?_eq_getElem (by omega)] at h11⊢
       rw[Option.getD_some] at h11⊢
       rw[h11];rfl
      rw[h10]
      exact(List.drop_sublist _ _).filter _
     exact hs.length_le
    simp only[List.length_drop,List.length_range] at h9
    omega
  cases fuel with
  |zero=>
   exfalso
   apply hnil
   rw[List.eq_nil_iff_forall_not_mem]
   intro i hi
   obtain⟨h1,h2,_⟩:=Zcm hi
   have:i∈(List.range ops.size).filter fun i=> !listed.getD i true:=List.mem_filter.2 ⟨List.mem_range.2 h1,by simp[h2]⟩
   have hn:((List.range ops.size).filter fun i=> !listed.getD i true)=[]:=List.eq_nil_of_length_eq_zero (Nat.le_zero.1 hm)
   rw[hn] at this
   cases this
  |succ fuel=>
   refine⟨fun hr=>(hnil hr).elim,fun i hi=>?_⟩
   obtain⟨h1,h2,h3⟩:=Zcm hi
   have ho:ops[i]?=some ops[i]:=Array.getElem?_eq_getElem h1
   have hin:i<n:=by
    rcases Nat.lt_or_ge i n with hlt|hge
    ·exact hlt
    ·exfalso
     have hieq:i=n:=by
      rcases Nat.lt_or_ge n i with hlt|hle
      ·have h6:=h3 (i-1) (hch i h1 hlt)
       rw[h.left (i-1) (by omega) (by omega)] at h6
       cases h6
      ·omega
     subst hieq
     apply hd
     have hdone:∀ m j,j<i→i-j≤m→listed.getD j false=true:=by
      intro m
      induction m with
      |zero=>intro j hj h0;omega
      |succ m ih=>
       intro j hj h0
       obtain⟨k,hk,hjk,h5⟩:=hall j hj
       by_cases hki:k=i
       ·subst hki;exact h3 j h5
       ·exact h.closed k (by omega) (ih k (by omega) (by omega)) j h5
     exact fun j hj=>hdone (i-j) j hj Zlr
   have hlt:∀ j∈ZbY ops i,j<i:=by
    intro j hj
    have h4:=List.all_eq_true.1 hok i (List.mem_range.2 h1)
    simp only[Zae2] at h4
    exact of_decide_eq_true (List.all_eq_true.1 h4.1 j hj)
   refine wpOp_step ho fun K' hK=>step i hin _ ho a w h.rel h.same (fun j hj=>h.facts j (by have:=hlt j hj;omega) (h3 j hj)) K' fun v w' hR hFi=>hK _ _ ?_
   obtain⟨p1,p2,p3⟩:=ZiC (v:=v) ho ((hks i hin).trans ho) hok h.same
   have hset:∀ j,(listed.setIfInBounds i true).getD j false=if j=i then true else listed.getD j false:=fun j=>Za7 _ _ _ _ (by rw[h.size];exact h1)
   refine Zge hks hok he hRt hF hF0 step tail fuel _ _ _ ⟨⟨by simp[h.size],hRt _ _ _ h.rel hR,p1,fun j hj hl=>?_⟩,fun j hj hl d hd=>?_,fun j hj hjs=>?_⟩ ?_
   ·by_cases hji:j=i
    ·subst hji
     rw[p3]
     split
     ·exact hFi
     ·rename_i hd
      exact hF0 j _ hin ho hd v w' hFi
    ·rw[p2 j hji]
     rw[hset,if_neg hji] at hl
     exact hF _ _ _ _ (h.facts j hj hl) hR
   ·rw[hset]
    by_cases hdi:d=i
    ·rw[if_pos hdi]
    ·rw[if_neg hdi]
     by_cases hji:j=i
     ·subst hji;exact h3 d hd
     ·rw[hset,if_neg hji] at hl
      exact h.closed j hj hl d hd
   ·rw[hset,if_neg (by omega)];exact h.left j hj hjs
   ·have:Zck ops.size (listed.setIfInBounds i true)<Zck ops.size listed:=by
     refine Zfg _ _ (fun x hx=>?_) _ i (List.mem_range.2 h1) ?_ ?_
     ·rw[Za7 _ _ _ _ (by rw[h.size];exact h1)] at hx
      by_cases hxi:x=i
      ·simp[hxi] at hx
      ·simpa [hxi] using hx
     ·rw[Za7 _ _ _ _ (by rw[h.size];exact h1)];simp
     ·simp[h2]
    omega
theorem Zcg {id m:Nat} (n:Nat) (hm:P.follows .mixedOrders=true) (R:World→World→Prop) (F:Nat→Value→World→Prop) (hsz:a0.tmps.size=m) (hok:Zds ops m=true) (he:Zhj ops n=true) (hRt:∀ x y z,R x y→R y z→R x z) (hRr:R w0.drew w0.drew)
  (hF:∀ i v x y,F i v x→R x y→F i v y) (hF0:∀ i o,i<n→ops[i]?=some o→o.dst=none→∀ v x,F i v x→F i undef x)
  (step:∀ j,j<n→0≤j→ZcV P ops (ops.toList.take n).toArray Q R F w0.drew a0 j)
  (tail:∀ a w,R w0.drew w→Zcx (ops.toList.take n).toArray a0 a→(∀ j,j<n→F j (Zd7 ops a j) w)→wpList P ops Q (ops.toList.drop n) a w):
  (Code.region id ops true).wp P Q a0 w0:=by
 subst hsz
 refine wp_region_any hm ?_
 have hnone:∀ j,(Array.replicate ops.size false).getD j false=false:=fun j=>by
  rw[Array.getD_eq_getD_getElem?,Array.getElem?_replicate]
  split<;>rfl
 refine Zge (ks:=(ops.toList.take n).toArray) (R:=R) (F:=F) (w0:=w0.drew) (a0:=a0) (fun i hi=>by
  rw[List.getElem?_toArray,List.getElem?_take,if_pos hi,Array.getElem?_toList]) hok he hRt hF hF0 (fun i hi=>step i hi (Nat.zero_le _)) tail _ _ _ _ ⟨⟨by simp,hRr,⟨rfl,rfl,fun _ _=>rfl⟩,fun j hj hl=>?_⟩,fun j hj hl=>?_,fun j _ _=>hnone j⟩ ?_
 ·rw[hnone] at hl;cases hl
 ·rw[hnone] at hl;cases hl
 ·have:=List.length_filter_le (fun i=> !(Array.replicate ops.size false).getD i true) (List.range ops.size)
  simpa [Zck] using this
def ZqA (ops:Array Oper) (n:Nat):Bool:=(List.range n).all fun i=>((ops[i]?).bind (·.dst)).isSome
theorem ZdS {n:Nat} (h:ZqA ops n=true):∀ i o,i<n→ops[i]?=some o→o.dst=none→∀ v x,F i v x→F i undef x:=fun i o hi ho hd=>by
 have h1:=List.all_eq_true.1 h i (List.mem_range.2 hi)
 simp[ho,hd] at h1
def dT:List TypeId:=[5,9,3]
structure ZrH (h:ZaJ):Prop where
 fh:h.hl≤1048576
 fm:h.ml≤1048576
 fn:h.nl≤1048576
 ft:h.tl≤8796093022208
structure OwnD (B:Nat) (w:World) (k:ZaJ) (d:Zaq):Prop where
 is:IsData w k d
 mem:DataIn (fun b=>Zak dT w b∧B≤b) k
theorem OwnD.step {B:Nat} {w w':World} {k:ZaJ} {d:Zaq} (h:OwnD B w k d) (hs:Same (fun b=>Zak dT w b∧B≤b) w w'):OwnD B w' k d:=by
 have i2:DataIn (fun b=>(Zak dT w b∧B≤b)∧b<w.heap.size) k:=h.mem.mono h.is (fun b hb ht=>⟨ht,hb⟩)
 have h3:=h.is.keep h.mem hs
 exact⟨h3,i2.mono h3 (fun b _ ht=>⟨Zbt ht.1.1 (hs b ht.2 ht.1),ht.1.2⟩)⟩
theorem OwnD.on {B:Nat} {w w':World} {k:ZaJ} {d:Zaq} (h:OwnD B w k d) (hb:Below w.heap.size w w'):OwnD B w' k d:=h.step (Same.below hb _)
theorem OwnD.mono {B B':Nat} {w:World} {k:ZaJ} {d:Zaq} (h:OwnD B w k d) (hB:B'≤B):OwnD B' w k d:=⟨h.is,h.mem.mono h.is (fun _ _ ht=>⟨ht.1,Nat.le_trans hB ht.2⟩)⟩
theorem OwnD.but {B g:Nat} {w w':World} {k:ZaJ} {d:Zaq} (h:OwnD B w k d) (hb:w.grownBy w' (some g)) (hg:g<B):OwnD B w' k d:=h.step (Same.grown hb (fun b hb e=>by have:=Zsi e;omega))
theorem Ze1 {T:List TypeId} {B:Nat} {w:World} {ao:Option Addr} {n c:Nat} {vs:List Value} {e:TypeId} (h:Own1 [e] B w ao n c vs) (he:e∈T):rowIn (fun b=>Zak T w b∧B≤b) ao n:=
 fun h0 a ha=>⟨Za4 (h.mem h0 a ha).1 (fun t ht=>by rw[List.mem_singleton.1 ht];exact he),(h.mem h0 a ha).2⟩
def noD:Array Value:=#[.slice none 0 0,.slice none 0 0,.slice none 0 0,.slice none 0 0,.slice none 0 0]
theorem ZiE {tmps:Array Value} {w:World} {R:Nat} {k:ZaJ} (h2:tmps[2]?=some (.pointer (some ⟨R,0,none⟩))) (hB:Blk w R (Zae k) 35):
  (results Tryz.f70 tmps).run Tryz.prog w= .ok (.agg (Zae k)) w:=by
 have c0:=hB.cell 0
 have c1:=hB.cell 1
 have c2:=hB.cell 2
 have c3:=hB.cell 3
 have c4:=hB.cell 4
 simp[Zae] at c0 c1 c2 c3 c4
 simp[results,go_sem,h2,c0,c1,c2,c3,c4,Zae]
theorem Zcc {α:Type} (f:α→Value) (hf:∀ a,(f a).oneCell'=true) (l:List α):∀ u∈l.map f,u.oneCell'=true:=by
 intro u hu
 obtain⟨a,_,rfl⟩:=List.mem_map.1 hu
 exact hf a
theorem ZjC (w:World) (h:ZaJ) (d:Zaq) (hd:IsData w h d) (hf:ZrH h):
  Calls Tryz.prog 70 #[.agg (Zae h)] w fun e w'=>(∃ k,e= .returned (.agg (Zae k))∧OwnD w.heap.size w' k d∧ZrH k)∧Below w.heap.size w w':=by
 have hA0:Blk (w.alloc (.cells (Zae h) 35)) w.heap.size (Zae h) 35:=Zha w _
 have hA:Blk ((w.alloc (.cells (Zae h) 35)).alloc (.cells noD 35)) w.heap.size (Zae h) 35:=hA0.on (Zbr.alloc Zlr _)
 have hN:Blk ((w.alloc (.cells (Zae h) 35)).alloc (.cells noD 35)) (w.heap.size+1) noD 35:=by
  have:=Zha (w.alloc (.cells (Zae h) 35)) (.cells noD 35)
  simpa [Blk] using this
 have hsz:((w.alloc (.cells (Zae h) 35)).alloc (.cells noD 35)).heap.size=w.heap.size+2:=by simp
 have hb2:Below w.heap.size w ((w.alloc (.cells (Zae h) 35)).alloc (.cells noD 35)):=(Zbr.alloc Zlr _).alloc (by simp) _
 have HB:=Zhd hb2
 have HD:=Zhd (hd.on hb2)
 have HN:=Zhd hN
 have HA:=Zhd hA
 have HSZ:=Zhd hsz
 have HFT:=Zhd hf
 clear hA0 hA hN hsz hb2 hd hf
 obtain⟨ba,bl,bc,ha,hl,hc,ma,ml,mc,xa,xl,xc,ta,tl,tc⟩:=h
 simp only[Zae] at HB HD HN HA HSZ
 have HC0:=Zhd (show((w.alloc (.cells #[.slice ba bl bc,.slice ha hl hc,.slice ma ml mc,.slice xa xl xc,.slice ta tl tc] 35)).alloc (.cells noD 35)).drew.cell? ⟨w.heap.size,0,none⟩=some (.slice ba bl bc) from HA.out.cell 0)
 have HC1:=Zhd (show((w.alloc (.cells #[.slice ba bl bc,.slice ha hl hc,.slice ma ml mc,.slice xa xl xc,.slice ta tl tc] 35)).alloc (.cells noD 35)).drew.cell? ⟨w.heap.size,1,none⟩=some (.slice ha hl hc) from HA.out.cell 1)
 have HC2:=Zhd (show((w.alloc (.cells #[.slice ba bl bc,.slice ha hl hc,.slice ma ml mc,.slice xa xl xc,.slice ta tl tc] 35)).alloc (.cells noD 35)).drew.cell? ⟨w.heap.size,2,none⟩=some (.slice ma ml mc) from HA.out.cell 2)
 have HC3:=Zhd (show((w.alloc (.cells #[.slice ba bl bc,.slice ha hl hc,.slice ma ml mc,.slice xa xl xc,.slice ta tl tc] 35)).alloc (.cells noD 35)).drew.cell? ⟨w.heap.size,3,none⟩=some (.slice xa xl xc) from HA.out.cell 3)
 have HC4:=Zhd (show((w.alloc (.cells #[.slice ba bl bc,.slice ha hl hc,.slice ma ml mc,.slice xa xl xc,.slice ta tl tc] 35)).alloc (.cells noD 35)).drew.cell? ⟨w.heap.size,4,none⟩=some (.slice ta tl tc) from HA.out.cell 4)
 go_enter Tryz.func70,Tryz.ntmps70
 go_wp2_with fail
 (try change Code.wp _ (Code.region _ _ _) _ _ ((w.alloc (.cells #[.slice ba bl bc,.slice ha hl hc,.slice ma ml mc,.slice xa xl xc,.slice ta tl tc] 35)).alloc (.cells noD 35)))
 refine Zcg (m:=19) 16 (by kernel_rfl) (fun x y=>Below x.heap.size x y) (fun i v xw=>match i with|0=>v= .pointer (some ⟨w.heap.size,0,none⟩)|1=>v= .slice ba bl bc|2=>∃ a c,v= .slice a bl c∧Own1 [5] (w.heap.size+2) xw a bl c (d.bytes.map fun c=>Value.int .u8 (c.toNat:Int))|3=>v= .pointer (some ⟨w.heap.size,1,none⟩)|4=>v= .slice ha hl hc|5=>∃ a c,v= .slice a hl c∧Own1 [9] (w.heap.size+2) xw a hl c (d.host.map .string)|6=>v= .pointer (some ⟨w.heap.size,2,none⟩)|7=>v= .slice ma ml mc|8=>∃ a c,v= .slice a ml c∧Own1 [9] (w.heap.size+2) xw a ml c (d.mail.map .string)|9=>v= .pointer (some ⟨w.heap.size,3,none⟩)|10=>v= .slice xa xl xc|11=>∃ a c,v= .slice a xl c∧Own1 [3] (w.heap.size+2) xw a xl c (d.nums.map (Value.int .i64))|12=>v= .pointer (some ⟨w.heap.size,4,none⟩)|13=>v= .slice ta tl tc|14=>∃ a c,v= .slice a tl c∧Own1 [9] (w.heap.size+2) xw a tl c (d.texts.map .string)|15=>∃ k,v= .agg (Zae k)∧OwnD (w.heap.size+2) xw k d∧ZrH k|_=>True) rfl (by kernel_rfl) (by kernel_rfl) (fun _ _ _ h1 h2=>Zaa h1 h2 Zlr) Zbr (by intro i v x y h hxy;match i,h with|0,h=>exact h|1,h=>exact h|2,⟨a,c,e,hr⟩=>exact⟨a,c,e,hr.on hxy⟩|3,h=>exact h|4,h=>exact h|5,⟨a,c,e,hr⟩=>exact⟨a,c,e,hr.on hxy⟩|6,h=>exact h|7,h=>exact h|8,⟨a,c,e,hr⟩=>exact⟨a,c,e,hr.on hxy⟩|9,h=>exact h|10,h=>exact h|11,⟨a,c,e,hr⟩=>exact⟨a,c,e,hr.on hxy⟩|12,h=>exact h|13,h=>exact h|14,⟨a,c,e,hr⟩=>exact⟨a,c,e,hr.on hxy⟩|15,⟨k,e,hr,hf⟩=>exact⟨k,e,hr.on hxy,hf⟩|_+16,_=>trivial) (ZdS (by kernel_rfl)) ?_ ?_
 rotate_left
 ·intro a W hR hS hdep
  have e2:a.tmps.getD 2 undef= .pointer (some ⟨(w.heap.size+1),0,none⟩):=hS.keep 2 (by kernel_rfl)
  obtain⟨kk,q,hk,hkf⟩:=hdep 15 (by decide+kernel)
  have e18:a.tmps.getD 18 undef= .agg (Zae kk):=q
  clear q
  obtain⟨T,df⟩:=a
  obtain rfl:df=[]:=hS.defers
  have hT:=Zcy T 19 hS.size;simp only[List.range,List.range.loop,List.map_cons,List.map_nil] at hT
  have k2:T.getD 2 undef= .pointer (some ⟨(w.heap.size+1),0,none⟩):=e2
  have k18:T.getD 18 undef= .agg (Zae kk):=e18
  clear hS hdep
  rw[hT]
  rw[k2]
  clear k2 e2
  rw[k18]
  clear k18 e18
  clear hT
  generalize T.getD 0 undef=u0
  generalize T.getD 1 undef=u1
  generalize T.getD 3 undef=u3
  generalize T.getD 4 undef=u4
  generalize T.getD 5 undef=u5
  generalize T.getD 6 undef=u6
  generalize T.getD 7 undef=u7
  generalize T.getD 8 undef=u8
  generalize T.getD 9 undef=u9
  generalize T.getD 10 undef=u10
  generalize T.getD 11 undef=u11
  generalize T.getD 12 undef=u12
  generalize T.getD 13 undef=u13
  generalize T.getD 14 undef=u14
  generalize T.getD 15 undef=u15
  generalize T.getD 16 undef=u16
  generalize T.getD 17 undef=u17
  simp only[List.drop_succ_cons,List.drop_zero]
  have hNW:=HN.out.on (Zaa (B:=((w.alloc (.cells #[.slice ba bl bc,.slice ha hl hc,.slice ma ml mc,.slice xa xl xc,.slice ta tl tc] 35)).alloc (.cells noD 35)).heap.size) (Below.drew Zbr) hR Zlr)
  have n0:=hNW.cell 0
  have n1:=hNW.cell 1
  have n2:=hNW.cell 2
  have n3:=hNW.cell 3
  have n4:=hNW.cell 4
  simp[noD] at n0 n1 n2 n3 n4
  have f0:=hNW.free 0
  have f1:=hNW.free 1
  have f2:=hNW.free 2
  have f3:=hNW.free 3
  have f4:=hNW.free 4
  simp only[Zae]
  go_wp2_with fail
  have hN5:Blk (((((W.setCell ⟨w.heap.size+1,0,none⟩ (.slice kk.ba kk.bl kk.bc)).setCell ⟨w.heap.size+1,1,none⟩ (.slice kk.ha kk.hl kk.hc)).setCell ⟨w.heap.size+1,2,none⟩ (.slice kk.ma kk.ml kk.mc)).setCell ⟨w.heap.size+1,3,none⟩ (.slice kk.na kk.nl kk.nc)).setCell ⟨w.heap.size+1,4,none⟩ (.slice kk.ta kk.tl kk.tc)) (w.heap.size+1) (Zae kk) 35:=(((((hNW.set 0 _).set 1 _).set 2 _).set 3 _).set 4 _)
  have hG5:W.grownBy (((((W.setCell ⟨w.heap.size+1,0,none⟩ (.slice kk.ba kk.bl kk.bc)).setCell ⟨w.heap.size+1,1,none⟩ (.slice kk.ha kk.hl kk.hc)).setCell ⟨w.heap.size+1,2,none⟩ (.slice kk.ma kk.ml kk.mc)).setCell ⟨w.heap.size+1,3,none⟩ (.slice kk.na kk.nl kk.nc)).setCell ⟨w.heap.size+1,4,none⟩ (.slice kk.ta kk.tl kk.tc)) (some (w.heap.size+1)):=
   Zah (Zah (Zah (Zah (Zag _ _ _ _) (Zag _ _ _ _)) (Zag _ _ _ _)) (Zag _ _ _ _)) (Zag _ _ _ _)
  have hz:=hR.size
  have hz2:=HSZ.out
  simp only[World.drew] at hz
  have HI:=Zhd ((hk.but hG5 (by omega)).mono (B':=w.heap.size) (by omega))
  have HBE:=Zhd ((Zaa HB.out (Zaa (Below.drew Zbr) hR Zlr) Zlr).trans (Zam hG5 (B:=w.heap.size) (by omega) (by omega)))
  have HN5:=Zhd hN5
  refine bodyPost_ret (v:= .agg (Zae kk)) (ZiE rfl HN5.out) rfl ?_
  exact⟨⟨kk,rfl,HI.out,hkf⟩,HBE.out⟩
 refine Zac rfl rfl (fun a W hR hS hdep K hK=>?_) ?_
 ·have e1:a.tmps[1]?.getD undef= .pointer (some ⟨w.heap.size,0,none⟩):=Zad (hS.keep 1 (by kernel_rfl))
  go_simp
  exact hK _ _ Zbr (by first|rfl|simp)
 refine Zac rfl rfl (fun a W hR hS hdep K hK=>?_) ?_
 ·have e3:a.tmps[3]?.getD undef= .pointer (some ⟨w.heap.size,0,none⟩):=Zad (hdep 0 (by decide+kernel))
  have m0:=Zab hR HC0.out
  go_simp
  exact hK _ _ Zbr (by first|rfl|simp)
 refine Zac rfl rfl (fun a W hR hS hdep K hK=>?_) ?_
 ·have e4:a.tmps[4]?.getD undef= .slice ba bl bc:=Zad (hdep 1 (by decide+kernel))
  go_simp
  have hbx:=Zaa (B:=((w.alloc (.cells #[.slice ba bl bc,.slice ha hl hc,.slice ma ml mc,.slice xa xl xc,.slice ta tl tc] 35)).alloc (.cells noD 35)).heap.size) (Below.drew Zbr) hR Zlr
  refine(Zc0 _ ba bl bc _ (HD.out.bytes.below hbx Zlr) (Zcc _ (fun _=>rfl) _) (by have:=HD.out.bytes.hmax;simp only at this;omega)).mono ?_
  rintro e W' ⟨⟨a',c',rfl,hr⟩,hb⟩
  exact hK _ _ hb ⟨a',c',rfl,hr.mono (by have:=hbx.size;have:=HSZ.out;omega)⟩
 refine Zac rfl rfl (fun a W hR hS hdep K hK=>?_) ?_
 ·have e1:a.tmps[1]?.getD undef= .pointer (some ⟨w.heap.size,0,none⟩):=Zad (hS.keep 1 (by kernel_rfl))
  go_simp
  exact hK _ _ Zbr (by first|rfl|simp)
 refine Zac rfl rfl (fun a W hR hS hdep K hK=>?_) ?_
 ·have e6:a.tmps[6]?.getD undef= .pointer (some ⟨w.heap.size,1,none⟩):=Zad (hdep 3 (by decide+kernel))
  have m0:=Zab hR HC1.out
  go_simp
  exact hK _ _ Zbr (by first|rfl|simp)
 refine Zac rfl rfl (fun a W hR hS hdep K hK=>?_) ?_
 ·have e7:a.tmps[7]?.getD undef= .slice ha hl hc:=Zad (hdep 4 (by decide+kernel))
  go_simp
  have hbx:=Zaa (B:=((w.alloc (.cells #[.slice ba bl bc,.slice ha hl hc,.slice ma ml mc,.slice xa xl xc,.slice ta tl tc] 35)).alloc (.cells noD 35)).heap.size) (Below.drew Zbr) hR Zlr
  refine(ZdC _ ha hl hc _ (HD.out.host.row.below hbx Zlr) (Zcc _ (fun _=>rfl) _) (by have:=HFT.out.fh;simp only at this;omega)).mono ?_
  rintro e W' ⟨⟨a',c',rfl,hr⟩,hb⟩
  exact hK _ _ hb ⟨a',c',rfl,hr.mono (by have:=hbx.size;have:=HSZ.out;omega)⟩
 refine Zac rfl rfl (fun a W hR hS hdep K hK=>?_) ?_
 ·have e1:a.tmps[1]?.getD undef= .pointer (some ⟨w.heap.size,0,none⟩):=Zad (hS.keep 1 (by kernel_rfl))
  go_simp
  exact hK _ _ Zbr (by first|rfl|simp)
 refine Zac rfl rfl (fun a W hR hS hdep K hK=>?_) ?_
 ·have e9:a.tmps[9]?.getD undef= .pointer (some ⟨w.heap.size,2,none⟩):=Zad (hdep 6 (by decide+kernel))
  have m0:=Zab hR HC2.out
  go_simp
  exact hK _ _ Zbr (by first|rfl|simp)
 refine Zac rfl rfl (fun a W hR hS hdep K hK=>?_) ?_
 ·have e10:a.tmps[10]?.getD undef= .slice ma ml mc:=Zad (hdep 7 (by decide+kernel))
  go_simp
  have hbx:=Zaa (B:=((w.alloc (.cells #[.slice ba bl bc,.slice ha hl hc,.slice ma ml mc,.slice xa xl xc,.slice ta tl tc] 35)).alloc (.cells noD 35)).heap.size) (Below.drew Zbr) hR Zlr
  refine(ZdC _ ma ml mc _ (HD.out.mail.row.below hbx Zlr) (Zcc _ (fun _=>rfl) _) (by have:=HFT.out.fm;simp only at this;omega)).mono ?_
  rintro e W' ⟨⟨a',c',rfl,hr⟩,hb⟩
  exact hK _ _ hb ⟨a',c',rfl,hr.mono (by have:=hbx.size;have:=HSZ.out;omega)⟩
 refine Zac rfl rfl (fun a W hR hS hdep K hK=>?_) ?_
 ·have e1:a.tmps[1]?.getD undef= .pointer (some ⟨w.heap.size,0,none⟩):=Zad (hS.keep 1 (by kernel_rfl))
  go_simp
  exact hK _ _ Zbr (by first|rfl|simp)
 refine Zac rfl rfl (fun a W hR hS hdep K hK=>?_) ?_
 ·have e12:a.tmps[12]?.getD undef= .pointer (some ⟨w.heap.size,3,none⟩):=Zad (hdep 9 (by decide+kernel))
  have m0:=Zab hR HC3.out
  go_simp
  exact hK _ _ Zbr (by first|rfl|simp)
 refine Zac rfl rfl (fun a W hR hS hdep K hK=>?_) ?_
 ·have e13:a.tmps[13]?.getD undef= .slice xa xl xc:=Zad (hdep 10 (by decide+kernel))
  go_simp
  have hbx:=Zaa (B:=((w.alloc (.cells #[.slice ba bl bc,.slice ha hl hc,.slice ma ml mc,.slice xa xl xc,.slice ta tl tc] 35)).alloc (.cells noD 35)).heap.size) (Below.drew Zbr) hR Zlr
  refine(ZlH _ xa xl xc _ (HD.out.nums.below hbx Zlr) (Zcc _ (fun _=>rfl) _) (by have:=HFT.out.fn;simp only at this;omega)).mono ?_
  rintro e W' ⟨⟨a',c',rfl,hr⟩,hb⟩
  exact hK _ _ hb ⟨a',c',rfl,hr.mono (by have:=hbx.size;have:=HSZ.out;omega)⟩
 refine Zac rfl rfl (fun a W hR hS hdep K hK=>?_) ?_
 ·have e1:a.tmps[1]?.getD undef= .pointer (some ⟨w.heap.size,0,none⟩):=Zad (hS.keep 1 (by kernel_rfl))
  go_simp
  exact hK _ _ Zbr (by first|rfl|simp)
 refine Zac rfl rfl (fun a W hR hS hdep K hK=>?_) ?_
 ·have e15:a.tmps[15]?.getD undef= .pointer (some ⟨w.heap.size,4,none⟩):=Zad (hdep 12 (by decide+kernel))
  have m0:=Zab hR HC4.out
  go_simp
  exact hK _ _ Zbr (by first|rfl|simp)
 refine Zac rfl rfl (fun a W hR hS hdep K hK=>?_) ?_
 ·have e16:a.tmps[16]?.getD undef= .slice ta tl tc:=Zad (hdep 13 (by decide+kernel))
  go_simp
  have hbx:=Zaa (B:=((w.alloc (.cells #[.slice ba bl bc,.slice ha hl hc,.slice ma ml mc,.slice xa xl xc,.slice ta tl tc] 35)).alloc (.cells noD 35)).heap.size) (Below.drew Zbr) hR Zlr
  refine(ZdC _ ta tl tc _ (HD.out.texts.row.below hbx Zlr) (Zcc _ (fun _=>rfl) _) (by have:=HFT.out.ft;simp only at this;omega)).mono ?_
  rintro e W' ⟨⟨a',c',rfl,hr⟩,hb⟩
  exact hK _ _ hb ⟨a',c',rfl,hr.mono (by have:=hbx.size;have:=HSZ.out;omega)⟩
 refine Zac rfl rfl (fun a W hR hS hdep K hK=>?_) ?_
 ·obtain⟨a0,c0,q,r0⟩:=hdep 2 (by decide+kernel)
  have e5:a.tmps[5]?.getD undef= .slice a0 bl c0:=Zad q
  clear q
  obtain⟨a1,c1,q,r1⟩:=hdep 5 (by decide+kernel)
  have e8:a.tmps[8]?.getD undef= .slice a1 hl c1:=Zad q
  clear q
  obtain⟨a2,c2,q,r2⟩:=hdep 8 (by decide+kernel)
  have e11:a.tmps[11]?.getD undef= .slice a2 ml c2:=Zad q
  clear q
  obtain⟨a3,c3,q,r3⟩:=hdep 11 (by decide+kernel)
  have e14:a.tmps[14]?.getD undef= .slice a3 xl c3:=Zad q
  clear q
  obtain⟨a4,c4,q,r4⟩:=hdep 14 (by decide+kernel)
  have e17:a.tmps[17]?.getD undef= .slice a4 tl c4:=Zad q
  clear q
  go_simp
  have hfi:=HD.out.fits
  have hft:=HFT.out
  exact hK _ _ Zbr ⟨⟨a0,bl,c0,a1,hl,c1,a2,ml,c2,a3,xl,c3,a4,tl,c4⟩,rfl,⟨⟨r0.row,⟨r1.row,HD.out.host.small⟩,⟨r2.row,HD.out.mail.small⟩,r3.row,⟨r4.row,HD.out.texts.small⟩,hfi⟩,⟨Ze1 r0 (by decide),Ze1 r1 (by decide),Ze1 r2 (by decide),Ze1 r3 (by decide),Ze1 r4 (by decide)⟩⟩,⟨hft.fh,hft.fm,hft.fn,hft.ft⟩⟩
 exact fun j h1 h2=>absurd h1 (by omega)
def Zd6 (x y:Zaq):Bool:=decide (x.bytes=y.bytes)&&(decide (x.nums=y.nums)&&(decide (x.texts=y.texts)&&(eqB x.host y.host&&eqB x.mail y.mail)))
theorem Zol (w:World) (ao bo:Option Addr) (la ca lb cb:Nat) (sa sb:List UInt8) (ha:ZbP w ao la ca sa) (hb:ZbP w bo lb cb sb):
  Calls Tryz.prog 173 #[.slice ao la ca,.slice bo lb cb] w fun e w'=>e= .returned (.bool (decide (sa=sb)))∧Below w.heap.size w w':=by
 have hla:sa.length=la:=by simpa using ha.hlen
 have hlb:sb.length=lb:=by simpa using hb.hlen
 have hmx:=ha.hmax
 have hca:=ha.hcap
 have hle:=ha.hle
 have hcb:=hb.hcap
 have hleb:=hb.hle
 by_cases hll:la=lb
 ·subst hll
  go_enter Tryz.func173,Tryz.ntmps173
  go_wp2
  go_loopw [13,5] (fun i _ wr=>∃ k:Nat,k≤la∧i= .int .i64 k∧Below w.heap.size w wr∧Hid (∀ j (hj:j<sa.length) (hj':j<sb.length),j<k→sa[j]=sb[j])) (fun i _ _=>la-(intOf i).toNat)
  case atStart=>exact⟨0,Nat.zero_le _,rfl,Below.refl _ _,fun j hj _ h=>absurd h (by omega)⟩
  case round=>
   obtain⟨k,hk,rfl,hbr,hno⟩:=hrel
   by_cases hlt:k<la
   ·obtain⟨b1,off1,rfl⟩:=ha.addr hlt
    obtain⟨b2,off2,rfl⟩:=hb.addr hlt
    have hc1:=(ha.below hbr Zlr).at hlt
    have hc2:=(hb.below hbr Zlr).at hlt
    rw[List.getElem_map] at hc1 hc2
    obtain⟨x,hxk⟩:∃ x,x=(sa[k]'(by omega)).toNat:=⟨_,rfl⟩
    obtain⟨y,hyk⟩:∃ y,y=(sb[k]'(by omega)).toNat:=⟨_,rfl⟩
    rw[←hxk] at hc1
    rw[←hyk] at hc2
    have HX:=Zhd hxk;clear hxk
    have HY:=Zhd hyk;clear hyk
    have hkp:(0:Int)≤(k:Int):=Int.natCast_nonneg _
    have hkl:(k:Int)<(la:Int):=by omega
    by_cases hs:x=y
    ·have HS:=Zhd hs
     have hT:((x:Int)!=(y:Int))=false:=by rw[hs];simp
     have hT2:((x:Int)==(y:Int))=true:=by rw[hs];simp
     clear hs
     go_wp2_with fail
     go_quiet (fail)
     go_wp2
     go_roundw
     case rel=>
      refine⟨k+1,by omega,by go_num,Zbf hbr _,fun j hj hj' h=>?_⟩
      rcases Nat.lt_succ_iff_lt_or_eq.1 h with h|rfl
      ·exact hno.out j hj hj' h
      ·have hz:=HX.out.symm.trans (HS.out.trans HY.out)
       exact UInt8.toNat.inj hz
     case measure=>simp[intOf];omega
    ·have HS:=Zhd hs
     have hT:((x:Int)!=(y:Int))=true:=by rw[bne_iff_ne];omega
     have hT2:((x:Int)==(y:Int))=false:=by rw[beq_eq_false_iff_ne];omega
     clear hs
     go_wp2_with fail
     go_quiet (fail)
     go_wp2
     go_ret
     refine⟨Zaf ?_,Zbf hbr _⟩
     have: ¬sa=sb:=by
      intro e;subst e
      exact HS.out (HX.out.trans HY.out.symm)
     simp[this]
   ·go_wp2
    go_ret
    refine⟨Zaf ?_,hbr⟩
    have:sa=sb:=List.ext_getElem (by omega) (fun j h1 h2=>hno.out j h1 h2 (by omega))
    simp[this]
 ·have hne:((la:Int)!=(lb:Int))=true:=by rw[bne_iff_ne];omega
  go_enter Tryz.func173,Tryz.ntmps173
  go_wp2
  go_ret
  refine⟨Zaf ?_,Below.refl _ _⟩
  have: ¬sa=sb:=fun e=>by subst e;omega
  simp[this]
theorem Zom (w:World) (ao bo:Option Addr) (la ca lb cb:Nat) (sa sb:List Int) (ha:ZoN w ao la ca sa) (hb:ZoN w bo lb cb sb):
  Calls Tryz.prog 174 #[.slice ao la ca,.slice bo lb cb] w fun e w'=>e= .returned (.bool (decide (sa=sb)))∧Below w.heap.size w w':=by
 have hla:sa.length=la:=by simpa using ha.hlen
 have hlb:sb.length=lb:=by simpa using hb.hlen
 have hmx:=ha.hmax
 have hca:=ha.hcap
 have hle:=ha.hle
 have hcb:=hb.hcap
 have hleb:=hb.hle
 by_cases hll:la=lb
 ·subst hll
  go_enter Tryz.func174,Tryz.ntmps174
  go_wp2
  go_loopw [13,5] (fun i _ wr=>∃ k:Nat,k≤la∧i= .int .i64 k∧Below w.heap.size w wr∧Hid (∀ j (hj:j<sa.length) (hj':j<sb.length),j<k→sa[j]=sb[j])) (fun i _ _=>la-(intOf i).toNat)
  case atStart=>exact⟨0,Nat.zero_le _,rfl,Below.refl _ _,fun j hj _ h=>absurd h (by omega)⟩
  case round=>
   obtain⟨k,hk,rfl,hbr,hno⟩:=hrel
   by_cases hlt:k<la
   ·obtain⟨b1,off1,rfl⟩:=ha.addr hlt
    obtain⟨b2,off2,rfl⟩:=hb.addr hlt
    have hc1:=(ha.below hbr Zlr).at hlt
    have hc2:=(hb.below hbr Zlr).at hlt
    rw[List.getElem_map] at hc1 hc2
    obtain⟨x,hxk⟩:∃ x,x=sa[k]'(by omega):=⟨_,rfl⟩
    obtain⟨y,hyk⟩:∃ y,y=sb[k]'(by omega):=⟨_,rfl⟩
    rw[←hxk] at hc1
    rw[←hyk] at hc2
    have HX:=Zhd hxk;clear hxk
    have HY:=Zhd hyk;clear hyk
    have hkp:(0:Int)≤(k:Int):=Int.natCast_nonneg _
    have hkl:(k:Int)<(la:Int):=by omega
    by_cases hs:x=y
    ·have HS:=Zhd hs
     have hT:((x:Int)!=(y:Int))=false:=by rw[hs];simp
     have hT2:((x:Int)==(y:Int))=true:=by rw[hs];simp
     clear hs
     go_wp2_with fail
     go_quiet (fail)
     go_wp2
     go_roundw
     case rel=>
      refine⟨k+1,by omega,by go_num,Zbf hbr _,fun j hj hj' h=>?_⟩
      rcases Nat.lt_succ_iff_lt_or_eq.1 h with h|rfl
      ·exact hno.out j hj hj' h
      ·have hz:=HX.out.symm.trans (HS.out.trans HY.out)
       exact hz
     case measure=>simp[intOf];omega
    ·have HS:=Zhd hs
     have hT:((x:Int)!=(y:Int))=true:=by rw[bne_iff_ne];omega
     have hT2:((x:Int)==(y:Int))=false:=by rw[beq_eq_false_iff_ne];omega
     clear hs
     go_wp2_with fail
     go_quiet (fail)
     go_wp2
     go_ret
     refine⟨Zaf ?_,Zbf hbr _⟩
     have: ¬sa=sb:=by
      intro e;subst e
      exact HS.out (HX.out.trans HY.out.symm)
     simp[this]
   ·go_wp2
    go_ret
    refine⟨Zaf ?_,hbr⟩
    have:sa=sb:=List.ext_getElem (by omega) (fun j h1 h2=>hno.out j h1 h2 (by omega))
    simp[this]
 ·have hne:((la:Int)!=(lb:Int))=true:=by rw[bne_iff_ne];omega
  go_enter Tryz.func174,Tryz.ntmps174
  go_wp2
  go_ret
  refine⟨Zaf ?_,Below.refl _ _⟩
  have: ¬sa=sb:=fun e=>by subst e;omega
  simp[this]
theorem Zon (w:World) (ao bo:Option Addr) (la ca lb cb:Nat) (sa sb:List ByteArray) (ha:Strs w ao la ca sa) (hb:Strs w bo lb cb sb):
  Calls Tryz.prog 175 #[.slice ao la ca,.slice bo lb cb] w fun e w'=>e= .returned (.bool (decide (sa=sb)))∧Below w.heap.size w w':=by
 have hla:sa.length=la:=by simpa using ha.row.hlen
 have hlb:sb.length=lb:=by simpa using hb.row.hlen
 have hmx:=ha.row.hmax
 have hca:=ha.row.hcap
 have hle:=ha.row.hle
 have hcb:=hb.row.hcap
 have hleb:=hb.row.hle
 by_cases hll:la=lb
 ·subst hll
  go_enter Tryz.func175,Tryz.ntmps175
  go_wp2
  go_loopw [13,5] (fun i _ wr=>∃ k:Nat,k≤la∧i= .int .i64 k∧Below w.heap.size w wr∧Hid (∀ j (hj:j<sa.length) (hj':j<sb.length),j<k→sa[j]=sb[j])) (fun i _ _=>la-(intOf i).toNat)
  case atStart=>exact⟨0,Nat.zero_le _,rfl,Below.refl _ _,fun j hj _ h=>absurd h (by omega)⟩
  case round=>
   obtain⟨k,hk,rfl,hbr,hno⟩:=hrel
   by_cases hlt:k<la
   ·obtain⟨b1,off1,rfl⟩:=ha.row.addr hlt
    obtain⟨b2,off2,rfl⟩:=hb.row.addr hlt
    have hc1:=(ha.below hbr Zlr).at hlt
    have hc2:=(hb.below hbr Zlr).at hlt
    obtain⟨x,hxk⟩:∃ x,x=sa[k]'(by omega):=⟨_,rfl⟩
    obtain⟨y,hyk⟩:∃ y,y=sb[k]'(by omega):=⟨_,rfl⟩
    rw[←hxk] at hc1
    rw[←hyk] at hc2
    have HX:=Zhd hxk;clear hxk
    have HY:=Zhd hyk;clear hyk
    have hkp:(0:Int)≤(k:Int):=Int.natCast_nonneg _
    have hkl:(k:Int)<(la:Int):=by omega
    by_cases hs:x=y
    ·have HS:=Zhd hs
     have hT:(x.toList==y.toList)=decide (x=y):=Zc3 _ _
     rw[Zdt hs] at hT
     clear hs
     go_wp2_with fail
     go_quiet (fail)
     go_wp2
     go_roundw
     case rel=>
      refine⟨k+1,by omega,by go_num,Zbf hbr _,fun j hj hj' h=>?_⟩
      rcases Nat.lt_succ_iff_lt_or_eq.1 h with h|rfl
      ·exact hno.out j hj hj' h
      ·have hz:=HX.out.symm.trans (HS.out.trans HY.out)
       exact hz
     case measure=>simp[intOf];omega
    ·have HS:=Zhd hs
     have hT:(x.toList==y.toList)=decide (x=y):=Zc3 _ _
     rw[Zdf hs] at hT
     clear hs
     go_wp2_with fail
     go_quiet (fail)
     go_wp2
     go_ret
     refine⟨Zaf ?_,Zbf hbr _⟩
     have: ¬sa=sb:=by
      intro e;subst e
      exact HS.out (HX.out.trans HY.out.symm)
     simp[this]
   ·go_wp2
    go_ret
    refine⟨Zaf ?_,hbr⟩
    have:sa=sb:=List.ext_getElem (by omega) (fun j h1 h2=>hno.out j h1 h2 (by omega))
    simp[this]
 ·have hne:((la:Int)!=(lb:Int))=true:=by rw[bne_iff_ne];omega
  go_enter Tryz.func175,Tryz.ntmps175
  go_wp2
  go_ret
  refine⟨Zaf ?_,Below.refl _ _⟩
  have: ¬sa=sb:=fun e=>by subst e;omega
  simp[this]
theorem Zmb (w:World) (ao bo:Option Addr) (la ca lb cb:Nat) (sa sb:List UInt8) (ha:ZbP w ao la ca sa) (hb:ZbP w bo lb cb sb):
  Calls Tryz.prog 79 #[.slice ao la ca,.slice bo lb cb] w fun e w'=>e= .returned (.bool (decide (sa=sb)))∧Below w.heap.size w w':=by
 have hla:sa.length=la:=by simpa using ha.hlen
 have hlb:sb.length=lb:=by simpa using hb.hlen
 have hmx:=ha.hmax
 have hca:=ha.hcap
 have hle:=ha.hle
 have hcb:=hb.hcap
 have hleb:=hb.hle
 by_cases hll:la=lb
 ·subst hll
  go_enter Tryz.func79,Tryz.ntmps79
  go_wp2
  go_loopw [5] (fun i wr=>∃ k:Nat,k≤la∧i= .int .i64 k∧Below w.heap.size w wr∧Hid (∀ j (hj:j<sa.length) (hj':j<sb.length),j<k→sa[j]=sb[j])) (fun i _=>la-(intOf i).toNat)
  case atStart=>exact⟨0,Nat.zero_le _,rfl,Below.refl _ _,fun j hj _ h=>absurd h (by omega)⟩
  case round=>
   obtain⟨k,hk,rfl,hbr,hno⟩:=hrel
   by_cases hlt:k<la
   ·obtain⟨b1,off1,rfl⟩:=ha.addr hlt
    obtain⟨b2,off2,rfl⟩:=hb.addr hlt
    have hc1:=(ha.below hbr Zlr).at hlt
    have hc2:=(hb.below hbr Zlr).at hlt
    rw[List.getElem_map] at hc1 hc2
    obtain⟨x,hxk⟩:∃ x,x=(sa[k]'(by omega)).toNat:=⟨_,rfl⟩
    obtain⟨y,hyk⟩:∃ y,y=(sb[k]'(by omega)).toNat:=⟨_,rfl⟩
    rw[←hxk] at hc1
    rw[←hyk] at hc2
    have HX:=Zhd hxk;clear hxk
    have HY:=Zhd hyk;clear hyk
    have hkp:(0:Int)≤(k:Int):=Int.natCast_nonneg _
    have hkl:(k:Int)<(la:Int):=by omega
    by_cases hs:x=y
    ·have HS:=Zhd hs
     have hT:((x:Int)!=(y:Int))=false:=by rw[hs];simp
     have hT2:((x:Int)==(y:Int))=true:=by rw[hs];simp
     clear hs
     go_wp2_with fail
     go_quiet (fail)
     go_wp2
     go_roundw
     case rel=>
      refine⟨k+1,by omega,by go_num,Zbf hbr _,fun j hj hj' h=>?_⟩
      rcases Nat.lt_succ_iff_lt_or_eq.1 h with h|rfl
      ·exact hno.out j hj hj' h
      ·have hz:=HX.out.symm.trans (HS.out.trans HY.out)
       exact UInt8.toNat.inj hz
     case measure=>simp[intOf];omega
    ·have HS:=Zhd hs
     have hT:((x:Int)!=(y:Int))=true:=by rw[bne_iff_ne];omega
     have hT2:((x:Int)==(y:Int))=false:=by rw[beq_eq_false_iff_ne];omega
     clear hs
     go_wp2_with fail
     go_quiet (fail)
     go_wp2
     go_ret
     refine⟨Zaf ?_,Zbf hbr _⟩
     have: ¬sa=sb:=by
      intro e;subst e
      exact HS.out (HX.out.trans HY.out.symm)
     simp[this]
   ·go_wp2
    go_ret
    refine⟨Zaf ?_,hbr⟩
    have:sa=sb:=List.ext_getElem (by omega) (fun j h1 h2=>hno.out j h1 h2 (by omega))
    simp[this]
 ·have hne:((la:Int)!=(lb:Int))=true:=by rw[bne_iff_ne];omega
  go_enter Tryz.func79,Tryz.ntmps79
  go_wp2
  go_ret
  refine⟨Zaf ?_,Below.refl _ _⟩
  have: ¬sa=sb:=fun e=>by subst e;omega
  simp[this]
theorem Zma (w:World) (ao bo:Option Addr) (la ca lb cb:Nat) (sa sb:List Int) (ha:ZoN w ao la ca sa) (hb:ZoN w bo lb cb sb):
  Calls Tryz.prog 80 #[.slice ao la ca,.slice bo lb cb] w fun e w'=>e= .returned (.bool (decide (sa=sb)))∧Below w.heap.size w w':=by
 have hla:sa.length=la:=by simpa using ha.hlen
 have hlb:sb.length=lb:=by simpa using hb.hlen
 have hmx:=ha.hmax
 have hca:=ha.hcap
 have hle:=ha.hle
 have hcb:=hb.hcap
 have hleb:=hb.hle
 by_cases hll:la=lb
 ·subst hll
  go_enter Tryz.func80,Tryz.ntmps80
  go_wp2
  go_loopw [5] (fun i wr=>∃ k:Nat,k≤la∧i= .int .i64 k∧Below w.heap.size w wr∧Hid (∀ j (hj:j<sa.length) (hj':j<sb.length),j<k→sa[j]=sb[j])) (fun i _=>la-(intOf i).toNat)
  case atStart=>exact⟨0,Nat.zero_le _,rfl,Below.refl _ _,fun j hj _ h=>absurd h (by omega)⟩
  case round=>
   obtain⟨k,hk,rfl,hbr,hno⟩:=hrel
   by_cases hlt:k<la
   ·obtain⟨b1,off1,rfl⟩:=ha.addr hlt
    obtain⟨b2,off2,rfl⟩:=hb.addr hlt
    have hc1:=(ha.below hbr Zlr).at hlt
    have hc2:=(hb.below hbr Zlr).at hlt
    rw[List.getElem_map] at hc1 hc2
    obtain⟨x,hxk⟩:∃ x,x=sa[k]'(by omega):=⟨_,rfl⟩
    obtain⟨y,hyk⟩:∃ y,y=sb[k]'(by omega):=⟨_,rfl⟩
    rw[←hxk] at hc1
    rw[←hyk] at hc2
    have HX:=Zhd hxk;clear hxk
    have HY:=Zhd hyk;clear hyk
    have hkp:(0:Int)≤(k:Int):=Int.natCast_nonneg _
    have hkl:(k:Int)<(la:Int):=by omega
    by_cases hs:x=y
    ·have HS:=Zhd hs
     have hT:((x:Int)!=(y:Int))=false:=by rw[hs];simp
     have hT2:((x:Int)==(y:Int))=true:=by rw[hs];simp
     clear hs
     go_wp2_with fail
     go_quiet (fail)
     go_wp2
     go_roundw
     case rel=>
      refine⟨k+1,by omega,by go_num,Zbf hbr _,fun j hj hj' h=>?_⟩
      rcases Nat.lt_succ_iff_lt_or_eq.1 h with h|rfl
      ·exact hno.out j hj hj' h
      ·have hz:=HX.out.symm.trans (HS.out.trans HY.out)
       exact hz
     case measure=>simp[intOf];omega
    ·have HS:=Zhd hs
     have hT:((x:Int)!=(y:Int))=true:=by rw[bne_iff_ne];omega
     have hT2:((x:Int)==(y:Int))=false:=by rw[beq_eq_false_iff_ne];omega
     clear hs
     go_wp2_with fail
     go_quiet (fail)
     go_wp2
     go_ret
     refine⟨Zaf ?_,Zbf hbr _⟩
     have: ¬sa=sb:=by
      intro e;subst e
      exact HS.out (HX.out.trans HY.out.symm)
     simp[this]
   ·go_wp2
    go_ret
    refine⟨Zaf ?_,hbr⟩
    have:sa=sb:=List.ext_getElem (by omega) (fun j h1 h2=>hno.out j h1 h2 (by omega))
    simp[this]
 ·have hne:((la:Int)!=(lb:Int))=true:=by rw[bne_iff_ne];omega
  go_enter Tryz.func80,Tryz.ntmps80
  go_wp2
  go_ret
  refine⟨Zaf ?_,Below.refl _ _⟩
  have: ¬sa=sb:=fun e=>by subst e;omega
  simp[this]
theorem Zmj (w:World) (ao bo:Option Addr) (la ca lb cb:Nat) (sa sb:List ByteArray) (ha:Strs w ao la ca sa) (hb:Strs w bo lb cb sb):
  Calls Tryz.prog 81 #[.slice ao la ca,.slice bo lb cb] w fun e w'=>e= .returned (.bool (decide (sa=sb)))∧Below w.heap.size w w':=by
 have HH:=Zhd (Znd w ao bo la ca lb cb sa sb ha hb)
 clear ha hb
 simp only[Zi7] at HH
 go_enter Tryz.func81,Tryz.ntmps81
 go_wp2_with fail
 refine HH.out.mono ?_
 rintro e w' ⟨rfl,hb⟩
 go_wp2_with fail
 go_ret
 exact⟨rfl,hb⟩
theorem Zm6 (w:World) (h1 h2:ZaJ) (d1 d2:Zaq) (ha:IsData w h1 d1) (hb:IsData w h2 d2):
  Calls Tryz.prog 151 #[.agg (Zae h1),.agg (Zae h2)] w fun e w'=>e= .returned (.bool (Zd6 d1 d2))∧Below w.heap.size w w':=by
 have hb1:Below w.heap.size w (w.alloc (.cells (Zae h1) 35)):=Zbr.alloc Zlr _
 have hs1:(w.alloc (.cells (Zae h1) 35)).heap.size=w.heap.size+1:=by simp
 have hb2:Below w.heap.size w ((w.alloc (.cells (Zae h1) 35)).alloc (.cells (Zae h2) 35)):=hb1.alloc (by omega) _
 have hA0:Blk (w.alloc (.cells (Zae h1) 35)) w.heap.size (Zae h1) 35:=Zha w _
 have HA:=Zhd (hA0.on (Zbr.alloc Zlr (.cells (Zae h2) 35)))
 have HB:=Zhd (show Blk ((w.alloc (.cells (Zae h1) 35)).alloc (.cells (Zae h2) 35)) (w.heap.size+1) (Zae h2) 35 by rw[←hs1];exact Zha _ _)
 have HBE:=Zhd hb2
 have H1:=Zhd (ha.on hb2)
 have H2:=Zhd (hb.on hb2)
 obtain⟨S0,hS0⟩:∃ S,S=decide (d1.bytes=d2.bytes):=⟨_,rfl⟩
 obtain⟨S1,hS1⟩:∃ S,S=decide (d1.nums=d2.nums):=⟨_,rfl⟩
 obtain⟨S2,hS2⟩:∃ S,S=decide (d1.texts=d2.texts):=⟨_,rfl⟩
 obtain⟨S3,hS3⟩:∃ S,S=eqB d1.host d2.host:=⟨_,rfl⟩
 obtain⟨S4,hS4⟩:∃ S,S=eqB d1.mail d2.mail:=⟨_,rfl⟩
 have HE:=Zhd (show Zd6 d1 d2=(S0&&(S1&&(S2&&(S3&&S4)))) by simp only[Zd6,hS0,hS1,hS2,hS3,hS4])
 rw[HE.out]
 have HQ0:=Zhd (fun (w':World) (a:IsData w' h1 d1) (b:IsData w' h2 d2)=>Zol w' _ _ _ _ _ _ _ _ a.bytes b.bytes)
 rw[←hS0] at HQ0
 have HQ1:=Zhd (fun (w':World) (a:IsData w' h1 d1) (b:IsData w' h2 d2)=>Zom w' _ _ _ _ _ _ _ _ a.nums b.nums)
 rw[←hS1] at HQ1
 have HQ2:=Zhd (fun (w':World) (a:IsData w' h1 d1) (b:IsData w' h2 d2)=>Zon w' _ _ _ _ _ _ _ _ a.texts b.texts)
 rw[←hS2] at HQ2
 have HQ3:=Zhd (fun (w':World) (a:IsData w' h1 d1) (b:IsData w' h2 d2)=>Zff w' _ _ _ _ _ _ _ _ a.host b.host)
 rw[←hS3] at HQ3
 have HQ4:=Zhd (fun (w':World) (a:IsData w' h1 d1) (b:IsData w' h2 d2)=>Zff w' _ _ _ _ _ _ _ _ a.mail b.mail)
 rw[←hS4] at HQ4
 clear hb1 hs1 hb2 hA0 ha hb HE hS0 hS1 hS2 hS3 hS4
 obtain⟨ba,bl,bc,ha',hl,hc,ma,ml,mc,na,nl,nc,ta,tl,tc⟩:=h1
 obtain⟨ba2,bl2,bc2,ha2,hl2,hc2,ma2,ml2,mc2,na2,nl2,nc2,ta2,tl2,tc2⟩:=h2
 simp only[Zae] at HA HB HBE H1 H2 HQ0 HQ1 HQ2 HQ3 HQ4
 go_enter Tryz.func151,Tryz.ntmps151
 simp only[Zae]
 have a0:=HA.out.cell 0
 have b0:=HB.out.cell 0
 simp at a0 b0
 go_wp2_with fail
 clear a0 b0
 refine(HQ0.out _ H1.out H2.out).mono ?_
 rintro e w1 ⟨rfl,hb1⟩
 have HX1:=Zhd (hb1)
 clear hb1
 cases S0
 ·go_wp2_with fail
  go_ret
  exact⟨rfl,Zaa HBE.out HX1.out Zlr⟩
 have a1:=(HA.out.on HX1.out).cell 3
 have b1:=(HB.out.on HX1.out).cell 3
 simp at a1 b1
 go_wp2_with fail
 clear a1 b1
 refine(HQ1.out _ (H1.out.on HX1.out) (H2.out.on HX1.out)).mono ?_
 rintro e w2 ⟨rfl,hb2⟩
 have HX2:=Zhd (Zaa HX1.out hb2 Zlr)
 clear hb2
 cases S1
 ·go_wp2_with fail
  go_ret
  exact⟨rfl,Zaa HBE.out HX2.out Zlr⟩
 have a2:=(HA.out.on HX2.out).cell 4
 have b2:=(HB.out.on HX2.out).cell 4
 simp at a2 b2
 go_wp2_with fail
 clear a2 b2
 refine(HQ2.out _ (H1.out.on HX2.out) (H2.out.on HX2.out)).mono ?_
 rintro e w3 ⟨rfl,hb3⟩
 have HX3:=Zhd (Zaa HX2.out hb3 Zlr)
 clear hb3
 cases S2
 ·go_wp2_with fail
  go_ret
  exact⟨rfl,Zaa HBE.out HX3.out Zlr⟩
 have a3:=(HA.out.on HX3.out).cell 1
 have b3:=(HB.out.on HX3.out).cell 1
 simp at a3 b3
 go_wp2_with fail
 clear a3 b3
 refine(HQ3.out _ (H1.out.on HX3.out) (H2.out.on HX3.out)).mono ?_
 rintro e w4 ⟨rfl,hb4⟩
 have HX4:=Zhd (Zaa HX3.out hb4 Zlr)
 clear hb4
 cases S3
 ·go_wp2_with fail
  go_ret
  exact⟨rfl,Zaa HBE.out HX4.out Zlr⟩
 have a4:=(HA.out.on HX4.out).cell 2
 have b4:=(HB.out.on HX4.out).cell 2
 simp at a4 b4
 go_wp2_with fail
 clear a4 b4
 refine(HQ4.out _ (H1.out.on HX4.out) (H2.out.on HX4.out)).mono ?_
 rintro e w5 ⟨rfl,hb5⟩
 have HX5:=Zhd (Zaa HX4.out hb5 Zlr)
 clear hb5
 go_wp2_with fail
 go_ret
 exact⟨Zaf (by simp),Zaa HBE.out HX5.out Zlr⟩
theorem ZhU (w:World) (h1 h2:ZaJ) (d1 d2:Zaq) (ha:IsData w h1 d1) (hb:IsData w h2 d2):
  Calls Tryz.prog 41 #[.agg (Zae h1),.agg (Zae h2)] w fun e w'=>e= .returned (.bool (Zd6 d1 d2))∧Below w.heap.size w w':=by
 have hb1:Below w.heap.size w (w.alloc (.cells (Zae h1) 35)):=Zbr.alloc Zlr _
 have hs1:(w.alloc (.cells (Zae h1) 35)).heap.size=w.heap.size+1:=by simp
 have hb2:Below w.heap.size w ((w.alloc (.cells (Zae h1) 35)).alloc (.cells (Zae h2) 35)):=hb1.alloc (by omega) _
 have hA0:Blk (w.alloc (.cells (Zae h1) 35)) w.heap.size (Zae h1) 35:=Zha w _
 have HA:=Zhd (hA0.on (Zbr.alloc Zlr (.cells (Zae h2) 35)))
 have HB:=Zhd (show Blk ((w.alloc (.cells (Zae h1) 35)).alloc (.cells (Zae h2) 35)) (w.heap.size+1) (Zae h2) 35 by rw[←hs1];exact Zha _ _)
 have HBE:=Zhd hb2
 have H1:=Zhd (ha.on hb2)
 have H2:=Zhd (hb.on hb2)
 obtain⟨S0,hS0⟩:∃ S,S=decide (d1.bytes=d2.bytes):=⟨_,rfl⟩
 obtain⟨S1,hS1⟩:∃ S,S=decide (d1.nums=d2.nums):=⟨_,rfl⟩
 obtain⟨S2,hS2⟩:∃ S,S=decide (d1.texts=d2.texts):=⟨_,rfl⟩
 obtain⟨S3,hS3⟩:∃ S,S=eqB d1.host d2.host:=⟨_,rfl⟩
 obtain⟨S4,hS4⟩:∃ S,S=eqB d1.mail d2.mail:=⟨_,rfl⟩
 have HE:=Zhd (show Zd6 d1 d2=(S0&&(S1&&(S2&&(S3&&S4)))) by simp only[Zd6,hS0,hS1,hS2,hS3,hS4])
 rw[HE.out]
 have HQ0:=Zhd (fun (w':World) (a:IsData w' h1 d1) (b:IsData w' h2 d2)=>Zmb w' _ _ _ _ _ _ _ _ a.bytes b.bytes)
 rw[←hS0] at HQ0
 have HQ1:=Zhd (fun (w':World) (a:IsData w' h1 d1) (b:IsData w' h2 d2)=>Zma w' _ _ _ _ _ _ _ _ a.nums b.nums)
 rw[←hS1] at HQ1
 have HQ2:=Zhd (fun (w':World) (a:IsData w' h1 d1) (b:IsData w' h2 d2)=>Zmj w' _ _ _ _ _ _ _ _ a.texts b.texts)
 rw[←hS2] at HQ2
 have HQ3:=Zhd (fun (w':World) (a:IsData w' h1 d1) (b:IsData w' h2 d2)=>ZeJ w' _ _ _ _ _ _ _ _ a.host b.host)
 rw[←hS3] at HQ3
 have HQ4:=Zhd (fun (w':World) (a:IsData w' h1 d1) (b:IsData w' h2 d2)=>ZeJ w' _ _ _ _ _ _ _ _ a.mail b.mail)
 rw[←hS4] at HQ4
 clear hb1 hs1 hb2 hA0 ha hb HE hS0 hS1 hS2 hS3 hS4
 obtain⟨ba,bl,bc,ha',hl,hc,ma,ml,mc,na,nl,nc,ta,tl,tc⟩:=h1
 obtain⟨ba2,bl2,bc2,ha2,hl2,hc2,ma2,ml2,mc2,na2,nl2,nc2,ta2,tl2,tc2⟩:=h2
 simp only[Zae] at HA HB HBE H1 H2 HQ0 HQ1 HQ2 HQ3 HQ4
 go_enter Tryz.func41,Tryz.ntmps41
 simp only[Zae]
 have a0:=HA.out.cell 0
 have b0:=HB.out.cell 0
 simp at a0 b0
 go_wp2_with fail
 clear a0 b0
 refine(HQ0.out _ H1.out H2.out).mono ?_
 rintro e w1 ⟨rfl,hb1⟩
 have HX1:=Zhd (hb1)
 clear hb1
 cases S0
 ·go_wp2_with fail
  go_ret
  exact⟨rfl,Zaa HBE.out HX1.out Zlr⟩
 have a1:=(HA.out.on HX1.out).cell 3
 have b1:=(HB.out.on HX1.out).cell 3
 simp at a1 b1
 go_wp2_with fail
 clear a1 b1
 refine(HQ1.out _ (H1.out.on HX1.out) (H2.out.on HX1.out)).mono ?_
 rintro e w2 ⟨rfl,hb2⟩
 have HX2:=Zhd (Zaa HX1.out hb2 Zlr)
 clear hb2
 cases S1
 ·go_wp2_with fail
  go_ret
  exact⟨rfl,Zaa HBE.out HX2.out Zlr⟩
 have a2:=(HA.out.on HX2.out).cell 4
 have b2:=(HB.out.on HX2.out).cell 4
 simp at a2 b2
 go_wp2_with fail
 clear a2 b2
 refine(HQ2.out _ (H1.out.on HX2.out) (H2.out.on HX2.out)).mono ?_
 rintro e w3 ⟨rfl,hb3⟩
 have HX3:=Zhd (Zaa HX2.out hb3 Zlr)
 clear hb3
 cases S2
 ·go_wp2_with fail
  go_ret
  exact⟨rfl,Zaa HBE.out HX3.out Zlr⟩
 have a3:=(HA.out.on HX3.out).cell 1
 have b3:=(HB.out.on HX3.out).cell 1
 simp at a3 b3
 go_wp2_with fail
 clear a3 b3
 refine(HQ3.out _ (H1.out.on HX3.out) (H2.out.on HX3.out)).mono ?_
 rintro e w4 ⟨rfl,hb4⟩
 have HX4:=Zhd (Zaa HX3.out hb4 Zlr)
 clear hb4
 cases S3
 ·go_wp2_with fail
  go_ret
  exact⟨rfl,Zaa HBE.out HX4.out Zlr⟩
 have a4:=(HA.out.on HX4.out).cell 2
 have b4:=(HB.out.on HX4.out).cell 2
 simp at a4 b4
 go_wp2_with fail
 clear a4 b4
 refine(HQ4.out _ (H1.out.on HX4.out) (H2.out.on HX4.out)).mono ?_
 rintro e w5 ⟨rfl,hb5⟩
 have HX5:=Zhd (Zaa HX4.out hb5 Zlr)
 clear hb5
 go_wp2_with fail
 go_ret
 exact⟨Zaf (by simp),Zaa HBE.out HX5.out Zlr⟩
def ZcU (n:Int) (size:Nat):Bool:=decide (0≤n)&&decide (n<(256:Int)^size)
def Zgo (l:List Int) (count size:Nat):Bool:=decide (l.length=count)&&l.all fun n=>ZcU n size
def ZaD (d:Zaq) (b h m n t:Bool):Bool:=
 (b||decide (d.bytes.length=0))&&((h||decide (d.host.length=0))&&((m||decide (d.mail.length=0))&&((n||decide (d.nums.length=0))&&(t||decide (d.texts.length=0)))))
theorem Zrw (w:World) (n:Int) (hw:wfi n):Calls Tryz.prog 86 #[.int .i64 n,.int .i64 2] w fun e w'=>e= .returned (.bool (ZcU n 2))∧w=w':=by
 by_cases h0:0≤n
 ·have d0:decide (0≤n)=true:=Zdt h0
  have HQ:=Zhd (show(n/65536==0)=decide (n<65536) from by
   rw[Bool.eq_iff_iff,Zde,beq_iff_eq];omega)
  go_enter Tryz.func86,Tryz.ntmps86
  go_wp2
  go_ret
  refine⟨Zaf ?_,rfl⟩
  simp[ZcU,d0,HQ.out]
 ·have d0:decide (0≤n)=false:=Zdf h0
  go_enter Tryz.func86,Tryz.ntmps86
  go_wp2
  go_ret
  exact⟨Zaf (by simp[ZcU,d0]),rfl⟩
theorem Zrx (w:World) (n:Int) (hw:wfi n):Calls Tryz.prog 86 #[.int .i64 n,.int .i64 4] w fun e w'=>e= .returned (.bool (ZcU n 4))∧w=w':=by
 by_cases h0:0≤n
 ·have d0:decide (0≤n)=true:=Zdt h0
  have HQ:=Zhd (show(n/4294967296==0)=decide (n<4294967296) from by
   rw[Bool.eq_iff_iff,Zde,beq_iff_eq];omega)
  go_enter Tryz.func86,Tryz.ntmps86
  go_wp2
  go_ret
  refine⟨Zaf ?_,rfl⟩
  simp[ZcU,d0,HQ.out]
 ·have d0:decide (0≤n)=false:=Zdf h0
  go_enter Tryz.func86,Tryz.ntmps86
  go_wp2
  go_ret
  exact⟨Zaf (by simp[ZcU,d0]),rfl⟩
theorem ZoY (n:Int) (h0:0≤n):∀ size:Nat,(n/(256:Int)^size==0)=decide (n<(256:Int)^size):=fun size=>by
 have hp:(0:Int)<(256:Int)^size:=Int.pow_pos (by omega)
 rw[Bool.eq_iff_iff,Zde,beq_iff_eq]
 constructor
 ·intro h
  have h1:=Int.emod_add_mul_ediv n ((256:Int)^size)
  have h2:=Int.emod_lt_of_pos n hp
  rw[h,Int.mul_zero,Int.add_zero] at h1
  omega
 ·intro h
  exact Int.ediv_eq_zero_of_lt h0 h
theorem Zn8 (w:World) (n:Int) (size:Nat) (hs1:1≤size) (hs7:size≤7) (hw:wfi n):Calls Tryz.prog 165 #[.int .i64 n,.int .i64 (size:Int)] w fun e w'=>e= .returned (.bool (ZcU n size))∧w=w':=by
 have d1:decide ((size:Int)<1)=false:=by rw[decide_eq_false_iff_not];omega
 have d2:decide ((7:Int)<(size:Int))=false:=by rw[decide_eq_false_iff_not];omega
 by_cases h0:0≤n
 ·have d0:decide (n<0)=false:=by rw[decide_eq_false_iff_not];omega
  have HN:=Zhd h0
  have HW:=Zhd hw
  clear h0 hw
  go_enter Tryz.func165,Tryz.ntmps165
  go_wp2
  go_loop [0,5] (fun nv i=>∃ k:Nat,k≤size∧i= .int .i64 k∧nv= .int .i64 (n/(256:Int)^k)) (fun _ i=>size-(intOf i).toNat)
  case atStart=>exact⟨0,Nat.zero_le _,rfl,by simp⟩
  case round=>
   obtain⟨k,hk,rfl,rfl⟩:=hrel
   by_cases hlt:k<size
   ·have hstep:Hid ((n/(256:Int)^k)/256=n/(256:Int)^(k+1)):=by
     rw[Hid,Int.ediv_ediv_of_nonneg (by exact Int.pow_nonneg (by omega)),Int.pow_succ]
    have hpos:Hid (0≤n/(256:Int)^k):=Int.ediv_nonneg HN.out (Int.pow_nonneg (by omega))
    have hle:Hid (n/(256:Int)^k≤n):=Int.ediv_le_self _ HN.out
    have hq:Hid ((n/(256:Int)^k).tdiv 256=n/(256:Int)^(k+1)):=by
     rw[Hid,Int.tdiv_eq_ediv_of_nonneg hpos.out];exact hstep.out
    obtain⟨q,hqe⟩:∃ q,q=n/(256:Int)^k:=⟨_,rfl⟩
    rw[←hqe] at hpos hle hq⊢
    have q0:=hpos.out
    have q1:q≤9223372036854775807:=by have:=hle.out;have:=HW.out.2;omega
    clear hqe
    go_wp2
    go_round
    case rel=>exact⟨k+1,by omega,by go_num,by rw[←hq.out,Int.tdiv_eq_ediv_of_nonneg q0]⟩
    case measure=>simp[intOf];omega
   ·obtain rfl:k=size:=by omega
    have HD:=Zhd (ZoY n HN.out k)
    go_wp2
    go_ret
    refine⟨Zaf ?_,rfl⟩
    rw[HD.out]
    simp[ZcU,HN.out]
 ·have d0:decide (n<0)=true:=by rw[Zde];omega
  have d3:decide (0≤n)=false:=by rw[decide_eq_false_iff_not];omega
  go_enter Tryz.func165,Tryz.ntmps165
  go_wp2
  go_ret
  exact⟨Zaf (by simp[ZcU,d3]),rfl⟩
theorem Zni (w:World) (ao:Option Addr) (len cap:Nat) (l:List Int) (hl:ZoN w ao len cap l) (hf:∀ n∈l,wfi n) (count size:Nat) (hs1:1≤size) (hs7:size≤7):
  Calls Tryz.prog 133 #[.slice ao len cap,.int .i64 (count:Int),.int .i64 (size:Int)] w fun e w'=>e= .returned (.bool (Zgo l count size))∧w=w':=by
 have hlen:l.length=len:=by simpa using hl.hlen
 have hcap:=hl.hcap
 have hle:=hl.hle
 by_cases hc:len=count
 ·subst hc
  have HF:=Zhd hf
  have HL:=Zhd hlen
  clear hf hlen
  go_enter Tryz.func133,Tryz.ntmps133
  go_wp2
  go_loop [7] (fun i=>∃ k:Nat,k≤len∧i= .int .i64 k∧Hid (∀ j (hj:j<l.length),j<k→ZcU l[j] size=true)) (fun i=>len-(intOf i).toNat)
  case atStart=>exact⟨0,Nat.zero_le _,rfl,fun j hj h=>absurd h (by omega)⟩
  case round=>
   obtain⟨k,hk,rfl,hno⟩:=hrel
   by_cases hlt:k<len
   ·obtain⟨b,off,rfl⟩:=hl.addr hlt
    have hc:=hl.at hlt
    rw[List.getElem_map] at hc
    have hkl:k<l.length:=by have:=HL.out;omega
    have hw1:=HF.out _ (List.getElem_mem hkl)
    obtain⟨z,hz⟩:∃ z,z=l[k]:=⟨_,rfl⟩
    rw[←hz] at hc hw1
    have HZ:=Zhd hz
    have HC:=Zhd (Zn8 w z size hs1 hs7 hw1)
    clear hz hw1
    cases hb:ZcU z size
    all_goals
     rw[hb] at HC
     have HB:=Zhd hb
     clear hb
    ·go_wp2_with fail
     refine HC.out.mono ?_
     rintro e w' ⟨rfl,rfl⟩
     go_wp2_with fail
     go_ret
     refine⟨Zaf ?_,rfl⟩
     symm
     rw[Zgo,Bool.and_eq_false_iff]
     right
     rw[List.all_eq_false]
     exact⟨z,by rw[HZ.out];exact List.getElem_mem _,by simp[HB.out]⟩
    ·go_wp2_with fail
     refine HC.out.mono ?_
     rintro e w' ⟨rfl,rfl⟩
     go_wp2_with fail
     go_round
     case rel=>
      refine⟨k+1,by omega,by go_num,fun j hj h=>?_⟩
      rcases Nat.lt_succ_iff_lt_or_eq.1 h with h|rfl
      ·exact hno.out j hj h
      ·rw[←HZ.out];exact HB.out
     case measure=>simp[intOf];omega
   ·go_wp2
    go_ret
    refine⟨Zaf ?_,rfl⟩
    symm
    rw[Zgo,Zae2,Zde,List.all_eq_true]
    refine⟨HL.out,fun x hx=>?_⟩
    obtain⟨j,hj,rfl⟩:=List.getElem_of_mem hx
    exact hno.out j hj (by have:=HL.out;omega)
 ·have d1:((len:Int)!=(count:Int))=true:=by rw[bne_iff_ne];omega
  go_enter Tryz.func133,Tryz.ntmps133
  go_wp2
  go_ret
  exact⟨Zaf (by simp[Zgo,hlen,hc]),rfl⟩
theorem Zm9 (w:World) (h:ZaJ) (d:Zaq) (hd:ZmC h d) (b1 b2 b3 b4 b5:Bool):
  Calls Tryz.prog 132 #[.agg (Zae h),.bool b1,.bool b2,.bool b3,.bool b4,.bool b5] w fun e w'=>e= .returned (.bool (ZaD d b1 b2 b3 b4 b5))∧Below w.heap.size w w':=by
 have hB:Blk (w.alloc (.cells (Zae h) 35)) w.heap.size (Zae h) 35:=Zha w _
 obtain⟨ba,bl,bc,ha,hl,hc,ma,ml,mc,na,nl,nc,ta,tl,tc⟩:=h
 obtain⟨e0,e1,e2,e3,e4⟩:=hd
 simp only[Zae] at*
 have c0:=hB.cell 0
 have c1:=hB.cell 1
 have c2:=hB.cell 2
 have c3:=hB.cell 3
 have c4:=hB.cell 4
 simp at c0 c1 c2 c3 c4
 have HE:=Zhd (show ∀ x,x=ZaD d b1 b2 b3 b4 b5→x=((b1||decide (bl=0))&&((b2||decide (hl=0))&&((b3||decide (ml=0))&&((b4||decide (nl=0))&&(b5||decide (tl=0)))))) from by
  rintro x rfl;simp only[ZaD,e0,e1,e2,e3,e4])
 obtain⟨E,hE⟩:∃ x,x=ZaD d b1 b2 b3 b4 b5:=⟨_,rfl⟩
 rw[←hE]
 have HE2:=Zhd (HE.out E hE)
 clear hB e0 e1 e2 e3 e4 hE HE
 go_enter Tryz.func132,Tryz.ntmps132
 go_wp2
 all_goals
  go_ret
  refine⟨Zaf ?_,Zbr.alloc Zlr _⟩
  rw[HE2.out]
  clear HE2
  simp_all
  try (rw[Bool.eq_iff_iff,beq_iff_eq,Zde];omega)
end Go.Proofs.YtjpefpclmndgeaaGreat

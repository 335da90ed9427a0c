/- Texts that the proof needs, joined. -/
import Derived.Test.YtennbinbffdimaaGreatQk9
set_option maxRecDepth 100000
open Go.Vc.ak renaming cells->ak2
open Go.Vc.ag renaming cut->ak3,an->als,refl->alL
open Go.Vc.Sl renaming nil->ak4,mk->alh
open List renaming length_map->ak5,getElem?_map->ale,getElem?_eq_getElem->alg,mem_map->alk,mem_cons->alp,length_cons->alr,mem_filter->alv,mem_of_getElem?->alx,map_append->alz,take_length->alE,length_filter_le->alH,filter_congr->alJ,take_of_length_le->alK,length_append->alM,map_cons->alN,map_nil->alO,getElem?_eq_some_iff->alP,append_assoc->alQ
open Go.Vc.Bs renaming zero->ak6
open Nat renaming le_of_eq->ak7,le_refl->ala,le_trans->alC,zero_le->alI
open Eq renaming symm->ak8
open Go.Vc.Ext renaming push->ak9,refl->ald
open Go.Vc.If renaming split->alb,no->aln,yes->aly
open Go.Vc.TV renaming bg->alc,bytes->alj,agg->alq,str->alw,bool->alB,put->alF
open Go.Proofs.YtennbinbffdimaaGreat.Gate.Step renaming all->alf
open Int renaming le_refl->ali,toNat_natCast->alu,tdiv->alG
open Go.Vc.Var renaming ext->alm
open Go.IntKind renaming wrap->alo
open Option renaming map_eq_some_iff->alA
open Bool renaming true_and->alD
namespace Go.Proofs.YtennbinbffdimaaGreat
open Go Go.Vc
namespace Board
section
variable{R:Rq}{h:af}
def xv(c x:Int):Int:=alo .u8 ((BitVec.ofInt (IntKind.bits .u8) c^^^BitVec.ofInt (IntKind.bits .u8) x).toNat:Int)
def xb(c:UInt8)(x:Int):UInt8:=UInt8.ofNat (xv (c.toNat:Int) x).toNat
def Iw(key:LU):Bs 64:=⟨(key++List.replicate 64 0).take 64,by simp⟩
def iR(key:LU)(x:Int):LU:=(List.range 64).map λi=>xb (fc (Iw key) i) x
theorem HM(key:LU)(x:Int):(iR key x).length=64:=by rfl
theorem KK{key:LU}{x:Int}(q:key.length<=64)(A:∀g,Ext h g->R (alw (iR key x)).val g):Cl 328 [.str key,.int .u8 x] h R:=by
 apply L6;delta aF gZ Th cE Wu gj fD;refine aa λa v1 r z=>⟨?_,?_⟩
 ·intro s;cases s
 rintro l t;obtain rfl:l=⟨h.size,0⟩:=(Option.some.inj t).symm;have u:Nat.min key.length (ay (alh (some (Vc.Loc.mk h.size 0)) 64 64) 0 64 1).len=key.length:=Nat.min_eq_left q;rw[u,alE];have B:(alj 64 (ak6 64)).cells.length=64:=by rfl
 have j:=jo (key.map λc=>Value.int .u8 c.toNat) a h.size 0 _ 407 v1 (by simp_all);refine⟨v1.gT (by show 0+key.length<=64;omega),?_⟩
 have k:Var 407 (tI a h.size 0 (key.map λc=>Value.int .u8 c.toNat)) h.size (.bytes 64 (Iw key)):=by
  unfold Var;rw[j.1];congr 2;simp only[TV.cells,Iw,ak6,List.take_zero,List.map_take,alz,List.map_replicate];rw[List.take_append,alK (by simp_all),List.take_replicate,List.drop_replicate];simp_all
 have m:Ext h (tI a h.size 0 (key.map λc=>Value.int .u8 c.toNat)):=by
  refine⟨ω,λb d=>?_⟩;rw[j.2.2 b ω];exact r.same b d
 generalize(tI a h.size 0 (key.map λc=>Value.int .u8 c.toNat))=v at k m⊢;refine⟨λi n=>0<=i/\i<=64/\ag (·=h.size) v n/\Var 407 n h.size (.bytes 64 (kX (λi=>xb (fc (Iw key) i) x) (Iw key) i.toNat)),λi _=>(64-i).toNat,⟨ali 0,δ,alL _ _,k⟩,?_⟩;rintro i w ⟨o,C,f3,e⟩;refine ID (λf=>?_) λf=>?_
 ·have d:=iI e (i:=i.toNat) ω;rw[lX _ _ _ _ ω,if_neg ω]at d;have p:0<=xv (fc (Iw key) i.toNat).toNat x/\xv (fc (Iw key) i.toNat).toNat x<256:=aS _;refine⟨o,f,_,d,o,f,?_⟩;refine kV e (i:=i.toNat) ω ω p.1 p.2 λD v4 f4 E=>?_;rw[wrap_i64 ω ω];refine⟨⟨ω,ω,f3.trans f4,?_⟩,by grind⟩;rw[show(i+1).toNat=i.toNat+1 by omega];exact v4
 ·have y:i.toNat=64:=ω;rw[y]at e;refine⟨_,yp e,?_⟩;rw[ack];exact A w (ak3 m f3 λi f=>ω)
def No(r:Bs 32):Bs 16:=⟨r.l.take 16,by rw[List.length_take,r.h];rfl⟩
def qO(key s:LU):Bs 32:=mz (iR key 54++s)
def GO(key s:LU):Bs 16:=No (mz (iR key 92++(qO key s).l))
theorem RQ{T:TypeId}{b:Nat}{x:Bs 32}(v:Var T h b (.bytes 32 x)):av h b 0 16 (No x):=by
 intro j a;have:=v.bytes j ω;rw[this];simp only[No,List.getD_eq_getElem?_getD,List.getElem?_take,if_pos a]
theorem T6{key:LU}{s:Sl}{ts:List (LU)}(A:key.length<=64)(e:aj 1 h s (ts.map alw))(G:ts.flatten.length<100000)(ac:ts.length<10000)
 (Z:∀f,Ext h f->R (alj 16 (GO key ts.flatten)).val f):Cl 293 [.str key,.slice s] h R:=by
 apply O_;delta dQ jN aF JQ gZ JO cQ i_ QD iA LQ rD d_ dz gY gj eU bJ fD;refine aa λy v1 F X=>?_;intro H v;refine ID (λad=>ω) λ_=>v key y ?_;refine KK A λz I=>⟨_,rfl,?_⟩;have J:=ak9 z (row (ak2 [alw (iR key 54)]) 9);have Y:=((e.ext F).ext I).ext J;refine⟨_,Y.cells (λu p=>by obtain⟨t,_,rfl⟩:=alk.1 p;rfl) δ,ak.mJ (λu p=>by obtain⟨t,_,rfl⟩:=alk.1 p;rfl),?_⟩
 have o2:=Vc.Own.new (T:=9) z [alw (iR key 54)] (λt K=>by
  simp only[alp,List.not_mem_nil,or_false]at K;subst K;rfl)
 have L:=e.len;rw[ak5]at L;rw[<-L,show ts.length=(ts.map alw).length from(ak5 _).symm];refine JX adz ZT (by rw[OI];decide) δ (by rw[OI,ak5];show(1+_)*16<=_;omega) o2 (λu p=>by obtain⟨t,_,rfl⟩:=alk.1 p;rfl) λs3 M o3 f3 b3=>?_
 have x3:Ext z M:=ak3 J f3 λi k=>by
  obtain⟨l,G,rfl⟩:=k;obtain rfl:=Option.some.inj G;exact ala _
 have e3:aj 1 M s3 ((iR key 54::ts).map alw):=o3.elems;refine pT (ts:=iR key 54::ts) e3 ?_ (by rw[alr];omega) λh4 x4=>⟨qO key ts.flatten,rfl,?_⟩
 ·rw[List.flatten_cons,alM,HM];omega
 refine aa λh5 v5 x5 s5=>aH v5 (t:=.bytes 32 (qO key ts.flatten)) wI λo v6 f6 s6=>?_;have x6:Ext h4 o:=ak3 x5 f6 λi k=>ω;have IJ:Ext y o:=((I.trans x3).trans x4).trans x6;intro H v;have ae:y.size=h.size+1:=X;have N:[iR key 92,(qO key ts.flatten).l].flatten=iR key 92++(qO key ts.flatten).l:=by simp
 have w:[iR key 92,(qO key ts.flatten).l].flatten.length<700000:=by
  rw[N,alM,HM,(qO key ts.flatten).h];decide
 have x:∀(O P:LU)(Q:Sl)(S:LU)(U:Sl)(V:Bs 32)(f:af)(b:Nat),Ext o f->o.size<=b->Var 52 f b (.bytes 32 (mz [iR key 92,(qO key ts.flatten).l].flatten))->H (O,P,Q,S,U,V,some ⟨b,0⟩) f:=by
  intro O P Q S U V f b W hb hv;refine v _ f ⟨δ,δ,ala 16,?_⟩;rw[show(ay (alh (some (Vc.Loc.mk b 0)) 32 32) 0 (Int.toNat 16) 1).a=some ⟨b,0⟩from rfl];refine⟨No (mz [iR key 92,(qO key ts.flatten).l].flatten),RQ hv,?_⟩;have ab:Var 56 f h.size (.bytes 16 (ak6 16)):=v1.ext (IJ.trans W);refine aH ab (t:=.bytes 16 (No (mz [iR key 92,(qO key ts.flatten).l].flatten))) wI λm B f7 s7=>⟨_,B.bytes,?_⟩;have:=Z m (ak3 ((F.trans IJ).trans W) f7 λi k=>ω);rw[N];exact this
 clear v;refine⟨(qO key ts.flatten).l,yp v6,?_,?_⟩
 ·refine KK A λm g=>⟨_,rfl,g,⟨?_,?_⟩,?_⟩
  ·refine pT (ts:=[iR key 92,(qO key ts.flatten).l]) (og (T:=9) m [iR key 92,(qO key ts.flatten).l]) w (by simp) λd c=>⟨_,rfl,?_⟩;refine aa λq v9 j s9=>⟨j,aH v9 (t:=.bytes 32 (mz [iR key 92,(qO key ts.flatten).l].flatten)) wI λC v10 f10 D=>?_⟩;have n:Ext o d:=(g.trans (ak9 m _)).trans c;exact x _ _ _ _ _ _ _ d.size (ak3 (n.trans j) f10 λi k=>by have:=n.size;omega) n.size v10
  ·refine aa λd E c s8=>⟨c,?_⟩;refine pT (ts:=[iR key 92,(qO key ts.flatten).l]) ((og (T:=9) m [iR key 92,(qO key ts.flatten).l]).ext c) w (by simp) λq j=>⟨_,rfl,?_⟩;refine aH (E.ext j) (t:=.bytes 32 (mz [iR key 92,(qO key ts.flatten).l].flatten)) wI λC v10 f10 D=>?_;have n:Ext o (m.push (row (ak2 ([iR key 92,(qO key ts.flatten).l].map alw)) 9)):=g.trans (ak9 m _);exact x _ _ _ _ _ _ _ _ (ak3 ((n.trans c).trans j) f10 λi k=>by have:=n.size;rw[k];exact this) n.size v10
  ·refine aa λd E c s8=>⟨c,?_⟩;refine pT (ts:=[iR key 92,(qO key ts.flatten).l]) (og (T:=9) d [iR key 92,(qO key ts.flatten).l]) w (by simp) λq j=>⟨_,rfl,?_⟩;have r:Ext d q:=(ak9 d _).trans j;refine aH (E.ext r) (t:=.bytes 32 (mz [iR key 92,(qO key ts.flatten).l].flatten)) wI λC v10 f10 D=>?_;exact x _ _ _ _ _ _ _ _ (ak3 ((g.trans c).trans r) f10 λi k=>by have:=g.size;omega) g.size v10
 ·refine aa λm B g s7=>⟨g,?_⟩;refine KK A λd c=>⟨_,rfl,c,?_⟩;refine pT (ts:=[iR key 92,(qO key ts.flatten).l]) (og (T:=9) d [iR key 92,(qO key ts.flatten).l]) w (by simp) λq j=>⟨_,rfl,?_⟩;have r:Ext d q:=(ak9 d _).trans j;refine aH ((B.ext c).ext r) (t:=.bytes 32 (mz [iR key 92,(qO key ts.flatten).l].flatten)) wI λC v10 f10 D=>?_;exact x _ _ _ _ _ _ _ _ (ak3 ((g.trans c).trans r) f10 λi k=>ω) (ala _) v10
def IJ(a t:Bs 16):Bs 16:=kX (λj=>xb (fc a j) ((fc t j).toNat:Int)) a 16
def fI:List (Bs 16)->Bs 16->Bs 16
 |[],a=>a
 |t::ts,a=>fI ts (IJ a t)
theorem Eg:∀(ts:List (Bs 16))(t a:Bs 16),fI (ts++[t]) a=IJ (fI ts a) t
 |[],_,_=>rfl
 |u::ts,t,a=>by show fI (ts++[t]) _=_;rw[Eg ts t];rfl
abbrev tags(l:List (Bs 16)):List TV:=l.map (alj 16)
theorem XG{s:Sl}{ts:List (Bs 16)}(e:aj 16 h s (tags ts))(U:ts.length<1000000)(A:∀m,Ext h m->R (alj 16 (fI ts (ak6 16))).val m):Cl 295 [.slice s] h R:=by
 apply KJ;delta aF gL QD rD Th cE bK;have w:=e.len;rw[ak5]at w;refine aa λc v1 o P=>aa λx y f Q=>?_;refine⟨λi a=>0<=i/\i<=ts.length/\ag (·=c.size) x a/\Var 56 a c.size (.bytes 16 (fI (ts.take i.toNat) (ak6 16))),λi _=>(ts.length-i).toNat,⟨ali 0,ω,alL _ _,y⟩,?_⟩;rintro i z ⟨B,S,f3,g⟩;have C:=e.ext (ak3 (o.trans f) f3 λi b=>ω);refine ID (λb=>?_) λb=>?_
 ·refine C.read B ω λl t T p D=>?_;rw[ale]at p;obtain⟨t',E,rfl⟩:=alA.1 p;refine⟨t',D,?_⟩;refine aa λq v4 F G=>aH v4 wI λH I f5 V=>?_;have r:=ak3 F f5 λi b=>ω;have W:=f3.size;refine⟨λj a=>0<=j/\j<=16/\ag (·=c.size) H a/\Var 56 a c.size (.bytes 16 (kX (λj=>xb (fc (fI (ts.take i.toNat) (ak6 16)) j) (fc t' j).toNat) (fI (ts.take i.toNat) (ak6 16)) j.toNat)),λj _=>(16-j).toNat,⟨ali 0,δ,alL _ _,g.ext r⟩,?_⟩;rintro j X ⟨k,j1,f6,v6⟩;have J:=I.only f6 ω;refine ID (λd=>?_) λd=>?_
  ·have u:=iI v6 (i:=j.toNat) ω;rw[lX _ _ _ _ ω,if_neg ω]at u;have K:=iI J (i:=j.toNat) ω;have v:0<=xv (fc (fI (ts.take i.toNat) (ak6 16)) j.toNat).toNat (fc t' j.toNat).toNat/\xv (fc (fI (ts.take i.toNat) (ak6 16)) j.toNat).toNat (fc t' j.toNat).toNat<256:=aS _;refine⟨k,d,_,u,k,d,_,K,k,d,?_⟩;refine kV v6 (i:=j.toNat) ω ω v.1 v.2 λY L f7 Z=>?_;rw[wrap_i64 ω ω];refine⟨⟨ω,ω,f6.trans f7,?_⟩,by grind⟩;rw[show(j+1).toNat=j.toNat+1 by omega];exact L
  ·have M:j.toNat=16:=ω;rw[M]at v6;rw[wrap_i64 (n:=i+1) ω ω];refine⟨⟨ω,ω,(f3.trans ((als r).mono (λ_ h=>h))).trans f6,?_⟩,by dsimp only;omega⟩;rw[show(i+1).toNat=i.toNat+1 by omega,aU E,Eg];exact v6
 ·have N:ts.take i.toNat=ts:=alK ω;rw[N]at g;have O:Var 56 z h.size (.bytes 16 (ak6 16)):=(v1.ext f).only f3 ω;refine⟨_,g.bytes,aH O (t:=.bytes 16 (fI ts (ak6 16))) wI λq v4 f4 G=>⟨_,v4.bytes,?_⟩⟩;refine A q (ak3 (ak3 (o.trans f) f3 λi b=>ω) f4 λi b=>ω)
end
end Board
namespace Board
section
variable{R:Rq}{h:af}
def B8(m:Ms)(who:Int):Ms:=if m.kind=3 then⟨2,m.slot,m.target,who,0,ak4,ak6 16⟩else m
def Eh(m:Ms)(row:List Bool):List Bool:=if m.kind=3 then[]else row
theorem aat{m:Ms}{who:Int}(q:∀f,Ext h f->R (B8 m who).tv.val f):Cl 294 [m.tv,.i who] h R:=by
 apply KL m.kind m.slot m.target m.ax m.body m.bits m.tag who;delta dK eY bz aN;refine aa λn v1 g w=>aa λj a b x=>?_;have l:Var 58 j h.size m.tv:=v1.ext b;have a:Var 58 j n.size bh.tv:=a;have o:=l.at;obtain⟨p,r,s,y,z,A,B⟩:=o;refine⟨_,p,ID (λk=>⟨_,r,_,s,?_⟩) λk=>bB l ?_⟩
 ·have c:B8 m who=⟨2,m.slot,m.target,who,0,ak4,ak6 16⟩:=if_pos k;refine aq a (t:=(Ms.mk 2 m.slot m.target who 0 ak4 (ak6 16)).tv) cv fR λd e f3 u=>?_;refine bB (m:=Ms.mk 2 m.slot m.target who 0 ak4 (ak6 16)) e ?_;have:=q d (ak3 (g.trans b) f3 λi v=>ω);rw[c]at this;exact this
 ·have c:B8 m who=m:=if_neg k;refine aq a (t:=m.tv) cv fR λd e f3 u=>?_;refine bB e ?_;have:=q d (ak3 (g.trans b) f3 λi v=>ω);rw[c]at this;exact this
noncomputable def a_(n:Nat)(aQ:Int)(m:Ms)(row:List Bool):List Int×Bool:=
 if dU m row=false then([],false)
 else if m.kind=3 then(if mem n aQ m.slot=[]\/row.length≠(mem n aQ m.slot).length then([],false)else(pk (mem n aQ m.slot) row,true))
 else if m.kind=1/\uy (mem n aQ m.slot)≠m.ax then([],false)
 else if idx (mem n aQ m.slot) m.ax 0<0 then([],false)else([m.ax],true)
theorem RR(h:af):aj 1 h ak4 (ints []):=aj.Bf 1 h
theorem RS(h:af)(x:Int):aj 1 (h.push (Vc.row (ak2 [TV.i x]) 3)) ⟨some ⟨h.size,0⟩,1,1⟩ (ints [x]):=
 (Vc.Own.new (T:=3) (sz:=1) h [TV.i x] (λt a=>by
  simp only[alp,List.not_mem_nil,or_false]at a;subst a;rfl)).elems
theorem Ei{c:Cf}{m:Ms}{row:List Bool}(A:c.vals.len<900)(e:aj 1 h m.bits (aY row))(M:row.length<100000)
 (B:∀f G,aj 1 f G (ints (a_ c.vals.len c.aQ m row).1)->Ext h f->R (alc [.slice G,.bool (a_ c.vals.len c.aQ m row).2]).val f):Cl 170 [c.tv,m.tv] h R:=by
 apply De c.vals c.ep c.aQ c.no c.eV c.eH c.quo c.pe c.iy c.win c.bH c.dec m.kind m.slot m.target m.ax m.body m.bits m.tag;delta dK Zk U7 eY nY Wv d_ uQ aN aT fD;refine aa λq v1 L X=>aa λN r H Y=>?_;have v1:Var 24 q h.size c.tv:=v1;have r:Var 58 N q.size m.tv:=r;have I:=L.trans H;refine bB r (Kf (e.ext I) M λo y=>⟨_,rfl,?_⟩);have j:=I.trans y;have s:Var 24 o h.size c.tv:=(v1.ext H).ext y;have O:Var 58 o q.size m.tv:=r.ext y;have P:=O.at;obtain⟨J,t,Z,u,a4,Q,a6⟩:=P
 have w:∀f,Ext h f->a_ c.vals.len c.aQ m row=([],false)->R (alc [.slice ak4,.bool false]).val f:=λf x g=>by
  have:=B f ak4 (by rw[g];exact RR f) x;rw[g]at this;exact this
 refine alb (λb=>w o j ?_) λb=>⟨_,J,ID (λl=>?_) λl=>⟨_,J,?_⟩⟩
 ·unfold a_;rw[if_pos (by simpa using b)]
 ·have b:¬dU m row=false:=by simpa using b
  refine td s ⟨_,t,_,Q,?_⟩;refine Gv (c:=c) A (e.ext j) (λd a z=>⟨_,_,rfl,w d (j.trans a) ?_⟩) λd S T a U V=>⟨_,_,rfl,?_⟩
  ·unfold a_;rw[if_neg b,if_pos l,if_pos z]
  ·have g:a_ c.vals.len c.aQ m row=(pk (mem c.vals.len c.aQ m.slot) row,true):=by
    unfold a_;rw[if_neg b,if_pos l,if_neg (λk=>k.elim U (λk=>k V))]
   have:=B d S (by rw[g];exact T.elems) (j.trans a);rw[g]at this;exact this
 ·have b:¬dU m row=false:=by simpa using b
  have last:∀d,Ext o d->(¬(m.kind=1/\uy (mem c.vals.len c.aQ m.slot)≠m.ax))->Cl 235 [c.tv,.i m.slot,.i m.ax] d λv h=>∃(n:Int),v=TV.val (TV.i n)/\If (decide (n<0)) (R (TV.val (alc [TV.slice ak4,alB false])) h) (∃(n:Int),ah h q.size 34 (.i n)/\R (TV.val (alc [TV.slice (alh (some (Vc.Loc.mk h.size 0)) 1 1),alB true])) (h.push (Vc.row (ak2 [TV.i n]) 3))):=by
   intro d a K;refine Tv (c:=c) A λC D=>⟨_,rfl,ID (λE=>w C ((j.trans a).trans D) ?_) λE=>⟨m.ax,mI D (mI a u),?_⟩⟩
   ·unfold a_;rw[if_neg b,if_neg l,if_neg K,if_pos E]
   ·have g:a_ c.vals.len c.aQ m row=([m.ax],true):=by
     unfold a_;rw[if_neg b,if_neg l,if_neg K,if_neg E]
    have:=B _ ⟨some ⟨C.size,0⟩,1,1⟩ (by rw[g];exact RS C m.ax) (((j.trans a).trans D).trans (ak9 _ _));rw[g]at this;exact this
  refine ID (λF=>?_) λF=>?_
  ·refine td s ⟨_,t,_,u,?_⟩;refine LS (c:=c) A λd a=>⟨_,rfl,a,?_⟩;have W:=s.ext a;refine alb (λp=>alb (λp=>w d (j.trans a) ?_) λz=>absurd p (by rw[z];decide)) λp=>?_
   ·unfold a_;rw[if_neg b,if_neg l,if_pos ⟨F,by simpa using p⟩]
   ·refine td W ⟨_,mI a t,_,mI a u,?_⟩;exact last d a λk=>k.2 (by simpa using p)
  ·refine td s ⟨_,t,_,u,?_⟩;exact last o (ald _) λk=>F k.1
theorem T7:∀(l:List Int)(row:List Bool)(x:Int),x∈pk l row->x∈l
 |[],_,x,h=>by simp[pk]at h
 |_::_,[],x,h=>by simp[pk]at h
 |y::l,b::row,x,h=>by
  unfold pk at h;split at h
  ·rcases alp.1 h with q|q
   ·exact alp.2 (.inl q)
   ·exact alp.2 (.inr (T7 l row x q))
  ·exact alp.2 (.inr (T7 l row x h))
theorem mem_range{n:Nat}{aQ slot x:Int}(h:x∈mem n aQ slot):0<=x/\x<n:=by
 by_cases a:slot<0\/1073741824<slot
 ·rw[VI a]at h;cases h
 ·rw[aas ω ω]at h;exact aar (List.mem_of_mem_take h)
theorem GP{n:Nat}{aQ:Int}{m:Ms}{row:List Bool}{x:Int}(h:x∈(a_ n aQ m row).1):x∈mem n aQ m.slot:=by
 unfold a_ at h;split at h
 ·cases h
 ·split at h
  ·split at h
   ·cases h
   ·exact T7 _ _ _ h
  ·split at h
   ·cases h
   ·split at h
    ·cases h
    ·rename_i a;simp only[List.mem_singleton]at h;subst h;apply Classical.byContradiction;intro b;rw[VJ _ _ _ b]at a;exact a δ
theorem si{n:Nat}{aQ:Int}{m:Ms}{row:List Bool}:(a_ n aQ m row).1.length<=n+1:=by
 have c:∀(l:List Int)(row:List Bool),(pk l row).length<=l.length:=by
  intro l
  induction l with
  |nil=>intro row;simp[pk]
  |cons y l a=>
   intro row;cases row with
   |nil=>simp[pk]
   |cons b row=>
    unfold pk;split
    ·simp[a row]
    ·have:=a row;simp;omega
 unfold a_;split
 ·simp
 ·split
  ·split
   ·simp
   ·have:=c (mem n aQ m.slot) row;have:=sK n aQ m.slot;show(pk _ _).length<=_;omega
  ·split
   ·simp
   ·split<;>simp
end
end Board
namespace Board
section
variable{R:Rq}{h:af}
def FB(L:List Vd)(i:Int):LU:=(L.getD i.toNat ⟨0,[]⟩).key
def ud(L:List Vd)(m:Ms)(row:List Bool)(i:Int):Bs 16:=GO (FB L i) (dA (B8 m i) (Eh m row))
noncomputable def mB(n:Nat)(aQ:Int)(L:List Vd)(m:Ms)(row:List Bool):Bs 16×Bool:=
 if(a_ n aQ m row).2=true then(fI ((a_ n aQ m row).1.map (ud L m row)) (ak6 16),true)else(ak6 16,false)
theorem I1:(ctx.ti 56).bytes=16:=κ
theorem aau:(ctx.ti 56).size=16:=κ
theorem VK:(ctx.ti 56).z.size=16:=κ
theorem XH{m:Ms}{row:List Bool}{q:af}(e:aj 1 q m.bits (aY row))(who:Int):aj 1 q (B8 m who).bits (aY (Eh m row)):=by
 grind [Eh,aj.Bf,B8]
theorem aav(m:Ms)(row:List Bool):(Eh m row).length<=row.length:=by
 grind [Eh]
theorem aaw{c:Cf}{m:Ms}{row:List Bool}{L:List Vd}(W:c.vals.len<900)(Z:aj 2 h c.vals (jx L))(ab:∀v∈L,v.key.length<=64)(e:aj 1 h m.bits (aY row))(hl:row.length<500)
 (hr:∀G,Ext h G->R (alc [.bytes 16 (mB c.vals.len c.aQ L m row).1,.bool (mB c.vals.len c.aQ L m row).2]).val G):Cl 264 [c.tv,m.tv] h R:=by
 apply KM c.vals c.ep c.aQ c.no c.eV c.eH c.quo c.pe c.iy c.win c.bH c.dec m.kind m.slot m.target m.ax m.body m.bits m.tag;delta gz jN dK JO QF eY rD jr dD d_ eW bK aT fD;refine aa λh1 v1 H s1=>aa λh2 k s s2=>aa λh3 X u s3=>?_;have v1:=(alm v1 s).ext u;have k:=alm k u;have I:=(H.trans s).trans u;refine td v1 (bB k (Ei W (e.ext I) ω λw J y o=>⟨_,_,rfl,?_⟩));have z:=I.trans o;have Y:=v1.ext o;have w2:=k.ext o;have K:=X.ext o;refine alb (λd=>?_) λd=>?_
 ·have A:mB c.vals.len c.aQ L m row=(ak6 16,false):=by
   unfold mB;rw[if_neg (by simpa using d)]
  refine aq K rfl rfl λB v5 f5 s5=>⟨_,v5.bytes,?_⟩
  grind [ak3]
 ·have d:=by simpa using d
  have A:mB c.vals.len c.aQ L m row=(fI ((a_ c.vals.len c.aQ m row).1.map (ud L m row)) (ak6 16),true):=by
   unfold mB;rw[if_pos d]
  have M:∀x∈(a_ c.vals.len c.aQ m row).1,0<=x/\x<c.vals.len:=λx q=>mem_range (GP q);have ac:=si (n:=c.vals.len) (aQ:=c.aQ) (m:=m) (row:=row);generalize(a_ c.vals.len c.aQ m row).1=l at y A M ac;have el:=iP y
  refine⟨λσ N=>0<=σ.2/\σ.2<=J.len/\Vc.Own 56 16 N σ.1 (tags ((l.take σ.2.toNat).map (ud L m row)))/\(∀p,σ.1.a=some p->w.size<=p.b)/\Ext w N,λσ _=>((J.len:Int)-σ.2).toNat,
   ⟨ali 0,Ω,Vc.Own.nil _ _ _,(λp f=>by cases f),ald _⟩,?_⟩
  rintro⟨t,i⟩ B ⟨O,i1,r,D,a⟩;dsimp only at O i1 r D a⊢;refine ID (λhi=>?_) λhi=>?_
  ·refine gB (y.ext a) O ω λx q=>?_;have ad:=M x (alx q);refine⟨c.vals,(Y.ext a).at.1,?_⟩;refine((Z.ext z).ext a).read ad.1 ω λaE tv a0 P ae=>?_;rw[ale]at P;obtain⟨g,Q,rfl⟩:=alA.1 P;have al:FB L x=g.key:=by unfold FB;rw[List.getD_eq_getElem?_getD,Q];rfl
   have am:=ab g (alx Q);refine⟨g.key,ae.2,bB (w2.ext a) ?_⟩;have e5:aj 1 B m.bits (aY row):=(e.ext z).ext a;refine aat (m:=m) (who:=x) λh6 b=>⟨_,_,_,_,_,_,_,rfl,b,?_⟩;have a1:=aav m row;refine Kg (m:=B8 m x) (XH (e5.ext b) x) ω λE S=>⟨_,rfl,S,ak9 _ _,?_⟩;have a2:=ov (B8 m x) (Eh m row);refine T6 (ts:=[dA (B8 m x) (Eh m row)]) am (og (T:=9) E [dA (B8 m x) (Eh m row)]) (by simp only[List.flatten_cons,List.flatten_nil,List.append_nil];omega) (by simp) λh8 x8=>⟨_,rfl,?_⟩;have ao:[dA (B8 m x) (Eh m row)].flatten=dA (B8 m x) (Eh m row):=by simp
   rw[ao];have F:Ext B h8:=((b.trans S).trans (ak9 _ _)).trans x8;have U:=r.ext F;have tl:=U.len;rw[ak5,ak5,List.length_take]at tl;have ap:GO g.key (dA (B8 m x) (Eh m row))=ud L m row x:=by unfold ud;rw[al]
   refine cD (C:=ctx) (T:=56) (sz:=16) (x:=.bytes 16 (GO g.key (dA (B8 m x) (Eh m row)))) aau VK (by rw[I1];decide) (by rw[I1];omega) U rfl rfl λs9 h9 o9 f9 b9=>?_;rw[wrap_i64 (n:=i+1) ω ω];have x9:Ext w h9:=ak3 (a.trans F) f9 λj⟨p,f,hj⟩=>by have:=D p f;omega
   have z8:=(a.trans F).size;refine⟨⟨ω,ω,?_,λp f=>?_,x9⟩,Ω⟩
   ·rw[show(i+1).toNat=i.toNat+1 by omega,aU q,alz,alN,alO,<-ap];simpa[tags]using o9
   ·rcases b9 p f with⟨p',V,a3⟩|V
    ·have:=D p' V;omega
    ·omega
  ·have ar:l.take i.toNat=l:=alK ω;rw[ar]at r;refine XG r.elems (by rw[ak5];omega) λh6 b=>⟨_,rfl,?_⟩;have aw:=(z.trans a).trans b;refine aq ((K.ext a).ext b) (t:=.bytes 16 (fI (l.map (ud L m row)) (ak6 16))) rfl rfl λE v7 f7 s7=>⟨_,v7.bytes,?_⟩;have:=hr E (ak3 aw f7 λj hj=>by have:=H.size;have:=s.size;omega);rw[A]at this;exact this
noncomputable def kj(n:Nat)(aQ:Int)(L:List Vd)(m:Ms)(row:List Bool):Bool:=(mB n aQ L m row).2&&decide ((mB n aQ L m row).1.l=m.tag.l)
theorem T8{c:Cf}{m:Ms}{row:List Bool}{L:List Vd}(q:c.vals.len<900)(A:aj 2 h c.vals (jx L))(B:∀v∈L,v.key.length<=64)(e:aj 1 h m.bits (aY row))(E:row.length<500)
 (G:∀f,Ext h f->R (alB (kj c.vals.len c.aQ L m row)).val f):Cl 206 [c.tv,m.tv] h R:=by
 apply GQ c.vals c.ep c.aQ c.no c.eV c.eH c.quo c.pe c.iy c.win c.bH c.dec m.kind m.slot m.target m.ax m.body m.bits m.tag;refine aa λu v1 n w=>aa λx a g y=>?_;have v1:=alm v1 g;have a:=a;have b:=n.trans g;refine td v1 (bB a (aaw q (A.ext b) B (e.ext b) E λz j=>⟨_,_,rfl,?_⟩));refine aa λC v4 o D=>aq v4 rfl rfl λp r f5 F=>?_;have k:=ak3 o f5 λi H=>ω;have s:=(b.trans j).trans k;have d:=G p s;unfold kj at d;refine alb (λl=>?_) λl=>?_
 ·rw[l]at d;have t:=(a.ext j).ext k;exact⟨_,r.bytes,m.tag,t.at.2.2.2.2.2.2,d⟩
 simp_all
noncomputable def mX(n:Nat)(aQ:Int)(L:List Vd)(m:Ms)(row:List Bool):Ms×Bool:=
 if(mB n aQ L m row).2=true then({m with tag:=(mB n aQ L m row).1},true)else(bh,false)
theorem Vt.size(v:Vt):v.tv.size=34:=by rfl
theorem Vt.plain(v:Vt):v.tv.plain=true:=by rfl
noncomputable def jG(n:Nat)(aQ:Int)(m:Ms)(row:List Bool):List Vt:=
 if(a_ n aQ m row).2=false\/m.kind=1 then[]else(a_ n aQ m row).1.map λi=>⟨i,m.slot,m.target⟩
theorem FC:(ctx.ti 124).bytes=48:=κ
theorem aax:(ctx.ti 124).size=34:=κ
theorem VL:(ctx.ti 124).z.size=34:=κ
theorem RU{c:Cf}{m:Ms}{row:List Bool}(hv:c.vals.len<900)(e:aj 1 h m.bits (aY row))(hl:row.length<500)
 (A:∀r s,aj 34 r s (Et (jG c.vals.len c.aQ m row))->Ext h r->(∀p,s.a=some p->h.size<=p.b)->R (TV.slice s).val r):Cl 104 [c.tv,m.tv] h R:=by
 apply GR c.vals c.ep c.aQ c.no c.eV c.eH c.quo c.pe c.iy c.win c.bH c.dec m.kind m.slot m.target m.ax m.body m.bits m.tag;delta dK U6 sD dx eY pR jr dD eW aN bK;refine aa λh1 v1 K s1=>aa λh2 g w s2=>?_;have v1:=alm v1 w;have g:=g;have y:=K.trans w;refine td v1 (bB g (Ei hv (e.ext y) ω λd z u B=>⟨_,_,rfl,?_⟩));have k:=y.trans B;have D:=g.ext B;intro J L;refine alb (λv=>?_) λv=>⟨_,D.at.1,ID (λE=>?_) λE=>L _ _ ?_⟩
 ·have o:jG c.vals.len c.aQ m row=[]:=if_pos (.inl (by simp_all));exact A d ak4 (by simp_all [aj.Bf]) k (λp a=>by cases a)
 ·have o:jG c.vals.len c.aQ m row=[]:=if_pos (.inr E);exact A d ak4 (by simp_all [aj.Bf]) k (λp a=>by cases a)
 ·have v:=by simpa using v
  have o:jG c.vals.len c.aQ m row=(a_ c.vals.len c.aQ m row).1.map λi=>⟨i,m.slot,m.target⟩:=if_neg (by simp_all);have M:=si (n:=c.vals.len) (aQ:=c.aQ) (m:=m) (row:=row);generalize(a_ c.vals.len c.aQ m row).1=l at u o M;have el:=iP u
  refine⟨λσ F=>0<=σ.2/\σ.2<=z.len/\Vc.Own 124 34 F σ.1 (Et ((l.take σ.2.toNat).map λi=>⟨i,m.slot,m.target⟩))/\(∀p,σ.1.a=some p->d.size<=p.b)/\Ext d F,λσ _=>(z.len-σ.2).toNat,
   ⟨ali 0,ω,Vc.Own.nil _ _ _,(λp a=>by cases a),ald _⟩,?_⟩
  rintro⟨t,i⟩ N ⟨G,O,f,q,b⟩;dsimp only at G O f q b⊢;refine ID (λP=>?_) λP=>?_
  ·refine gB (u.ext b) G ω λx Q=>?_;have H:=D.ext b;refine⟨_,H.at.2.1,_,H.at.2.2.1,?_⟩;have S:=f.len;rw[ak5,ak5,List.length_take]at S;refine cD (C:=ctx) (T:=124) (sz:=34) (x:=Vt.tv ⟨x,m.slot,m.target⟩) aax VL (by rw[FC];decide) (by rw[FC];omega) f (Vt.size _) (Vt.plain _) λs9 U V f9 W=>?_;rw[wrap_i64 (n:=i+1) ω ω];have X:Ext d U:=ak3 b f9 λj⟨p,a,hj⟩=>by have:=q p a;omega
   have z5:=b.size;refine⟨⟨ω,ω,?_,λp a=>?_,X⟩,Ω⟩
   ·rw[show(i+1).toNat=i.toNat+1 by omega,aU Q,alz];simpa[Et]using V
   ·rcases W p a with⟨Y,I,ab⟩|I
    ·have:=q Y I;omega
    ·omega
  ·have Z:l.take i.toNat=l:=alK ω;rw[Z]at f;exact A N t (by rw[o];exact f.elems) (k.trans b) λp a=>alC k.size (q p a)
end
end Board
namespace Gate
open Board (Vd Cf Ms Dm jx aq aY bh dF bw a_ kj bB fR cv j_ jk)
open Pool (It WL dV has jC oF)
open Peers (Pe)
section
variable{R:Rq}{h h':af}{g:Nat}{a:Ad}{c:Cf}{V:List Vd}{s:St}{Fp:Nat->Nat->Prop}
noncomputable def dw(c:Cf)(V:List Vd)(s:St)(m:Ms)(row:List Bool):Int:=
 if fK c s m.kind m.slot=false then 6 else if(a_ V.length c.aQ m row).2=false then 7 else if kj V.length c.aQ V m row=false then 8 else if iD s m.kind (bw m row)=true then 9 else 0
theorem RV(p:aR h g a c V s Fp)(n0:0<=s.now)(n1:s.now<=1073741824){text:LU}(ht:text.length<1000)
 (ae:dF text=none->∀h',Ext h h'->R (alc [bh.tv,.i 5]).val h')
 (hr:∀d,dF text=some d->∀h' b,aj 1 h' b (aY d.row)->Ext h h'->R (alc [(d.ms b).tv,.i (dw c V s (d.ms b) d.row)]).val h'):
 Cl 148 [.ptr (PT g),.str text] h R:=by
 apply Az;delta jY eY Tf bJ bA;refine aa λT v1 K s1=>?_;have v1:Var 58 T h.size bh.tv:=v1
 have out:∀(m:Ms)(e:af)(q:Nat)(n:Int),Ext T e->Var 58 e q m.tv->(∀h',Ext h h'->Ext e h'\/ag (·=h.size) e h'->R (alc [m.tv,.i n]).val h')->
  gT e h.size 0 53/\Bind (alF e h.size 0 m.tv) λf=>∃(U:Int),∃(W:Int),∃(X:Bs 32),∃(Y:Int),∃(Z:Int),∃(s:Sl),∃(ab:Bs 16),(ah f h.size 0 (.i U)/\ah f h.size 1 (.i W)/\av f h.size 2 32 X/\ah f h.size 34 (.i Y)/\ah f h.size 35 (.int .u64 Z)/\ah f h.size 36 (bu s)/\av f h.size 37 16 ab)/\
   R (alc [.agg [.i U,.i W,.bytes 32 X,.i Y,.int .u64 Z,.slice s,.bytes 16 ab],.i n]).val f:=by
  intro m e q n xx vm hk;refine aq (t0:=bh.tv) (v1.ext xx) (t:=m.tv) cv fR λf z f5 s5=>bB (m:=m) z ?_;exact hk f (ak3 (K.trans xx) f5 λi x=>ak7 (ak8 x)) (.inr f5)
 refine j_ ω (λal E M=>?_) λd E bs hd F M nw=>?_
 ·refine⟨_,_,_,_,_,_,_,_,rfl,aa λh3 N O s3=>aq (t0:=bh.tv) N (t:=bh.tv) cv fR λr v4 f4 s4=>?_⟩;have u:Ext E r:=ak3 O f4 λi x=>ak7 (ak8 x);exact aly (bB (m:=bh) v4 (out bh r _ 5 (M.trans u) v4 λf o _=>ae al f o))
 refine⟨_,_,_,_,_,_,_,_,rfl,aa λh3 N O s3=>aq (t0:=bh.tv) N (t:=(d.ms bs).tv) cv fR λr v4 f4 s4=>?_⟩;have u:Ext E r:=ak3 O f4 λi x=>ak7 (ak8 x);have v4:Var 58 r E.size (d.ms bs).tv:=v4;have y:=M.trans u;have ac:=oF hd;have k:=p.can;have kl:=k.len;have keys:=wS k;have el:V.length=c.vals.len:=by have:=p.vals.len;rwa [ak5]at this
 have z1:=K.size
 have A:∀(n:Int)(e:af),dw c V s (d.ms bs) d.row=n->Ext r e->∀h',Ext h h'->Ext e h'\/ag (·=h.size) e h'->R (alc [(d.ms bs).tv,.i n]).val h':=by
  intro n e hn P h' x' am;rw[<-hn];have eh:=F.ext (u.trans P);refine hr d hd h' bs ?_ x';rcases am with Q|Q
  ·exact eh.ext Q
  ·refine TV.ck Q eh λi⟨l,hl,x⟩ hq=>?_;have:=(nw l hl).1;have hq:i=h.size:=hq;omega
 have B:∀{e},Ext r e->aR e g a c V s Fp:=λP=>p.ext (K.trans (y.trans P));refine aln (bB (m:=d.ms bs) v4 (T2 (m:=d.ms bs) (B (ald _)) n0 n1 λf o=>⟨_,rfl,?_⟩));have z:=v4.ext o;refine alb (λj=>bB (m:=d.ms bs) z (out _ f _ 6 (y.trans o) z (A 6 f (if_pos (by simpa using j)) o))) λj=>?_;have G:¬fK c s (d.ms bs).kind (d.ms bs).slot=false:=by simpa using j
 refine⟨c.vals,c.ep,c.aQ,c.no,c.eV,c.eH,c.quo,c.pe,c.iy,c.win,c.bH,c.dec,(B o).var.at.1,bB (m:=d.ms bs) z ?_⟩;refine Board.Ei (c:=c) ω (F.ext (u.trans o)) ω λh6 s6 _ x6=>⟨_,_,rfl,?_⟩;have w:=o.trans x6;have v6:=v4.ext w;rw[<-el];refine alb (λj=>bB (m:=d.ms bs) v6 (out _ h6 _ 7 (y.trans w) v6 (A 7 h6 ?_ w))) λj=>?_
 ·unfold dw;rw[if_neg G,if_pos (by simpa using j)]
 have S:¬(a_ V.length c.aQ (d.ms bs) d.row).2=false:=by simpa using j
 refine⟨c.vals,c.ep,c.aQ,c.no,c.eV,c.eH,c.quo,c.pe,c.iy,c.win,c.bH,c.dec,(B w).var.at.1,bB (m:=d.ms bs) v6 ?_⟩;refine Board.T8 (c:=c) (L:=V) ω (B w).vals (λv hv=>by have:=keys v hv;omega) (F.ext (u.trans w)) ac λh7 x7=>⟨_,rfl,?_⟩;have C:=w.trans x7;have H:=v4.ext C;rw[<-el];refine alb (λj=>bB (m:=d.ms bs) H (out _ h7 _ 8 (y.trans C) H (A 8 h7 ?_ C))) λj=>?_
 ·unfold dw;rw[if_neg G,if_neg S,if_pos (by simpa using j)]
 have a3:¬kj V.length c.aQ V (d.ms bs) d.row=false:=by simpa using j
 refine bB (m:=d.ms bs) H (bB (m:=d.ms bs) H (jk (m:=d.ms bs) (F.ext (u.trans C)) ac λh8 x8=>⟨_,rfl,x8,?_⟩));have ad:=C.trans x8;refine T3 (m:=d.ms bs) (B ad) λI x9=>⟨_,rfl,?_⟩;have D:=ad.trans x9;have J:=v4.ext D;refine alb (λj=>bB (m:=d.ms bs) J (out _ I _ 9 (y.trans D) J (A 9 I ?_ D))) λj=>bB (m:=d.ms bs) J (out _ I _ 0 (y.trans D) J (A 0 I ?_ D))
 ·unfold dw;rw[if_neg G,if_neg S,if_neg a3,if_pos j]
 ·unfold dw;rw[if_neg G,if_neg S,if_neg a3,if_neg (by rw[j];decide)]
end
end Gate
namespace Gate
open Board (Vd Cf jx)
open Pool (It WL dV)
open Peers (Pe)
section
variable{h h':af}{g:Nat}{a:Ad}{c:Cf}{V:List Vd}{s:St}{Fp:Nat->Nat->Prop}{S':Nat->Prop}
theorem aR.SF(p:aR h g a c V s Fp):∀i,In c.vals i->i<h.size:=λi⟨l,d,n⟩=>by
 have k:=p.can.len;obtain⟨v,e⟩:∃v,V[0]? =some v:=⟨_,alg ω⟩;have f:=p.vals.get l d 0 v.tv (by rw[ale,e];rfl);have j:ah h l.b (l.o+0*2) (.i v.cF):=f.1;have b:ng h l.b (l.o+0*2)=some (.i v.cF):=j;unfold ng at b;split at b
 ·rename_i m;have:=(Array.getElem?_eq_some_iff.1 m).1;omega
 ·cases b
theorem aR.DB(p:aR h g a c V s Fp){j:Nat}(st:Step (Fp j) h S' h'):∀k i,nT Fp j S' k i->¬In c.vals i:=λk i b d=>by
 by_cases e:k=j
 ·rw[e,bY]at b;rcases st.new i b with f|f
  ·exact p.off j i f d
  ·have:=p.SF i d;omega
 ·rw[aB e]at b;exact p.off k i b d
theorem aR.B_(p:aR h g a c V s Fp){q:List It}(A:k9 212 h' a.wt q c.eH c.quo S')(st:Step (Fp 5) h S' h'):aR h' g a c V {s with wait:=q} (nT Fp 5 S'):=by
 have o:∀k,k≠5->∀i,Fp k i->¬Fp 5 i:=λk b=>p.sep.off b;refine⟨p.sep.step st A.lt,?_,?_,?_,?_,?_,?_,?_,?_,?_,?_,?_,?_,?_,p.DB st,p.can⟩
 ·rw[aB δ];exact p.tree.only st.only (o 0 δ)
 ·rw[aB δ];exact p.FP.only st.only (o 1 δ)
 ·rw[aB δ];exact p.gH.only st.only (o 2 δ)
 ·exact p.bk.only st.only (o 3 δ _ (by rw[p.f3]))
 ·rw[aB δ];exact p.f3
 ·rw[aB δ];exact p.kids.only st.only (o 4 δ)
 ·rw[bY];exact A
 ·rw[aB δ];exact p.who.only st.only (o 6 δ)
 ·exact p.kz.only st.only (o 7 δ _ (by rw[p.f7]))
 ·rw[aB δ];exact p.f7
 ·exact p.var.only st.only (o 8 δ _ (by rw[p.f8]))
 ·rw[aB δ];exact p.f8
 ·exact TV.ck st.only p.vals λi d e=>p.off 5 i e d
theorem aR.CR(p:aR h g a c V s Fp){P:List (Int×Int)}{gone:Int}(q:VH h' a.wh P c.pe c.bH c.dec gone S')(st:Step (Fp 6) h S' h'):aR h' g a c V {s with sc:=P,gone:=gone} (nT Fp 6 S'):=by
 have o:∀k,k≠6->∀i,Fp k i->¬Fp 6 i:=λk b=>p.sep.off b;refine⟨p.sep.step st q.lt,?_,?_,?_,?_,?_,?_,?_,?_,?_,?_,?_,?_,?_,p.DB st,p.can⟩
 ·rw[aB δ];exact p.tree.only st.only (o 0 δ)
 ·rw[aB δ];exact p.FP.only st.only (o 1 δ)
 ·rw[aB δ];exact p.gH.only st.only (o 2 δ)
 ·exact p.bk.only st.only (o 3 δ _ (by rw[p.f3]))
 ·rw[aB δ];exact p.f3
 ·rw[aB δ];exact p.kids.only st.only (o 4 δ)
 ·rw[aB δ];exact p.wait.only st.only (o 5 δ)
 ·rw[bY];exact q
 ·exact p.kz.only st.only (o 7 δ _ (by rw[p.f7]))
 ·rw[aB δ];exact p.f7
 ·exact p.var.only st.only (o 8 δ _ (by rw[p.f8]))
 ·rw[aB δ];exact p.f8
 ·exact TV.ck st.only p.vals λi d e=>p.off 6 i e d
end
end Gate
namespace Gate
open Board (Vd Cf Vt jx aq wI)
open Pool (It)
theorem I2{h h':af}{F:Nat->Nat->Prop}{j:Nat}{S':Nat->Prop}{v:Sl}(off:∀k i,F k i->¬In v i)(q:∀i,In v i->i<h.size)(st:Step (F j) h S' h'):∀k i,nT F j S' k i->¬In v i:=λk i a c=>by
 by_cases e:k=j
 ·rw[e,bY]at a;rcases st.new i a with b|b<;>grind
 ·rw[aB e]at a
  grind
section
variable{R:Rq}{h h':af}{g:Nat}{a:Ad}{c:Cf}{V:List Vd}{s:St}{Fp:Nat->Nat->Prop}
theorem l9.ext{b:Nat}{L:List Nd}{most:Int}{S:Nat->Prop}(p:l9 h b L most S)(x:Ext h h'):l9 h' b L most S:=p.only (Q:=λ_=>False) (.an x) λ_ _ a=>a
theorem eZ.ext{w tb:Nat}{L:List Nd}{own:Nat->Int}{S:Nat->Prop}(p:eZ h w tb L own S)(x:Ext h h'):eZ h' w tb L own S:=p.only (Q:=λ_=>False) (.an x) λ_ _ a=>a
theorem Eb.ext{b n:Nat}{t:Tb}{S:Nat->Prop}(p:Eb h b t n S)(x:Ext h h'):Eb h' b t n S:=p.only (Q:=λ_=>False) (.an x) λ_ _ a=>a
structure jO(h:af)(g:Nat)(a:Ad)(c:Cf)(V:List Vd)(s:St)(Fp:Nat->Nat->Prop):Prop where
 sep:Sep h Fp
 tree:l9 h a.tr s.N c.no (Fp 0)
 gH:Eb h a.ta s.tb V.length (Fp 2)
 bk:Var 164 h a.bk (GM c a)
 f3:Fp 3=(·=a.bk)
 kids:k9 172 h a.kd s.kids c.eV c.quo (Fp 4)
 wait:k9 212 h a.wt s.wait c.eH c.quo (Fp 5)
 who:VH h a.wh s.sc c.pe c.bH c.dec s.gone (Fp 6)
 kz:Clock.CI 217 h a.kz s.now (Clock.fB c.win)
 f7:Fp 7=(·=a.kz)
 var:Var 147 h g (O9 c a s.left)
 f8:Fp 8=(·=g)
 vals:aj 2 h c.vals (jx V)
 off:∀k i,Fp k i->¬In c.vals i
 can:Can c V
theorem aR.x(p:aR h g a c V s Fp):jO h g a c V s Fp:=⟨p.sep,p.tree,p.gH,p.bk,p.f3,p.kids,p.wait,p.who,p.kz,p.f7,p.var,p.f8,p.vals,p.off,p.can⟩
theorem jO.b(p:jO h g a c V s Fp)(w:eZ h a.we a.tr s.N (bZ (aL V) s.tb s.N) (Fp 1)):aR h g a c V s Fp:=⟨p.sep,p.tree,w,p.gH,p.bk,p.f3,p.kids,p.wait,p.who,p.kz,p.f7,p.var,p.f8,p.vals,p.off,p.can⟩
theorem jO.SF(p:jO h g a c V s Fp):∀i,In c.vals i->i<h.size:=λi⟨l,b,f⟩=>by
 have k:=p.can.len;obtain⟨v,j⟩:∃v,V[0]? =some v:=⟨_,alg ω⟩;have d:=p.vals.get l b 0 v.tv (by simp_all);have e:=d.1;have:=xY e;omega
theorem jO.ext(p:jO h g a c V s Fp)(f:Ext h h'):jO h' g a c V s Fp:=
 ⟨p.sep.ext f,p.tree.ext f,p.gH.ext f,p.bk.ext f,p.f3,p.kids.only (Q:=λ_=>False) (.an f) λ_ _ b=>b,p.wait.only (Q:=λ_=>False) (.an f) λ_ _ b=>b,p.who.only (Q:=λ_=>False) (.an f) λ_ _ b=>b,
  p.kz.ext f,p.f7,p.var.ext f,p.f8,p.vals.ext f,p.off,p.can⟩
theorem jO.adH{S':Nat->Prop}(p:jO h g a c V s Fp)(st:Step (Fp 1) h S' h')(lt:∀i,S' i->i<h'.size):jO h' g a c V s (nT Fp 1 S'):=by
 have o:∀k,k≠1->∀i,Fp k i->¬Fp 1 i:=λk b=>p.sep.off b;refine⟨p.sep.step st lt,?_,?_,?_,?_,?_,?_,?_,?_,?_,?_,?_,?_,I2 p.off p.SF st,p.can⟩
 ·exact p.tree.only st.only (o 0 δ)
 ·exact p.gH.only st.only (o 2 δ)
 ·exact p.bk.only st.only (o 3 δ _ (by rw[p.f3]))
 ·exact p.f3
 ·exact p.kids.only st.only (o 4 δ)
 ·exact p.wait.only st.only (o 5 δ)
 ·exact p.who.only st.only (o 6 δ)
 ·exact p.kz.only st.only (o 7 δ _ (by rw[p.f7]))
 ·exact p.f7
 ·exact p.var.only st.only (o 8 δ _ (by rw[p.f8]))
 ·exact p.f8
 ·exact TV.ck st.only p.vals λi d e=>p.off 1 i e d
theorem jO.KN{S':Nat->Prop}{N':List Nd}(p:jO h g a c V s Fp)(t:l9 h' a.tr N' c.no S')(st:Step (Fp 0) h S' h'):jO h' g a c V {s with N:=N'} (nT Fp 0 S'):=by
 have o:∀k,k≠0->∀i,Fp k i->¬Fp 0 i:=λk b=>p.sep.off b;refine⟨p.sep.step st t.lt,?_,?_,?_,?_,?_,?_,?_,?_,?_,?_,?_,?_,I2 p.off p.SF st,p.can⟩
 ·grind [bY]
 ·exact p.gH.only st.only (o 2 δ)
 ·exact p.bk.only st.only (o 3 δ _ (by rw[p.f3]))
 ·exact p.f3
 ·exact p.kids.only st.only (o 4 δ)
 ·exact p.wait.only st.only (o 5 δ)
 ·exact p.who.only st.only (o 6 δ)
 ·exact p.kz.only st.only (o 7 δ _ (by rw[p.f7]))
 ·exact p.f7
 ·exact p.var.only st.only (o 8 δ _ (by rw[p.f8]))
 ·exact p.f8
 ·exact TV.ck st.only p.vals λi d e=>p.off 0 i e d
theorem jO.FD{S':Nat->Prop}{t':Tb}(p:jO h g a c V s Fp)(t:Eb h' a.ta t' V.length S')(st:Step (Fp 2) h S' h'):jO h' g a c V {s with tb:=t'} (nT Fp 2 S'):=by
 have o:∀k,k≠2->∀i,Fp k i->¬Fp 2 i:=λk b=>p.sep.off b;refine⟨p.sep.step st t.lt,?_,?_,?_,?_,?_,?_,?_,?_,?_,?_,?_,?_,I2 p.off p.SF st,p.can⟩
 ·exact p.tree.only st.only (o 0 δ)
 ·grind [bY]
 ·exact p.bk.only st.only (o 3 δ _ (by rw[p.f3]))
 ·exact p.f3
 ·exact p.kids.only st.only (o 4 δ)
 ·exact p.wait.only st.only (o 5 δ)
 ·exact p.who.only st.only (o 6 δ)
 ·exact p.kz.only st.only (o 7 δ _ (by rw[p.f7]))
 ·exact p.f7
 ·exact p.var.only st.only (o 8 δ _ (by rw[p.f8]))
 ·exact p.f8
 ·exact TV.ck st.only p.vals λi d e=>p.off 2 i e d
theorem jO.aay{S':Nat->Prop}{k tb:Nat}{L:List Nd}{own:Nat->Int}(p:jO h g a c V s Fp)(q:k≠1)(w:eZ h a.we tb L own (Fp 1))(st:Step (Fp k) h S' h'):eZ h' a.we tb L own (nT Fp k S' 1):=by
 rw[aB (λe=>q e.symm)];exact w.only st.only (p.sep.off (λe=>q e.symm))
theorem zf:(aL V).length=V.length:=by simp[aL]
theorem RX{t:Tb}{st:List Int}{who:Int}{r:Bs 32}(h:eB t who=none):qH t st who r=0:=by
 unfold qH;split
 ·rename_i a;unfold eB at h;rw[if_pos a]at h;unfold aK;rw[h];split<;>rfl
 ·rfl
theorem Ej{B:Nat}{t:Tb}{S:Nat->Prop}(A:Var 164 h B (GM c a))(gH:Eb h a.ta t V.length S)(E:aj 2 h c.vals (jx V)){who:Int}{root:Bs 32}(G:∀h',Ext h h'->R (TV.i (qH t (aL V) who root)).val h'):
 Cl 171 [.ptr (PT B),.i who,.bytes 32 root] h R:=by
 apply ze;refine aa λQ v1 d T=>?_;obtain⟨r,U,W,X,s,Y⟩:=gH.ext d;refine⟨_,(A.ext d).ah rfl,CD s λC w=>⟨_,_,_,_,rfl,?_⟩⟩;refine aa λZ D F s3=>aq D rfl rfl λf v4 f4 s4=>?_;have y:=ak3 F f4 λi H=>ak7 (ak8 H);have o:=w.trans y;have g:=d.trans o;have p:∀(q:af)(n:Int),Ext h q->qH t (aL V) who root=n->R (TV.i n).val q:=λq n x e=>by rw[<-e];exact G q x
 cases u:eB t who with
 |none=>
  have:(kI t who).2=false:=by grind [KI]
  rw[this];exact aly (p f 0 g (RX u))
 |some v=>
  have I:(kI t who).2=true:=by grind [KI]
  have J:(kI t who).1=v:=by simp_all [kI]
  rw[I];rw[J]at v4
  have j:0<=who/\who<V.length:=Classical.byContradiction λK=>by
   have:=Kc s.ok K;simp_all
  have L:t.bE.getD who.toNat none=some v:=by
   unfold eB at u
   rwa [if_pos j.1]at u
  have k:qH t (aL V) who root=if uA t who=true then 0 else if v.target=root then jh (aL V) who.toNat else 0:=by
   unfold qH aK uA;rw[if_pos j.1,L]
  refine aln ⟨_,((A.ext d).ext o).ah rfl,HA (s.ext o) ⟨_,rfl,?_⟩⟩;refine alb (λb=>p f 0 g ?_) λb=>?_
  ·have b:uB t V.length who=false:=by simpa using b
   unfold uB at b;rw[show Ra V.length who=true from decide_eq_true j,alD]at b;rw[k,if_pos (by simpa using b)]
  ·have b:uB t V.length who=true:=by simpa using b
   unfold uB at b;rw[show Ra V.length who=true from decide_eq_true j,alD]at b;have M:¬uA t who=true:=by simpa using b
   rw[if_neg M]at k;have N:Var 124 f C.size v.tv:=v4;refine⟨_,N.at.2.2,_,((v1.ext w).ext y).bytes,?_⟩;dsimp only;rw[show decide (v.target.l=root.l)=decide (v.target=root)from Gb _ _];refine alb (λm=>p f 0 g ?_) λm=>?_
   ·have:¬v.target=root:=by simpa using m
    rw[k,if_neg this]
   ·have m:v.target=root:=by simpa using m
    rw[if_pos m]at k;have el:=E.len;rw[ak5]at el;refine⟨_,((A.ext d).ext o).ah rfl,(E.ext g).read j.1 ω λl tv ha z O=>?_⟩;rw[ale]at z;obtain⟨x,P,rfl⟩:=alA.1 z;refine⟨x.cF,O.1,p f _ g ?_⟩;rw[k];unfold jh aL;rw[List.getD_eq_getElem?_getD,ale,P];rfl
theorem BO{q:Nat}{t:Tb}{S:Nat->Prop}(A:Var 164 h q (GM c a))(gH:Eb h a.ta t V.length S)(B:aj 2 h c.vals (jx V))(E:wR (aL V))(H:V.length<1000){root:Bs 32}(G:∀h',Ext h h'->R (TV.i (pW t (aL V) root)).val h'):
 Cl 297 [.ptr (PT q),.bytes 32 root] h R:=by
 apply Ca;delta eG aJ iZ cr gI bJ bK;refine aa λl v1 g u=>⟨c.vals,(A.ext g).ah rfl,?_⟩;have el:=B.len;rw[ak5]at el;have key:∀n,n<=V.length->0<=tot n (λj=>aK t (aL V) j root)/\tot n (λj=>aK t (aL V) j root)<4611686018427387904:=λn d=>M0 E root (by simp_all [zf]);refine⟨λσ m=>0<=σ.2/\σ.2<=V.length/\Ext l m/\σ.1=tot σ.2.toNat (λj=>aK t (aL V) j root),λσ _=>(V.length-σ.2).toNat,⟨ali 0,ω,ald _,rfl⟩,?_⟩;rintro⟨n,i⟩ o ⟨k,p,f,d⟩;dsimp only at k p d⊢;have b:=g.trans f;refine ID (λr=>⟨_,(v1.ext f).bytes,?_⟩) λr=>?_
 ·refine Ej (A.ext b) (gH.ext b) (B.ext b) λv s=>⟨_,rfl,?_⟩;have w:=key (i.toNat+1) ω
  have e:n+qH t (aL V) i root=tot (i.toNat+1) (λj=>aK t (aL V) j root):=by
   rw[jv,d];unfold qH;rw[if_pos k]
  dsimp only;rw[e,wrap_i64 ω ω,wrap_i64 ω ω];exact⟨⟨ω,ω,f.trans s,by grind⟩,ω⟩
 ·have:pW t (aL V) root=n:=by
   grind [tot,zf,pW]
  rw[<-this];exact G o b
theorem KO{q:List Dl}{D:Sl}{tr w:Nat}{L:List Nd}{most:Int}{own:Nat->Int}{H E:Nat->Prop}(I:l9 h tr L most H)(J:eZ h w tr L own E)(M:∀i,H i->¬E i)
 (pos:∀i,i<L.length->0<=own i)(U:tot L.length own<4611686018427387904)(e:aj 33 h D (q.map z_))(W:∀i,In D i->¬E i)(Z:q.length<1000)(ok:Gr L q own)
 (hr:∀h' a,eZ h' w tr L (laid L q own) a->Step E h a h'->R (TV.i 0).val h'):Cl 236 [.ptr (PT w),.slice D] h R:=by
 obtain⟨r,A,b,rfl⟩:=I;obtain⟨O,X,B,G,c,rfl⟩:=J;refine JZ c b M (by simp) (by simp) (by simp) (by simp) (by simp[CB]) (by simp[CB]) pos U e W Z ok λh' O S B G p st=>hr h' _ ⟨O,S,B,G,p,rfl⟩ st
theorem XI{L:List Nd}{x:Nd}{i:Nat}(h:i<L.length):bQ (L++[x]) i=bQ L i:=by
 simp_all [bQ,List.getElem?_append_left]
theorem T9{x:Nd}{D:Sl}{q:List Dl}{tr w:Nat}{L:List Nd}{most:Int}{own:Nat->Int}{H E:Nat->Prop}(I:rz L most)(J:l9 h tr (L++[x]) most H)(M:eZ h w tr L own E)(U:∀i,H i->¬E i)
 (W:own L.length=0)(pos:∀i,i<L.length+1->0<=own i)(ac:tot L.length own<4611686018427387904)(e:aj 33 h D (q.map z_))(Z:∀i,In D i->¬E i)(ab:q.length<1000)(ok:Gr (L++[x]) q own)
 (hr:∀h' a,eZ h' w tr (L++[x]) (laid (L++[x]) q own) a->Step E h a h'->R (TV.i 0).val h'):Cl 236 [.ptr (PT w),.slice D] h R:=by
 obtain⟨r,A,b,rfl⟩:=J;obtain⟨O,X,B,G,d,rfl⟩:=M;have up:=I.tree;have el:(L++[x]).length=L.length+1:=by simp
 have f:Up (L.length+1) (bQ (L++[x])):=by rw[<-el];exact b.ok.tree
 have g:∀i,0<i->i<L.length->bQ L i=bQ (L++[x]) i:=λi _ c=>(XI c).symm;refine JZ d b U (by simp) (by simp) (by simp) (by simp) ?_ ?_ (by simp_all) (by simp_all [jv]) e Z ab ok λh' O S B G p st=>hr h' _ ⟨O,S,B,G,p,rfl⟩ st
 ·rw[el];exact Vw (λ_ _=>rfl) W
 ·rw[el];refine Vw (λi c=>?_) ?_
  ·unfold dh
   grind [ZP]
  simp_all [dh,ZQ]
theorem VM(h:af)(x:Dl):aj 33 (h.push (row (ak2 [alq [.bytes 32 x.1,.i x.2]]) 314)) (alh (some (Vc.Loc.mk h.size 0)) 1 1) ([x].map z_):=
 (Vc.Own.new (T:=314) (sz:=33) h [z_ x] λt a=>by rw[List.mem_singleton.1 a];exact MP x).elems
theorem Gy{H:Nat}{L:List Nd}{own:Nat->Int}{I q:Nat->Prop}(J:Var 164 h H (GM c a))(M:l9 h a.tr L c.no I)(B:eZ h a.we a.tr L own q)(U:∀i,I i->¬q i)
 (pos:∀i,i<L.length->0<=own i)(W:tot L.length own<4611686018427387904){r:Bs 32}{n:Int}(O:-4611686018427387904<n/\n<4611686018427387904)(E:∀i,i<L.length->0<=mA L own r n i)(Z:tot L.length (mA L own r n)<4611686018427387904)
 (G:∀h' e,eZ h' a.we a.tr L (mA L own r n) e->Step q h e h'->R (alc []).val h'):Cl 173 [.ptr (PT H),.bytes 32 r,.i n] h R:=by
 apply Cb;delta MH j3 jN fP cr d_ jW bz bJ fD;have t:=B.lt;refine aa λN v1 f P=>⟨_,(J.ext f).ah rfl,r,v1.bytes,?_⟩;obtain⟨Q,A,u,S⟩:=M.ext f;refine dM u λg j=>⟨_,rfl,ID (λb=>?_) λb=>?_⟩
 ·have d:=f.trans j;refine⟨_,(J.ext d).ah rfl,r,(v1.ext j).bytes,ak9 _ _,?_⟩;have v:=VM g (r,n);have w:=ak9 g (row (ak2 [alq [.bytes 32 r,.i n]]) 314);have m:=d.trans w;have o:mA L own r n=laid L [(r,n)] own:=by unfold mA laid;rw[if_pos b];rfl
  obtain⟨k,y,T,x,V,X,p⟩:=fG b
  have Y:mA L own r n k=own k+n:=by
   unfold mA bump;rw[if_pos b,if_pos ω]
  have b2:=E k p;have b3:=DX L.length E k p
  have ok:Gr L [(r,n)] own:=by
   refine⟨b,O.1,O.2,?_,?_,?_⟩
   ·simp_all
   ·simp only[x,alu];omega
   ·unfold Gr;rw[show bump own (place (r,n).fst L).toNat (r,n).snd=mA L own r n by unfold mA;rw[if_pos b]];exact⟨E,Z⟩
  refine KO (M.ext m) (B.ext m) U pos W v (λi⟨l,z,C⟩ D=>?_) (by simp) ok λF e s K=>⟨_,rfl,?_⟩
  ·cases z;have:=t i D;have:=d.size;simp only at C;omega
  ·rw[<-o]at s;exact G F e s (.cut m K)
 ·have d:=f.trans j;have o:mA L own r n=own:=by unfold mA;rw[if_neg b]
  rw[o]at G;exact G g q (B.ext d) (.an d)
theorem aR.st(p:aR h g a c V s Fp):wR (aL V):=Ka p.can
theorem aR.tok(p:aR h g a c V s Fp):rz s.N c.no:=by obtain⟨r,A,b,d⟩:=p.tree;exact b.ok
theorem aR.ag0(p:aR h g a c V s Fp):wQ s.tb V.length:=by obtain⟨r,d,e,f,b,i⟩:=p.gH;exact b.ok
theorem jO.tok(p:jO h g a c V s Fp):rz s.N c.no:=by obtain⟨r,A,b,d⟩:=p.tree;exact b.ok
theorem Np(p:aR h g a c V s Fp){root parent:Bs 32}{slot:Int}
 (q:∀h' C,aR h' g a c V {s with N:=gw s.N c.no root parent slot} C->Step (dm Fp) h (dm C) h'->R (TV.i (nV s.N c.no root parent slot)).val h'):
 Cl 266 [.ptr (PT a.bk),.bytes 32 root,.bytes 32 parent,.i slot] h R:=by
 apply Cc;delta MH j3 jN aD cr dJ d_ jW bz dX bJ aT bA fD;refine aa λh1 v1 D s1=>aa λW X j s2=>aln ⟨_,(p.ext (D.trans j)).bk.ah rfl,root,(v1.ext j).bytes,parent,X.bytes,?_⟩;have n:=D.trans j;have k:=p.ext n;have kl:=p.can.len;obtain⟨r,A,Y,Z⟩:=k.tree;refine QN Y λE A' ab f=>⟨_,rfl,?_⟩;rw[<-Z]at f;obtain⟨ac,G⟩:∃S,S=lH a.tr r A':=⟨_,rfl⟩;rw[<-G]at f;have d:=k.x.KN ⟨r,A',ab,G⟩ f;have m:=k.x.aay δ k.FP f;obtain⟨H,ad⟩:∃F,F=nT Fp 0 ac:=⟨_,rfl⟩;have t3:Step (dm Fp) W (dm H) E:=by simp_all [alf]
 have I:=(v1.ext j).only f.only λo=>by have:=p.sep.lt 0 _ o;omega
 rw[<-ad]at d m;refine alb (λe=>?_) λe=>?_
 ·have e:=by simpa using e
  have u:gw s.N c.no root parent slot=s.N:=by unfold gw;rw[if_neg e]
  rw[u]at d q;exact q E H (d.b m) (.cut n t3)
 have e:nV s.N c.no root parent slot=0:=by simpa using e
 have J:=p.tok;have u:gw s.N c.no root parent slot=s.N++[⟨root,slot,place parent s.N⟩]:=by unfold gw;rw[if_pos e]
 rw[e]at q;rw[u]at q d;obtain⟨x,K⟩:∃x:Nd,x=⟨root,slot,place parent s.N⟩:=⟨_,rfl⟩;rw[<-K]at d q;have L:x.root=root:=by rw[K]
 have M:rz (s.N++[x]) c.no:=d.tok;refine⟨_,d.bk.ah rfl,root,I.bytes,root,I.bytes,BO d.bk d.gH d.vals p.st ω λv w=>⟨_,rfl,w,ak9 _ _,?_⟩⟩;have O:=VM v (root,pW s.tb (aL V) root);have P:=ak9 v (row (ak2 [alq [.bytes 32 root,.i (pW s.tb (aL V) root)]]) 314);generalize v.push (row (ak2 [alq [.bytes 32 root,.i (pW s.tb (aL V) root)]]) 314)=h5 at O P⊢;have y:=w.trans P;have z:=d.ext y;have ae:=m.lt;have Q:=aci (t:=s.tb) p.st M.nodup;rw[L]at Q;refine T9 J z.tree (m.ext y) (z.sep.off δ) (j7 (ala _)) (λi _=>rE p.st i) (uC p.st J.nodup) O (λi⟨l,hl,o⟩ hw=>?_) (by simp) Q λh6 al B T=>⟨_,rfl,?_⟩
 ·cases hl;have:=ae i hw;have:=w.size;simp only at o;omega
 have U:=Rc (st:=aL V) (t:=s.tb) M.nodup;rw[L]at U;rw[<-U]at B;exact q h6 _ ((z.adH T B.lt).b (by rw[bY];exact B)) (.cut n ((t3.trans (Step.an y)).trans (alf T)))
theorem Nq{own:Nat->Int}{r:Bs 32}{n:Int}(p:jO h g a c V s Fp)(w:eZ h a.we a.tr s.N own (Fp 1))(pos:∀i,i<s.N.length->0<=own i)(q:tot s.N.length own<4611686018427387904)
 (A:-4611686018427387904<n/\n<4611686018427387904)(B:∀i,i<s.N.length->0<=mA s.N own r n i)(E:tot s.N.length (mA s.N own r n)<4611686018427387904)
 (G:∀h' b,jO h' g a c V s b->eZ h' a.we a.tr s.N (mA s.N own r n) (b 1)->Step (dm Fp) h (dm b) h'->R (alc []).val h'):
 Cl 173 [.ptr (PT a.bk),.bytes 32 r,.i n] h R:=
 Gy p.bk p.tree w (p.sep.off δ) pos q A B E λh' S' d st=>G h' _ (p.adH st d.lt) (by simp_all [bY]) (alf st)
end
end Gate
namespace Gate
open Board (Vd Cf Vt jx aq wI)
open Pool (It)
def iS(N:List Nd)(t:Tb)(v:Vt):Int×Tb:=match nodeAt N (place v.target N)with
 |none=>(6,t)
 |some x=>if v.slot<x.slot then(6,t)else c_ t v
theorem XJ{L:List Nd}{own:Nat->Int}{r:Bs 32}:mA L own r 0=own:=by
 unfold mA
 grind [bump]
theorem XK{st:List Int}{t:Tb}{L:List Nd}(o:wR st)(q:(L.map Nd.root).Nodup){w:Nat}(A:w<st.length)(r:Bs 32):
 (∀i,i<L.length->0<=mA L (bZ st t L) r (-(aK t st w r)) i)/\tot L.length (mA L (bZ st t L) r (-(aK t st w r)))<4611686018427387904:=by
 have f:=lJ (t:=t) o w r
 have e:∀i,i<L.length->0<=mA L (bZ st t L) r (-(aK t st w r)) i/\mA L (bZ st t L) r (-(aK t st w r)) i<=bZ st t L i:=λi a=>by
  have b:=alg a;have c:=rE (t:=t) (L:=L) o i;rw[IP q b];split
  ·rename_i h;have d:=WR (t:=t) o A b
   grind
  ·omega
 have c:=uC (t:=t) o q;have d:=Ov L.length λi a=>(e i a).2
 grind
section
variable{R:Rq}{h h':af}{g:Nat}{a:Ad}{c:Cf}{V:List Vd}{s:St}{Fp:Nat->Nat->Prop}
theorem T_{T:TypeId}{b:Nat}{x:Vt}(v:Var T h b x.tv){K:Int->Int->Bs 32->Prop}(q:K x.who x.slot x.target):
 ∃(n:Int),∃(m:Int),∃(k:Bs 32),(ah h b 0 (.i n)/\ah h b 1 (.i m)/\av h b 2 32 k)/\K n m k:=⟨_,_,_,v.at,q⟩
theorem Ua(p:aR h g a c V s Fp){v:Vt}
 (W:∀h' al,aR h' g a c V {s with tb:=(iS s.N s.tb v).2} al->Step (dm Fp) h (dm al) h'->R (TV.i (iS s.N s.tb v).1).val h'):
 Cl 105 [.ptr (PT a.bk),v.tv] h R:=by
 apply AA (PT a.bk) v.who v.slot v.target;refine aa λh1 v1 x1 s1=>aln ?_;have v1:=v1;have p1:=p.ext x1;have B:=p.st;have H:=p.tok;have a7:=p.ag0;have sl:(aL V).length=V.length:=zf;intro J HJ
 have ac:∀(d:af),iS s.N s.tb v=(6,s.tb)->Ext h d->R (TV.i 6).val d:=λd e x=>by
  rw[e]at W;exact W d Fp (p.ext x) (.an x)
 obtain⟨E,ad⟩:∃E,E=c8 s.N (place v.target s.N):=⟨_,rfl⟩
 have node:∀(d:af)(q:Nat),Ext h1 d->Var 69 d q E.1.tv->J (some ⟨a.bk,0⟩,some ⟨a.tr,0⟩,some ⟨a.bk,0⟩,some ⟨a.tr,0⟩,v.target,place v.target s.N,E.2,some ⟨q,0⟩,E.2) d:=by
  intro z q y vq;have I:=x1.trans y;refine HJ _ z ?_;intro J1 am;refine alb (λY=>ac z ?_ I) λY=>?_
  ·grind [c8,iS]
  have Y:=by simpa using Y
  have ao:nodeAt s.N (place v.target s.N)=some E.1:=by
   grind [c8]
  have v2:=alm v1 y;refine⟨_,vq.at.2.1,v.slot,v2.ah rfl,ID (λa8=>ac z ?_ I) λa9=>?_⟩
  ·unfold iS;rw[ao];simp only[a8,if_true]
  have hT:iS s.N s.tb v=c_ s.tb v:=by
   unfold iS;rw[ao];simp only[a9,if_false]
  rw[hT]at W;clear ac;refine am 0 z ?_;clear am J1;intro J2 a';have p2:=p.ext I;obtain⟨j,ae⟩:∃j,j=kI s.tb v.who:=⟨_,rfl⟩
  have old:∀(d:af)(q:Nat),Ext z d->z.size<=q->Var 124 d q j.1.tv->J2 (some ⟨a.bk,0⟩,some ⟨a.ta,0⟩,v.who,j.2,some ⟨q,0⟩,j.2) d:=by
   intro D q l hq vo;have ap:=I.trans l;have K:=p.ext ap;have v4:Var 124 D h.size v.tv:=alm (t:=v.tv) v2 l;have ba:h.size<=q:=by have:=I.size;omega
   refine a' _ D ?_;dsimp only;refine⟨v.who,v4.ah rfl,_,vo.at.2.2,Ej K.bk K.gH K.vals λu M=>⟨_,rfl,_,(K.bk.ext M).ah rfl,?_⟩⟩;have Z:=K.ext M;have bb:=ap.trans M;have f:Var 124 u h.size v.tv:=alm (t:=v.tv) v4 M;have ar:Var 124 u q j.1.tv:=alm (t:=j.1.tv) vo M;have b0:=f.lt;have b1:=ar.lt;obtain⟨tr,La,Ou,ps,gH,hS⟩:=Z.gH;refine T_ (x:=v) f (Tz gH λN aw bc O=>⟨_,rfl,?_⟩);rw[<-hS]at O;obtain⟨aE,a0⟩:∃S,S=uY a.ta tr La Ou aw:=⟨_,rfl⟩;rw[<-a0]at O;have X6:=Z.x.FD (t':=(c_ s.tb v).2) ⟨tr,La,Ou,aw,bc,a0⟩ O;have w6:=Z.x.aay δ Z.FP O;have t6:Step (dm Fp) u (dm (nT Fp 2 aE)) N:=alf O;generalize nT Fp 2 aE=F6 at X6 w6 t6;have a1:∀{d:af}{F':Nat->Nat->Prop}{b:Nat}{t:TV},Step (dm Fp) u (dm F') d->h.size<=b->Var 124 u b t->Var 124 d b t:=λst Y vb=>vb.only st.only λ⟨k,hk⟩=>by have:=p.sep.lt k _ hk;omega
   have done:∀(d:af)(F':Nat->Nat->Prop),jO d g a c V {s with tb:=(c_ s.tb v).2} F'->Step (dm Fp) u (dm F') d->eZ d a.we a.tr s.N (bZ (aL V) (c_ s.tb v).2 s.N) (F' 1)->R (TV.i (c_ s.tb v).1).val d:=
    λd F' X st w=>W d F' (X.b w) (.cut bb st)
   obtain⟨code,F⟩:∃k,k=(c_ s.tb v).1:=⟨_,rfl⟩;rw[<-F]at done⊢;intro J3 a2;by_cases P:code=0\/code=2
   ·have bd:(c_ s.tb v).1=0\/(c_ s.tb v).1=2:=by rw[<-F];exact P
    obtain⟨a3,he,bi,bj⟩:=TA (st:=aL V) a7 bd;have hw:v.who.toNat<(aL V).length:=by rw[sl];omega
    have bk:qH s.tb (aL V) v.who j.1.target=aK s.tb (aL V) v.who.toNat j.1.target:=by unfold qH;rw[if_pos a3.1]
    rw[bk];have bl:=lJ (t:=s.tb) B v.who.toNat j.1.target;have bm:=MZ (t:=s.tb) B v.who.toNat j.1.target;obtain⟨l1,l2⟩:=XK (t:=s.tb) B H.nodup hw j.1.target;obtain⟨ab,a4⟩:∃n,n=aK s.tb (aL V) v.who.toNat j.1.target:=⟨_,rfl⟩
    have s1:∀r,aK s.tb (aL V) v.who.toNat r=if j.1.target=r then ab else 0:=λr=>by
     have:=WQ (st:=aL V) (t:=s.tb) v.who.toNat r;rw[show((v.who.toNat:Nat):Int)=v.who by omega,<-ae]at this;rw[a4];exact this
    rw[<-a4]at bl bm l1 l2⊢;rw[show alo .i64 (0-ab)=-ab by rw[wrap_i64 ω ω];omega]
    have first:=@Nq (λw d=>w=(alc []).val/\J3 PUnit.unit d) N g a c V {s with tb:=(c_ s.tb v).2} F6 (bZ (aL V) s.tb s.N) j.1.target (-ab) X6 w6 (λi _=>rE B i) (uC B H.nodup) ⟨ω,ω⟩ l1 l2 λh8 F8 Q w8 bo=>⟨rfl,a2 _ h8 (by
     have t8:=t6.trans bo;by_cases c0:code=0
     ·refine ID (λ_=>?_) λT=>absurd c0 T;have v8:Var 124 h8 h.size v.tv:=a1 t8 (ala _) f;refine⟨_,v8.at.2.2,v.who,v8.ah rfl,_,v8.at.2.2,Ej Q.bk Q.gH Q.vals λh9 x9=>⟨_,rfl,x9,?_⟩⟩;have e9:qH (c_ s.tb v).2 (aL V) v.who v.target=aK (c_ s.tb v).2 (aL V) v.who.toNat v.target:=by unfold qH;rw[if_pos a3.1]
      rw[e9];have m:=MY (L:=s.N) H.nodup hw he s1 (bi (by rw[<-F];exact c0));have n0:=lJ (t:=(c_ s.tb v).2) B v.who.toNat v.target;have n1:=MZ (t:=(c_ s.tb v).2) B v.who.toNat v.target;refine Nq (Q.ext x9) (w8.ext x9) l1 l2 ⟨ω,n1⟩ (λi _=>by rw[<-m];exact rE B i) (by rw[<-m];exact uC B H.nodup) λbp br bt a5 bx=>⟨rfl,?_⟩;rw[<-m]at a5;exact done bp br bt ((t8.trans (Step.an x9)).trans bx) a5
     ·refine ID (λd=>absurd d c0) λ_=>?_;have c2:code=2:=P.resolve_left c0;have m:=MY (L:=s.N) (r1:=j.1.target) (b:=0) H.nodup hw he s1 (λr=>by rw[bj (by rw[<-F];exact c2) r];split<;>rfl);rw[XJ]at m;rw[<-m]at w8;exact done h8 F8 Q t8 w8)⟩
    have a6:Var 124 N q j.1.tv:=a1 t6 ba ar;rcases P with c0|c2
    ·exact ID (λ_=>⟨_,a6.at.2.2,first⟩) λT=>absurd c0 T
    ·exact ID (λd=>ω) λ_=>If.dec.2 ⟨λ_=>⟨_,a6.at.2.2,first⟩,λT=>absurd c2 T⟩
   ·have n0:¬code=0:=λh=>P (.inl h);have n2:¬code=2:=λh=>P (.inr h);have e:=Re (L:=s.N) (WS (st:=aL V) (t:=s.tb) (v:=v) (by rw[<-F];exact n0) (by rw[<-F];exact n2));rw[<-e]at w6;exact ID (λd=>absurd d n0) λ_=>If.dec.2 ⟨λd=>absurd d n2,λ_=>a2 _ N (ID (λd=>absurd d n0) λ_=>done N F6 X6 t6 w6)⟩
  obtain⟨tr,La,Ou,ps,gH,hS⟩:=p2.gH;refine⟨_,p2.bk.ah rfl,v.who,v2.ah rfl,CD gH λG o=>⟨_,_,_,_,rfl,aa λD v4 l s4=>⟨l,aq (t:=(kI s.tb v.who).1.tv) v4 rfl rfl λu f f5 s5=>?_⟩⟩,aa λG v3 o s3=>⟨o,CD (gH.ext o) λD l=>⟨_,_,_,_,rfl,aq (t:=(kI s.tb v.who).1.tv) (v3.ext l) rfl rfl λu f f5 s5=>?_⟩⟩⟩
  ·rw[<-ae]at f⊢;exact old u G.size (o.trans (ak3 l f5 λi C=>ak7 (ak8 C))) o.size f
  ·rw[<-ae]at f⊢;exact old u z.size (ak3 (o.trans l) f5 λi C=>ak7 (ak8 C)) (ala _) f
 obtain⟨r,A,U,hS⟩:=p1.tree;refine⟨_,p1.bk.ah rfl,_,p1.bk.ah rfl,v.target,v1.at.2.2,dM U λz y=>⟨_,rfl,y,?_⟩,aa λz v2 y s2=>⟨y,dM (U.ext y) λG o=>⟨_,rfl,o,dg ((U.ext y).ext o) λD l=>⟨_,_,_,_,rfl,?_⟩⟩⟩⟩
 ·refine⟨dg (U.ext y) λG o=>⟨_,_,_,_,rfl,aa λD v4 l s4=>⟨l,aq (t:=(c8 s.N (place v.target s.N)).1.tv) v4 rfl rfl λu f f5 s5=>?_⟩⟩,aa λG v3 o s3=>⟨o,dg ((U.ext y).ext o) λD l=>⟨_,_,_,_,rfl,aq (t:=(c8 s.N (place v.target s.N)).1.tv) (v3.ext l) rfl rfl λu f f5 s5=>?_⟩⟩⟩
  ·rw[<-ad]at f⊢;exact node u G.size ((y.trans o).trans (ak3 l f5 λi C=>ak7 (ak8 C))) f
  ·rw[<-ad]at f⊢;exact node u z.size (y.trans (ak3 (o.trans l) f5 λi C=>ak7 (ak8 C))) f
 ·refine aq (t:=(c8 s.N (place v.target s.N)).1.tv) ((v2.ext o).ext l) rfl rfl λu f f5 s5=>?_;rw[<-ad]at f⊢;exact node u h1.size (ak3 ((y.trans o).trans l) f5 λi C=>ak7 (ak8 C)) f
end
end Gate
namespace Gate
open Board (Vd Cf Vt jx Et aq wI)
open Pool (rts eM Dw)
def KP(e:(Int×Int)×Bs 32):TV:=.agg [.i e.1.1,.i e.1.2,.bytes 32 e.2]
abbrev XL(l:List ((Int×Int)×Bs 32)):List TV:=l.map KP
theorem KQ(e:(Int×Int)×Bs 32):(KP e).size=34:=by rfl
theorem XM(e:(Int×Int)×Bs 32):(KP e).plain=true:=by rfl
theorem yO:(ctx.ti 255).bytes=48:=κ
theorem afR:(ctx.ti 255).size=34:=κ
theorem aex:(ctx.ti 255).z.size=34:=κ
def AB(t:Tb):List Vt:=t.bE.map λo=>o.getD ji
def FE(t:Tb):List Bool:=t.bE.map Option.isSome
def oP(b:Nat)(Fi La Ha Ou:Sl):Nat->Nat->Prop
 |0=>(·=b)
 |1=>In Fi
 |2=>In La
 |3=>In Ha
 |4=>In Ou
 |_=>λ_=>False
structure Lx(h:af)(b:Nat)(Fi La Ha Ou:Sl)(t:Tb)(n:Nat):Prop where
 var:Var 192 h b (.agg [.i n,.i t.slots,.slice Fi,.slice La,.slice Ha,.slice Ou])
 f:Vc.Own 255 34 h Fi (XL t.first)
 la:Vc.Own 124 34 h La (Et (AB t))
 ha:Vc.Own 4 1 h Ha (WM (FE t))
 ou:Vc.Own 4 1 h Ou (WM t.out)
 ok:wQ t n
 iz:t.first.length<50000
 sep:Sep h (oP b Fi La Ha Ou)
section
variable{R:Rq}{h h':af}{b n:Nat}{Fi La Ha Ou:Sl}{t:Tb}
theorem afS{x:(Int×Int)×Bs 32}{s:Sl}{l:List ((Int×Int)×Bs 32)}{K:Sl->af->Prop}(o:Vc.Own 255 34 h s (XL l))(q:l.length<100000)(E:∀a h',Vc.Own 255 34 h' a (XL (l++[x]))->ag (In s) h h'->(∀i,In a i->In s i\/h.size<=i)->K a h'):
 ∃new,cn (h.push (row (ak2 [alq [.i x.1.1,.i x.1.2,.bytes 32 x.2]]) 255)) (alh (some (Vc.Loc.mk h.size 0)) 1 1) 34 new/\(∀v∈new,bU v=true)/\au ctx 255 s 1 new (h.push (row (ak2 [alq [.i x.1.1,.i x.1.2,.bytes 32 x.2]]) 255)) K:=by
 have c:=o.len;rw[ak5]at c;refine cD (x:=KP x) afR aex (by rw[yO];decide) (by rw[yO];omega) o (KQ x) (XM x) λa h' g d e=>E a h' (by simp_all) d λi⟨l,q,j⟩=>?_;rcases e l q with⟨f,b,k⟩|b
 ·exact .inl ⟨f,b,ω⟩
 omega
def jP(b:Nat)(Fi La Ha Ou:Sl)(i:Nat):Prop:=dm (oP b Fi La Ha Ou) i
theorem Lx.only{S:Nat->Prop}(p:Lx h b Fi La Ha Ou t n)(f:ag S h h')(q:∀i,jP b Fi La Ha Ou i->¬S i):Lx h' b Fi La Ha Ou t n:=
 ⟨p.var.only f (q b ⟨0,rfl⟩),p.f.keep f λi a=>q i ⟨1,a⟩,p.la.keep f λi a=>q i ⟨2,a⟩,p.ha.keep f λi a=>q i ⟨3,a⟩,p.ou.keep f λi a=>q i ⟨4,a⟩,p.ok,p.iz,⟨p.sep.qx,λj i a=>by have:=p.sep.lt j i a;have:=f.size;omega⟩⟩
theorem Lx.ext(p:Lx h b Fi La Ha Ou t n)(x:Ext h h'):Lx h' b Fi La Ha Ou t n:=p.only (S:=λ_=>False) (.an x) λ_ _ a=>a
theorem Lx.lt(p:Lx h b Fi La Ha Ou t n){i:Nat}(q:jP b Fi La Ha Ou i):i<h.size:=by obtain⟨k,a⟩:=q;exact p.sep.lt k i a
theorem Lx.lf(p:Lx h b Fi La Ha Ou t n):Fi.len=t.first.length:=by have:=p.f.len;simp_all
theorem Lx.lla(p:Lx h b Fi La Ha Ou t n):La.len=n:=by have:=p.la.len;have:=p.ok.Ac;simp_all [AB,ak5]
theorem Lx.lha(p:Lx h b Fi La Ha Ou t n):Ha.len=n:=by have:=p.ha.len;have:=p.ok.Ac;simp_all [FE,ak5]
theorem aaz(p:Lx h b Fi La Ha Ou t n){who:Int}(q:R (alB (Ra n who)).val h):Cl 243 [.ptr (PT b),.i who] h R:=by
 apply th;refine ID (λa=>⟨_,p.var.ah rfl,?_⟩) λa=>?_
 ·rw[show Ra n who=decide (who<n)from decide_eq_decide.2 ⟨λh=>h.2,λh=>⟨a,h⟩⟩]at q;exact q
 simp_all [decide_eq_false,Ra]
theorem VN{s:Sl}{l:List Bool}(o:aj 1 h s (WM l)){i:Int}(E:0<=i){v:Bool}(q:l[i.toNat]? =some v){K:Bool->Prop}(G:K v):
 0<=i/\i<(s.len:Int)/\Nn s.a λp=>∃c:Bool,ah h p.b (p.o+i.toNat*1) (Value.bool c)/\K c:=by
 have b:=o.len;have:=(alP.1 q).1;rw[ak5]at b;refine o.read E ω λp t _ a d=>?_;rw[ale,q]at a;cases a;exact⟨v,d,G⟩
theorem aaA{s:Sl}{l:List ((Int×Int)×Bs 32)}(o:aj 34 h s (XL l)){i:Int}(E:0<=i){e:(Int×Int)×Bs 32}(q:l[i.toNat]? =some e){K:Int->Int->Bs 32->Prop}(G:K e.1.1 e.1.2 e.2):
 0<=i/\i<(s.len:Int)/\Nn s.a λl=>∃(n:Int),∃(m:Int),∃(k:Bs 32),(ah h l.b (l.o+i.toNat*34) (.i n)/\ah h l.b (l.o+i.toNat*34+1) (.i m)/\av h l.b (l.o+i.toNat*34+1+1) 32 k)/\K n m k:=by
 have b:=o.len;have:=(alP.1 q).1;rw[ak5]at b;refine o.read E ω λp t _ a c=>?_;rw[ale,q]at a;cases a;exact⟨_,_,_,c,G⟩
theorem afT{T:TypeId}{b:Nat}{e:(Int×Int)×Bs 32}(v:Var T h b (KP e)){K:Int->Int->Bs 32->Prop}(q:K e.1.1 e.1.2 e.2):
 ∃(n:Int),∃(m:Int),∃(k:Bs 32),(ah h b 0 (.i n)/\ah h b 1 (.i m)/\av h b 2 32 k)/\K n m k:=⟨_,_,_,v.at,q⟩
theorem aaB(b:Nat)(Fi q La Ha Ou:Sl):nT (oP b Fi La Ha Ou) 1 (In q)=oP b q La Ha Ou:=by
 funext k
 match k with
 |0=>rfl
 |1=>rfl
 |2=>rfl
 |3=>rfl
 |4=>rfl
 |k+5=>rfl
theorem Ub(p:Lx h b Fi La Ha Ou t n){v:Vt}(bt:t.first.length<49999)
 (G:∀h' g,Lx h' b g La Ha Ou (c_ t v).2 n->Step (jP b Fi La Ha Ou) h (jP b g La Ha Ou) h'->R (TV.i (c_ t v).1).val h'):
 Cl 177 [.ptr (PT b),v.tv] h R:=by
 apply qP (PT b) v.who v.slot v.target;delta kU eG aJ aD iZ dx cu jX gI dX aN bK aT bA;have hs:=p.ok.slots;have D:=p.ok.take v;have X:=p.ok.Ac;have a4:=p.ok.uN;have lF:=p.lf;have blt:=p.var.lt;have z:=p.sep.qx;refine aa λy v1 F s1=>?_;have v1:=v1;have A:=p.ext F;intro Y H
 have Z:=λhn I x=>by
  have e:c_ t v=(5,t):=by unfold c_;rw[if_pos (by rw[X];exact hn)]
  have:=G I Fi;rw[e]at this;exact this (p.ext x) (.an x)
 refine⟨v.who,v1.ah rfl,aaz A ⟨_,rfl,alb (λhn=>Z (λI=>?_) y F) λo=>⟨v.slot,v1.ah rfl,ID (λI=>Z (λm=>ω) y F) λg1=>⟨v.slot,v1.ah rfl,ID (λI=>Z (λm=>ω) y F) λg2=>?_⟩⟩⟩⟩
 ·grind [Ra,decide_eq_true]
 have o:=of_decide_eq_true (show Ra n v.who=true by grind);have can:0<=v.who/\v.who<t.bE.length/\0<=v.slot/\v.slot<=1073741824:=ω;refine H _ y ?_
 have d:c_ t v=if uA t v.who=true then((4:Int),t)else match lG (v.who,aP t v.slot) t.first with
  |some r=>if r=v.target then(1,t)else(2,{t with out:=t.out.set v.who.toNat true})
  |none=>match eB t v.who with
   |some l=>if aP t v.slot<aP t l.slot then(3,{t with first:=t.first++[((v.who,aP t v.slot),v.target)]})
    else(0,{t with bE:=t.bE.set v.who.toNat (some v),first:=t.first++[((v.who,aP t v.slot),v.target)]})
   |none=>(0,{t with bE:=t.bE.set v.who.toNat (some v),first:=t.first++[((v.who,aP t v.slot),v.target)]}):=by
  unfold c_;rw[if_neg (λm=>m can)]
  all_goals rfl
 have ao:=sL p.ok can.2.2.1 can.2.2.2;have a5:alo .i64 (alG v.slot t.slots)=aP t v.slot:=wrap_i64 (by unfold aP at ao;omega) (by unfold aP at ao;omega);refine⟨Ou,A.var.ah rfl,v.who,v1.ah rfl,VN A.ou.elems o.1 (OG p.ok o.1 o.2) ?_⟩;refine alb (λJ=>?_) λJ=>?_
 ·rw[if_pos J]at d;rw[d]at G;exact G y Fi A (.an F)
 rw[if_neg (by rw[J];decide)]at d;refine⟨v.slot,v1.ah rfl,t.slots,A.var.ah rfl,ω,Fi,A.var.ah rfl,?_⟩;rw[a5]
 refine⟨λσ I=>0<=σ.2/\σ.2<=t.first.length/\Ext y I/\∀(j:Nat)(e:(Int×Int)×Bs 32),(j:Int)<σ.2->t.first[j]? =some e->e.1≠(v.who,aP t v.slot),λσ _=>((t.first.length:Int)-σ.2).toNat,
  ⟨ali 0,by dsimp only;omega,ald _,λj e M=>by dsimp only at M;omega⟩,?_⟩
 rintro⟨z0,i⟩ N ⟨i0,i1,O,ha⟩;dsimp only at i0 i1 ha⊢;have ab:=F.trans O;have s:=A.ext O;have K:Var 124 N h.size v.tv:=alm (t:=v.tv) v1 O;refine ID (λa=>?_) λa=>?_
 ·obtain⟨e,L⟩:∃e,t.first[i.toNat]? =some e:=⟨_,alg ω⟩;refine aaA s.f.elems i0 L ?_;refine aa λP v3 x3 s3=>aq (t:=KP e) v3 (KQ e).symm rfl λf v4 f4 s4=>?_;have Q:Ext N f:=ak3 x3 f4 λi a=>ak7 (ak8 a);have ap:=ab.trans Q;have u:Var 124 f h.size v.tv:=alm (t:=v.tv) K Q;have w:=s.ext Q;have v4:Var 255 f N.size (KP e):=v4;rw[wrap_i64 (n:=i+1) ω ω]
  have next:e.1≠(v.who,aP t v.slot)->(0<=i+1/\i+1<=(t.first.length:Int)/\Ext y f/\∀(j:Nat)(e:(Int×Int)×Bs 32),(j:Int)<i+1->t.first[j]? =some e->e.1≠(v.who,aP t v.slot))/\((t.first.length:Int)-(i+1)).toNat<((t.first.length:Int)-i).toNat:=λa6=>
   ⟨⟨ω,ω,O.trans Q,λj e' M ac=>by
     by_cases a7:j=i.toNat
     ·subst a7;rw[L]at ac;cases ac;exact a6
     ·exact ha j e' ω ac⟩,ω⟩
  intro Y H;refine⟨_,v4.ah rfl,v.who,u.ah rfl,?_⟩;refine ID (λhw=>⟨_,v4.ah rfl,?_⟩) λhw=>H _ f (aln (next λh=>hw (by rw[h])));refine H _ f ?_;refine ID (λB=>?_) λB=>next λh=>B (by rw[h])
  have c:e.1=(v.who,aP t v.slot):=Prod.ext hw B;have hg:lG (v.who,aP t v.slot) t.first=some e.2:=Y3 p.ok.one (by rw[<-c];exact alx L);rw[hg]at d;refine⟨_,v4.at.2.2,_,u.at.2.2,?_⟩;dsimp only;rw[show decide (e.2.l=v.target.l)=decide (e.2=v.target)from Gb _ _];refine ID (λB=>?_) λB=>⟨Ou,w.var.ah rfl,v.who,u.ah rfl,?_⟩
  ·simp only[B,if_true]at d;rw[d]at G;exact G f Fi w (.an ap)
  ·simp only[B,if_false]at d;rw[d]at G D;refine w.ou.aH (sz:=1) (n:=1) (t:=.bool true) o.1 (by simp[a4];omega) rfl rfl λh6 o6 f6 s6=>?_;have of:∀k,k≠4->∀i,oP b Fi La Ha Ou k i->¬In Ou i:=λk c i a m=>c (z k 4 i a m);refine G h6 Fi ⟨w.var.only f6 (of 0 δ _ rfl),w.f.keep f6 (of 1 δ),w.la.keep f6 (of 2 δ),w.ha.keep f6 (of 3 δ),?_,D,p.iz,⟨p.sep.qx,λj i a=>by have:=w.sep.lt j i a;omega⟩⟩ ⟨(als ap).trans (f6.mono λi a=>⟨4,a⟩),λi a=>.inl a⟩;simpa[WM,List.map_set]using o6
 ·have hg:lG (v.who,aP t v.slot) t.first=none:=CA.2 λhm=>by
   obtain⟨e,L,c⟩:=alk.1 hm;obtain⟨j,M,rfl⟩:=List.getElem_of_mem L;exact ha j _ ω (alg M) c
  rw[hg]at d;simp only at d;refine⟨Fi,s.var.ah rfl,v.who,K.ah rfl,v.target,K.at.2.2,ak9 _ _,?_⟩;have bx:=ab.size;have b0:=K.lt;refine afS (x:=((v.who,aP t v.slot),v.target)) s.f ω λg P f3 C n3=>?_;have S:∀k,k≠1->∀i,oP b Fi La Ha Ou k i->¬In Fi i:=λk c i a m=>c (z k 1 i a m);have a8:Step (oP b Fi La Ha Ou 1) N (In g) P:=⟨C,n3⟩;have T:=s.sep.step a8 (f3.g_);rw[aaB]at T;have z3:=T.qx;have v3:Var 192 P b (.agg [.i n,.i t.slots,.slice Fi,.slice La,.slice Ha,.slice Ou]):=s.var.only C (S 0 δ _ rfl);have a9:=s.la.keep C (S 2 δ);have a':=s.ha.keep C (S 3 δ);have ba:=s.ou.keep C (S 4 δ);have ar:∀i,jP b Fi La Ha Ou i->i<h.size:=λi a=>p.lt a;have w3:Var 124 P h.size v.tv:=Var.only (t:=v.tv) K C λa=>by have:=ar _ ⟨1,a⟩;omega
  refine aI v3 (i:=2) (t:=.slice g) rfl rfl rfl rfl λf v4 f4 s4=>?_;have v4:Var 192 f b (.agg [.i n,.i t.slots,.slice g,.slice La,.slice Ha,.slice Ou]):=v4;have U:∀k,k≠0->∀i,oP b g La Ha Ou k i->¬i=b:=λk c i a m=>c (z3 k 0 i a m);have aw:=f3.keep f4 (U 1 δ);have ad:=a9.keep f4 (U 2 δ);have ae:=a'.keep f4 (U 3 δ);have aE:=ba.keep f4 (U 4 δ);have u:Var 124 f h.size v.tv:=Var.only (t:=v.tv) w3 f4 (show¬h.size=b by omega);have a0:ag (jP b Fi La Ha Ou) h f:=((als ab).trans (C.mono λi a=>⟨1,a⟩)).trans (f4.mono λi a=>⟨0,a⟩)
  have a1:∀i,jP b g La Ha Ou i->jP b Fi La Ha Ou i\/h.size<=i:=λi⟨k,c⟩=>by
   match k,c with
   |0,c=>exact .inl ⟨0,c⟩
   |1,c=>
    rcases n3 i c with h9|h9
    ·exact .inl ⟨1,h9⟩
    ·exact .inr ω
   |2,c=>exact .inl ⟨2,c⟩
   |3,c=>exact .inl ⟨3,c⟩
   |4,c=>exact .inl ⟨4,c⟩
   |k+5,c=>exact c.elim
  have al:Sep f (oP b g La Ha Ou):=⟨T.qx,λj i a=>by have:=T.lt j i a;omega⟩;obtain⟨old,am,bb⟩:=Gx p.ok o.1 o.2;have a2:(t.first++[((v.who,aP t v.slot),v.target)]).length<50000:=by simp;omega
  intro Y H
  have last:c_ t v=(0,{t with bE:=t.bE.set v.who.toNat (some v),first:=t.first++[((v.who,aP t v.slot),v.target)]})->∀q,Y q f:=λE q=>by
   rw[E]at G D;refine H q f ⟨La,v4.ah rfl,v.who,u.ah rfl,T_ (x:=v) u ?_⟩;refine ad.aH (sz:=34) (n:=34) (t:=v.tv) o.1 (by simp[AB,X];omega) (acf v) rfl λh5 bc f5 s5=>?_;have V:∀k,k≠2->∀i,oP b g La Ha Ou k i->¬In La i:=λk c i a m=>c (z3 k 2 i a m);have v5:Var 192 h5 b (.agg [.i n,.i t.slots,.slice g,.slice La,.slice Ha,.slice Ou]):=v4.only f5 (V 0 δ _ rfl);have bd:=aw.keep f5 (V 1 δ);have bi:=ae.keep f5 (V 3 δ);have bj:=aE.keep f5 (V 4 δ);have w5:Var 124 h5 h.size v.tv:=Var.only (t:=v.tv) u f5 λa=>by have:=ar _ ⟨2,a⟩;omega
   refine⟨Ha,v5.ah rfl,v.who,w5.ah rfl,?_⟩;refine bi.aH (sz:=1) (n:=1) (t:=.bool true) o.1 (by simp[FE,X];omega) rfl rfl λh6 bk f6 s6=>?_;have W:∀k,k≠3->∀i,oP b g La Ha Ou k i->¬In Ha i:=λk c i a m=>c (z3 k 3 i a m);refine G h6 g ⟨v5.only f6 (W 0 δ _ rfl),bd.keep f6 (W 1 δ),?_,?_,bj.keep f6 (W 4 δ),D,a2,⟨al.qx,λj i a=>by have:=al.lt j i a;omega⟩⟩ ⟨(a0.trans (f5.mono λi a=>⟨2,a⟩)).trans (f6.mono λi a=>⟨3,a⟩),a1⟩
   ·have:=bc.keep f6 (W 2 δ);simpa[AB,Et,List.map_set]using this
   ·simpa[FE,WM,List.map_set]using bk
  have bl:(FE t)[v.who.toNat]? =some old.isSome:=by unfold FE;rw[ale,am];rfl
  refine⟨Ha,v4.ah rfl,v.who,u.ah rfl,VN ae.elems o.1 bl ?_⟩;rw[bb]at d;cases old with
  |none=>exact aln (last d _)
  |some old=>
   have J:=p.ok.Tw _ old am;have a3:=sL p.ok J.2.1 J.2.2;have bm:(Et (AB t))[v.who.toNat]? =some old.tv:=by unfold Et AB;rw[ale,ale,am];rfl
   have b1:=p.lla;refine aly ⟨La,v4.ah rfl,v.who,u.ah rfl,ad.elems.read o.1 ω λl tv _ ht bo=>?_⟩;rw[bm]at ht;cases ht;refine⟨old.slot,bo.2.1,t.slots,v4.ah rfl,ω,?_⟩;rw[show alo .i64 (alG old.slot t.slots)=aP t old.slot from wrap_i64 (by unfold aP at a3;omega) (by unfold aP at a3;omega)];refine ID (λbp=>?_) λbr=>last ?_ _
   ·simp only[bp,if_true]at d;rw[d]at G D;exact G f g ⟨v4,aw,ad,ae,aE,D,a2,al⟩ ⟨a0,a1⟩
   ·simp only[br,if_false]at d;exact d
theorem Pa{α:Type}{l:List α}{i:Nat}{x:α}(pred:α->Bool)(q:l[i]? =some x):(l.take (i+1)).filter pred=(l.take i).filter pred++if pred x=true then[x]else[]:=by
 rw[take_succ q]
 grind
theorem Pb(p:Lx h b Fi La Ha Ou t n){slot:Int}(M:slot<=1073741824)
 (E:∀h' F,Lx h' b F La Ha Ou (dW t slot) n->Step (jP b Fi La Ha Ou) h (jP b F La Ha Ou) h'->R (alc []).val h'):
 Cl 113 [.ptr (PT b),.i slot] h R:=by
 apply oM;delta aJ jr fP dD eW bK;have X:=p.ok.slots;have Y:=p.iz;have Z:=p.lf;obtain⟨pred,L⟩:∃pred:(Int×Int)×Bs 32->Bool,pred=λe=>decide (slot<0)||decide (aP t slot<=e.1.2):=⟨_,rfl⟩
 have N:(dW t slot).first=t.first.filter pred:=by
  unfold dW;rw[L];split
  ·rename_i w;simp only[decide_eq_true w];exact(List.filter_eq_self.2 λ_ _=>rfl).symm
  simp_all [Bool.false_or,decide_eq_false]
 have O:dW t slot={t with first:=t.first.filter pred}:=by
  rw[<-N];unfold dW;split<;>rfl
 have G:=p.ok.forget slot;rw[O]at E G;refine⟨Fi,p.var.ah rfl,?_⟩;refine⟨λσ H=>0<=σ.2/\σ.2<=t.first.length/\Ext h H/\(∀i,In σ.1 i->h.size<=i)/\Vc.Own 255 34 H σ.1 (XL ((t.first.take σ.2.toNat).filter pred)),λσ _=>(t.first.length-σ.2).toNat,⟨ali 0,ω,ald _,(λj x=>(q8 x).elim),Vc.Own.nil ..⟩,?_⟩;rintro⟨s,i⟩ l ⟨I,P,o,lo,d⟩;dsimp only at I P lo d⊢;have f:=p.ext o;refine ID (λc=>?_) λc=>?_
 ·obtain⟨e,J⟩:∃e,t.first[i.toNat]? =some e:=⟨_,alg ω⟩;refine aaA f.f.elems I J ?_;refine aa λK y Q S=>aq y (KQ e).symm rfl λg v4 f4 s4=>?_;have q:=ak3 Q f4 λi c=>ak7 (ak8 c);have v4:=v4;have A:=o.trans q;have st:=Pa pred J
  have B:((t.first.take i.toNat).filter pred).length<100000:=by
   grind
  rw[wrap_i64 ω ω]
  have add:pred e=true->∃(n:Int),∃(m:Int),∃(k:Bs 32),(ah g l.size 0 (.i n)/\ah g l.size 1 (.i m)/\av g l.size 2 32 k)/\
   ∃new,cn (g.push (row (ak2 [alq [.i n,.i m,.bytes 32 k]]) 255)) (alh (some (Vc.Loc.mk g.size 0)) 1 1) 34 new/\(∀v∈new,bU v=true)/\au ctx 255 s 1 new (g.push (row (ak2 [alq [.i n,.i m,.bytes 32 k]]) 255)) λC h'=>
    (0<=i+1/\i+1<=t.first.length/\Ext h h'/\(∀i,In C i->h.size<=i)/\Vc.Own 255 34 h' C (XL ((t.first.take (i+1).toNat).filter pred)))/\(t.first.length-(i+1)).toNat<(t.first.length-i).toNat:=λD=>by
   rw[if_pos D]at st;refine afT v4 (afS (d.ext q) B λC h5 o5 f5 T=>⟨⟨ω,ω,ak3 A f5 lo,λj x=>?_,?_⟩,ω⟩)
   ·rcases T j x with U|U
    ·simp_all
    ·have:=A.size;omega
   grind
  refine ID (λw=>add (by simp_all)) λw=>⟨_,v4.ah rfl,t.slots,(f.ext q).var.ah rfl,ω,?_⟩;have ab:=sL p.ok ω M;rw[show alo .i64 (alG slot t.slots)=aP t slot from wrap_i64 (by grind [aP]) (by grind [aP])];refine ID (λV=>add (by simp_all)) λV=>?_;have D:¬pred e=true:=by simp_all
  rw[if_neg D,List.append_nil]at st;refine⟨⟨ω,ω,A,lo,?_⟩,ω⟩;rw[show(i+1).toNat=i.toNat+1 by omega,st];exact d.ext q
 ·rw[show i.toNat=t.first.length by omega,alE]at d;have st:Step (oP b Fi La Ha Ou 1) h (In s) l:=⟨als o,λi c=>.inr (lo i c)⟩;have r:=p.sep.step st d.g_;rw[aaB]at r;have z:=r.qx;have u:∀k,k≠0->∀i,oP b s La Ha Ou k i->¬i=b:=λk a i c W=>a (z k 0 i c W);refine aI f.var (i:=2) (t:=.slice s) rfl rfl rfl rfl λK y f3 S=>?_
  have B:(t.first.filter pred).length<50000:=by
   have:=alH pred t.first;omega
  refine E K s ⟨y,d.keep f3 (u 1 δ),f.la.keep f3 (u 2 δ),f.ha.keep f3 (u 3 δ),f.ou.keep f3 (u 4 δ),G,B,⟨r.qx,λj i c=>by have:=r.lt j i c;omega⟩⟩ ⟨(als o).trans (f3.mono λi c=>⟨0,c⟩),λi⟨k,a⟩=>?_⟩
  match k,a with
  |0,a=>exact .inl ⟨0,a⟩
  |1,a=>exact .inr (lo i a)
  |2,a=>exact .inl ⟨2,a⟩
  |3,a=>exact .inl ⟨3,a⟩
  |4,a=>exact .inl ⟨4,a⟩
  |k+5,a=>exact a.elim
def Nr(c:Cf)(tr q:Nat):TV:=.agg [c.tv,.ptr (PT tr),.ptr (PT q)]
section
variable{m bk:Nat}{A B D:Sl}{N:List Nd}{most:Int}{c:Cf}{V:List Vd}
theorem RZ(E:Var 134 h bk (Nr c m b))(p:RT h m A B D N most)(q:Lx h b Fi La Ha Ou t n)(H:t.first.length<49999){v:Vt}
 (G:∀h' d,Lx h' b d La Ha Ou (iS N t v).2 n->Step (jP b Fi La Ha Ou) h (jP b d La Ha Ou) h'->R (TV.i (iS N t v).1).val h'):
 Cl 112 [.ptr (PT bk),v.tv] h R:=by
 apply rJ (PT bk) v.who v.slot v.target;delta aD mw dJ jW bz dX aN bJ aT bA;refine aa λz v1 g M=>?_;have v1:Var 124 z h.size v.tv:=v1
 have i:iS N t v=(6,t)->∀f,Ext h f->R (TV.i 6).val f:=λe f x=>by
  have:=G f Fi;rw[e]at this;exact this (q.ext x) (.an x)
 refine⟨_,(E.ext g).ah rfl,_,v1.at.2.2,fA (p.ext g) λj l=>⟨_,rfl,?_⟩⟩;have a:=g.trans l;have o:=alm v1 l;have s:=p.ext a;refine ID (λC=>i (by simp_all [if_neg,nodeAt,iS]) j a) λC=>?_;obtain⟨k,u,O,P,w,Q,S⟩:=fG (r:=v.target) (L:=N) ω;have y:N[(place v.target N).toNat]? =some u:=by simp_all
 have F:nodeAt N (place v.target N)=some u:=by unfold nodeAt;rw[if_pos ω];exact y
 refine⟨_,(E.ext a).ah rfl,B,s.var.ah rfl,qL s.b.elems ω (CL y) ⟨v.slot,o.ah rfl,ID (λI=>i ?_ j a) λT=>?_⟩⟩
 ·unfold iS;rw[F];simp only[I,if_true]
 ·have J:iS N t v=c_ t v:=by
   unfold iS
   grind
  rw[J]at G;refine⟨_,(E.ext a).ah rfl,T_ (x:=v) o (Ub (q.ext a) H λK d w st=>⟨_,rfl,G K d w (.cut a st)⟩)⟩
end
end
end Gate
namespace Gate
open Pool (It)
def aW(no:Int)(r:Bs 32)(p:St×List (Bs 32))(x:It):St×List (Bs 32):=
 if nV p.1.N no x.root r x.slot=0 then({p.1 with N:=gw p.1.N no x.root r x.slot},p.2++[x.root])
 else if nV p.1.N no x.root r x.slot=6 then({p.1 with left:=p.1.left+1},p.2)else p
def fZ(no:Int):Nat->List (Bs 32)->St->St
 |0,_,s=>s
 |_+1,[],s=>s
 |f+1,r::q,s=>
  fZ no f ((s.kids.filter λx=>decide (x.fr=r)).foldl (aW no r) ({s with kids:=s.kids.filter λx=>!decide (x.fr=r)},q)).2
   ((s.kids.filter λx=>decide (x.fr=r)).foldl (aW no r) ({s with kids:=s.kids.filter λx=>!decide (x.fr=r)},q)).1
def lQ(no:Int)(root parent:Bs 32)(slot:Int)(s:St):St:=fZ no (1+s.kids.length) [root] {s with N:=gw s.N no root parent slot}
structure vv(n:Nat)(s s':St):Prop where
 tb:s'.tb=s.tb
 wait:s'.wait=s.wait
 sc:s'.sc=s.sc
 gone:s'.gone=s.gone
 now:s'.now=s.now
 left:s.left<=s'.left/\s'.left<=s.left+n
section
variable{no:Int}{r:Bs 32}{s:St}{q:List (Bs 32)}
theorem vv.trans{a b:Nat}{A B E:St}(h:vv a A B)(k:vv b B E):vv (a+b) A E:=
 ⟨k.tb.trans h.tb,k.wait.trans h.wait,k.sc.trans h.sc,k.gone.trans h.gone,k.now.trans h.now,by have:=h.left;have:=k.left;omega⟩
theorem vv.refl(s:St):vv 0 s s:=⟨rfl,rfl,rfl,rfl,rfl,ω⟩
theorem vv.mono{a b:Nat}{s A:St}(h:vv a s A)(B:a<=b):vv b s A:=⟨h.tb,h.wait,h.sc,h.gone,h.now,by have:=h.left;omega⟩
theorem Pc(x:It)(p:St×List (Bs 32)):vv 1 p.1 (aW no r p x).1/\(aW no r p x).1.kids=p.1.kids/\(aW no r p x).2.length<=p.2.length+1:=by
 unfold aW;split
 ·exact⟨⟨rfl,rfl,rfl,rfl,rfl,by dsimp only;omega⟩,rfl,by simp⟩
 ·split
  ·exact⟨⟨rfl,rfl,rfl,rfl,rfl,by dsimp only;omega⟩,rfl,by dsimp only;omega⟩
  ·exact⟨(vv.refl _).mono ω,rfl,ω⟩
theorem mY:∀(L:List It)(p:St×List (Bs 32)),vv L.length p.1 (L.foldl (aW no r) p).1/\(L.foldl (aW no r) p).1.kids=p.1.kids/\(L.foldl (aW no r) p).2.length<=p.2.length+L.length
 |[],p=>⟨vv.refl _,rfl,by simp⟩
 |x::L,p=>by
  obtain⟨A,B,E⟩:=Pc (no:=no) (r:=r) x p;obtain⟨a,b,c⟩:=mY L (aW no r p x);rw[List.foldl_cons];exact⟨(A.trans a).mono (by simp;omega),b.trans B,by simp only[alr];omega⟩
theorem zi(L:List It)(p:It->Bool):(L.filter λx=>p x).length+(L.filter λx=>!p x).length=L.length:=by
 induction L with
 |nil=>rfl
 |cons x L a=>cases h:p x<;>simp[h]<;>omega
theorem CS:∀(f:Nat)(q:List (Bs 32))(s:St),vv s.kids.length s (fZ no f q s)/\(∀x∈(fZ no f q s).kids,x∈s.kids)/\(fZ no f q s).left+(fZ no f q s).kids.length<=s.left+s.kids.length
 |0,q,s=>by unfold fZ;exact⟨(vv.refl _).mono ω,λ_ h=>h,ali _⟩
 |_+1,[],s=>by unfold fZ;exact⟨(vv.refl _).mono ω,λ_ h=>h,ali _⟩
 |f+1,r::q,s=>by
  unfold fZ;obtain⟨L,A⟩:∃L,L=s.kids.filter λx=>decide (x.fr=r):=⟨_,rfl⟩;obtain⟨K,b⟩:∃K,K=s.kids.filter λx=>!decide (x.fr=r):=⟨_,rfl⟩;have n:L.length+K.length=s.kids.length:=by rw[A,b];exact zi _ _
  rw[<-A,<-b];obtain⟨a,c,g⟩:=mY (no:=no) (r:=r) L ({s with kids:=K},q);generalize L.foldl (aW no r) ({s with kids:=K},q)=p at a c g⊢;obtain⟨d,e,i⟩:=CS f p.2 p.1;have j:p.1.kids=K:=c;have k:=a.left;dsimp only at k;rw[j]at d e i;have l:vv L.length s p.1:=⟨a.tb,a.wait,a.sc,a.gone,a.now,a.left⟩;refine⟨(l.trans d).mono ω,λx m=>?_,ω⟩;have:=e x m;rw[b]at this;exact(alv.1 this).1
theorem KR:∀(f:Nat)(q:List (Bs 32))(s:St),(fZ no f q s).kids.length<=s.kids.length
 |0,q,s=>by unfold fZ;exact ala _
 |_+1,[],s=>by unfold fZ;exact ala _
 |f+1,r::q,s=>by
  unfold fZ;obtain⟨_,A,_⟩:=mY (no:=no) (r:=r) (s.kids.filter λx=>decide (x.fr=r)) ({s with kids:=s.kids.filter λx=>!decide (x.fr=r)},q);refine alC (KR f _ _) ?_;rw[A];exact alH _ _
end
end Gate
end Go.Proofs.YtennbinbffdimaaGreat
namespace Go.Vc
open Go
structure rK(T:TypeId)(sz:Nat)(h:af)(s:Sl)(ts:List TV):Prop where
 size:∀t∈ts,t.size=sz
 len:ts.length=s.len
 cap:s.len<=s.cap
 row:∃b pre rest,s.a=some ⟨b,pre.length⟩/\h[b]? =some (Go.Vc.row (pre++(ak2 ts++rest)) T)/\(s.cap-s.len)*sz<=rest.length
section
variable{T:TypeId}{sz:Nat}{h h':af}{s:Sl}{ts:List TV}
theorem rK.new(h:af)(ts:List TV)(q:∀t∈ts,t.size=sz):rK T sz (h.push (Go.Vc.row (ak2 ts) T)) ⟨some ⟨h.size,0⟩,ts.length,ts.length⟩ ts:=
 ⟨q,rfl,ala _,h.size,[],[],rfl,by simp,by simp⟩
theorem rK.only{S:Nat->Prop}(o:rK T sz h s ts)(e:ag S h h')(q:∀i,(∃l,s.a=some l/\l.b=i)->¬S i):rK T sz h' s ts:=by
 refine⟨o.size,o.len,o.cap,?_⟩;obtain⟨b,pre,d,a,c,f⟩:=o.row;exact⟨b,pre,d,a,by rw[e.same b (kO c) (q _ ⟨_,a,rfl⟩),c],f⟩
theorem rK.ext(o:rK T sz h s ts)(e:Ext h h'):rK T sz h' s ts:=o.only (S:=λ_=>False) (als e) λ_ _ a=>a
theorem rK.lt(o:rK T sz h s ts):∀l,s.a=some l->l.b<h.size:=λl a=>by
 obtain⟨b,pre,e,c,d,_⟩:=o.row;rw[c]at a;cases a;exact kO d
theorem adI{b:Nat}{pre q:List Value}(A:h[b]? =some (Go.Vc.row (pre++(ak2 ts++q)) T)){j:Nat}(B:j<(ak2 ts).length):ng h b (pre.length+j)=(ak2 ts)[j]?:=by
 unfold ng;rw[A];simp only[Go.Vc.row];rw[List.getElem?_toArray,List.getElem?_append_right ω,show pre.length+j-pre.length=j by omega,List.getElem?_append_left B]
theorem rK.elems(o:rK T sz h s ts):aj sz h s ts:=by
 obtain⟨b,pre,p,c,f,q⟩:=o.row;refine⟨o.len,λd=>(by rw[c]at d;cases d),λl e i t a=>?_⟩;rw[c]at e;cases e;rw[TV.mD];intro j r;have u:=o.size t (alx a);have g:=ak.rU ts i j t o.size a ω;have k:=ak.bG ts o.size;have m:i<ts.length:=(alP.1 a).1
 have n:i*sz+j<(ak2 ts).length:=by
  rw[k];have:(i+1)*sz<=ts.length*sz:=Nat.mul_le_mul_right _ m;rw[Nat.succ_mul]at this;omega
 have:=adI f n;rw[g]at this;rw[<-this];congr 1;simp only;omega
theorem rK.ag1{t:TV}(o:rK T sz h s (t::ts)):rK T sz h (ay s 1 s.len sz) ts:=by
 obtain⟨b,pre,c,d,e,g⟩:=o.row;have i:=o.len;have m:=o.cap;simp only[alr]at i;have j:t.cells.length=sz:=by rw[TV.ai,o.size t (List.mem_cons_self ..)]
 have f:ak2 (t::ts)=t.cells++ak2 ts:=rfl;refine⟨λx k=>o.size x (List.mem_cons_of_mem _ k),by simp only[ay];omega,by simp only[ay];omega,?_⟩;unfold ay;by_cases a:s.cap=1
 ·have l:ts=[]:=List.eq_nil_of_length_eq_zero ω;subst l;exact⟨b,pre,t.cells++c,by simp only[a,if_true];exact d,by rw[e,f];simp[ak2],by simp[a]⟩
 ·refine⟨b,pre++t.cells,c,by simp[a,d,j],by rw[e,f];simp only[alQ],?_⟩;simp only;rw[show s.cap-1-(s.len-1)=s.cap-s.len by omega];exact g
theorem aaC{C:Ctx}{x:TV}{K:Sl->af->Prop}(A:(C.ti T).size=sz)(H:(C.ti T).z.size=sz)(I:0<(C.ti T).bytes)
 (J:(s.len+1)*(C.ti T).bytes<=70368744177664)(o:rK T sz h s ts)(q:x.size=sz)(M:x.plain=true)
 (B:∀m h',rK T sz h' m (ts++[x])->ag (λb=>∃l,s.a=some l/\l.b=b) h h'->(∀l,m.a=some l->(∃u,s.a=some u/\u.b=l.b)\/h.size<=l.b)->K m h'):
 ∃new,cn (h.push (row (ak2 [x]) T)) (alh (some (Loc.mk h.size 0)) 1 1) sz new/\(∀v∈new,bU v=true)/\au C T s 1 new (h.push (row (ak2 [x]) T)) K:=by
 have w:ak2 [x]=x.cells:=by simp[ak2]
 have n:x.cells.length=sz:=by rw[TV.ai,q]
 refine⟨x.cells,⟨by simp[n],.inr ⟨_,rfl,λj y=>?_⟩⟩,TV.gU x M,?_⟩
 ·unfold ng;simp[row,w]
 have f:Ext h (h.push (row (ak2 [x]) T)):=ak9 h _;have L:=o.ext f
 have D:∀t∈ts++[x],t.size=sz:=λt p=>by
  rcases List.mem_append.1 p with g|g
  ·exact o.size t g
  ·simp only[List.mem_singleton]at g;rw[g];exact q
 have i:=ak.bG ts o.size;have E:ak2 (ts++[x])=ak2 ts++x.cells:=by rw[ak.fT,w]
 have V:=o.len;obtain⟨b,pre,a,d,r,F⟩:=L.row;refine⟨ak2 ts,⟨by rw[A,i,o.len],.inr ⟨_,d,λj y=>adI r y⟩⟩,J,I,λN=>?_,λ_ k=>(by rw[d]at k;cases k),λN c O=>?_⟩
 ·refine⟨.inr (by rw[d];rfl),λl e=>?_⟩;rw[d]at e;cases e;rw[A]
  have W:x.cells.length<=a.length:=by
   rw[n];refine alC ?_ F;exact Nat.le_mul_of_pos_left _ ω
  have G:pre.length+s.len*sz+x.cells.length<=(pre++(ak2 ts++a)).length:=by simp only[alM,i,<-o.len];omega
  refine⟨iH r G,?_⟩;obtain⟨P,Q,R⟩:=jo x.cells (h.push (row (ak2 [x]) T)) b (pre.length+s.len*sz) _ T r G;refine B _ _ ⟨D,by simp[o.len],by simp only;omega,b,pre,a.drop sz,rfl,?_,?_⟩ ?_ ?_
  ·rw[P,E,<-o.len];congr 1;congr 1
   have p:(pre++(ak2 ts++a)).take (pre.length+ts.length*sz)=pre++ak2 ts:=by
    rw[<-i,<-alQ,show pre.length+(ak2 ts).length=(pre++ak2 ts).length by simp,List.take_left]
   have S:(pre++(ak2 ts++a)).drop (pre.length+ts.length*sz+x.cells.length)=a.drop sz:=by
    rw[<-i,<-alQ,show pre.length+(ak2 ts).length+x.cells.length=(pre++ak2 ts).length+sz by simp[n],List.drop_append];simp
   rw[p,S];simp only[alQ]
  ·simp only[List.length_drop]
   have:(s.cap-(s.len+1))*sz+sz<=a.length:=by
    refine alC (ak7 ?_) F;rw[<-Nat.succ_mul];congr 1;omega
   omega
  ·refine⟨by rw[Q];exact f.size,λb' U k=>?_⟩;rw[R b' (λq=>k ⟨_,d,q.symm⟩),f.same b' U]
  ·intro l e;cases e;exact .inl ⟨_,d,rfl⟩
 ·have X:(h.push (row (ak2 [x]) T)).size=h.size+1:=by simp
  refine B _ _ ⟨D,by simp[o.len],O,_,[],cq (C.ti T).z (c-(s.len+1)),rfl,?_,?_⟩ ?_ ?_
  ·rw[cO,E];simp
  ·rw[je,H];exact ala _
  ·exact als (f.trans (ak9 _ _))
  ·intro l e;cases e;right;simp only;omega
end
end Go.Vc
namespace Go.Proofs.YtennbinbffdimaaGreat
open Go Go.Vc
namespace Gate
open Pool (rts eM Dw pq GI CJ)
theorem ag2{h:af}{s:Sl}{L:List (Bs 32)}{x:Bs 32}{K:Sl->af->Prop}(o:rK 52 32 h s (rts L))(q:L.length<100000)(A:∀a h',rK 52 32 h' a (rts (L++[x]))->ag (In s) h h'->(∀i,In a i->In s i\/h.size<=i)->K a h'):
 ∃new,cn (h.push (row (ak2 [alj 32 x]) 52)) (alh (some (Vc.Loc.mk h.size 0)) 1 1) 32 new/\(∀v∈new,bU v=true)/\au ctx 52 s 1 new (h.push (row (ak2 [alj 32 x]) 52)) K:=by
 have c:=o.len;rw[pE]at c;refine aaC (C:=ctx) (x:=.bytes 32 x) GI CJ (by rw[pq];decide) (by rw[pq];omega) o eM Dw λa h' d e f=>A a h' (by simpa[rts]using d) e λi⟨l,q,j⟩=>?_;rcases f l q with⟨g,b,k⟩|b
 ·exact .inl ⟨g,b,ω⟩
 ·exact .inr ω
end Gate
namespace Gate
open Board (Vd Cf jx)
open Pool (It WL dV)
open Peers (Pe)
theorem Step.tail{M M' S:Nat->Prop}{h q h':af}(a:Step M h M' q)(f:ag S q h')(A:∀i,S i->h.size<=i):Step M h M' h':=
 ⟨⟨alC a.only.size f.size,λi b c=>(f.same i (Nat.lt_of_lt_of_le b a.only.size) λe=>by have:=A i e;omega).trans (a.only.same i b c)⟩,a.new⟩
section
variable{h h':af}{g:Nat}{a:Ad}{c:Cf}{V:List Vd}{s:St}{Fp:Nat->Nat->Prop}{S':Nat->Prop}
theorem aR.tj(p:aR h g a c V s Fp){q:List It}(pk:k9 172 h' a.kd q c.eV c.quo S')(st:Step (Fp 4) h S' h'):aR h' g a c V {s with kids:=q} (nT Fp 4 S'):=by
 have o:∀k,k≠4->∀i,Fp k i->¬Fp 4 i:=λk b=>p.sep.off b;refine⟨p.sep.step st pk.lt,?_,?_,?_,?_,?_,?_,?_,?_,?_,?_,?_,?_,?_,p.DB st,p.can⟩
 ·rw[aB δ];exact p.tree.only st.only (o 0 δ)
 ·rw[aB δ];exact p.FP.only st.only (o 1 δ)
 ·rw[aB δ];exact p.gH.only st.only (o 2 δ)
 ·exact p.bk.only st.only (o 3 δ _ (by rw[p.f3]))
 ·rw[aB δ];exact p.f3
 ·rw[bY];exact pk
 ·rw[aB δ];exact p.wait.only st.only (o 5 δ)
 ·rw[aB δ];exact p.who.only st.only (o 6 δ)
 ·exact p.kz.only st.only (o 7 δ _ (by rw[p.f7]))
 ·rw[aB δ];exact p.f7
 ·exact p.var.only st.only (o 8 δ _ (by rw[p.f8]))
 ·rw[aB δ];exact p.f8
 ·exact TV.ck st.only p.vals λi d e=>p.off 4 i e d
theorem aR.Pd(p:aR h g a c V s Fp){n:Int}(q:Clock.CI 217 h' a.kz n (Clock.fB c.win))(f:ag (·=a.kz) h h'):aR h' g a c V {s with now:=n} Fp/\Step (dm Fp) h (dm Fp) h':=by
 have d:Fp 7 a.kz:=by rw[p.f7]
 have o:∀k,k≠7->∀i,Fp k i->¬i=a.kz:=λk l i b e=>p.sep.off l i b (e▸d);refine⟨⟨⟨p.sep.qx,λj i b=>by have:=p.sep.lt j i b;have:=f.size;omega⟩,?_,?_,?_,?_,p.f3,?_,?_,?_,q,p.f7,?_,p.f8,?_,p.off,p.can⟩,⟨f.mono λi e=>⟨7,by rw[p.f7];exact e⟩,λi b=>.inl b⟩⟩
 ·exact p.tree.only f (o 0 δ)
 ·exact p.FP.only f (o 1 δ)
 ·exact p.gH.only f (o 2 δ)
 ·exact p.bk.only f (o 3 δ _ (by rw[p.f3]))
 ·exact p.kids.only f (o 4 δ)
 ·exact p.wait.only f (o 5 δ)
 ·exact p.who.only f (o 6 δ)
 ·exact p.var.only f (o 8 δ _ (by rw[p.f8]))
 ·exact TV.ck f p.vals λi b e=>p.off 7 i (by rw[p.f7];exact e) b
theorem aR.aaD(p:aR h g a c V s Fp){n:Int}(v:Var 147 h' g (O9 c a n))(f:ag (·=g) h h'):aR h' g a c V {s with left:=n} Fp/\Step (dm Fp) h (dm Fp) h':=by
 have d:Fp 8 g:=by rw[p.f8]
 have o:∀k,k≠8->∀i,Fp k i->¬i=g:=λk l i b e=>p.sep.off l i b (e▸d);refine⟨⟨⟨p.sep.qx,λj i b=>by have:=p.sep.lt j i b;have:=f.size;omega⟩,?_,?_,?_,?_,p.f3,?_,?_,?_,?_,p.f7,v,p.f8,?_,p.off,p.can⟩,⟨f.mono λi e=>⟨8,by rw[p.f8];exact e⟩,λi b=>.inl b⟩⟩
 ·exact p.tree.only f (o 0 δ)
 ·exact p.FP.only f (o 1 δ)
 ·exact p.gH.only f (o 2 δ)
 ·exact p.bk.only f (o 3 δ _ (by rw[p.f3]))
 ·exact p.kids.only f (o 4 δ)
 ·exact p.wait.only f (o 5 δ)
 ·exact p.who.only f (o 6 δ)
 ·exact p.kz.only f (o 7 δ _ (by rw[p.f7]))
 ·exact TV.ck f p.vals λi b e=>p.off 8 i (by rw[p.f8];exact e) b
end
end Gate
namespace Pool
open Board (Dm dF bw)
theorem aaE{most quota:Int}{x:It}{S:List It}{y:It}(h:y∈(cV most quota x S).2.2):y=x\/y∈S:=by
 unfold cV at h;split at h
 ·exact .inr h
 split at h
 ·exact .inr h
 split at h
 ·exact alp.1 ((dy x S).mem_iff.1 h)
 split at h
 ·exact .inr h
 ·split at h
  ·rcases alp.1 ((dy x _).mem_iff.1 h)with a|a
   ·exact .inl a
   ·exact .inr (List.dropLast_subset _ a)
  ·exact .inr h
theorem aaF{most quota:Int}{x:It}{S:List It}(h:(S.length:Int)<=most):((cV most quota x S).2.2.length:Int)<=most:=by
 unfold cV;split
 ·exact h
 split
 ·exact h
 split
 ·rename_i b;simp only[kF];omega
 split
 ·exact h
 ·rename_i y a;split
  ·simp only[kF,List.length_dropLast];have:S≠[]:=λe=>by rw[e]at a;cases a
   have:=List.length_pos_iff.2 this;omega
  ·exact h
def Fit(want:Int->Bool)(x:It):Prop:=x.text.length<1000/\∃d,dF x.text=some d/\want d.kind=true/\x=bq d x.peer x.text
theorem KS{want:Int->Bool}{most quota peer:Int}{text:LU}{S:List It}(E:text.length<1000)(q:∀x∈S,Fit want x):∀y∈(dY want most quota peer text S).2.2,Fit want y:=by
 intro y a;unfold dY at a;split at a
 ·exact q y a
 ·rename_i d b;split at a
  ·rename_i c;rcases aaE a with rfl|e
   ·exact⟨E,d,b,c,rfl⟩
   ·exact q y e
  ·exact q y a
theorem KU{want:Int->Bool}{most quota peer:Int}{text:LU}{S:List It}(h:(S.length:Int)<=most):((dY want most quota peer text S).2.2.length:Int)<=most:=by
 unfold dY;split
 ·exact h
 ·split
  ·exact aaF h
  ·exact h
section
variable{h0 h h':af}{o b m:Nat}{A B A' B':Sl}{S M S' M':List It}{most quota:Int}{T:TypeId}{want:Int->Bool}
structure Pf(T:TypeId)(want:Int->Bool)(h0 h:af)(o b:Nat)(A:Sl)(S:List It)(most quota:Int):Prop where
 wl:WL T h o b A S most quota
 low:h0.size<=o/\∀i,dV b A i->h0.size<=i
 old:Ext h0 h
 len:(S.length:Int)<=most
 fit:∀x∈S,Fit want x
 ok:Z8 most quota
theorem Pf.more(p:Pf T want h0 h o b A S most quota)(x:Ext h h'):Pf T want h0 h' o b A S most quota:=⟨p.wl.ext x,p.low,p.old.trans x,p.len,p.fit,p.ok⟩
theorem Pf.step(p:Pf T want h0 h o b A S most quota)(w:WL T h' o b A' S' most quota)(g:Grown b A h A' h')(q:(S'.length:Int)<=most)(E:∀x∈S',Fit want x):Pf T want h0 h' o b A' S' most quota:=
 ⟨w,⟨p.low.1,λi c=>by
   rcases g.new i c with a|a
   ·exact p.low.2 i a
   ·have:=p.old.size;omega⟩,ak3 p.old g.only p.low.2,q,E,p.ok⟩
theorem Pf.text(p:Pf T want h0 h o b A S most quota):∀x∈S,x.text.length<1000:=λx a=>(p.fit x a).1
structure Pr(T:TypeId)(want:Int->Bool)(h0 h:af)(o b m:Nat)(A B:Sl)(S M:List It)(most quota:Int):Prop where
 one:Pf T want h0 h o b A S most quota
 rl:RL h m B M most quota
 ne:o≠m
 ap:¬dV b A m
 bo:∀l,B.a=some l->l.b≠o/\¬dV b A l.b
 ag3:h0.size<=m
 ag4:(M.length:Int)<=most
theorem Pr.more(p:Pr T want h0 h o b m A B S M most quota)(x:Ext h h'):Pr T want h0 h' o b m A B S M most quota:=⟨p.one.more x,p.rl.ext x,p.ne,p.ap,p.bo,p.ag3,p.ag4⟩
end
end Pool
namespace Gate
open Board (Vd Cf Ms Dm jx aq aY bh fR cv)
open Pool (It WL dV Fit Bk lK rY bq eM Dw rts)
open Peers (Pe)
def aaG:TV:=.agg [.bytes 32 (ak6 32),bh.tv]
theorem HN:aaG.size=85:=Bk.aaa ⟨ak6 32,Board.Dm.zero,ak4⟩
abbrev zT(k:Int):Bool:=decide (k=1)
section
variable{R:Rq}{h h':af}{g:Nat}{a:Ad}{c:Cf}{V:List Vd}{s:St}{Fp:Nat->Nat->Prop}
theorem Ud(p:aR h g a c V s Fp){root:Bs 32}{m:Ms}(bx:∀x∈s.kids,Fit zT x)(cI:s.kids.length<1000)(A:0<=s.left/\s.left<1000000000)
 (hr:∀h' bb,aR h' g a c V (lQ c.no root m.target m.slot s) bb->Step (dm Fp) h (dm bb) h'->R (alc []).val h'):
 Cl 211 [.ptr (PT g),.bytes 32 root,m.tv] h R:=by
 apply AD (PT g) root m.kind m.slot m.target m.ax m.body m.bits m.tag;delta dQ j3 aF wv dK gK yh C2 jr fP cr cE d_ eW bz aN eU bJ bK aT fD;refine aa λu v1 x1 s1=>aa λB v2 x2 s2=>?_;have v2:=v2;have bc:=x1.trans x2;have p2:=p.ext bc;refine⟨_,p2.var.ah rfl,root,(v1.ext x2).bytes,m.target,v2.at.2.2.1,m.slot,v2.at.2.1,Np p2 λF F3 p3 ar=>⟨_,rfl,?_⟩⟩;have b0:∀i,h.size<=i->¬dm Fp i:=λi b⟨k,v⟩=>by have:=p.sep.lt k i v;omega
 have w1:=(v1.ext x2).only ar.only (b0 _ (ala _));refine⟨root,w1.bytes,?_⟩;have bd:=ak9 F (row (ak2 [alj 32 root]) 52);have oq:=rK.new (T:=52) (sz:=32) F (rts [root]) λt ht=>by simp_all [rts,eM]
 have b1:Step (dm Fp) h (dm F3) F:=.cut bc ar;have z3:=ar.only.size;obtain⟨goal,bi⟩:∃goal,goal=lQ c.no root m.target m.slot s:=⟨_,rfl⟩;rw[<-bi]at hr
 refine Loop.less (λn σ z=>∃q w F',rK 52 32 z σ (rts q)/\aR z g a c V w F'/\Step (dm Fp) h (dm F') z/\(∀i,In σ i->h.size<=i/\¬dm F' i)/\(∃f,q.length+w.kids.length<=f/\fZ c.no f q w=goal)/\
  (∀x∈w.kids,Fit zT x)/\0<=w.left/\w.left+w.kids.length<=s.left+s.kids.length/\q.length+w.kids.length<=1+s.kids.length/\n=q.length+w.kids.length)
  ⟨[root],{s with N:=gw s.N c.no root m.target m.slot},F3,oq,p3.ext bd,b1.trans (.an bd),λi⟨l,A,b⟩=>?_,⟨1+s.kids.length,ala _,bi.symm⟩,bx,A.1,ali _,ala _,rfl⟩ ?_
 ·cases A;simp only at b;exact⟨ω,λ⟨k,v⟩=>by have:=p3.sep.lt k i v;omega⟩
 rintro n σ z G ⟨q,w,F',oQ,pG,aw,bj,⟨f,hf,hq⟩,aE,l0,l1,kq,rfl⟩ go;have a0:=oQ.len;rw[pE]at a0;refine ID (λcJ=>?_) λcK=>?_
 case refine_2=>
  have:q=[]:=List.eq_nil_of_length_eq_zero ω;subst this;have e:fZ c.no f [] w=w:=by cases f<;>rfl
  rw[e]at hq;subst hq;exact hr z F' pG aw
 obtain⟨r,D,rfl⟩:∃r D,q=r::D:=by
  cases q with
  |nil=>simp at a0;omega
  |cons r D=>exact⟨r,D,rfl⟩
 obtain⟨f',rfl⟩:∃f',f=f'+1:=⟨f-1,by simp only[alr]at hf;omega⟩;refine lM oQ.elems (ali 0) (x:=r) rfl ?_;refine aa λh4 v4 x4 s4=>aq (t:=.bytes 32 r) v4 eM.symm (eM.trans eM.symm) λh5 v5 f5 s5=>⟨δ,ω,?_⟩;have x5:Ext z h5:=ak3 x4 f5 λi b=>ak7 (ak8 b);have Y:=pG.ext x5;have z5:=x5.size;have zh:=aw.only.size;obtain⟨kb,kA,kp,hK⟩:=Y.kids;refine⟨_,Y.var.ah rfl,r,v5.bytes,Pool.aad kp (λx o=>(aE x o).1) λW A6 t bs w6 g6 a1 o6 b2=>⟨_,rfl,?_⟩⟩
 have a2:Step (F' 4) h5 (λi=>i=a.kd\/dV kb A6 i) W:=by
  rw[hK]
  exact⟨g6.only.mono λi b=>.inr b,λi b=>by
   rcases b with u|u
   ·exact .inl (.inl u)
   ·exact(g6.new i u).imp .inr id⟩
 have p6:=Y.tj ⟨kb,A6,w6,rfl⟩ a2;have t6:=alf a2;obtain⟨O,bk⟩:∃O,O=nT F' 4 (λi=>i=a.kd\/dV kb A6 i):=⟨_,rfl⟩;rw[<-bk]at p6 t6;have z6:=a2.only.size;obtain⟨L,hL⟩:∃L,L=w.kids.filter λx=>decide (x.fr=r):=⟨_,rfl⟩;obtain⟨K,ad⟩:∃K,K=w.kids.filter λx=>!decide (x.fr=r):=⟨_,rfl⟩;have cM:L.length+K.length=w.kids.length:=by rw[hL,ad];exact zi _ _
 rw[<-ad]at p6;rw[<-hL]at a1;have cP:bs.length=L.length:=by have:=congrArg List.length a1;simpa using this
 have lt:=o6.elems.len;rw[ak5]at lt;simp only[alr]at hf kq a0;obtain⟨nn,cR,b3,b5,cS⟩:=b2.ex;have b6:=o6.lt
 have ae:∀i,In t i->h5.size<=i/\i<W.size/\¬dm O i:=λi⟨l,A,b⟩=>by
  have u:=b5 l A;have B:=b6 l A;refine⟨ω,ω,λ⟨k,v⟩=>?_⟩;rw[bk]at v;by_cases e:k=4
  ·rw[e,bY]at v;rcases v with v|v
   ·have:=Y.sep.lt 4 a.kd (by rw[hK];exact .inl rfl);omega
   ·have:=b3 i v;omega
  ·rw[aB e]at v;have:=Y.sep.lt k i v;omega
 have b7:∀i,z.size<=i->i<h5.size->¬dm O i:=λi u B o=>by
  rcases t6.new i o with⟨k,v⟩|F
  ·have:=pG.sep.lt k i v;omega
  ·omega
 have b8:∀i,In σ i->h.size<=i/\i<z.size/\¬dm O i/\¬In t i:=λi b=>by
  have u:=bj i b
  have B:i<z.size:=by
   obtain⟨l,A,e⟩:=b;have:=oQ.lt l A;omega
  refine⟨u.1,B,λo=>?_,λo=>by have:=(ae i o).1;omega⟩;rcases t6.new i o with F|F
  ·exact u.2 F
  ·omega
 have oC:rK 52 32 W (ay σ 1 σ.len 32) (rts D):=by
  refine((oQ.ext x5).only t6.only λi b=>?_).ag1;exact(bj i (by obtain⟨l,u,B⟩:=b;exact⟨l,u,B.symm▸rfl⟩)).2
 have b9:∀i,In (ay σ 1 σ.len 32) i->In σ i:=λi⟨l,A,b⟩=>by
  unfold ay at A;simp only at A;split at A
  ·exact⟨l,A,b⟩
  ·obtain⟨l0,u,B⟩:=alA.1 A;exact⟨l0,u,by rw[<-b,<-B]⟩
 obtain⟨P,hP⟩:∃P:Nat->St×List (Bs 32),P=λj=>(L.take j).foldl (aW c.no r) ({w with kids:=K},D):=⟨_,rfl⟩;have P0:P 0=({w with kids:=K},D):=by rw[hP];rfl
 have PS:∀j x,L[j]? =some x->P (j+1)=aW c.no r (P j) x:=λj x o=>by
  rw[hP];simp only;rw[List.take_add_one,o,List.foldl_append];rfl
 have bl:∀j,vv j {w with kids:=K} (P j).1/\(P j).1.kids=K/\(P j).2.length<=D.length+j:=λj=>by
  obtain⟨u,B,F⟩:=mY (no:=c.no) (r:=r) (L.take j) ({w with kids:=K},D);have hj:(L.take j).length<=j:=List.length_take_le ..;rw[hP];exact⟨u.mono hj,B,by simp only at F⊢;omega⟩
 have ca:Step (dm Fp) h (dm O) W:=(aw.trans (.an x5)).trans t6;have v6:Var 52 W z.size (.bytes 32 r):=v5.only t6.only λ⟨k,v⟩=>by have:=pG.sep.lt k _ v;omega
 refine⟨λZ C=>∃j:Nat,Z.2=j/\j<=L.length/\∃H,rK 52 32 C Z.1 (rts (P j).2)/\aR C g a c V (P j).1 H/\Step (dm Fp) h (dm H) C/\W.size<=C.size/\(∀i,In Z.1 i->h.size<=i/\¬dm H i/\¬In t i/\i≠z.size)/\
  (∀i,In t i->¬dm H i)/\¬dm H z.size/\aj 85 C t (bs.map Bk.Yn)/\Var 52 C z.size (.bytes 32 r),λZ _=>(L.length-Z.2).toNat,
  ⟨0,rfl,alI _,O,by rw[P0];exact oC,by rw[P0];exact p6,ca,ala _,λi b=>by
    obtain⟨q1,q2,q3,q4⟩:=b8 i (b9 i b);exact⟨q1,q3,q4,ω⟩,λi b=>(ae i b).2.2,b7 _ (ala _) ω,o6.elems,v6⟩,?_⟩
 rintro⟨Q,jj⟩ C ⟨j,hj,bm,H,al,p7,bo,z7,a7,t7,n7,e7,v7⟩;dsimp only at hj al a7⊢;subst hj;obtain⟨cd,ab,cT⟩:=bl j;have ce:=cd.left;dsimp only at ce;refine ID (λbp=>?_) λbp=>?_
 ·have am:j<L.length:=ω;obtain⟨x,o⟩:∃x,L[j]? =some x:=⟨_,alg am⟩;have a3:=PS j x o;have cU:=bl (j+1);refine e7.read ω bp λl1 t1 cX br cf=>?_;rw[alu,ale]at br;obtain⟨y,hy,rfl⟩:=alA.1 br
  obtain⟨bt,ch⟩:y.r=x.root/\y.ms.slot=x.slot:=by
   have ao:(bs.map Bk.of)[j]? =some y.of:=by rw[ale,hy];rfl
   rw[a1,ale,o]at ao;injection ao with ao;injection ao with ci cj
   have cl:x∈w.kids:=by
    have:=alx o;rw[hL]at this;exact(alv.1 this).1
   obtain⟨_,d,hd,_,cp⟩:=aE x cl;refine⟨ci.symm,?_⟩;show y.d.slot=x.slot;rw[<-cj,rY hd,cp];rfl
  refine⟨y.r,y.ms.kind,y.ms.slot,y.ms.target,y.ms.ax,y.ms.body,y.ms.bits,y.ms.tag,cf,?_⟩;refine aa λh8 v8 x8 s8=>aq (t0:=aaG) v8 (t:=y.Yn) HN.symm (by rw[HN];exact y.aaa) λh9 v9 f9 s9=>?_;have S:Ext C h9:=ak3 x8 f9 λi b=>ak7 (ak8 b);have z9:=S.size;have z8:=x8.size;have p9:=p7.ext S;refine⟨_,p9.var.ah rfl,y.r,v9.at.1,r,(v7.ext S).bytes,y.ms.slot,v9.at.2.2.1,?_⟩;rw[bt,ch];refine Np p9 λac I J U=>⟨_,rfl,?_⟩;have cY:=U.only.size
  have a4:∀i,i<h9.size->¬dm H i->¬dm I i:=λi b hn o=>by
   rcases U.new i o with u|u
   ·exact hn u
   ·omega
  have cs:∀i,dm H i->i<C.size:=λi⟨k,v⟩=>p7.sep.lt k i v;have v10:Var 342 ac C.size y.Yn:=v9.only U.only λo=>by have:=cs _ o;omega
  have a5:Var 52 ac z.size (.bytes 32 r):=(v7.ext S).only U.only n7;have a6:aj 85 ac t (bs.map Bk.Yn):=TV.ck U.only (e7.ext S) t7;have ct:∀i,In Q i->i<C.size:=λi⟨l,A,b⟩=>by have:=al.lt l A;omega
  have oq10:rK 52 32 ac Q (rts (P j).2):=(al.ext S).only U.only λi b=>(a7 i (by obtain⟨l,u,B⟩:=b;exact⟨l,u,B.symm▸rfl⟩)).2.1;have a8:Step (dm Fp) h (dm I) ac:=(bo.trans (.an S)).trans U
  have M:∀i,In Q i->h.size<=i/\¬dm I i/\¬In t i/\i≠z.size:=λi b=>by
   obtain⟨q1,q2,q3,q4⟩:=a7 i b;exact⟨q1,a4 i (by have:=ct i b;omega) q2,q3,q4⟩
  have t10:∀i,In t i->¬dm I i:=λi b=>a4 i (by have:=(ae i b).2.1;omega) (t7 i b);have ap:¬dm I z.size:=a4 _ ω n7;have wj:alo .i64 ((j:Int)+1)=((j+1:Nat):Int):=by rw[wrap_i64 ω ω];omega
  refine ID (λX=>?_) λX=>If.dec.2 ⟨λa9=>?_,λa9=>?_⟩
  ·have E:P (j+1)=({(P j).1 with N:=gw (P j).1.N c.no x.root r x.slot},(P j).2++[x.root]):=by rw[a3];unfold aW;rw[if_pos X]
   refine⟨y.r,v10.at.1,?_⟩;rw[bt];refine ag2 oq10 ω λQ' cw cx f11 cy=>?_;rw[wj];refine⟨⟨j+1,rfl,am,I,by rw[E];exact cx,?_,Step.tail a8 f11 λi b=>(M i b).1,by have:=f11.size;omega,λi b=>?_,t10,ap,?_,?_⟩,ω⟩
   ·rw[E];exact J.only f11 (λk i v o=>(M i o).2.1 ⟨k,v⟩) λi hv o=>by have:=p.SF i hv;have:=(M i o).1;omega
   ·rcases cy i b with u|u
    ·exact M i u
    ·exact⟨ω,λ⟨k,v⟩=>by have:=J.sep.lt k i v;omega,λht=>by have:=(ae i ht).2.1;omega,ω⟩
   ·exact TV.ck f11 a6 λi b o=>(M i o).2.2.1 b
   ·exact a5.only f11 λo=>(M _ o).2.2.2 rfl
  ·have E:P (j+1)=({(P j).1 with left:=(P j).1.left+1},(P j).2):=by rw[a3];unfold aW;rw[if_neg X,if_pos a9]
   have a':gw (P j).1.N c.no x.root r x.slot=(P j).1.N:=by unfold gw;rw[if_neg X]
   rw[a']at J;refine⟨_,J.var.ah rfl,?_⟩;dsimp only;rw[wj,wrap_i64 (n:=(P j).1.left+1) ω ω];refine aI J.var (i:=3) (t:=.i ((P j).1.left+1)) rfl rfl rfl rfl λcw v11 f11 c1=>?_;obtain⟨cA,cB⟩:=J.aaD v11 f11;have ba:∀i,i=g->dm I i:=λi e=>⟨8,by rw[J.f8];exact e⟩;refine⟨⟨j+1,rfl,am,I,by rw[E];exact oq10.only f11 λi b e=>(M i (by obtain⟨l,u,B⟩:=b;exact⟨l,u,B.symm▸rfl⟩)).2.1 (ba i e),by rw[E];exact cA,a8.trans cB,ω,M,t10,ap,?_,?_⟩,ω⟩
   ·exact TV.ck f11 a6 λi b e=>t10 i b (ba i e)
   ·exact a5.only f11 λe=>ap (ba _ e)
  ·have E:P (j+1)=P j:=by rw[a3];unfold aW;rw[if_neg X,if_neg a9]
   have a':gw (P j).1.N c.no x.root r x.slot=(P j).1.N:=by unfold gw;rw[if_neg X]
   rw[a']at J;rw[wj];exact⟨⟨j+1,rfl,am,I,by rw[E];exact oq10,by rw[E];exact J,a8,ω,M,t10,ap,a6,a5⟩,ω⟩
 ·have bm:j=L.length:=ω;have E:P j=L.foldl (aW c.no r) ({w with kids:=K},D):=by rw[hP,bm];simp only;rw[alE]
  have cC:fZ c.no f' (P j).2 (P j).1=goal:=by rw[E,<-hq,hL,ad];rfl
  refine go ((P j).2.length+(P j).1.kids.length) Q C (by rw[ab];simp only[alr];omega) ⟨(P j).2,(P j).1,H,al,p7,bo,λi b=>⟨(a7 i b).1,(a7 i b).2.1⟩,⟨f',by rw[ab];omega,cC⟩,λx o=>?_,ω,by rw[ab];omega,by rw[ab];omega,rfl⟩;rw[ab,ad]at o;exact aE x (alv.1 o).1
end
end Gate
namespace Gate
open Board (Vd Cf Ms Dm jx aq aY bh dF bw bB fR cv)
open Pool (It WL dV has dY)
open Peers (Pe)
section
variable{R:Rq}{h h':af}{g:Nat}{a:Ad}{c:Cf}{V:List Vd}{s:St}{Fp:Nat->Nat->Prop}
end
end Gate
namespace Gate
open Board (Vd Cf Ms Dm jx aq aY bh dF bw bB fR cv jk)
open Pool (It WL dV Fit dY eM Dw rts oF)
open Peers (Pe)
noncomputable def c5(c:Cf)(s:St)(peer:Int)(m:Ms)(row:List Bool)(text:LU):Int×St:=
 if(c8 s.N (place m.target s.N)).2=false then((dY zT c.eV c.quo peer text s.kids).1,{s with kids:=(dY zT c.eV c.quo peer text s.kids).2.2})
 else if m.slot<=(c8 s.N (place m.target s.N)).1.slot then(10,s)
 else if c.no-s.N.length=0 then(13,s)
 else(0,lQ c.no (bw m row) m.target m.slot s)
section
variable{R:Rq}{h h':af}{g:Nat}{a:Ad}{c:Cf}{V:List Vd}{s:St}{Fp:Nat->Nat->Prop}
theorem sI(p:aR h g a c V s Fp){peer:Int}{m:Ms}{row:List Bool}{text:LU}(e:aj 1 h m.bits (aY row))(ab:row.length<500)(ht:text.length<1000)(ac:∀x∈s.kids,Fit zT x)(ad:(s.kids.length:Int)<=c.eV)(hl:0<=s.left/\s.left<1000000000)
 (E:∀h' P,aR h' g a c V (c5 c s peer m row text).2 P->Step (dm Fp) h (dm P) h'->R (TV.i (c5 c s peer m row text).1).val h'):
 Cl 149 [.ptr (PT g),.i peer,m.tv,.str text] h R:=by
 apply AF (PT g) peer m.kind m.slot m.target m.ax m.body m.bits m.tag text;delta nE j3 jZ dK js aD wq fk Dn i_ uR dx cu eY dJ bz dX eU bJ aT bA fD;have ao:=p.tok;have co:=p.can.eV;refine aa λy v1 C s1=>?_;have v1:Var 58 y h.size m.tv:=v1;have v:=p.ext C;have z1:=C.size;intro Q HJ;obtain⟨u,S⟩:∃u,u=c8 s.N (place m.target s.N):=⟨_,rfl⟩
 have j:c5 c s peer m row text=if u.2=false then((dY zT c.eV c.quo peer text s.kids).1,{s with kids:=(dY zT c.eV c.quo peer text s.kids).2.2})
  else if m.slot<=u.1.slot then(10,s)else if c.no-s.N.length=0 then(13,s)else(0,lQ c.no (bw m row) m.target m.slot s):=by unfold c5;rw[<-S]
 generalize c5 c s peer m row text=ap at j E
 have ae:∀(q:Nat)(d:af)(t:_×_×_×_×_×_×_×_×_×_×Bool),t.2.2.2.2.2.2.2.2.2.1=some (Vc.Loc.mk q 0)->t.2.2.2.2.2.2.2.2.2.2=u.2->Ext y d->Var 69 d q u.1.tv->Q t d:=by
  rintro q d t I J l K;refine HJ _ d ?_;dsimp only;rw[I,J];have w:=v.ext l;refine alb (λz=>?_) λz=>?_
  ·have z:u.2=false:=by simpa using z
   rw[if_pos z]at j;subst j;obtain⟨T,kA,kp,hK⟩:=w.kids;refine⟨_,w.var.ah rfl,Pool.Xh (peer:=peer) (text:=text) kp co.1 co.2 ad ht λn U w5 W=>⟨_,_,rfl,?_⟩⟩
   have st:Step (Fp 4) d (λi=>i=a.kd\/dV T U i) n:=by
    rw[hK]
    exact⟨W.only.mono λi B=>.inr B,λi B=>by
     rcases B with y|y
     ·exact .inl (.inl y)
     ·exact(W.new i y).imp .inr id⟩
   have p5:=w.tj ⟨T,U,w5,rfl⟩ st;have al:=alf st;refine aa λL v6 o s6=>aq (t:=.bytes 32 _) v6 eM.symm (eM.trans eM.symm) λX v7 f7 s7=>?_;have Y:Ext n X:=ak3 o f7 λi B=>ak7 (ak8 B);exact E X _ (p5.ext Y) (.cut (C.trans l) (al.trans (.an Y)))
  ·have z:u.2=true:=by simpa using z
   rw[if_neg (by rw[z];decide)]at j;refine⟨u.1.slot,K.at.2.1,m.slot,(v1.ext l).at.2.1,ID (λM=>?_) λM=>?_⟩
   ·rw[if_pos M]at j;subst j;exact E d Fp w (.an (C.trans l))
   ·rw[if_neg M]at j;refine⟨_,w.var.ah rfl,w.Dy ⟨_,rfl,?_⟩⟩;obtain⟨r,A,k,hS⟩:=w.tree;refine Gl k ⟨_,rfl,ID (λN=>?_) λN=>?_⟩
    ·rw[if_pos N]at j;subst j;exact E d Fp w (.an (C.trans l))
    ·rw[if_neg N]at j;subst j;have Z:=C.trans l;refine bB (m:=m) (v1.ext l) (bB (m:=m) (v1.ext l) (jk (m:=m) (e.ext Z) ab λh8 O=>⟨_,rfl,O,?_⟩));refine Ud (m:=m) (w.ext O) ac ω hl λh9 F9 p9 am=>⟨rfl,E h9 F9 p9 (.cut (Z.trans O) am)⟩
 refine⟨_,v.var.ah rfl,_,v.var.ah rfl,m.target,v1.at.2.2.1,?_⟩
 have node:∀{d:af}{q:Nat}{t0:TV},Ext y d->Var 69 d q t0->y.size<=q->t0.size=34->∀(t:_×_×_×_×_×_×_×_×_×_×Bool),t.2.2.2.2.2.2.2.2.2.1=some (Vc.Loc.mk q 0)->t.2.2.2.2.2.2.2.2.2.2=u.2->
  gT d q 0 34/\Bind (alF d q 0 u.1.tv) λn=>Q t n:=λ{d q t0} l K hq hz t I J=>
  aq (t:=u.1.tv) K hz.symm (by rw[hz];exact Nd.size _) λn v5 f5 s5=>ae q n t I J (ak3 l f5 λi B=>by rw[B];exact hq) v5
 have F:(alq [.bytes 32 (ak6 32),.i 0,.i 0]).size=34:=rfl;subst S;obtain⟨r,A,k,hS⟩:=v.tree;refine⟨v.Dy ⟨_,rfl,ald _,v.Dy ⟨_,rfl,ald _,dM k λh2 D=>⟨_,rfl,?_,?_⟩,?_⟩,?_⟩,?_⟩
 ·refine dg (k.ext D) λh3 x3=>⟨_,_,_,_,rfl,aa λG v4 b H=>⟨b,node ((D.trans x3).trans b) v4 ?_ F _ rfl rfl⟩⟩;have:=D.size;have:=x3.size;omega
 ·refine aa λG v4 b H=>⟨b,dg ((k.ext D).ext b) λn f=>⟨_,_,_,_,rfl,node ((D.trans b).trans f) (v4.ext f) ?_ F _ rfl rfl⟩⟩;have:=D.size;omega
 ·exact aa λG v4 b H=>⟨b,dM (k.ext b) λn f=>⟨_,rfl,dg ((k.ext b).ext f) λL o=>⟨_,_,_,_,rfl,node ((b.trans f).trans o) ((v4.ext f).ext o) (ala _) F _ rfl rfl⟩⟩⟩
 ·exact aa λG v4 b H=>⟨b,(v.ext b).Dy ⟨_,rfl,ald _,dM (k.ext b) λn f=>⟨_,rfl,dg ((k.ext b).ext f) λL o=>⟨_,_,_,_,rfl,node ((b.trans f).trans o) ((v4.ext f).ext o) (ala _) F _ rfl rfl⟩⟩⟩⟩
 ·exact aa λG v4 b H=>⟨b,(v.ext b).Dy ⟨_,rfl,ald _,(v.ext b).Dy ⟨_,rfl,ald _,dM (k.ext b) λn f=>⟨_,rfl,dg ((k.ext b).ext f) λL o=>⟨_,_,_,_,rfl,node ((b.trans f).trans o) ((v4.ext f).ext o) (ala _) F _ rfl rfl⟩⟩⟩⟩⟩
end
end Gate
namespace Gate
open Board (Vd Cf Ms Dm jx aq aY bh dF bw bB fR cv)
open Pool (It WL dV Fit dY KS KU oF)
open Peers (Pe)
abbrev zU(k:Int):Bool:=!decide (k=1)
noncomputable def aG(c:Cf)(V:List Vd)(s:St)(peer:Int)(text:LU):Int×St:=
 if decide (Peers.score s.sc peer<=-c.bH)=true then(3,s)
 else if c.iy<text.length then(4,s)
 else match dF text with
  |none=>(5,s)
  |some d=>if dw c V s (d.ms ak4) d.row≠0 then(dw c V s (d.ms ak4) d.row,s)
   else if d.kind=1 then c5 c s peer (d.ms ak4) d.row text
   else((dY zU c.eH c.quo peer text s.wait).1,{s with wait:=(dY zU c.eH c.quo peer text s.wait).2.2})
structure Kept(c:Cf)(s:St)(k:Nat):Prop where
 now:0<=s.now/\s.now<=1073741824
 AG:(s.wait.length:Int)<=c.eH
 Cd:(s.kids.length:Int)<=c.eV
 AH:∀x∈s.wait,Fit zU x
 Ek:∀x∈s.kids,Fit zT x
 left:0<=s.left/\s.left+s.kids.length<=k
 gone:0<=s.gone/\s.gone<=k
theorem VO{want:Int->Bool}{most quota peer:Int}{text:LU}{S:List It}:(dY want most quota peer text S).2.2.length<=S.length+1:=by
 have a:∀x,(Pool.cV most quota x S).2.2.length<=S.length+1:=λx=>by
  unfold Pool.cV;split
  ·simp_all
  split
  ·simp_all
  split
  ·simp only[(Pool.dy x S).length_eq,alr];omega
  split
  ·simp_all
  split
  ·simp only[(Pool.dy x S.dropLast).length_eq,alr,List.length_dropLast];omega
  simp_all
 grind [dY]
section
variable{d:Dm}{b:Sl}{row:List Bool}
theorem KV:Board.dA (d.ms b) row=Board.dA (d.ms ak4) row:=rfl
theorem XO:Board.dU (d.ms b) row=Board.dU (d.ms ak4) row:=rfl
theorem El{n:Nat}{aQ:Int}:Board.a_ n aQ (d.ms b) row=Board.a_ n aQ (d.ms ak4) row:=by
 rfl
theorem XP{L:List Vd}{i:Int}:Board.ud L (d.ms b) row i=Board.ud L (d.ms ak4) row i:=by
 unfold Board.ud;congr 1;unfold Board.B8 Board.Eh;by_cases h:d.kind=3
 ·rw[if_pos (show(d.ms b).kind=3 from h),if_pos (show(d.ms ak4).kind=3 from h)];rfl
 ·rw[if_neg (show¬(d.ms b).kind=3 from h),if_neg (show¬(d.ms b).kind=3 from h),if_neg (show¬(d.ms ak4).kind=3 from h),if_neg (show¬(d.ms ak4).kind=3 from h)];exact KV
theorem Ue{n:Nat}{aQ:Int}{L:List Vd}:Board.kj n aQ L (d.ms b) row=Board.kj n aQ L (d.ms ak4) row:=by
 have e:Board.ud L (d.ms b) row=Board.ud L (d.ms ak4) row:=funext λi=>XP;unfold Board.kj Board.mB;rw[El,e];rfl
theorem GS:bw (d.ms b) row=bw (d.ms ak4) row:=by
 rfl
theorem KW{c:Cf}{V:List Vd}{s:St}:dw c V s (d.ms b) d.row=dw c V s (d.ms ak4) d.row:=by
 unfold dw;rw[El,Ue,GS];rfl
theorem Uf{c:Cf}{s:St}{peer:Int}{text:LU}:c5 c s peer (d.ms b) d.row text=c5 c s peer (d.ms ak4) d.row text:=by
 rfl
end
section
variable{R:Rq}{h h':af}{g:Nat}{a:Ad}{c:Cf}{V:List Vd}{s:St}{Fp:Nat->Nat->Prop}
theorem R1(p:aR h g a c V s Fp){k:Nat}(q:Kept c s k)(hk:k<100000){peer:Int}{text:LU}(B:text.length<1000)
 (A:∀h' F,aR h' g a c V (aG c V s peer text).2 F->Step (dm Fp) h (dm F) h'->R (TV.i (aG c V s peer text).1).val h'):
 Cl 80 [.ptr (PT g),.i peer,.str text] h R:=by
 apply AE;have kl:=q.left;obtain⟨r,L,hP⟩:=p.who
 have f:aG c V s peer text=if decide (Peers.score s.sc peer<=-c.bH)=true then(3,s)else if c.iy<text.length then(4,s)else match dF text with
  |none=>(5,s)
  |some d=>if dw c V s (d.ms ak4) d.row≠0 then(dw c V s (d.ms ak4) d.row,s)
   else if d.kind=1 then c5 c s peer (d.ms ak4) d.row text
   else((dY zU c.eH c.quo peer text s.wait).1,{s with wait:=(dY zU c.eH c.quo peer text s.wait).2.2}):=rfl
 generalize aG c V s peer text=M at f A
 have o:∀(t:af)(v:Int),M=(v,s)->Ext h t->R (TV.i v).val t:=λt v e x=>by
  subst e;exact A t Fp (p.ext x) (.an x)
 refine⟨_,p.var.ah rfl,Peers.RF L ⟨_,rfl,alb (λn=>o h 3 (by simp_all) (ald _)) λn=>?_⟩⟩;rw[if_neg (by simp_all)]at f;refine⟨c.iy,p.var.ah rfl,ID (λj=>o h 4 (by simp_all) (ald _)) λj=>?_⟩;rw[if_neg j]at f;refine RV p q.now.1 q.now.2 B (λN O z=>?_) λd G O b P z=>?_
 ·rw[N]at f;refine⟨_,_,_,_,_,_,_,_,rfl,aa λQ C D S=>aq (t0:=bh.tv) C cv fR λj v4 f4 T=>?_⟩;exact aly (o j 5 f (z.trans (ak3 D f4 λi l=>ak7 (ak8 l))))
 rw[G]at f;simp only at f;refine⟨_,_,_,_,_,_,_,_,rfl,aa λQ C D S=>aq (t0:=bh.tv) C cv fR λj v4 f4 T=>?_⟩;have H:=ak3 D f4 λi l=>ak7 (ak8 l);have u:=z.trans H;have v4:=v4;rw[KW];refine alb (λn=>o j _ (by rw[f,if_pos (by simpa using n)]) u) λn=>?_;have U:dw c V s (d.ms ak4) d.row=0:=by simpa using n
 rw[if_neg (by rw[U];simp)]at f;have w:=p.ext u;refine⟨d.kind,v4.ah rfl,ID (λe=>?_) λe=>?_⟩
 ·rw[if_pos e]at f;subst f;rw[<-Uf (b:=b)]at A;refine bB (m:=d.ms b) v4 (sI (m:=d.ms b) (row:=d.row) w (P.ext H) (oF G) B q.Ek q.Cd ω λy W X Y=>⟨_,rfl,A y W X (.cut u Y)⟩)
 ·rw[if_neg e]at f;subst f;obtain⟨I,wA,Z,hW⟩:=w.wait;refine⟨_,w.var.ah rfl,Pool.Xi (peer:=peer) (text:=text) Z p.can.eH.1 p.can.eH.2 q.AG B λy J w5 K=>⟨_,_,rfl,?_⟩⟩
  have st:Step (Fp 5) j (λi=>i=a.wt\/dV I J i) y:=by
   rw[hW]
   exact⟨K.only.mono λi l=>.inr l,λi l=>by
    rcases l with E|E
    ·exact .inl (.inl E)
    ·exact(K.new i E).imp .inr id⟩
  exact A y _ (w.B_ ⟨I,J,w5,rfl⟩ st) (.cut u (alf st))
theorem KX{k:Nat}(q:Kept c s k){peer:Int}{text:LU}(A:text.length<1000){m:Ms}{row:List Bool}:Kept c (c5 c s peer m row text).2 (k+1)/\vv 64 s {(c5 c s peer m row text).2 with left:=s.left}:=by
 have j:=q.left;have l:=q.gone;have n:Kept c s (k+1):=⟨q.now,q.AG,q.Cd,q.AH,q.Ek,ω,ω⟩;have h:∀{b:St},b.tb=s.tb->b.wait=s.wait->b.sc=s.sc->b.gone=s.gone->b.now=s.now->vv 64 s {b with left:=s.left}:=λa d e f i=>⟨a,d,e,f,i,by grind⟩;unfold c5;split
 ·refine⟨⟨q.now,q.AG,KU q.Cd,q.AH,λx g=>KS A q.Ek x g,⟨j.1,?_⟩,by grind⟩,h rfl rfl rfl rfl rfl⟩;have:=VO (want:=zT) (most:=c.eV) (quota:=c.quo) (peer:=peer) (text:=text) (S:=s.kids)
  grind
 ·split
  ·simp_all
  ·split
   ·simp_all
   ·unfold lQ;obtain⟨a,d,e⟩:=CS (1+s.kids.length) [bw m row] {s with N:=gw s.N c.no (bw m row) m.target m.slot};dsimp only at a d e⊢;have o:=q.Cd;have f:=a.left;dsimp only at f;have i:=KR (no:=c.no) (1+s.kids.length) [bw m row] {s with N:=gw s.N c.no (bw m row) m.target m.slot};exact⟨⟨by rw[a.now];exact q.now,by rw[a.wait];exact q.AG,ω,by rw[a.wait];exact q.AH,λx g=>q.Ek x (d x g),ω,by rw[a.gone];grind⟩,h a.tb a.wait a.sc a.gone a.now⟩
theorem zj{k:Nat}(q:Kept c s k){peer:Int}{text:LU}(A:text.length<1000):Kept c (aG c V s peer text).2 (k+1)/\(aG c V s peer text).2.sc=s.sc/\(aG c V s peer text).2.gone=s.gone/\(aG c V s peer text).2.now=s.now/\(aG c V s peer text).2.tb=s.tb:=by
 have e:=q.left;have f:=q.gone;have g:Kept c s (k+1):=⟨q.now,q.AG,q.Cd,q.AH,q.Ek,ω,ω⟩;unfold aG;split
 ·simp_all
 split
 ·simp_all
 split
 ·simp_all
 split
 ·simp_all
 split
 ·obtain⟨b,a⟩:=KX q A;exact⟨b,a.sc,a.gone,a.now,a.tb⟩
 ·exact⟨⟨q.now,KU q.AG,q.Cd,λx d=>KS A q.AH x d,q.Ek,by grind,by grind⟩,rfl,rfl,rfl,rfl⟩
theorem k_(p:aR h g a c V s Fp){k:Nat}(q:Kept c s k)(E:k<100000){peer:Int}(G:(Lit.int .i64 peer).wf=true){text:LU}(A:text.length<1000)
 (B:∀h' P n d,aR h' g a c V {(aG c V s peer text).2 with sc:=P,gone:=s.gone+n} d->Step (dm Fp) h (dm d) h'->Peers.lN c.pe s.sc peer (iu (aG c V s peer text).1) P n->R (TV.i (aG c V s peer text).1).val h'):
 Cl 20 [.ptr (PT g),.i peer,.str text] h R:=by
 apply me;delta jZ aD dJ dX aT bA;have y:=q.gone;obtain⟨_,j1,e,_,_⟩:=zj (V:=V) q (peer:=peer) A;generalize l:aG c V s peer text=z at B j1 e;refine aln (R1 p q E A λm o b t=>?_);rw[l]at b⊢;refine⟨_,rfl,_,b.var.ah rfl,RO ⟨_,rfl,ald _,?_⟩⟩;obtain⟨r,f,u⟩:=b.who;rw[j1,e]at f;refine Peers.Xv f G ω λj P k v w f2=>⟨rfl,?_⟩
 have st:Step (o 6) m (λi=>i=a.wh\/i=r) j:=by
  rw[u];exact⟨f2,λi x=>.inl x⟩
 exact B j P k _ (b.CR ⟨r,w,rfl⟩ st) (t.trans (alf st)) v
end
end Gate
end Go.Proofs.YtennbinbffdimaaGreat
namespace Go.Vc
open Go
section
variable{K V:Type}[DecidableEq K]{κ:K->TV}{ν:V->TV}{C:Ctx}{d:TypeDesc}
def kJ(del:K×V×Nat->Bool)(s:Nat->Bool)(es:List (K×V×Nat)):List (K×V×Nat):=es.filter λe=>!(s e.2.2&&del e)
def FF(s:Nat->Bool)(b:Nat):Nat->Bool:=λn=>s n||decide (n=b)
omit [DecidableEq K]in
theorem Ug(del:K×V×Nat->Bool)(es:List (K×V×Nat)):kJ del (λ_=>false) es=es:=by
 unfold kJ;simp
omit [DecidableEq K]in
theorem XQ{del:K×V×Nat->Bool}{s:Nat->Bool}{es:List (K×V×Nat)}(h:∀e∈es,s e.2.2=true):kJ del s es=es.filter λe=>!del e:=by
 unfold kJ;exact alJ λe a=>by rw[h e a,alD]
theorem KY(E:Emb C d κ)(k:K):∀es:List (K×V×Nat),(es.map (·.1)).Nodup->fN (κ k) (mh κ ν es)=mh κ ν (es.filter λe=>decide (e.1≠k))
 |[],_=>rfl
 |e::es,b=>by
  obtain⟨q,A⟩:=List.nodup_cons.1 (show(e.1::es.map (·.1)).Nodup from b);have c:=KY E k es A;have d1:mh κ ν (e::es)=(κ e.1,ν e.2.1,e.2.2)::mh κ ν es:=rfl;rw[d1];simp only[fN,E.eq,decide_eq_true_eq];by_cases h:k=e.1
  ·rw[if_pos h,List.filter_cons_of_neg (by simp[h])];congr 1;symm
   exact List.filter_eq_self.2 λx f=>by
    have:x.1≠k:=λa=>q (by rw[<-h,<-a];exact alk.2 ⟨x,f,rfl⟩);simpa using this
  ·rw[if_neg h,List.filter_cons_of_pos (by simpa using λa=>h a.symm),c];rfl
theorem KZ{del:K×V×Nat->Bool}{s:Nat->Bool}{es:List (K×V×Nat)}{x:K×V×Nat}(hx:x∈es)(hk:(es.map (·.1)).Nodup)(hb:(es.map (·.2.2)).Nodup)(hd:del x=true):
 kJ del (FF s x.2.2) es=(kJ del s es).filter λe=>decide (e.1≠x.1):=by
 unfold kJ;rw[List.filter_filter];refine alJ λe he=>?_;by_cases h:e.2.2=x.2.2
 ·have hex:e=x:=CT hb he hx h;rw[hex];unfold FF;simp[hd]
 ·have hne:e.1≠x.1:=λhh=>h (by rw[CT hk he hx hh]);unfold FF;simp[h,hne]
where
 CT {A B:Type} {f:A->B}:∀{l:List A},(l.map f).Nodup->∀{a b:A},a∈l->b∈l->f a=f b->a=b
  |[],_,_,_,ha,_,_=>by cases ha
  |c::l,hn,a,b,ha,hb,he=>by
   obtain⟨h1,h2⟩:=List.nodup_cons.1 (show(f c::l.map f).Nodup from hn)
   rcases alp.1 ha with e1|ha<;>rcases alp.1 hb with e2|hb
   ·rw[e1,e2]
   ·exact absurd (alk.2 ⟨b,hb,by rw[<-he,e1]⟩) h1
   ·exact absurd (alk.2 ⟨a,ha,by rw[he,e2]⟩) h1
   ·exact CT h2 ha hb he
omit [DecidableEq K]in
theorem Uh{del:K×V×Nat->Bool}{s:Nat->Bool}{es:List (K×V×Nat)}{x:K×V×Nat}(q:x∈es)(A:(es.map (·.2.2)).Nodup)(B:del x=false):kJ del (FF s x.2.2) es=kJ del s es:=by
 unfold kJ;refine alJ λe a=>?_;by_cases h:e.2.2=x.2.2
 ·have b:e=x:=KZ.CT A a q h;rw[b,B];simp
 ·unfold FF;simp[h]
def K0(q:Nat)(es:List (K×V×Nat))(h:af):Nat:=match h[q]? with
 |some (.mapIter _ _ seen _)=>(es.filter λe=>!seen.contains e.2.2).length
 |_=>0
theorem Ce(seen:Array Nat)(b n:Nat):(seen.push b).contains n=FF (λn=>seen.contains n) b n:=by
 unfold FF;rw[Bool.eq_iff_iff,Bool.or_eq_true,decide_eq_true_eq,Array.contains_iff_mem,Array.contains_iff_mem,Array.mem_push]
omit [DecidableEq K]in
theorem K1{es:List (K×V×Nat)}{seen:Array Nat}{x:K×V×Nat}(q:x∈es)(A:seen.contains x.2.2=false):
 (es.filter λe=>!(seen.push x.2.2).contains e.2.2).length<(es.filter λe=>!seen.contains e.2.2).length:=by
 have e:(es.filter λe=>!(seen.push x.2.2).contains e.2.2)=(es.filter λe=>!seen.contains e.2.2).filter λe=>decide (e.2.2≠x.2.2):=by
  rw[List.filter_filter];refine alJ λy _=>?_;rw[Ce];unfold FF;rw[Bool.not_or,Bool.and_comm];simp
 rw[e];have a:x∈es.filter λe=>!seen.contains e.2.2:=alv.2 ⟨q,by rw[A];rfl⟩;refine Nat.lt_of_le_of_ne (alH _ _) λb=>?_;have:=List.length_filter_eq_length_iff.1 b x a;simp at this
end
end Go.Vc
namespace Go.Proofs.YtennbinbffdimaaGreat
open Go Go.Vc
namespace Gate
open Board (Vd Cf Vt aq)
open Peers (sZ y_)
section
variable{R:Rq}{h h':af}{b r n:Nat}{La Ou:Sl}{ps:List (Option Nat)}{t:Tb}
theorem Pg(p:Kb h b r La Ou ps t n){slot:Int}(al:slot<=1073741824)
 (A:∀h',Kb h' b r La Ou ps (dW t slot) n->ag (·=r) h h'->R (alc []).val h'):Cl 174 [.ptr (PT b),.i slot] h R:=by
 apply vA;delta uu U_ QE EV fP LP;have hs:=p.ok.slots;have am:=p.map.lt;have O:=p.map.ne p.var;intro J P;refine aln (ID (λB=>A h (by unfold dW;rw[if_pos B];exact p) (alL _ _)) λB=>P _ h ?_);clear P J;have C:=p.ok.forget slot;have eF:dW t slot={t with first:=t.first.filter λe=>decide (aP t slot<=e.1.2)}:=by unfold dW;rw[if_neg B]
 rw[eF]at C A;have ao:=sL p.ok (show 0<=slot by omega) al;obtain⟨E,Q⟩:∃E,E=aP t slot:=⟨_,rfl⟩;rw[<-Q]at C A ao;obtain⟨es,c,S,T,l⟩:=p.map;obtain⟨del,D⟩:∃del:(Int×Int)×Bs 32×Nat->Bool,del=λe=>decide (e.1.2<E):=⟨_,rfl⟩
 have U:(es.map (·.1)).Nodup:=by
  have:=p.ok.one;rw[<-T]at this;unfold nC vY at this;rw[List.map_map]at this;exact this
 refine⟨some r,p.var.ah rfl,mh kM kR es,c,S,?_⟩;have V:=ak9 h (.mapIter (some r) c #[] c);refine⟨λ_ g=>∃seen,g[h.size]? =some (.mapIter (some r) c seen c)/\g[r]? =some (bX (mh kM kR (kJ del (λn=>seen.contains n) es)) c)/\ag (·=r) h g,λ_ g=>K0 h.size es g,⟨#[],by simp,?_,als V⟩,?_⟩
 ·rw[V.same r am,S]
  have:kJ del (λn=>(#[]:Array Nat).contains n) es=es:=by
   have e:(λn=>(#[]:Array Nat).contains n)=λ_=>false:=by funext n;simp
   rw[e,Ug]
  rw[this]
 rintro _ a ⟨seen,m,s,d⟩;have F:∀y∈kJ del (λn=>seen.contains n) es,y.2.2<c:=λy G=>l.1 y (alv.1 G).1;have H:((kJ del (λn=>seen.contains n) es).map (·.2.2)).Nodup:=l.2.sublist (List.filter_sublist.map _);have W:¬In La r:=p.nla.2;refine⟨rfl,r,c,c,seen,mh kM kR (kJ del (λn=>seen.contains n) es),c,m,s,λe j=>?_,ala _,λap=>?_,λe j I=>?_⟩
 ·obtain⟨y,G,rfl⟩:=alk.1 j;exact F y G
 ·have ar:∀e∈es,seen.contains e.2.2=true:=λe j=>by
   cases X:seen.contains e.2.2 with
   |true=>rfl
   |false=>
    have aw:e∈kJ del (λn=>seen.contains n) es:=alv.2 ⟨j,by show(!(seen.contains e.2.2&&del e))=true;rw[X];rfl⟩;have:=ap _ (alk.2 ⟨e,aw,rfl⟩);rw[<-X];exact this
  rw[XQ ar]at s F H
  have m1:mj kM kR a r (t.first.filter λe=>decide (E<=e.1.2)):=by
   refine⟨_,c,s,?_,F,H⟩;rw[<-T,D];unfold vY;rw[List.filter_map];congr 1;refine alJ λe _=>?_;simp only[Function.comp];rw[<-decide_not];exact decide_eq_decide.2 ω
  have e:∀i,i=r->¬In La i:=λi e=>e▸W;exact A a ⟨p.var.only d λe=>O e,p.la.keep d λ_ f e=>W (e▸f),p.vs.only d λq hq e=>(p.nv q hq).2.1 e,p.ou.keep d λ_ f e=>p.nou.2 (e▸f),m1,C,p.nla,p.nou,p.lo,p.nv⟩ d
 ·obtain⟨x,Y,rfl⟩:=alk.1 j;simp only at I;have u:x∈es:=(alv.1 Y).1;have aE:h.size<a.size:=(Array.getElem?_eq_some_iff.1 m).1;have o2:=sZ (h:=a) (r:=h.size) (o:=.mapIter (some r) c (seen.push x.2.2) c)
  have Z:(a.setIfInBounds h.size (.mapIter (some r) c (seen.push x.2.2) c))[r]? =some (bX (mh kM kR (kJ del (λn=>seen.contains n) es)) c):=by
   rw[o2.same r (by have:=d.size;omega) ω,s]
  have ab:(a.setIfInBounds h.size (.mapIter (some r) c (seen.push x.2.2) c))[h.size]? =some (.mapIter (some r) c (seen.push x.2.2) c):=y_ aE
  have a0:ag (·=r) h (a.setIfInBounds h.size (.mapIter (some r) c (seen.push x.2.2) c)):=
   ⟨alC d.size o2.size,λi f hn=>(o2.same i (Nat.lt_of_lt_of_le f d.size) ω).trans (d.same i f hn)⟩
  have a5:(a.setIfInBounds h.size (.mapIter (some r) c (seen.push x.2.2) c)).size=a.size:=by simp
  refine⟨rfl,r,c,seen,mh kM kR (kJ del (λn=>seen.contains n) es),c,(kM x.1,kR x.2.1,x.2.2),ab,Z,alk.2 ⟨x,Y,rfl⟩,?_,x.1.1,x.1.2,rfl,?_⟩
  ·have:(mh kM kR (kJ del (λn=>seen.contains n) es)).map (λx=>x.2.2)=(kJ del (λn=>seen.contains n) es).map (·.2.2):=by
    unfold mh;rw[List.map_map];rfl
   rw[this];exact H
  generalize a.setIfInBounds h.size (.mapIter (some r) c (seen.push x.2.2) c)=h2 at*;refine aa λh3 v3 x3 s3=>aq (t:=kM x.1) v3 rfl rfl λk v4 f4 s4=>?_;have K:Ext h2 k:=ak3 x3 f4 λi f=>ak7 (ak8 f);have v:ag (·=r) h k:=a0.trans (.an K);have ac:=p.var.only v λe=>O e;have ad:Var 310 k h2.size (.agg [.i x.1.1,.i x.1.2]):=v4;refine⟨x.1.2,ad.at.2,t.slots,ac.ah rfl,ω,?_⟩
  have a1:alo .i64 (alG slot t.slots)=E:=by
   have:alG slot t.slots=E:=by rw[Q];rfl
   rw[this];exact wrap_i64 ω ω
  rw[a1];have w:=K.same h.size ω;rw[ab]at w;have L:=K.same r (by have:=d.size;omega);rw[Z]at L;have a2:r<k.size:=by have:=v.size;omega
  have ae:(λn=>(seen.push x.2.2).contains n)=FF (λn=>seen.contains n) x.2.2:=by
   funext n;exact Ce seen x.2.2 n
  refine ID (λa3=>?_) λa4=>?_
  ·refine⟨some r,ac.ah rfl,x.1.1,x.1.2,ad.at,mh kM kR (kJ del (λn=>seen.contains n) es),c,L,Ga Vr _,?_⟩;have M:del x=true:=by rw[D];exact decide_eq_true a3
   have o5:=sZ (h:=k) (r:=r) (o:=bX (fN (kM x.1) (mh kM kR (kJ del (λn=>seen.contains n) es))) c);have N:=o5.same h.size ω ω;rw[w]at N;refine⟨⟨seen.push x.2.2,N,?_,v.trans o5⟩,?_⟩
   ·rw[y_ a2,ae,KZ u U l.2 M];exact congrArg (λz=>some (bX z c)) (KY (ν:=kR) Vr x.1 _ (U.sublist (List.filter_sublist.map _)))
   ·show K0 h.size es _<K0 h.size es _;unfold K0;rw[N,m];exact K1 u I
  ·have M:del x=false:=by rw[D];exact decide_eq_false a4
   refine⟨⟨seen.push x.2.2,w,?_,v⟩,?_⟩
   ·rw[L,ae,Uh u l.2 M]
   ·show K0 h.size es _<K0 h.size es _;unfold K0;rw[w,m];exact K1 u I
theorem Ph{st:List Int}{t:Tb}{slot:Int}:∀r i,aK (dW t slot) st i r=aK t st i r:=λr i=>by
 unfold dW;split<;>rfl
theorem Pj{g:Nat}{a:Ad}{c:Cf}{V:List Vd}{s:St}{q:Nat->Nat->Prop}(p:aR h g a c V s q){slot:Int}(A:slot<=1073741824)
 (B:∀h' d,aR h' g a c V {s with tb:=dW s.tb slot} d->Step (dm q) h (dm d) h'->R (alc []).val h'):
 Cl 106 [.ptr (PT a.bk),.i slot] h R:=by
 apply xG;delta cu fP aT;refine aly ⟨_,p.bk.ah rfl,?_⟩;obtain⟨r,La,Ou,ps,j,e⟩:=p.gH;refine Pg j A λf l f1=>⟨rfl,?_⟩;have st:Step (q 2) h (q 2) f:=⟨f1.mono λi b=>by rw[e,b];exact .inr (.inl rfl),λi b=>.inl b⟩;have X:=p.x.FD (t':=dW s.tb slot) ⟨r,La,Ou,ps,l,e⟩ st;have w:=p.x.aay (k:=2) δ p.FP st;rw[<-Re (t':=dW s.tb slot) Ph]at w;exact B f _ (X.b w) (alf st)
end
end Gate
namespace Gate
open Board (Vd Cf Vt Ms Dm jx aq aY bh jG Et bB fR cv)
open Pool (It WL dV Fit Bk lK)
open Peers (Pe)
noncomputable def qQ(c:Cf)(V:List Vd)(x:It):List Vt:=jG V.length c.aQ ((lK x.text).ms ak4) (lK x.text).row
def iw(N:List Nd)(t:Tb)(W:List Vt):Tb:=W.foldl (λt v=>(iS N t v).2) t
noncomputable def f_(c:Cf)(V:List Vd)(N:List Nd)(t:Tb)(L:List It):Tb:=L.foldl (λt x=>iw N t (qQ c V x)) t
noncomputable def fC(c:Cf)(V:List Vd)(s:St):Bool×St:=
 if 1073741824<=s.now then(false,s)
 else(true,{s with now:=s.now+1,sc:=Peers.tick c.dec s.sc,wait:=s.wait.filter λx=>!decide (x.slot<s.now+1),
                   tb:=dW (f_ c V s.N s.tb (s.wait.filter λx=>decide (x.slot<s.now+1))) (Vc.mx (s.now+1-Clock.fB c.win) 0)})
theorem K4{n:Nat}{aQ:Int}{d:Dm}{b:Sl}{row:List Bool}:jG n aQ (d.ms b) row=jG n aQ (d.ms ak4) row:=by
 rfl
def Safe(Q:Nat->Prop)(F:Nat->Nat->Prop)(h:af):Prop:=∀i,Q i->¬dm F i/\i<h.size
theorem Safe.step{Q:Nat->Prop}{F F':Nat->Nat->Prop}{h h':af}(q:Safe Q F h)(st:Step (dm F) h (dm F') h'):Safe Q F' h':=λi a=>by
 obtain⟨d,e⟩:=q i a;have:=st.only.size;refine⟨λb=>?_,ω⟩;rcases st.new i b with c|c<;>grind
theorem Safe.elems{Q:Nat->Prop}{F:Nat->Nat->Prop}{h h':af}(q:Safe Q F h)(f:ag (dm F) h h'){sz:Nat}{s:Sl}{ts:List TV}(e:aj sz h s ts)(A:∀i,In s i->Q i):aj sz h' s ts:=
 TV.ck f e λi a=>(q i (A i a)).1
section
variable{R:Rq}{h h':af}{g:Nat}{a:Ad}{c:Cf}{V:List Vd}{s:St}{Fp:Nat->Nat->Prop}
theorem VP{s:Sl}{W:List Vt}(e:aj 34 h s (Et W)){j:Nat}{v:Vt}(q:W[j]? =some v){K:Int->Int->Bs 32->Prop}(B:K v.who v.slot v.target):
 0<=(j:Int)/\(j:Int)<(s.len:Int)/\Nn s.a λl=>∃(n:Int),∃(A:Int),∃(b:Bs 32),(ah h l.b (l.o+(j:Int).toNat*34) (.i n)/\ah h l.b (l.o+(j:Int).toNat*34+1) (.i A)/\av h l.b (l.o+(j:Int).toNat*34+1+1) 32 b)/\K n A b:=by
 have c:=e.len;have:=(alP.1 q).1;rw[ak5]at c;refine e.read ω ω λl t _ a d=>?_;rw[alu,ale,q]at a;cases a;exact⟨_,_,_,d,B⟩
theorem K5(p:aR h g a c V s Fp){k:Nat}(M:Kept c s k)
 (O:∀h' ar,aR h' g a c V (fC c V s).2 ar->Step (dm Fp) h (dm ar) h'->R (alB (fC c V s).1).val h'):
 Cl 39 [.ptr (PT g)] h R:=by
 apply qn;delta aF gL fk aO cu cE fE bK aT lq;have kn:=M.now;have cw:=Clock.CP c.win;intro J HJ;refine aln ⟨_,p.var.ah rfl,?_⟩;by_cases ae:1073741824<=s.now
 ·have e:fC c V s=(false,s):=by unfold fC;rw[if_pos ae]
  rw[e]at O;exact Clock.aal p.kz ae ⟨_,rfl,aly (O h Fp p (.an (ald _)))⟩
 refine Clock.XB p.kz ω kn.1 λz c1 f1 s1=>⟨_,rfl,aln (HJ _ z ?_)⟩;obtain⟨N,ba⟩:=p.Pd c1 f1;obtain⟨n,hn⟩:∃n,n=s.now+1:=⟨_,rfl⟩;rw[<-hn]at N;obtain⟨r,pe,hP⟩:=N.who;refine⟨_,N.var.ah rfl,Peers.XA pe λP bb f2=>⟨rfl,?_⟩⟩
 have aw:Step (Fp 6) z (λi=>i=a.wh\/i=r) P:=by
  rw[hP];exact⟨f2,λi b=>.inl b⟩
 have A:=N.CR ⟨r,bb,rfl⟩ aw;have al:=ba.trans (alf aw);obtain⟨S,bc⟩:∃S,S=nT Fp 6 (λi=>i=a.wh\/i=r):=⟨_,rfl⟩;rw[<-bc]at A al;obtain⟨wb,wA,wp,hW⟩:=A.wait;refine⟨_,A.var.ah rfl,_,A.var.ah rfl,Clock.Fz A.kz ⟨_,rfl,ald _,?_⟩⟩;refine Pool.TQ wp (λx I=>(M.AH x I).1) λh3 A3 t bs w3 g3 T o3 bd=>⟨_,rfl,?_⟩
 have am:Step (S 5) P (λi=>i=a.wt\/dV wb A3 i) h3:=by
  rw[hW]
  exact⟨g3.only.mono λi b=>.inr b,λi b=>by
   rcases b with z|z
   ·omega
   ·exact(g3.new i z).imp .inr id⟩
 have U:=A.B_ ⟨wb,A3,w3,rfl⟩ am;have aE:=al.trans (alf am);obtain⟨E,a0⟩:∃E,E=nT S 5 (λi=>i=a.wt\/dV wb A3 i):=⟨_,rfl⟩;rw[<-a0]at U aE;have z2:=al.only.size;have z3:=am.only.size;obtain⟨nn,ch,bi,bj,a1⟩:=bd.ex;have bk:=o3.lt;obtain⟨L,X⟩:∃L,L=s.wait.filter λx=>decide (x.slot<n):=⟨_,rfl⟩;have T:bs.map Bk.of=L.map λx=>(x.root,lK x.text):=by rw[X];exact T
 have ci:bs.length=L.length:=by have:=congrArg List.length T;simpa using this
 have cj:=M.AG;have cl:L.length<=s.wait.length:=by rw[X];exact alH _ _
 have ce:=p.can.eH;have tl:=o3.elems.len;rw[ak5]at tl;have cp:=p.can.len;have el:V.length=c.vals.len:=by have:=p.vals.len;rwa [ak5]at this
 obtain⟨Q,hQ⟩:∃Q:Nat->Prop,Q=λi=>In t i\/∃k∈bs,In k.b i:=⟨_,rfl⟩
 have a2:∀i,nn<=i->¬dm E i:=λi b⟨k,f⟩=>by
  rw[a0]at f;by_cases e:k=5
  ·rw[e,bY]at f;rcases f with f|f
   ·have:=A.sep.lt 5 a.wt (by rw[hW];exact .inl rfl);omega
   ·have:=bi i f;omega
  ·rw[aB e]at f;have:=A.sep.lt k i f;omega
 have bl:Safe Q E h3:=λi b=>by
  rw[hQ]at b;rcases b with⟨l,u,e⟩|⟨y,Y,l,u,e⟩
  ·have z:=bj l u;have P:=bk l u;exact⟨a2 i ω,ω⟩
  ·have z:=(a1 y Y).2 l u;exact⟨a2 i ω,ω⟩
 obtain⟨q,hs3⟩:∃q:St,q={s with now:=n,sc:=Peers.tick c.dec s.sc,gone:=s.gone,wait:=s.wait.filter λx=>!decide (x.slot<n)}:=⟨_,rfl⟩;have U:aR h3 g a c V q E:=by rw[hs3];exact U
 have hT:fC c V s=(true,{q with tb:=dW (f_ c V s.N s.tb L) (Vc.mx (n-Clock.fB c.win) 0)}):=by unfold fC;rw[if_neg ae,X,hs3,hn]
 rw[hT]at O;have hN:q.N=s.N:=by rw[hs3]
 have bm:q.tb=s.tb:=by rw[hs3]
 refine⟨λσ o=>∃i:Nat,σ=i/\i<=bs.length/\∃F,aR o g a c V {q with tb:=f_ c V s.N s.tb (L.take i)} F/\Step (dm Fp) h (dm F) o/\Safe Q F o/\aj 53 o t (bs.map Bk.Xj)/\∀k∈bs,aj 1 o k.b (aY k.d.row),
  λσ _=>(bs.length-σ).toNat,⟨0,rfl,alI _,E,by rw[List.take_zero];unfold f_;rw[List.foldl_nil,<-bm];exact U,aE,bl,o3.elems,λk f=>(a1 k f).1⟩,?_⟩
 rintro σ h4 ⟨i,rfl,b,F4,C,a3,bo,e4,k4⟩;refine ID (λa4=>?_) λa4=>?_
 ·have bp:i<bs.length:=ω;obtain⟨x,I⟩:∃x,L[i]? =some x:=⟨_,alg ω⟩;refine e4.read ω a4 λl1 t1 cs a5 br=>?_;rw[alu,ale]at a5;obtain⟨y,Y,rfl⟩:=alA.1 a5
  have a6:y.d=lK x.text:=by
   have Z:(bs.map Bk.of)[i]? =some y.of:=by rw[ale,Y];rfl
   rw[T,ale,I]at Z;injection Z with Z;injection Z with ct bt;exact bt.symm
  have bx:=alx Y;refine⟨y.ms.kind,y.ms.slot,y.ms.target,y.ms.ax,y.ms.body,y.ms.bits,y.ms.tag,br,?_⟩;refine aa λh5 v5 x5 s5=>aq (t0:=bh.tv) v5 (t:=y.ms.tv) cv fR λh6 v6 f6 s6=>?_;have ab:Ext h4 h6:=ak3 x5 f6 λi b=>ak7 (ak8 b);have p6:=C.ext ab;have z46:=ab.size;refine⟨c.vals,c.ep,c.aQ,c.no,c.eV,c.eH,c.quo,c.pe,c.iy,c.win,c.bH,c.dec,p6.var.at.1,bB (m:=y.ms) v6 ?_⟩
  have b0:y.d.row.length<500:=by
   have b1:x∈s.wait:=by
    have:=alx I;rw[X]at this;exact(alv.1 this).1
   obtain⟨_,d,hd,_,_⟩:=M.AH x b1;rw[a6,Pool.rY hd];exact Pool.oF hd
  refine Board.RU (c:=c) (m:=y.ms) (row:=y.d.row) ω ((k4 y bx).ext ab) b0 λh7 w e7 x7 b2=>⟨_,rfl,?_⟩;have ac:=ab.trans x7;have z7:=x7.size;have p7:=p6.ext x7;obtain⟨W,ao⟩:∃W,W=jG c.vals.len c.aQ y.ms y.d.row:=⟨_,rfl⟩;rw[<-ao]at e7
  have cx:W.length<=1000:=by
   have:=Board.si (n:=c.vals.len) (aQ:=c.aQ) (m:=y.ms) (row:=y.d.row);rw[ao];unfold Board.jG;split
   ·simp
   ·rw[ak5];omega
  have b3:W=qQ c V x:=by
   rw[ao];unfold qQ Bk.ms;rw[K4,<-a6,el]
  obtain⟨B,hB⟩:∃B,B=f_ c V s.N s.tb (L.take i):=⟨_,rfl⟩;rw[<-hB]at p7;have a7:=e7.len;unfold Et at a7;rw[ak5]at a7
  have b5:∀l,W≠[]->w.a=some l->l.b<h7.size:=λl D u=>by
   obtain⟨v,hv⟩:∃v,W[0]? =some v:=⟨_,alg (List.length_pos_iff.2 D)⟩;have b6:=e7.get l u 0 v.tv (by unfold Et;rw[ale,hv];rfl);exact xY (show ah h7 l.b (l.o+0*34) (.i v.who)from b6.1)
  have b7:Safe (λi=>Q i\/(W≠[]/\In w i)) F4 h7:=λj hj=>by
   rcases hj with hj|⟨D,l,u,e⟩
   ·have:=bo j hj;exact⟨this.1,by have:=ac.size;omega⟩
   ·have z:=b2 l u;have P:=b5 l D u;exact⟨λ⟨k,f⟩=>by have:=C.sep.lt k j f;omega,ω⟩
  refine⟨λσ o=>∃j:Nat,σ=j/\j<=W.length/\∃F,aR o g a c V {q with tb:=iw s.N B (W.take j)} F/\Step (dm Fp) h (dm F) o/\Safe (λi=>Q i\/(W≠[]/\In w i)) F o/\aj 53 o t (bs.map Bk.Xj)/\(∀k∈bs,aj 1 o k.b (aY k.d.row))/\(W≠[]->aj 34 o w (Et W)),
   λσ _=>(W.length-σ).toNat,⟨0,rfl,alI _,F4,by rw[List.take_zero];exact p7,a3.trans (.an ac),b7,e4.ext ac,λk f=>(k4 k f).ext ac,λ_=>e7⟩,?_⟩
  rintro σ h8 ⟨j,rfl,hj,F8,p8,a8,ap,e8,k8,w8⟩;refine ID (λb8=>?_) λb8=>?_
  ·have G:j<W.length:=ω;have D:W≠[]:=λe=>by rw[e]at G;simp at G
   obtain⟨v,hv⟩:∃v,W[j]? =some v:=⟨_,alg G⟩;refine VP (w8 D) hv ?_;refine aa λh9 v9 x9 s9=>aq (t:=v.tv) v9 rfl rfl λa9 v10 f10 cy=>?_;have H:Ext h8 a9:=ak3 x9 f10 λi b=>ak7 (ak8 b);have a':=p8.ext H;refine⟨_,a'.var.ah rfl,v.who,v.slot,v.target,v10.at,Ua a' λcA b9 ca K=>⟨_,rfl,?_⟩⟩;have cB:=H.size;have ad:Safe (λi=>Q i\/(W≠[]/\In w i)) F8 a9:=λi b=>⟨(ap i b).1,by have:=(ap i b).2;omega⟩
   have eT:iw s.N B (W.take (j+1))=(iS s.N (iw s.N B (W.take j)) v).2:=by
    unfold iw;rw[List.take_add_one,hv,List.foldl_append];rfl
   rw[show alo .i64 ((j:Int)+1)=((j+1:Nat):Int) by rw[wrap_i64 ω ω];omega]
   refine⟨⟨j+1,rfl,G,b9,?_,(a8.trans (.an H)).trans K,ad.step K,ad.elems K.only (e8.ext H) λi b=>.inl (by rw[hQ];exact .inl b),λk f=>ad.elems K.only ((k8 k f).ext H) λi b=>.inl (by rw[hQ];exact .inr ⟨k,f,b⟩),
    λ_=>ad.elems K.only ((w8 D).ext H) λi b=>.inr ⟨D,b⟩⟩,by dsimp only;omega⟩
   rw[eT,show iS s.N=iS q.N by rw[hN]];exact ca
  ·have G:j=W.length:=ω;rw[G,alE]at p8;rw[show alo .i64 ((i:Int)+1)=((i+1:Nat):Int) by rw[wrap_i64 ω ω];omega];refine⟨⟨i+1,rfl,bp,F8,?_,a8,λi b=>ap i (.inl b),e8,k8⟩,by dsimp only;omega⟩
   have eT:f_ c V s.N s.tb (L.take (i+1))=iw s.N B (qQ c V x):=by
    rw[hB];unfold f_;rw[List.take_add_one,I,List.foldl_append];rfl
   rw[eT,<-b3];exact p8
 ·have cd:i=L.length:=ω;rw[cd,alE]at C;have n3:q.now=n:=by rw[hs3]
  refine⟨_,C.var.ah rfl,_,C.var.ah rfl,Clock.yl C.kz (by dsimp only;omega) (by dsimp only;omega) cw.1 cw.2 ⟨_,rfl,ald _,?_⟩⟩;refine Pj C ?_ λh5 F5 p5 cf=>⟨rfl,O h5 F5 ?_ (a3.trans cf)⟩
  ·dsimp only;rw[n3];unfold Vc.mx;split<;>omega
  ·dsimp only at p5⊢;rw[n3]at p5⊢;exact p5
end
end Gate
namespace Gate
open Board (Vd Cf aq jx)
open Pool (rts eM Dw)
def dO(m:Nat)(A B D E:Sl):Nat->Nat->Prop
 |0=>(·=m)
 |1=>In A
 |2=>In B
 |3=>In D
 |4=>In E
 |_=>λ_=>False
theorem aaH(m:Nat)(A A' B D E:Sl):nT (dO m A B D E) 1 (In A')=dO m A' B D E:=by
 funext k
 match k with
 |0|1|2|3|4|_+5=>rfl
theorem aaI(m:Nat)(A B B' D E:Sl):nT (dO m A B D E) 2 (In B')=dO m A B' D E:=by
 funext k
 match k with
 |0|1|2|3|4|_+5=>rfl
theorem aaJ(m:Nat)(A B D D' E:Sl):nT (dO m A B D E) 3 (In D')=dO m A B D' E:=by
 funext k
 match k with
 |0|1|2|3|4|_+5=>rfl
theorem aaK(m:Nat)(A B D E E':Sl):nT (dO m A B D E) 4 (In E')=dO m A B D E':=by
 funext k
 match k with
 |0|1|2|3|4|_+5=>rfl
structure KT(h:af)(m:Nat)(A B D E:Sl)(ra:List (Bs 32))(sb:List Int)(pd:List (Bs 32))(ow:List Int)(most:Int):Prop where
 var:Var 130 h m (.agg [.slice A,.slice B,.slice D,.i most])
 a:Vc.Own 52 32 h A (rts ra)
 b:Vc.Own 3 1 h B (eA sb)
 d:Vc.Own 52 32 h D (rts pd)
 e:Vc.Own 3 1 h E (eA ow)
 sep:Sep h (dO m A B D E)
section
variable{R:Rq}{h h':af}{m:Nat}{A B D E:Sl}{ra pd:List (Bs 32)}{sb ow:List Int}{most:Int}
theorem KT.ext(p:KT h m A B D E ra sb pd ow most)(x:Ext h h'):KT h' m A B D E ra sb pd ow most:=⟨p.var.ext x,p.a.ext x,p.b.ext x,p.d.ext x,p.e.ext x,p.sep.ext x⟩
theorem KT.afU(p:KT h m A B D E ra sb pd ow most){x:Bs 32}(G:ra.length<50000){K:af->Prop}(q:∀h' A',KT h' m A' B D E (ra++[x]) sb pd ow most->Step (dm (dO m A B D E)) h (dm (dO m A' B D E)) h'->K h'):
 ∃new,cn (h.push (row (ak2 [alj 32 x]) 52)) (alh (some (Vc.Loc.mk h.size 0)) 1 1) 32 new/\(∀v∈new,bU v=true)/\au ctx 52 A 1 new (h.push (row (ak2 [alj 32 x]) 52)) λl h'=>
  gT h' m 0 1/\Bind (alF h' m 0 (.slice l)) K:=by
 refine TR p.a ω λA' n f f1 o=>?_;have z:=p.sep.qx;have g:Step (dO m A B D E 1) h (In A') n:=⟨f1,o⟩;have b:=p.sep.step g f.g_;rw[aaH]at b;have c:∀k,k≠1->∀i,dO m A B D E k i->¬In A i:=λk q i a e=>q (z k 1 i a e);have d:∀k,k≠0->∀i,dO m A' B D E k i->¬i=m:=λk q i a e=>q (b.qx k 0 i a e);have v1:=p.var.only f1 (c 0 δ m rfl);refine aI v1 (i:=0) rfl rfl rfl rfl λr s f2 t=>q r A' ⟨s,f.keep f2 (d 1 δ),(p.b.keep f1 (c 2 δ)).keep f2 (d 2 δ),(p.d.keep f1 (c 3 δ)).keep f2 (d 3 δ),(p.e.keep f1 (c 4 δ)).keep f2 (d 4 δ),⟨b.qx,λj i a=>by have:=b.lt j i a;omega⟩⟩ ?_;have st:=alf g;rw[aaH]at st;exact st.trans ⟨f2.mono λi a=>⟨0,a⟩,λi a=>.inl a⟩
theorem KT.afV(p:KT h m A B D E ra sb pd ow most){x:Int}(G:sb.length<50000){K:af->Prop}(q:∀h' B',KT h' m A B' D E ra (sb++[x]) pd ow most->Step (dm (dO m A B D E)) h (dm (dO m A B' D E)) h'->K h'):
 ∃new,cn (h.push (row (ak2 [TV.i x]) 3)) (alh (some (Vc.Loc.mk h.size 0)) 1 1) 1 new/\(∀v∈new,bU v=true)/\au ctx 3 B 1 new (h.push (row (ak2 [TV.i x]) 3)) λl h'=>
  gT h' m 1 1/\Bind (alF h' m 1 (.slice l)) K:=by
 refine acr p.b ω λB' n f f1 o=>?_;have z:=p.sep.qx;have g:Step (dO m A B D E 2) h (In B') n:=⟨f1,o⟩;have b:=p.sep.step g f.g_;rw[aaI]at b;have c:∀k,k≠2->∀i,dO m A B D E k i->¬In B i:=λk q i a e=>q (z k 2 i a e);have d:∀k,k≠0->∀i,dO m A B' D E k i->¬i=m:=λk q i a e=>q (b.qx k 0 i a e);have v1:=p.var.only f1 (c 0 δ m rfl);refine aI v1 (i:=1) rfl rfl rfl rfl λr s f2 t=>q r B' ⟨s,(p.a.keep f1 (c 1 δ)).keep f2 (d 1 δ),f.keep f2 (d 2 δ),(p.d.keep f1 (c 3 δ)).keep f2 (d 3 δ),(p.e.keep f1 (c 4 δ)).keep f2 (d 4 δ),⟨b.qx,λj i a=>by have:=b.lt j i a;omega⟩⟩ ?_;have st:=alf g;rw[aaI]at st;exact st.trans ⟨f2.mono λi a=>⟨0,a⟩,λi a=>.inl a⟩
theorem KT.afW(p:KT h m A B D E ra sb pd ow most){x:Bs 32}(G:pd.length<50000){K:af->Prop}(q:∀h' D',KT h' m A B D' E ra sb (pd++[x]) ow most->Step (dm (dO m A B D E)) h (dm (dO m A B D' E)) h'->K h'):
 ∃new,cn (h.push (row (ak2 [alj 32 x]) 52)) (alh (some (Vc.Loc.mk h.size 0)) 1 1) 32 new/\(∀v∈new,bU v=true)/\au ctx 52 D 1 new (h.push (row (ak2 [alj 32 x]) 52)) λg h'=>
  gT h' m 2 1/\Bind (alF h' m 2 (.slice g)) K:=by
 refine TR p.d ω λD' l d1 f1 n=>?_;have z:=p.sep.qx;have f:Step (dO m A B D E 3) h (In D') l:=⟨f1,n⟩;have b:=p.sep.step f d1.g_;rw[aaJ]at b;have c:∀k,k≠3->∀i,dO m A B D E k i->¬In D i:=λk q i a e=>q (z k 3 i a e);have d:∀k,k≠0->∀i,dO m A B D' E k i->¬i=m:=λk q i a e=>q (b.qx k 0 i a e);have v1:=p.var.only f1 (c 0 δ m rfl);refine aI v1 (i:=2) rfl rfl rfl rfl λo r f2 s=>q o D' ⟨r,(p.a.keep f1 (c 1 δ)).keep f2 (d 1 δ),(p.b.keep f1 (c 2 δ)).keep f2 (d 2 δ),d1.keep f2 (d 3 δ),(p.e.keep f1 (c 4 δ)).keep f2 (d 4 δ),⟨b.qx,λj i a=>by have:=b.lt j i a;omega⟩⟩ ?_;have st:=alf f;rw[aaJ]at st;exact st.trans ⟨f2.mono λi a=>⟨0,a⟩,λi a=>.inl a⟩
theorem KT.afX(p:KT h m A B D E ra sb pd ow most){x:Int}(G:ow.length<50000){K:Sl->af->Prop}(q:∀E' h',KT h' m A B D E' ra sb pd (ow++[x]) most->Step (dm (dO m A B D E)) h (dm (dO m A B D E')) h'->K E' h'):
 ∃new,cn (h.push (row (ak2 [TV.i x]) 3)) (alh (some (Vc.Loc.mk h.size 0)) 1 1) 1 new/\(∀v∈new,bU v=true)/\au ctx 3 E 1 new (h.push (row (ak2 [TV.i x]) 3)) K:=by
 refine acr p.e ω λE' b c f1 f=>?_;have z:=p.sep.qx;have d:Step (dO m A B D E 4) h (In E') b:=⟨f1,f⟩;have e:=p.sep.step d c.g_;rw[aaK]at e;have a:∀k,k≠4->∀i,dO m A B D E k i->¬In E i:=λk q i g j=>q (z k 4 i g j);have st:=alf d;rw[aaK]at st;exact q E' b ⟨p.var.only f1 (a 0 δ m rfl),p.a.keep f1 (a 1 δ),p.b.keep f1 (a 2 δ),p.d.keep f1 (a 3 δ),c,e⟩ st
end
def Em(N:List Nd)(rL root:Bs 32):Bool:=decide (0<=place rL N)&&(decide (0<=place root N)&&bO (bQ N) (place rL N).toNat (place root N).toNat)
section
variable{R:Rq}{h h':af}{m:Nat}{A B D:Sl}{N:List Nd}{most:Int}
theorem R3(p:RT h m A B D N most){rL root:Bs 32}(q:∀h',Ext h h'->R (alB (Em N rL root)).val h'):
 Cl 246 [.ptr (PT m),.bytes 32 rL,.bytes 32 root] h R:=by
 apply qR;delta kU eG aO cr jW fE bz bJ lq;have up:=p.ok.tree;refine aa λC v1 t M=>aa λO E g P=>⟨rL,(v1.ext g).bytes,fA (p.ext (t.trans g)) λF n=>⟨_,rfl,?_⟩⟩;have o:=(t.trans g).trans n;refine ID (λQ=>?_) λS=>?_
 ·have e:Em N rL root=false:=by simp_all [decide_eq_false,Em,Bool.false_and]
  rw[e]at q;exact q F o
 obtain⟨k,y,T,U,V,W,X⟩:=fG (r:=rL) (L:=N) ω;refine⟨root,(E.ext n).bytes,fA (p.ext o) λG u=>⟨_,rfl,?_⟩⟩;have H:=o.trans u;have Y:=pQ root N;refine⟨λσ I=>-1<=σ.2/\σ.2<N.length/\Ext G I/\Em N rL root=(decide (0<=σ.2)&&bO (bQ N) k σ.2.toNat),λσ _=>(σ.2+1).toNat,⟨ω,ω,ald _,?_⟩,?_⟩
 ·simp_all [alD,alu,Em,place,decide_eq_true]
 rintro⟨f,i⟩ v ⟨Z,i1,j,b⟩;have c:=H.trans j;refine ID (λl=>?_) λl=>?_
 ·obtain⟨x,d⟩:∃x,N[i.toNat]? =some x:=⟨_,alg ω⟩;rw[decide_eq_true l]at b;refine⟨A,(p.ext c).var.ah rfl,lM (p.ext c).a.elems l (yT d) ⟨rL,(((v1.ext g).ext n).ext (u.trans j)).bytes,?_⟩⟩;dsimp only;rw[Gb _ _]
  have w:x.root=rL↔i.toNat=k:=by
   constructor
   ·intro e;have C:=gX p.ok.nodup d
    grind
   grind
  refine ID (λs=>?_) λs=>?_
  ·rw[w.1 s,pO]at b;rw[b]at q;exact q v c
  ·have J:=λe=>s (w.2 e);rw[fO up ω,decide_eq_false J,Bool.false_or]at b;refine Rw (p.ext c) λh6 z=>⟨_,rfl,?_⟩;by_cases K:0<i
   ·have ab:=p.ok.up i.toNat x d ω;rw[decide_eq_true (show 0<i.toNat by omega),yf d]at b;rw[TS K d];refine⟨⟨ω,ω,j.trans z,?_⟩,ω⟩;simp_all
   ·have e:upI N i=-1:=by simp_all [if_neg,upI]
    rw[e];rw[decide_eq_false (show¬0<i.toNat by omega)]at b;exact⟨⟨ω,ω,j.trans z,b⟩,ω⟩
 ·rw[decide_eq_false l]at b;rw[b]at q;exact q v c
def upN(N:List Nd)(k i:Nat):Bs 32:=if i=k then ak6 32 else HF N (bQ N i)
theorem XR{w:Nat}{O:Sl}{own:Nat->Int}(p:RT h m A B D N most)(q:RW h w m O N own){root:Bs 32}(a':place root N<0->∀h',Ext h h'->R (alc [.ptr none,.bool false]).val h')
 (W:∀k:Nat,place root N=(k:Int)->∀h' w' X A' B' D' O' n',RT h' X A' B' D' (eX N most k) most->Var 263 h' w' (.agg [.ptr (PT X),.slice O',.i n'])->Ext h h'->(∀i,Dx X A' B' D' i->h.size<=i)->R (alc [.ptr (PT w'),.bool true]).val h'):
 Cl 180 [.ptr (PT w),.bytes 32 root] h R:=by
 apply AI;delta gz j3 eG fH js Dr i_ Bo mw mu C2 jr cr dD eW jW bz eU bJ bK aT fD;have up:=p.ok.tree;have b6:=p.ok.len;have b7:=p.ok.most;have la:=p.a.len;have lb:=p.b.len;have ld:=p.d.len;rw[pE,ak5]at la;unfold LZ at ld;refine aa λY v1 Z s1=>⟨_,(q.var.ext Z).ah rfl,root,v1.bytes,fA (p.ext Z) λf x2=>⟨_,rfl,?_⟩⟩;have g:=Z.trans x2;refine ID (λG=>a' G f g) λh0=>?_;obtain⟨k,y,q1,q2,q3,q4,q5⟩:=fG (r:=root) (L:=N) ω;have W:=W k q2;obtain⟨ba,_⟩:=oH p.ok q5;have kr:=HH p.ok q5;have ks:=Ry p.ok q5;have bb:=TT p.ok q5;refine⟨_,(q.var.ext g).ah rfl,most,(p.ext g).var.ah rfl,aa λh3 v3 x3 s3=>⟨_,((q.var.ext g).ext x3).ah rfl,A,((p.ext g).ext x3).var.ah rfl,?_⟩⟩;have z2:=x2.size;have bc:KT h3 f.size ak4 ak4 ak4 ak4 [] [] [] [] most:=⟨v3,Vc.Own.nil _ _ _,Vc.Own.nil _ _ _,Vc.Own.nil _ _ _,Vc.Own.nil _ _ _,⟨λj k i Y f=>?_,λj i c=>?_⟩⟩;rotate_left
 ·match j,k with
  |0,0=>rfl
  |0,1|0,2|0,3|0,4=>exact(q8 f).elim
  |1,_|2,_|3,_|4,_=>exact(q8 Y).elim
  |0,_+5=>exact f.elim
  |_+5,_=>exact Y.elim
 ·match j with
  |0=>have c:i=f.size:=c;omega
  |1|2|3|4=>exact(q8 c).elim
  |_+5=>exact c.elim
 have Oo:∀i,i<=N.length->(eC N k i).length<=i:=λi _=>by
  have:=alH (bO (bQ N) k) (List.range i)
  rwa [List.length_range]at this
 refine⟨λσ l=>∃i:Nat,σ.2=i/\i<=N.length/\∃A' B' D' ow,KT l f.size A' B' D' σ.1 ((eC N k i).map (HF N)) ((eC N k i).map (slI N)) ((eC N k i).map (upN N k)) ow most/\ow.length<=i/\Ext f l/\∀j,dm (dO f.size A' B' D' σ.1) j->f.size<=j,
  λσ _=>(N.length-σ.2).toNat,⟨0,rfl,alI _,ak4,ak4,ak4,[],bc,alI _,x3,λj⟨q,H⟩=>?_⟩,?_⟩
 ·match q with
  |0=>exact ak7 (ak8 H)
  |1|2|3|4=>exact(q8 H).elim
  |_+5=>exact H.elim
 rintro⟨E,ii⟩ o ⟨i,c,bd,A',B',D',ow,I,b8,K,lo⟩;dsimp only at c I lo⊢;subst c
 have ext:∀{F F':Nat->Nat->Prop}{s n:af},Ext f s->Step (dm F) s (dm F') n->(∀j,dm F j->f.size<=j)->Ext f n/\(∀j,dm F' j->f.size<=j):=λx st lo=>
  ⟨ak3 x st.only lo,λj u=>(st.new j u).elim (lo j) λh=>by have:=x.size;omega⟩
 have bl:=Oo i bd;refine ID (λb9=>?_) λca=>?_
 ·have M:i<N.length:=ω;obtain⟨x,v⟩:∃x,N[i]? =some x:=⟨_,alg M⟩;have ab:N[(i:Int).toNat]? =some x:=by rw[alu];exact v
  refine lM (p.ext (g.trans K)).a.elems ω (yT ab) ?_;refine aa λh5 v5 P s5=>aq (t:=.bytes 32 x.root) v5 eM.symm (eM.trans eM.symm) λh6 v6 f6 s6=>?_;have ac:Ext o h6:=ak3 P f6 λi c=>ak7 (ak8 c);have ad:=K.trans ac;have cd:=ac.size;refine⟨_,(q.var.ext (g.trans ad)).ah rfl,root,(v1.ext (x2.trans ad)).bytes,x.root,v6.bytes,R3 (p.ext (g.trans ad)) λh7 x7=>⟨_,rfl,?_⟩⟩;have ae:=ac.trans x7;have a0:=K.trans ae
  have n:Em N root x.root=bO (bQ N) k i:=by
   unfold Em;rw[gX p.ok.nodup v,q2,decide_eq_true ω,decide_eq_true ω,alD,alD,alu,alu]
  rw[n];have w1:alo .i64 ((i:Int)+1)=((i+1:Nat):Int):=by rw[wrap_i64 ω ω];omega
  have a1:Safe (·=o.size) (dO f.size A' B' D' E) h7:=λj u=>by
   have:=x7.size;exact⟨λ⟨q,H⟩=>by have:=I.sep.lt q j H;omega,ω⟩
  have v7:Var 52 h7 o.size (.bytes 32 x.root):=v6.ext x7;refine alb (λG=>?_) λQ=>?_
  ·have G:bO (bQ N) k i=false:=by simpa using G
   rw[w1];have e:eC N k (i+1)=eC N k i:=by rw[yU,if_neg (by rw[G];decide),List.append_nil]
   exact⟨⟨i+1,rfl,M,A',B',D',ow,by rw[e];exact I.ext ae,ω,a0,lo⟩,ω⟩
  ·have Q:bO (bQ N) k i=true:=by simpa using Q
   have e:eC N k (i+1)=eC N k i++[i]:=by rw[yU,if_pos Q]
   have er:HF N i=x.root:=oG v;have es:slI N i=x.slot:=Kt v;have a2:=I.ext ae;refine⟨_,a2.var.ah rfl,x.root,v7.bytes,ak9 _ _,a2.afU (by rw[ak5];omega) λh8 A8 a3 al=>?_⟩;obtain⟨S,bi⟩:=ext a0 al lo;have a4:=a1.step al;have v8:Var 52 h8 o.size (.bytes 32 x.root):=v7.only al.only (a1 _ rfl).1;refine⟨_,a3.var.ah rfl,_,(q.var.ext (g.trans S)).ah rfl,B,(p.ext (g.trans S)).var.ah rfl,qL (p.ext (g.trans S)).b.elems ω (CL ab) ⟨ak9 _ _,a3.afV (by rw[ak5];omega) λT B9 bj am=>?_⟩⟩;obtain⟨U,bk⟩:=ext S am bi;have a5:=a4.step am;have v9:Var 52 T o.size (.bytes 32 x.root):=v8.only am.only (a4 _ rfl).1;refine⟨_,(q.var.ext (g.trans U)).ah rfl,D,(p.ext (g.trans U)).var.ah rfl,lM (p.ext (g.trans U)).d.elems ω (VF ab) ?_⟩;refine aa λce v10 x10 cf=>aq (t:=.bytes 32 (yS N x)) v10 eM.symm (eM.trans eM.symm) λao v11 f11 ch=>?_;have ap:Ext T ao:=ak3 x10 f11 λi c=>ak7 (ak8 c);have ci:=ap.size;intro J HJ
   have a6:∀(l:af),Ext T l->ao.size<=l.size->Var 52 l T.size (.bytes 32 (upN N k i))->J PUnit.unit l:=λl V zh vh=>by
    refine HJ _ l ?_;have a7:=bj.ext V;have bm:Safe (λj=>j=o.size) (dO f.size A8 B9 D' E) l:=λj u=>⟨(a5 j u).1,by have:=(a5 j u).2;have:=V.size;omega⟩;refine⟨_,a7.var.ah rfl,upN N k i,vh.bytes,ak9 _ _,a7.afW (by rw[ak5];omega) λar bo bp a8=>?_⟩;obtain⟨aw,br⟩:=ext (U.trans V) a8 bk;have aE:Var 52 ar o.size (.bytes 32 x.root):=(v9.ext V).only a8.only (bm _ rfl).1;refine⟨x.root,aE.bytes,Xr (p.ext (g.trans aw)) (q.ext (g.trans aw)) λcj a9=>⟨_,rfl,?_⟩⟩;refine(bp.ext a9).afX ω λcl cp bt bx=>?_;obtain⟨b0,b1⟩:=ext (aw.trans a9) bx br;rw[w1];refine⟨⟨i+1,rfl,M,A8,B9,bo,ow++[mV N own x.root],?_,?_,b0,b1⟩,ω⟩
    ·rw[e,alz,alz,alz,alN,alN,alN,alO,alO,alO,er,es];exact bt
    ·rw[alM,List.length_singleton];omega
   refine ID (λb2=>?_) λb2=>?_
   ·refine aq (t:=.bytes 32 (ak6 32)) v11 eM.symm (eM.trans eM.symm) λar aE f12 cs=>a6 ar (ak3 ap f12 λi c=>ak7 (ak8 c)) ω ?_;have:upN N k i=ak6 32:=if_pos ω;rw[this];exact aE
   ·refine a6 ao ap (ala _) ?_;have ct:=Bg up i M Q;have b3:=p.ok.up i x v ω;obtain⟨z,hz⟩:∃z,N[x.par.toNat]? =some z:=⟨_,alg ω⟩
    have:upN N k i=yS N x:=by
     unfold upN;rw[if_neg ω,yf v,oG hz,IY b3.1 hz]
    rw[this];exact v11
 ·have b5:i=N.length:=ω;refine aa λh5 v5 P s5=>?_;have C:=I.ext P;rw[b5]at C;have z:=C.sep.qx;refine W h5 o.size f.size A' B' D' E _ ⟨C.var,?_,?_,?_,ba,⟨λc=>?_,λc=>?_,λc=>?_⟩,λj s n=>?_,λj s n=>?_,λj s n=>?_⟩ v5 ((g.trans K).trans P) λj u=>?_
  ·rw[kr];exact C.a
  ·rw[ks];exact C.b
  ·rw[bb];exact C.d
  ·have:=z 1 0 _ c rfl;omega
  ·have:=z 2 0 _ c rfl;omega
  ·have:=z 3 0 _ c rfl;omega
  ·have:=z 1 2 j s n;omega
  ·have:=z 1 3 j s n;omega
  ·have:=z 2 3 j s n;omega
  ·have:f.size<=j:=by
    rcases u with e|e|e|e
    ·omega
    ·exact lo j ⟨1,e⟩
    ·exact lo j ⟨2,e⟩
    ·exact lo j ⟨3,e⟩
   omega
theorem Ui{q b:Nat}{c:Cf}(G:Var 134 h q (Nr c m b))(p:RT h m A B D N most){root:Bs 32}(H:place root N<0->∀h',Ext h h'->R (TV.i 7).val h')
 (I:∀k:Nat,place root N=(k:Int)->∀h' a A' B' D',RT h' a A' B' D' (eX N most k) most->Var 134 h' q (Nr c a b)->ag (·=q) h h'->(∀i,Dx a A' B' D' i->h.size<=i)->R (TV.i 0).val h'):
 Cl 118 [.ptr (PT q),.bytes 32 root] h R:=by
 apply rM;delta nE j3 aD uR cr bz dX bJ bA;have C:=G.lt;refine aa λE v1 j F=>⟨_,(G.ext j).ah rfl,root,v1.bytes,Ku (p.ext j) λJ w O u o K _=>⟨_,rfl,o,?_⟩⟩;have f:=j.trans o;refine XR (p.ext f) u (λl r n=>⟨_,_,rfl,aly (H l r (f.trans n))⟩) λk v r L a A' B' D' O' M x y n s=>⟨_,_,rfl,aln ?_⟩;have g:=f.trans n;have P:=f.size;refine⟨_,y.ah rfl,aI (G.ext g) (i:=1) (t:=.ptr (PT a)) rfl rfl rfl rfl λz v4 f4 Q=>I k v z a A' B' D' (x.only f4 λi d e=>by have:=s i d;have e:i=q:=e;omega) v4 ⟨by have:=g.size;omega,λi d l=>(f4.same i (Nat.lt_of_lt_of_le d g.size) l).trans (g.same i d)⟩ λi d=>by have:=s i d;omega⟩
end
end Gate
end Go.Proofs.YtennbinbffdimaaGreat

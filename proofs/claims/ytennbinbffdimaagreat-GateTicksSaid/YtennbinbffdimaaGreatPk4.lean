/- Texts that the proof needs, joined. -/
import Derived.Shelf.SlIterI.Nil
import Derived.Shelf.SortM.Plain
import Derived.Shelf.SortM.SortNone
import Derived.Ground.GgzProg
import Derived.Ground.SlgmProg
import Derived.Test.YtennbinbffdimaaGreatProg
import Derived.Test.YtennbinbffdimaaGreatPk3
set_option maxRecDepth 100000
open Go.Vc.ag renaming cut->ahG,an->air,refl->aiz
open Go.Vc.Bs renaming zero->ahH
open Go.Vc.aj renaming cells->ahI
open List renaming length_map->ahJ,mem_map->ahK,getElem?_eq_getElem->ahV,length_append->ahX,length_take->ahY,map_map->ah3,mem_cons->ah4,map_append->ah5,getElem?_map->ah6,map_cons->ah7,take_length->aif,getD_eq_getElem?_getD->aij,mem_of_getElem?->aim,length_cons->aio,length_eq_one_iff->aip,length_filter_le->ais,getElem?_eq_some_iff->ait,replicate->aiw,take_of_length_le->aiy,mem_singleton->aiB,append_nil->aiC,map->aiD,nodup_cons->aiG,map_nil->aiL,mem_cons_of_mem->aiM,filterMap_cons->aiN,length_drop->aiP,range->aiS,nodup_nil->aiT,mem_cons_self->aiV
open Go.Vc.Ext renaming push->ahL,refl->ahQ
open Go.Vc.TV renaming aX->ahM,ptr->ahN,bool->ahT,bytes->ahZ,str->ah2,slice->ah9,int->aia,put->aih,size->ail,val->aiA,agg->aiH,fn->aiK,plain->aiR
open Go.Vc.If renaming no->ahO,split->ahP,yes->ah1,dec->aie
open Int renaming le_refl->ahR,toNat_natCast->aid
open Go.Vc.Sl renaming nil->ahS,mk->ah0
open Go.IntKind renaming wrap->ahU
open Nat renaming le_refl->ahW,le_of_eq->aib,le_trans->aiv,mul_one->aiQ
open Go.Vc.Var renaming ext->ah8
open Eq renaming symm->aic
open Go.Vc.Own renaming new->aii,nil->aik
open Go.Vc.Loc renaming mk->ain
open Bool renaming true_and->aiq,false_and->aiI,and_eq_true->aiJ
open Go.Value renaming int->aiu
open Go.Lit renaming int->aix
open Array renaming getElem?_eq_some_iff->aiE,contains_iff_mem->aiO
open Classical renaming byContradiction->aiF,choose->aiU
open Option renaming map_eq_some_iff->aiW
namespace Go.Proofs.YtennbinbffdimaaGreat
open Go Go.Vc
namespace Board
def bT(m:Ms)(row:List Bool):Bs 32:=k_ (c8 m row++m.tag.l)
def wH(m:Ms)(row:List Bool):LU:=c8 m row++m.tag.l
theorem mX(m:Ms)(row:List Bool):(wH m row).length<=76+row.length:=by
 unfold wH;have:=mT m row;rw[ahX,m.tag.h];omega
section
variable{R:Rq}{h:aa}{b:Nat}
theorem UT{o n c:Nat}{x:Bs n}(a:ay h b o n x):jM h ⟨some ⟨b,o⟩,n,c⟩ x.l:=by
 refine⟨x.h,.inr ⟨⟨b,o⟩,rfl,λj d=>?_⟩⟩;have:=a j (by rw[<-x.h];exact d);rw[aij,ahV d]at this;exact this
theorem iK{m:Ms}{row:List Bool}(e:ak 1 h m.bits (aP row))(q:row.length<500)(A:∀a,Ext h a->R (ahZ 32 (bT m row)).val a):Cl 208 [m.tv] h R:=by
 apply Gd m.kind m.slot m.target m.ax m.body m.bits m.tag;delta jg gu dh dH dW JB dI xQ bu fC fU bK eE;refine af λs v1 j u=>af λk l b v=>?_;have v1:Var 58 k h.size m.tv:=ah8 (t:=m.tv) v1 b;have c:=j.trans b;refine aZ v1 ⟨m.tag.l,UT v1.at.2.2.2.2.2.2,?_⟩;refine Ib (e.ext c) q λn d=>⟨_,rfl,d,?_⟩;have w:=mT m row;have f:[c8 m row,m.tag.l].flatten=c8 m row++m.tag.l:=by simp
 refine nV (ts:=[c8 m row,m.tag.l]) (mS (T:=9) n [c8 m row,m.tag.l]) (by rw[f,ahX,m.tag.h];omega) (by show 2<_;decide) λx o=>⟨_,rfl,?_⟩;have g:=d.trans ((ahL _ _).trans o);rw[f];refine av (l.ext g) (t:=.bytes 32 (bT m row)) rfl uo λp r f5 y=>⟨_,r.bytes,?_⟩;exact A p (ahG (c.trans g) f5 λi z=>ω)
theorem iZ{m:Ms}{row:List Bool}(e:ak 1 h m.bits (aP row))(A:row.length<500)(q:m.kind=1\/m.kind=2\/m.kind=3)(B:jC m)(E:∀d,Ext h d->R (ah2 (wH m row)).val d):
 Cl 90 [m.tv] h R:=by
 apply uH m.kind m.slot m.target m.ax m.body m.bits m.tag;delta dh zo iJ dW dI jY iI fC eE;refine af λj v1 g D=>?_;have v1:Var 58 j h.size m.tv:=v1;have F:=mT m row
 have o:∀(b:aa)(s:Sl)(K:Sl->Rq),Ext j b->Row (λi=>h.size<i) b s []->(∀k d,ag (λi=>h.size<i) b d->K k (ah2 m.tag.l).val d)->
  ∃(new:List Value),cv b (aA (ah0 (some (Vc.Loc.mk h.size 37)) 16 16) 0 16 1) 1 new/\(∀(v:Value),v∈new->bQ v=true)/\aq ctx 5 s (aA (ah0 (some (Vc.Loc.mk h.size 37)) 16 16) 0 16 1).len new b λ(p:Sl)(u:Array Obj)=>Cl 159 [ah9 p] u (K p):=by
  intro b s K a r q;have w:aA (ah0 (some (Vc.Loc.mk h.size 37)) 16 16) 0 16 1=⟨some ⟨h.size,37⟩,16,16⟩:=rfl;rw[w];refine⟨m.tag.l.map λc=>aiu .u8 (c.toNat:Int),by rw[<-qw];exact(sD (v1.ext a).at.2.2.2.2.2.2).cells (zz _) δ,qR m.tag.l,?_⟩;refine wu m.tag.h.symm r (by rw[m.tag.h];decide) λx y z f3 G=>?_;apply lX;delta BF;exact⟨_,z.str,q x y (r.cut f3)⟩
 refine aZ v1 ⟨nA (e.ext g) A q B λt f=>⟨_,rfl,ahL _ _,?_⟩,ahL _ _,nA (e.ext (g.trans (ahL _ _))) A q B λt f=>⟨_,rfl,?_⟩⟩
 ·have H:=f.size;have a:=f.trans (ahL t (Vc.row (ahI []) 5));refine o _ _ (λ_=>_) a (uC ω) λk l n=>⟨_,rfl,by rw[m.tag.h];omega,E l (ahG (g.trans a) n λi C=>ω)⟩
 ·have a:=(ahL j (Vc.row (ahI []) 5)).trans f;refine o _ _ (λ_=>_) a ((uC ω).ext f) λk l n=>⟨_,rfl,by rw[m.tag.h];omega,E l (ahG (g.trans a) n λi C=>ω)⟩
theorem cr{m:Ms}{row:List Bool}(e:ak 1 h m.bits (aP row))(q:row.length<500)(A:m.kind=1\/m.kind=2\/m.kind=3)(B:jC m)(E:∀a,Ext h a->R (ahZ 32 (bT m row)).val a):
 Cl 91 [m.tv] h R:=by
 apply wG m.kind m.slot m.target m.ax m.body m.bits m.tag;delta dh dH dW xQ bu fU bK;refine af λp v1 f r=>af λg j b s=>?_;have v1:Var 58 g h.size m.tv:=ah8 (t:=m.tv) v1 b;have c:=f.trans b;have u:=mX m row;refine aZ v1 (iZ (e.ext c) q A B λv k=>⟨_,rfl,kI ω λw l=>⟨_,rfl,?_⟩⟩);have d:=k.trans l;refine av (j.ext d) (t:=.bytes 32 (bT m row)) rfl uo λn o f5 x=>⟨_,o.bytes,?_⟩;exact E n (ahG (c.trans d) f5 λi y=>ω)
def RdD(h:aa)(b:Nat)(s:LU)(at_:Nat)(sh:Bool):Prop:=Var 317 h b (.agg [.str s,.i (at_:Int),.bool sh])
def O6(s:LU)(at_:Nat)(sh:Bool)(n:Int):Nat:=if sh=true\/n<0\/((s.length-at_:Nat):Int)<n then s.length else at_+n.toNat
theorem abI{s:LU}{at_:Nat}{sh:Bool}{n:Int}(h:at_<=s.length):O6 s at_ sh n<=s.length:=by
 unfold O6;split<;>omega
theorem FC{s:LU}{at_:Nat}{sh:Bool}{n:Int}(v:RdD h b s at_ sh)(E:at_<=s.length)(G:s.length<100000)(A:n<100000)
 (q:∀e,RdD e b s (O6 s at_ sh n) (ir (s.drop at_) sh n).2.2->ag (·=b) h e->R (ah2 (ir (s.drop at_) sh n).1).val e):Cl 239 [.ptr (PT b),.i n] h R:=by
 apply mW;delta BM Dd c4;have v:Var 317 h b (.agg [.str s,.i (at_:Int),.bool sh]):=v;have m:(s.drop at_).length=s.length-at_:=aiP;intro C u w o
 have f:(sh=true\/n<0\/((s.drop at_).length:Int)<n)->w true h:=by
  intro d;rw[MJ d]at q;have g:O6 s at_ sh n=s.length:=by unfold O6;rw[if_pos (by rw[<-m];exact d)]
  rw[g]at q;refine o true h (ah1 ?_);refine aF (i:=2) (t:=.bool true) (t0:=.bool sh) v rfl rfl rfl rfl λc v1 f1 D=>⟨s,v1.ah rfl,?_⟩;refine aF (i:=1) (t:=.i (s.length:Int)) (t0:=.i (at_:Int)) v1 rfl rfl rfl rfl λj a f2 x=>?_;exact q j a (f1.trans f2)
 refine⟨sh,v.ah rfl,?_⟩;refine ahP (λd=>f (.inl (by simpa using d))) λk=>ID (λA=>f (.inr (.inl A))) λy=>⟨s,v.ah rfl,(at_:Int),v.ah rfl,?_⟩;have k:sh=false:=by simpa using k
 dsimp only;rw[wrap_i64 ω ω];by_cases p:((s.length:Int)-(at_:Int))<n
 ·rw[decide_eq_true p];exact f (.inr (.inr ω))
 rw[decide_eq_false p];have r:¬(sh=true\/n<0\/((s.drop at_).length:Int)<n):=by rw[k];rintro(c|c|c)<;>first|cases c|exact y c|omega
 have z:ir (s.drop at_) sh n=((s.drop at_).take n.toNat,(s.drop at_).drop n.toNat,sh):=if_neg r;have g:O6 s at_ sh n=at_+n.toNat:=by unfold O6;rw[if_neg (by rw[<-m];exact r)]
 rw[z,g]at q;refine o false h (ahO (u _ h ⟨(at_:Int),v.ah rfl,?_⟩));have B:ahU .i64 ((at_:Int)+n)=((at_+n.toNat:Nat):Int):=by rw[wrap_i64 ω ω];omega
 dsimp only;rw[B];refine aF (i:=1) (t:=.i ((at_+n.toNat:Nat):Int)) (t0:=.i (at_:Int)) v rfl rfl rfl rfl λj a f2 x=>?_;have l:ahU .i64 (((at_+n.toNat:Nat):Int)-n)=(at_:Int):=by rw[wrap_i64 ω ω];omega
 refine⟨s,a.ah rfl,_,a.ah rfl,_,a.ah rfl,ω,ω,by rw[l];omega,by rw[l];omega,?_⟩;rw[l,aid,aid,Nat.add_sub_cancel_left];exact q j a f2
theorem mY{s:LU}{at_:Nat}{sh:Bool}{w:Int}(v:RdD h b s at_ sh)(q:at_<=s.length)(A:s.length<100000)(J:w<=8)
 (B:∀g,RdD g b s (O6 s at_ sh w) (ir (s.drop at_) sh w).2.2->ag (λi=>i=b\/h.size<=i) h g->R (aia .u64 (num (ir (s.drop at_) sh w).1:Nat)).val g):
 Cl 237 [.ptr (PT b),.i w] h R:=by
 apply oz;delta c7 c4 aT;intro K x;refine ID (λe=>ω) λ_=>x w h ?_;refine FC v q A ω λe v1 f1=>⟨_,rfl,λc y=>?_⟩;have z:(ir (s.drop at_) sh w).1.length<=8:=aiv GC ω;have j:=ahL e (BV (ir (s.drop at_) sh w).1 c 5);have l:=B _ (ah8 v1 j) (((f1.mono λi d=>.inl d)).trans (air j))
 have m:∀i:Nat,(d:i<(ir (s.drop at_) sh w).1.length)->ah (e.push (BV (ir (s.drop at_) sh w).1 c 5)) e.size (0+i*1) (.int .u8 (((ir (s.drop at_) sh w).1.getD i 0).toNat:Int)):=by
  intro i d;unfold ah lz;rw[cg];simp only[BV,Nat.zero_add,aiQ,List.getElem?_toArray];rw[List.getElem?_append_left (by rw[ahJ];exact d),ah6,ahV d,aij,ahV d];rfl
 generalize(ir (s.drop at_) sh w).1=t at z l m j;refine⟨λσ o=>0<=σ.2.2/\σ.2.2<=t.length/\o=e.push (BV t c 5)/\σ.1=((num (t.take σ.2.2.toNat):Nat):Int)/\σ.2.1=ahU .u64 ((256^σ.2.2.toNat:Nat):Int),λσ _=>((t.length:Int)-σ.2.2).toNat,⟨ahR 0,Ω,rfl,rfl,δ⟩,?_⟩;rintro⟨a,u,i⟩ o ⟨p,C,rfl,q,f⟩;dsimp only at p C q f⊢;refine ID (λd=>⟨p,d,_,m i.toNat ω,?_⟩) λd=>?_
 ·have D:i.toNat<=7:=ω;have E:256^i.toNat<=256^7:=Nat.pow_le_pow_right δ D;have L:256^7=72057594037927936:=δ;have bY:t[i.toNat]? =some (t.getD i.toNat 0):=by rw[aij,ahV ω];rfl
  have F:t.take (i.toNat+1)=t.take i.toNat++[t.getD i.toNat 0]:=bq bY;have k:=OZ (t.take i.toNat) (t.getD i.toNat 0);rw[ahY,Nat.min_eq_left ω]at k;have M:=zS (t.take i.toNat++[t.getD i.toNat 0]);have N:=To (s:=t.take i.toNat++[t.getD i.toNat 0]) (by rw[ahX,ahY,List.length_singleton];omega);have y:=(t.getD i.toNat 0).toNat_lt;obtain⟨P,r⟩:∃P,P=256^i.toNat:=⟨_,rfl⟩;rw[<-r]at k f E;have G:ahU .u64 (P:Int)=(P:Int):=bH ω ω;rw[G]at f;have O:P*(t.getD i.toNat 0).toNat<=num (t.take i.toNat++[t.getD i.toNat 0]):=ω;have H:ahU .u64 ((t.getD i.toNat 0).toNat:Int)=((t.getD i.toNat 0).toNat:Int):=bH ω ω;have I:u*((t.getD i.toNat 0).toNat:Int)=((P*(t.getD i.toNat 0).toNat:Nat):Int):=by rw[f];push_cast;rfl
  dsimp only;rw[H,I,bH (n:=((P*(t.getD i.toNat 0).toNat:Nat):Int)) ω ω,q,bH (n:=((num (t.take i.toNat):Nat):Int)+_) ω ω,wrap_i64 (n:=i+1) ω ω];refine⟨⟨Ω,Ω,rfl,?_,?_⟩,Ω⟩
  ·try dsimp only
   rw[show(i+1).toNat=i.toNat+1 by omega,F,k];omega
  ·try dsimp only
   rw[show(i+1).toNat=i.toNat+1 by omega,Nat.pow_succ,<-r,f];congr 1
 ·have:i.toNat=t.length:=ω;rw[q,this,aif];exact l
theorem UU{s:LU}{at_:Nat}{sh:Bool}(v:RdD h b s at_ sh)(A:at_<=s.length)(q:R (ahT (!sh&&decide (s.drop at_=[]))).val h):Cl 240 [.ptr (PT b)] h R:=by
 have v:Var 317 h b (.agg [.str s,.i (at_:Int),.bool sh]):=v;apply oR;delta bO c4 mN;refine⟨sh,v.ah rfl,?_⟩;cases sh with
 |true=>exact ahO q
 |false=>
  refine ah1 ⟨_,v.ah rfl,_,v.ah rfl,?_⟩
  have:decide ((at_:Int)=(s.length:Int))=decide (s.drop at_=[]):=by
   apply decide_eq_decide.2;rw[List.drop_eq_nil_iff];omega
  dsimp only;rw[this];exact q
end
end Board
namespace Board
theorem UW{c:UInt8}{k:Nat}(B:k<8)(A:og c k=true)(E:∀j,k<j->j<8->og c j=false):c≠0/\wE c=k:=by
 have a:c≠0:=by
  rintro rfl;rw[XU]at A;cases A
 refine⟨a,?_⟩;have d:=ES a;have b:=Ik a;rcases Nat.lt_trichotomy (wE c) k with h|h|h
 ·rw[UL a h B]at A;cases A
 ·exact h
 ·rw[E _ h d]at b;cases b
theorem KQ{c:UInt8}(A:∀j,j<8->og c j=false):c=0:=by
 apply aiF;intro h;have a:=Ik h;rw[A _ (ES h)]at a;cases a
theorem Ri{c:UInt8}{k:Nat}(h:k<8):(sF c).take (k+1)=(sF c).take k++[og c k]:=by
 refine bq ?_;simp[sF,h]
section
variable{R:Rq}{h:aa}
set_option maxHeartbeats 1000000 in
theorem O7{s:LU}(hs:s.length<1000)(G:zT s 16=none->∀f t,Ext h f->R (ahM [.slice t,.bool false]).val f)
 (hy:∀row f t,zT s 16=some row->ak 1 f t (aP row)->Ext h f->(∀l,t.a=some l->h.size<=l.b/\l.b<f.size)->R (ahM [.slice t,.bool true]).val f):
 Cl 238 [.str s,.i 16] h R:=by
 apply ya;delta aG nR dL fJ sN c4
 refine⟨λσ hh=>0<=σ.2/\σ.2<=s.length/\Own 4 1 hh σ.1 (aP (bitsOf (s.take σ.2.toNat)))/\(∀l,σ.1.a=some l->h.size<=l.b)/\Ext h hh,λσ _=>((s.length:Int)-σ.2).toNat,
  ⟨ahR 0,Ω,aik _ _ _,(λl H=>by cases H),ahQ _⟩,?_⟩
 rintro⟨t,i⟩ o ⟨U,i1,d,I,m⟩;dsimp only at U i1 d I m⊢;refine ID (λV=>⟨U,V,?_⟩) λV=>?_
 ·have hc:=(s.getD i.toNat 0).toNat_lt;have bY:s[i.toNat]? =some (s.getD i.toNat 0):=by rw[aij,ahV ω];rfl
  have W:bitsOf (s.take (i.toNat+1))=bitsOf (s.take i.toNat)++sF (s.getD i.toNat 0):=by rw[bq bY,O4]
  generalize s.getD i.toNat 0=c at hc W;rw[wrap_i64 (n:=(c.toNat:Int)) ω ω]
  refine⟨λσ hh=>0<=σ.2.2/\σ.2.2<=8/\Own 4 1 hh σ.1 (aP (bitsOf (s.take i.toNat)++(sF c).take σ.2.2.toNat))/\(∀l,σ.1.a=some l->h.size<=l.b)/\Ext h hh/\σ.2.1=((c.toNat/2^σ.2.2.toNat:Nat):Int),λσ _=>((8:Int)-σ.2.2).toNat,
   ⟨ahR 0,Ω,by simpa using d,I,m,by simp⟩,?_⟩
  rintro⟨t2,u,k⟩ h2 ⟨k0,k1,q,v,w,K⟩;dsimp only at k0 k1 q v w K⊢;refine ID (λhk=>⟨δ,?_⟩) λhk=>?_
  ·have ad:decide (Int.tmod u 2=1)=og c k.toNat:=by
    unfold og;rw[K,Int.tmod_eq_emod_of_nonneg (Int.natCast_nonneg _)];apply decide_eq_decide.2;omega
   have ol:=q.len;rw[ahJ,ahX,iY,ahY,ahY,jK]at ol;rw[ad];refine cz (C:=ctx) (T:=4) (sz:=1) (x:=.bool (og c k.toNat)) sz4 zz4 (by rw[b4];decide) (by rw[b4];omega) q rfl rfl λt3 h3 o3 f3 b3=>⟨δ,?_⟩;have z2:=w.size
   have y:Int.tdiv u 2=((c.toNat/2^(k.toNat+1):Nat):Int):=by
    rw[K,Int.tdiv_eq_ediv_of_nonneg (Int.natCast_nonneg _),Nat.pow_succ,<-Nat.div_div_eq_div_mul];omega
   have ae:c.toNat/2^(k.toNat+1)<=c.toNat:=Nat.div_le_self _ _;have X:(k+1).toNat=k.toNat+1:=ω;obtain⟨Q,Y⟩:∃Q,Q=c.toNat/2^(k.toNat+1):=⟨_,rfl⟩;rw[<-Y]at y ae;rw[y,wrap_i64 (n:=(Q:Int)) ω ω,wrap_i64 (n:=k+1) ω ω];refine⟨⟨Ω,Ω,?_,λp M=>?_,ahG w f3 λj⟨p,M,z⟩=>by have:=v p M;omega,by rw[X,Y]⟩,Ω⟩
   ·try dsimp only
    rw[X,Ri ω,<-List.append_assoc];simpa[aP]using o3
   ·rcases b3 p M with⟨p',g,A⟩|g
    ·have:=v p' g;omega
    ·omega
  ·have al:k.toNat=8:=ω;have am:(sF c).take 8=sF c:=aiy (by rw[jK];exact ahW 8);rw[al,am,<-W]at q;rw[wrap_i64 (n:=i+1) ω ω];refine⟨⟨Ω,Ω,?_,v,w⟩,Ω⟩
   try dsimp only
   rw[show(i+1).toNat=i.toNat+1 by omega];exact q
 ·have ao:i.toNat=s.length:=ω;rw[ao,aif]at d;have ol:=d.len;rw[ahJ,iY]at ol;have B:=Cp s;have ap:ahU .i64 ((t.len:Int)-1)=(t.len:Int)-1:=wrap_i64 ω ω;have ar:ahU .i64 ((t.len:Int)-8)=(t.len:Int)-8:=wrap_i64 ω ω;rw[ap,ar]
  refine⟨λσ hh=>-1<=σ.2.2/\σ.2.2<t.len/\(t.len:Int)-9<=σ.2.2/\hh=o/\∀j:Nat,σ.2.2<j->j<t.len->(bitsOf s)[j]? =some false,λσ _=>(σ.2.2+1).toNat,
   ⟨Ω,Ω,Ω,rfl,λj g A=>by dsimp only at g;omega⟩,?_⟩
  rintro⟨t0,b0,n⟩ hh ⟨n0,n1,n2,rfl,r⟩;dsimp only at n0 n1 n2 r⊢;intro J HJ
  have D:∀(L:Nat),s.length=L+1->s.getLastD 0=s.getD L 0:=by
   intro L b;have:=Il (s:=s) (by intro E;rw[E]at b;simp at b);rw[<-this,b];rfl
  refine ID (λN=>ID (λaw=>HJ _ _ ?_) λaw=>?_) λN=>?_
  ·refine jH d.elems N (by rw[iY];omega) λx O=>?_;have Z:=B n.toNat ω;rw[Z]at O;refine ahP (λP=>⟨N,by have:=d.cap;omega,?_⟩) λP=>?_
   ·obtain⟨L,b⟩:∃L,s.length=L+1:=⟨s.length-1,ω⟩;have y:n.toNat/8=L:=ω
    have aE:og (s.getLastD 0) (n.toNat%8)=true:=by
     rw[D L b,<-y,Option.some.inj O];exact P
    obtain⟨hc,a0⟩:=UW (Nat.mod_lt _ δ) aE λj g A=>by
     have e:=r (8*L+j) ω ω;rw[B _ ω,show(8*L+j)/8=L by omega,show(8*L+j)%8=j by omega,<-D L b]at e;exact Option.some.inj e
    have a1:qX s=n.toNat:=by unfold qX;rw[a0];omega
    have F:zT s 16=if 16<n.toNat then none else some ((bitsOf s).take n.toNat):=by
     unfold zT;rw[if_neg (by rintro(o|o);rw[o]at b;simp at b;exact hc o),a1]
    by_cases ab:n<=16
    ·rw[decide_eq_true ab];rw[if_neg ω]at F;refine hy _ hh _ F ?_ m λl H=>(λac=>⟨I l ac,d.lt l ac⟩) ?_
     ·have:=Qy (n:=n.toNat) d.elems (by rw[ahJ,iY];omega);rw[<-List.map_take]at this;exact this
     ·have ha:(aA t 0 n.toNat 1).a=t.a:=by
       unfold aA;cases t.a with
       |none=>simp
       |some l=>simp
      rw[<-ha];exact H
    ·rw[decide_eq_false ab];rw[if_pos ω]at F;exact G F hh _ m
   ·rw[wrap_i64 (n:=n-1) ω ω];have a2:x=false:=by simpa using P
    refine⟨⟨Ω,Ω,Ω,rfl,λj g A=>?_⟩,Ω⟩
    try dsimp only at g
    by_cases z:j=n.toNat
    ·rw[z,Z,O,a2]
    ·exact r j ω A
  ·obtain⟨L,b⟩:∃L,s.length=L+1:=⟨s.length-1,ω⟩;refine G ?_ hh _ m
   have S:s.getLastD 0=0:=KQ λj z=>by
    have e:=r (8*L+j) ω ω;rw[B _ ω,show(8*L+j)/8=L by omega,show(8*L+j)%8=j by omega,<-D L b]at e;exact Option.some.inj e
   unfold zT;rw[if_pos (.inr S)]
  ·refine G ?_ hh _ m;by_cases E:s=[]
   ·unfold zT;rw[if_pos (.inl E)]
   ·obtain⟨L,b⟩:∃L,s.length=L+1:=⟨s.length-1,by have:=List.length_pos_iff.2 E;omega⟩
    have S:s.getLastD 0=0:=KQ λj z=>by
     have e:=r (8*L+j) ω ω;rw[B _ ω,show(8*L+j)/8=L by omega,show(8*L+j)%8=j by omega,<-D L b]at e;exact Option.some.inj e
    unfold zT;rw[if_pos (.inr S)]
structure DD(h hh:aa)(q mb:Nat)(s:LU)(at_:Nat)(sh:Bool)(m:Ms):Prop where
 rd:RdD hh q s at_ sh
 msg:Var 58 hh mb m.tv
 JF:Var 58 hh h.size aU.tv
 only:ag (λi=>h.size<=i) h hh
 q0:h.size<q
 m0:q<mb
section
variable{hh:aa}{q mb:Nat}{s:LU}{at_:Nat}{sh:Bool}{m:Ms}
theorem DD.ext(d:DD h hh q mb s at_ sh m):Ext h hh:=ahG (ahQ h) d.only λ_ a=>a
theorem DD.more{A:aa}(d:DD h hh q mb s at_ sh m)(x:Ext hh A):DD h A q mb s at_ sh m:=⟨ah8 d.rd x,d.msg.ext x,d.JF.ext x,d.only.trans (air x),d.q0,d.m0⟩
theorem DD.read{A:aa}{B:Nat}{E:Bool}(d:DD h hh q mb s at_ sh m)(v:RdD A q s B E)(f:ag (λi=>i=q\/hh.size<=i) hh A):DD h A q mb s B E m:=
 ⟨v,d.msg.only f (by have:=d.m0;have:=d.msg.lt;omega),d.JF.only f (by have:=d.q0;have:=d.JF.lt;omega),d.only.trans (f.mono λi a=>by have:=d.q0;have:=d.msg.lt;have:=d.JF.lt;omega),d.q0,d.m0⟩
theorem DD.write{A:aa}{B:Ms}(d:DD h hh q mb s at_ sh m)(v:Var 58 A mb B.tv)(f:ag (·=mb) hh A):DD h A q mb s at_ sh B:=
 ⟨Var.only d.rd f (by have:=d.m0;omega),v,d.JF.only f (by have:=d.m0;have:=d.q0;omega),d.only.trans (f.mono λi a=>by have:=d.q0;have:=d.m0;omega),d.q0,d.m0⟩
end
theorem Cq{s:LU}{a n:Nat}(h:a+n<=s.length):O6 s a false (n:Int)=a+n:=by
 unfold O6;rw[if_neg (by rintro(b|b|b)<;>first|cases b|omega)];rfl
theorem w16{l:LU}(A:l.length<=2):ahU .i64 ((num l:Nat):Int)=((num l:Nat):Int):=by
 have a:=zS l;have b:256^l.length<=256^2:=Nat.pow_le_pow_right δ A;rw[wrap_i64 ω ω]
theorem w32{l:LU}(A:l.length<=4):ahU .i64 ((num l:Nat):Int)=((num l:Nat):Int):=by
 have a:=zS l;have b:256^l.length<=256^4:=Nat.pow_le_pow_right δ A;have c:256^4=4294967296:=δ;rw[wrap_i64 ω ω]
theorem abJ{s:LU}{a:Nat}(h:a<s.length):num ((s.drop a).take 1)=(s.getD a 0).toNat:=by
 rw[List.drop_eq_getElem_cons h,List.take_succ_cons,List.take_zero,num,num,aij,ahV h];simp
theorem KR(c:UInt8):ahU .u8 ((c.toNat:Nat):Int)=(c.toNat:Int):=by
 have:=c.toNat_lt;rw[wrap_u8];omega
theorem MK{c:UInt8}(k:UInt8):((c.toNat:Nat):Int)=(k.toNat:Int)↔c=k:=⟨λh=>UInt8.toNat_inj.1 ω,λh=>by rw[h]⟩
theorem abK{s:LU}(h:s.length=53):dM s=none:=by
 by_cases a:s.getD 0 0=1
 ·rw[DH ω a,if_neg ω]
 ·by_cases b:s.getD 0 0=2
  ·rw[DI ω b,if_neg ω]
  ·by_cases c:s.getD 0 0=3
   ·rw[uG ω c,h];rfl
   ·exact ET a b c
theorem KS(n:Nat):eO n []=ahH n:=by
 apply Bs.ext';simp[eO,ahH]
set_option maxHeartbeats 2000000 in
theorem fO{s:LU}(hs:s.length<1000)(hn:dM s=none->∀f,Ext h f->R (ahM [aU.tv,.bool false]).val f)
 (hy:∀d f b,dM s=some d->ak 1 f b (aP d.row)->Ext h f->(∀l,b.a=some l->h.size<=l.b/\l.b<f.size)->R (ahM [(d.ms b).tv,.bool true]).val f):Cl 175 [.str s] h R:=by
 apply sZ;delta aG iQ Dc cV dW c5 fh c4 QG Jy aT bh eE;refine af λY v1 x1 s1=>?_;have v1:Var 58 Y h.size aU.tv:=v1;refine ID (λar=>?_) λar=>?_
 ·refine av (t:=aU.tv) v1 ck eZ λy Z f9 s9=>aZ Z (hn ?_ y (ahG x1 f9 λi p=>ω));by_cases bi:s.length<53
  ·exact uF bi
  ·exact abK ω
 have ar:54<=s.length:=ω;refine af λh2 v2 x2 s2=>af λh3 v3 x3 s3=>?_;have v3:Var 58 h3 h2.size aU.tv:=v3;have d3:DD h h3 Y.size h2.size s 0 false aU:=⟨ah8 v2 x3,v3,(v1.ext x2).ext x3,air ((x1.trans x2).trans x3),ω,ω⟩;refine mY d3.rd (Nat.zero_le _) ω δ λh4 r4 f4=>⟨_,rfl,?_⟩;have u:ir (s.drop 0) false 1=((s.drop 0).take 1,s.drop 1,false):=mV (a:=0) (n:=1) ω;have F:O6 s 0 false 1=1:=Cq (a:=0) (n:=1) ω;rw[F,u]at r4;rw[u];have d4:=d3.read r4 f4;dsimp only;rw[abJ ω];have b9:=(s.getD 0 0).toNat_lt;have bj:ahU .i64 (((s.getD 0 0).toNat:Nat):Int)=((s.getD 0 0).toNat:Int):=by rw[wrap_i64 ω ω]
 rw[bj];generalize Y.size=q at*;generalize h2.size=mb at*;refine aF (i:=0) (t:=.i ((s.getD 0 0).toNat:Int)) (t0:=.i 0) d4.msg rfl rfl rfl rfl λh5 v5 f5 s5=>?_;have d5:DD h h5 q mb s 1 false (Ms.mk ((s.getD 0 0).toNat:Int) 0 (ahH 32) 0 0 ahS (ahH 16)):=d4.write v5 f5;obtain⟨K,O⟩:∃K:Int,K=((s.getD 0 0).toNat:Int):=⟨_,rfl⟩;rw[<-O]at d5;refine mY d5.rd ω ω δ λh6 r6 f6=>⟨_,rfl,?_⟩;have e2:ir (s.drop 1) false 4=((s.drop 1).take 4,s.drop 5,false):=mV (a:=1) (n:=4) ω;have a2:O6 s 1 false 4=5:=Cq (a:=1) (n:=4) ω;rw[a2,e2]at r6;rw[e2];have d6:=d5.read r6 f6;dsimp only;rw[w32 (by rw[ahY];omega)];obtain⟨S,Q⟩:∃S:Int,S=((num ((s.drop 1).take 4):Nat):Int):=⟨_,rfl⟩;rw[<-Q];refine aF (i:=1) (t:=.i S) (t0:=.i 0) d6.msg rfl rfl rfl rfl λh7 v7 f7 s7=>?_;have d7:DD h h7 q mb s 5 false (Ms.mk K S (ahH 32) 0 0 ahS (ahH 16)):=d6.write v7 f7;refine⟨λi hh=>0<=i/\i<=32/\DD h hh q mb s (5+i.toNat) false (Ms.mk K S (eO 32 ((s.drop 5).take i.toNat)) 0 0 ahS (ahH 16)),λi _=>((32:Int)-i).toNat,⟨ahR 0,δ,?_⟩,?_⟩
 ·have:eO 32 ((s.drop 5).take (0:Int).toNat)=ahH 32:=KS 32;rw[this];exact d7
 rintro i h8 ⟨i0,i1,d8⟩;refine ID (λp=>?_) λp=>?_
 ·refine mY d8.rd ω ω δ λy w f9=>⟨_,rfl,i0,p,?_⟩;have U:ir (s.drop (5+i.toNat)) false 1=((s.drop (5+i.toNat)).take 1,s.drop (5+i.toNat+1),false):=mV (n:=1) ω;have a3:O6 s (5+i.toNat) false 1=5+i.toNat+1:=Cq (n:=1) ω;rw[a3,U]at w;rw[U];have d9:=d8.read w f9;dsimp only;have V:=(s.getD (5+i.toNat) 0).toNat_lt;have bY:(s.drop 5)[i.toNat]? =some (s.getD (5+i.toNat) 0):=by rw[List.getElem?_drop,aij,ahV ω];rfl
  rw[abJ ω,KR];refine Hu (i:=2) (o:=2) (k:=i.toNat) d9.msg rfl rfl ω ω ω ω λz v10 f10 aw=>?_;rw[aid,UInt8.ofNat_toNat,J_ bY ω]at v10;rw[wrap_i64 (n:=i+1) ω ω];refine⟨⟨ω,ω,?_⟩,Ω⟩;rw[show(i+1).toNat=i.toNat+1 by omega];exact d9.write v10 f10
 have bk:i.toNat=32:=ω;rw[bk]at d8;obtain⟨T,W⟩:∃T,T=eO 32 ((s.drop 5).take 32):=⟨_,rfl⟩;rw[<-W]at d8;have d8:DD h h8 q mb s 37 false (Ms.mk K S T 0 0 ahS (ahH 16)):=d8
 have no:∀hh a sh m,DD h hh q mb s a sh m->dM s=none->gi hh h.size 0 53/\Bind (aih hh h.size 0 aU.tv) λ(E:aa)=>
  ∃(n:Int),∃(aE:Int),∃(b_:Bs 32),∃(a0:Int),∃(a1:Int),∃(s:Sl),∃(b_1:Bs 16),(ah E h.size 0 (.i n)/\ah E h.size 1 (.i aE)/\ay E h.size 2 32 b_/\ah E h.size 34 (.i a0)/\ah E h.size 35 (.int .u64 a1)/\ah E h.size 36 (aW s)/\ay E h.size 37 16 b_1)/\
   R (ahM [.agg [.i n,.i aE,.bytes 32 b_,.i a0,.int .u64 a1,.slice s,.bytes 16 b_1],.bool false]).val E:=by
  intro hh a sh m d hd;refine av (t:=aU.tv) d.JF ck eZ λy Z f9 s9=>aZ Z ?_;exact hn hd y (ahG d.ext f9 λi p=>ω)
 have ab:K=1↔s.getD 0 0=1:=by rw[O];exact MK 1
 have ac:K=2↔s.getD 0 0=2:=by rw[O];exact MK 2
 have ad:K=3↔s.getD 0 0=3:=by rw[O];exact MK 3
 have wr:∀n:Nat,n<=s.length->ahU .i64 ((s.length:Int)-(n:Int))=(s.length:Int)-(n:Int):=λn h=>wrap_i64 ω ω;have bl:ahU .i64 ((s.length:Int)-37)=(s.length:Int)-37:=wrap_i64 ω ω;have bm:ahU .i64 ((s.length:Int)-37-16)=(s.length:Int)-53:=by rw[wrap_i64 ω ω];omega
 have bo:ahU .i64 ((s.length:Int)-53-2)=(s.length:Int)-55:=by rw[wrap_i64 ω ω];omega
 have bp:ahU .i64 ((s.length:Int)-55-8)=(s.length:Int)-63:=by rw[wrap_i64 ω ω];omega
 rw[bl,bm,bo];intro J1 HJ1;obtain⟨M,hM⟩:∃M:Int,M=((num ((s.drop 37).take 2):Nat):Int):=⟨_,rfl⟩;obtain⟨B,hB⟩:∃B:Int,B=((num ((s.drop 39).take 8):Nat):Int):=⟨_,rfl⟩
 have ae:∀hh a mem r,DD h hh q mb s a false (Ms.mk K S T mem 0 ahS (ahH 16))->((K=1\/K=2)/\a=39/\mem=M/\r=(s.length:Int)-55)\/(K≠1/\K≠2/\a=37/\mem=0/\r=(s.length:Int)-53)->J1 r hh:=by
  intro hh a mem r d c;refine HJ1 r hh ?_;intro J2 a4
  have a5:∀hh a mem H r,DD h hh q mb s a false (Ms.mk K S T mem H ahS (ahH 16))->(K=1/\a=47/\mem=M/\H=B/\r=(s.length:Int)-63)\/(K=2/\a=39/\mem=M/\H=0/\r=(s.length:Int)-55)\/(K≠1/\K≠2/\a=37/\mem=0/\H=0/\r=(s.length:Int)-53)->J2 r hh:=by
   intro hh a mem H r d c;refine a4 r hh ?_;intro J3 a6
   have a7:∀hh a m row r,DD h hh q mb s a false m->m.tag=ahH 16->ak 1 hh m.bits (aP row)->row.length<100000->(∀l,m.bits.a=some l->l.b<hh.size/\l.b≠q/\l.b≠mb/\l.b≠h.size/\h.size<=l.b)->a<=s.length->(r=0->a+16=s.length)->(r≠0->dM s=none)->
    (r=0->dM s=O5 ⟨m.kind,m.slot,m.target,m.ax,m.body,row,eO 16 (s.drop a)⟩)->J3 (false,r) hh:=by
    intro hh a m row r d hz e a8 al ha a9 br bt;refine a6 _ hh ?_;refine⟨λi f=>0<=i/\i<=16/\ag (λi=>i=q\/i=mb\/hh.size<=i) hh f/\∃j sh t,j<=s.length/\DD h f q mb s j sh {m with tag:=t}/\(r=0->j=a+i.toNat/\sh=false/\t=eO 16 ((s.drop a).take i.toNat)),λi _=>((16:Int)-i).toNat,⟨ahR 0,δ,aiz _ _,a,false,m.tag,ha,d,λ_=>⟨rfl,rfl,by rw[hz];exact(KS 16).symm⟩⟩,?_⟩;rintro i y ⟨i0,i1,f9,j,sh,t,am,d9,hg⟩;refine ID (λp=>?_) λp=>?_
    ·refine mY d9.rd am ω δ λz bx f10=>⟨_,rfl,i0,p,?_⟩;have d10:=d9.read bx f10;have a':=aO ((num (ir (s.drop j) sh 1).1:Nat):Int);refine Hu (i:=6) (o:=37) (k:=i.toNat) d10.msg rfl rfl ω ω a'.1 a'.2 λI v11 f11 b0=>?_;rw[wrap_i64 (n:=i+1) ω ω];have d11:DD h I q mb s _ _ {m with tag:=t.set i.toNat (UInt8.ofNat (ahU .u8 ((num (ir (s.drop j) sh 1).1:Nat):Int)).toNat)}:=d10.write v11 f11;have z9:=f9.size;refine⟨⟨ω,ω,(f9.trans (f10.mono λi p=>ω)).trans (f11.mono λi p=>ω),_,_,_,abI am,d11,λA=>?_⟩,Ω⟩;obtain⟨C,g2,J⟩:=hg A;have:=a9 A;have U:ir (s.drop j) false 1=((s.drop j).take 1,s.drop (j+1),false):=mV (n:=1) ω;have a3:O6 s j false 1=j+1:=Cq (n:=1) ω;have bY:(s.drop a)[i.toNat]? =some (s.getD j 0):=by rw[List.getElem?_drop,C,aij,ahV ω];rfl
     rw[g2,a3,U,J];dsimp only;rw[abJ ω,KR,aid,UInt8.ofNat_toNat,J_ bY ω,show(i+1).toNat=i.toNat+1 by omega];exact⟨ω,rfl,rfl⟩
    ·have b1:i.toNat=16:=ω;rw[b1]at hg;dsimp only;refine ahP (λV=>no y _ _ _ d9 (br (by simpa using V))) λV=>?_;have A:r=0:=by simpa using V
     obtain⟨C,g2,J⟩:=hg A;have b':=a9 A;have L:=bt A;refine UU d9.rd am ⟨_,rfl,?_⟩;have b2:(!sh&&decide (s.drop j=[]))=true:=by rw[g2,List.drop_of_length_le ω];rfl
     rw[b2];rw[aiy (by rw[aiP];omega)]at J;subst J;have e9:ak 1 y m.bits (aP row):=e.only f9 λl x=>by have:=al l x;omega
     refine ahO (aZ d9.msg ?_);refine wC (m:={m with tag:=eO 16 (s.drop a)}) (row:=row) e9 a8 λI ao=>⟨_,rfl,?_⟩;have d11:=d9.more ao;unfold O5 at L;have b3:dn {m with tag:=eO 16 (s.drop a)} row=dn ((Dm.mk m.kind m.slot m.target m.ax m.body row (eO 16 (s.drop a))).ms ahS) row:=rfl;rw[b3];cases ba:dn ((Dm.mk m.kind m.slot m.target m.ax m.body row (eO 16 (s.drop a))).ms ahS) row with
     |false=>
      refine ah1 (no I _ _ _ d11 ?_);rw[L,if_neg];show¬dn _ row=true;rw[ba];decide
     |true=>
      refine ahO (aZ d11.msg ?_);refine av d11.JF (t:=({m with tag:=eO 16 (s.drop a)}:Ms).tv) ck eZ λbb b5 f12 ca=>aZ b5 ?_;have hd:dM s=some (Dm.mk m.kind m.slot m.target m.ax m.body row (eO 16 (s.drop a))):=by rw[L];exact if_pos ba
      have b6:Ext h bb:=ahG d11.ext f12 λi p=>ω
      exact hy _ bb m.bits hd ((e9.ext ao).only f12 λl x=>(al l x).2.2.2.1) b6 λl x=>by
       have g:=al l x;have C:=f9.size;have J:=ao.size;have g4:=f12.size;exact⟨g.2.2.2.2,ω⟩
   clear a6;refine⟨K,d.msg.ah rfl,ID (λN=>?_) λN=>?_⟩
   ·have c:a=37/\mem=0/\H=0/\r=(s.length:Int)-53:=by
     rcases c with c|c|c
     ·omega
     ·omega
     ·exact c.2.2
    obtain⟨rfl,rfl,rfl,rfl⟩:=c;refine FC d.rd ω ω ω λy w f9=>⟨_,rfl,?_⟩;have e0:(s.length:Int)-53=((s.length-53:Nat):Int):=ω
    have u:ir (s.drop 37) false ((s.length:Int)-53)=((s.drop 37).take (s.length-53),s.drop (s.length-16),false):=by
     rw[e0,mV ω,show 37+(s.length-53)=s.length-16 by omega]
    have F:O6 s 37 false ((s.length:Int)-53)=s.length-16:=by rw[e0,Cq ω];omega
    rw[u,F]at w;rw[u];have d9:=d.read w (f9.mono λi p=>.inl p);have cc:=d9.msg.lt;have hq:=d9.m0;have cd:=d9.q0;dsimp only;refine O7 (by rw[ahY,aiP];omega) (λb7 z t ap=>⟨_,_,rfl,ah1 (no z _ _ _ (d9.more ap) ?_)⟩) λrow z t G b8 ap bc=>⟨_,_,rfl,ahO ?_⟩
    ·rw[uG ω (ad.1 N),b7]
    ·have d10:=d9.more ap;refine aF (i:=5) (t:=.slice t) (t0:=.slice ahS) d10.msg rfl rfl rfl rfl λI v11 f11 b0=>?_;have d11:DD h I q mb s (s.length-16) false (Ms.mk K S T 0 0 t (ahH 16)):=d10.write v11 f11
     have a8:row.length<=16:=by
      unfold zT at G;split at G
      ·cases G
      ·split at G
       ·cases G
       ·rw[<-Option.some.inj G,ahY];omega
     have L:dM s=O5 ⟨3,((num ((s.drop 1).take 4):Nat):Int),eO 32 ((s.drop 5).take 32),0,0,row,eO 16 (s.drop (s.length-16))⟩:=by
      rw[uG ω (ad.1 N),G]
     refine a7 I _ _ row 0 d11 rfl (b8.only f11 λl x=>by have:=bc l x;omega) ω (λl x=>by have:=bc l x;have:=f11.size;omega) ω (λ_=>ω) (λh=>absurd rfl h) λ_=>?_;rw[L,Q,W,N]
   ·refine a7 hh a _ [] r d rfl (ak.y_ 1 hh) δ (λl x=>by cases x) ω (λA=>ω) (λA=>?_) λA=>?_
    ·rcases c with c|c|c
     ·rw[DH ω (ab.1 c.1),if_neg ω]
     ·rw[DI ω (ac.1 c.1),if_neg ω]
     ·exact ET (λh=>c.1 (ab.2 h)) (λh=>c.2.1 (ac.2 h)) (λh=>N (ad.2 h))
    ·rcases c with c|c|c
     ·obtain⟨C,rfl,rfl,rfl,g5⟩:=c;rw[DH ω (ab.1 C),if_pos ω,Q,W,hM,hB,C]
     ·obtain⟨C,rfl,rfl,rfl,g5⟩:=c;rw[DI ω (ac.1 C),if_pos ω,Q,W,hM,C]
     ·omega
  clear a4;refine⟨K,d.msg.ah rfl,ID (λD=>?_) λD=>?_⟩
  ·have c:a=39/\mem=M/\r=(s.length:Int)-55:=by
    rcases c with c|c
    ·exact c.2
    ·exact absurd D c.1
   obtain⟨rfl,rfl,rfl⟩:=c;refine mY d.rd ω ω δ λy w f9=>⟨_,rfl,?_⟩;have u:ir (s.drop 39) false 8=((s.drop 39).take 8,s.drop 47,false):=mV (a:=39) (n:=8) ω;have F:O6 s 39 false 8=47:=Cq (a:=39) (n:=8) ω;rw[F,u]at w;rw[u];have d9:=d.read w f9;dsimp only;rw[<-hB,bp];refine aF (i:=4) (t:=.int .u64 B) (t0:=.int .u64 0) d9.msg rfl rfl rfl rfl λz v10 f10 aw=>?_;have d10:DD h z q mb s 47 false (Ms.mk K S T mem B ahS (ahH 16)):=d9.write v10 f10;exact a5 z 47 mem B _ d10 (.inl ⟨D,rfl,rfl,rfl,rfl⟩)
  ·refine a5 hh a mem 0 r d ?_;rcases c with c|c
   ·rcases c.1 with g|g
    ·exact absurd g D
    ·exact .inr (.inl ⟨g,c.2.1,c.2.2.1,rfl,c.2.2.2⟩)
   ·exact .inr (.inr ⟨c.1,c.2.1,c.2.2.1,c.2.2.2.1,rfl,c.2.2.2.2⟩)
 clear HJ1
 have bd:∀(P:Int->aa->Prop),(∀f,DD h f q mb s 39 false (Ms.mk K S T M 0 ahS (ahH 16))->P ((s.length:Int)-55) f)->K=1\/K=2->
  Cl 237 [ahN (some (Vc.Loc.mk q 0)),TV.i 2] h8 λ(v:Value)(h:aa)=>∃(n:Int),v=aiA (aia .u64 n)/\gi h mb 34 1/\Bind (aih h mb 34 (TV.i (ahU .i64 n))) λ(h:aa)=>P ((s.length:Int)-55) h:=by
  intro P hP hk;refine mY d8.rd ω ω δ λy w f9=>⟨_,rfl,?_⟩;have u:ir (s.drop 37) false 2=((s.drop 37).take 2,s.drop 39,false):=mV (a:=37) (n:=2) ω;have F:O6 s 37 false 2=39:=Cq (a:=37) (n:=2) ω;rw[F,u]at w;rw[u];have d9:=d8.read w f9;dsimp only;rw[w16 (by rw[ahY];omega),<-hM];refine aF (i:=3) (t:=.i M) (t0:=.i 0) d9.msg rfl rfl rfl rfl λz v10 f10 aw=>?_;exact hP z (d9.write v10 f10)
 refine⟨K,d8.msg.ah rfl,ID (λD=>?_) λD=>⟨K,d8.msg.ah rfl,ID (λX=>?_) λX=>?_⟩⟩
 ·exact bd J1 (λf d'=>ae f 39 M _ d' (.inl ⟨.inl D,rfl,rfl,rfl⟩)) (.inl D)
 ·exact bd J1 (λf d'=>ae f 39 M _ d' (.inl ⟨.inr X,rfl,rfl,rfl⟩)) (.inr X)
 ·exact ae h8 37 0 _ d8 (.inr ⟨D,X,rfl,rfl,rfl⟩)
end
end Board
namespace Pool
open Board (Dm Ms dM bT aU aZ av eZ ck jD fO iK cr jC uo aP ov)
def aY(d:Dm)(peer:Int)(text:LU):It:=⟨d.slot,bT (d.ms ahS) d.row,peer,d.target,text⟩
def fW(want:Int->Bool)(most quota peer:Int)(text:LU)(S:List It):Int×Bs 32×List It:=
 match dM text with
 |none=>(5,ahH 32,S)
 |some d=>if want d.kind=true then((cD most quota (aY d peer text) S).1,(cD most quota (aY d peer text) S).2.1.root,(cD most quota (aY d peer text) S).2.2)else(5,ahH 32,S)
theorem AR{want:Int->Bool}{most quota peer:Int}{text:LU}{S:List It}(h:dM text=none):fW want most quota peer text S=(5,ahH 32,S):=by
 unfold fW;rw[h]
theorem GD{want:Int->Bool}{most quota peer:Int}{text:LU}{S:List It}{d:Dm}(h:dM text=some d)(q:want d.kind=false):fW want most quota peer text S=(5,ahH 32,S):=by
 unfold fW;rw[h];simp only;rw[if_neg (by rw[q];decide)]
theorem DK{want:Int->Bool}{most quota peer:Int}{text:LU}{S:List It}{d:Dm}(h:dM text=some d)(q:want d.kind=true):
 fW want most quota peer text S=((cD most quota (aY d peer text) S).1,(cD most quota (aY d peer text) S).2.1.root,(cD most quota (aY d peer text) S).2.2):=by
 unfold fW;rw[h];simp only;rw[if_pos q]
theorem mZ{text:LU}{d:Dm}(h:dM text=some d):d.row.length<500:=by
 have a:=ov h;unfold Board.dn at a;simp only[aiJ]at a;have b:=a.2;split at b
 ·simp only[aiJ,decide_eq_true_eq]at b;omega
 ·simp only[aiJ,decide_eq_true_eq]at b;omega
section
variable{R:Rq}{h:aa}{o b:Nat}{A:Sl}{S:List It}{most quota:Int}{T:TypeId}
structure WL(T:TypeId)(h:aa)(o b:Nat)(A:Sl)(S:List It)(most quota:Int):Prop where
 var:Var T h o (.agg [.ptr (PT b)])
 pl:PL h b A S most quota
 apart:¬dD b A o
theorem WL.ext{q:aa}(w:WL T h o b A S most quota)(x:Ext h q):WL T q o b A S most quota:=⟨w.var.ext x,w.pl.ext x,w.apart⟩
theorem WL.only{q:aa}{Q:Nat->Prop}(w:WL T h o b A S most quota)(f:ag Q h q)(B:¬Q o)(E:∀i,dD b A i->¬Q i):WL T q o b A S most quota:=⟨w.var.only f B,w.pl.only f E,w.apart⟩
theorem WL.grown{q:aa}{A':Sl}{S':List It}(w:WL T h o b A S most quota)(p:PL q b A' S' most quota)(g:Grown b A h A' q):WL T q o b A' S' most quota:=
 ⟨w.var.only g.only w.apart,p,λc=>by
  rcases g.new o c with a|a
  ·exact w.apart a
  ·have:=w.var.lt;omega⟩
def X0(most quota:Int):Prop:=1<=most/\most<=64/\1<=quota/\quota<=64
theorem UX{q:Int}(B:¬X0 most q->R (ahN none).val h)(E:X0 most q->∀a,WL 172 a (h.size+1) h.size ahS [] most q->Ext h a->a.size=h.size+2->R (ahN (some ⟨h.size+1,0⟩)).val a):
 Cl 76 [.i most,.i q] h R:=by
 apply DJ;delta mD rG fh aT eE;refine DB (λf=>⟨_,rfl,ah1 (B f)⟩) λg m b j c=>⟨_,rfl,ahO (af λk d e n=>?_)⟩;rw[c]at d;have:=E g k ⟨d,b.ext e,λl=>by have:=b.lt l;omega⟩ (j.trans e) ω;rw[c];exact this
theorem UY{q:Int}(B:¬X0 most q->R (ahN none).val h)(E:X0 most q->∀a,WL 212 a (h.size+1) h.size ahS [] most q->Ext h a->a.size=h.size+2->R (ahN (some ⟨h.size+1,0⟩)).val a):
 Cl 77 [.i most,.i q] h R:=by
 apply Ge;delta mD rG fh aT eE;refine DB (λf=>⟨_,rfl,ah1 (B f)⟩) λg m b j c=>⟨_,rfl,ahO (af λk d e n=>?_)⟩;rw[c]at d;have:=E g k ⟨d,b.ext e,λl=>by have:=b.lt l;omega⟩ (j.trans e) ω;rw[c];exact this
theorem UZ(w:WL 172 h o b A S most quota){r:Bs 32}(q:∀c,Ext h c->R (ahT (has r S)).val c):Cl 37 [.ptr (PT o),.bytes 32 r] h R:=by
 apply rQ;delta SX iR jw bO bV bu bK mN;refine af λf v1 a g=>ah1 ⟨_,(w.var.ext a).ah rfl,r,v1.bytes,Ig (w.pl.ext a) λd e=>⟨_,rfl,q d (a.trans e)⟩⟩
theorem U0(w:WL 212 h o b A S most quota){r:Bs 32}(q:∀c,Ext h c->R (ahT (has r S)).val c):Cl 371 [.ptr (PT o),.bytes 32 r] h R:=by
 apply yb;delta SX iR jw bO bV bu bK mN;refine af λf v1 a g=>ah1 ⟨_,(w.var.ext a).ah rfl,r,v1.bytes,Ig (w.pl.ext a) λd e=>⟨_,rfl,q d (a.trans e)⟩⟩
theorem U1(w:WL 172 h o b A S most quota)(q:R (TV.i (S.length:Int)).val h):Cl 83 [.ptr (PT o)] h R:=by
 apply rS;delta Ko aD gM dw dO aT bh;exact ahO ⟨_,w.var.ah rfl,EN w.pl ⟨_,rfl,q⟩⟩
theorem U2(w:WL 212 h o b A S most quota)(q:R (TV.i (S.length:Int)).val h):Cl 84 [.ptr (PT o)] h R:=by
 apply yc;delta Ko aD gM dw dO aT bh;exact ahO ⟨_,w.var.ah rfl,EN w.pl ⟨_,rfl,q⟩⟩
theorem U3(w:WL 172 h o b A S most quota){peer:Int}{text:LU}(G:1<=most)(H:most<=64)(I:(S.length:Int)<=most)(ht:text.length<1000)
 (hr:∀K A',WL 172 K o b A' (fW (λk=>decide (k=1)) most quota peer text S).2.2 most quota->Grown b A h A' K->R (ahM [.i (fW (λk=>decide (k=1)) most quota peer text S).1,.bytes 32 (fW (λk=>decide (k=1)) most quota peer text S).2.1]).val K):
 Cl 209 [.ptr (PT o),.i peer,.str text] h R:=by
 apply rT;delta dZ jx Fo Fm dH cV ZG C_ bu aJ fU bK bh eE;refine af λh1 v1 Z s1=>?_
 have L:∀r,Ext h1 r->fW (λk=>decide (k=1)) most quota peer text S=(5,ahH 32,S)->
  gi r h.size 0 32/\Bind (aih r h.size 0 (ahZ 32 (ahH 32))) λ(ab:aa)=>∃(b:Bs 32),ay ab h.size 0 32 b/\R (ahM [.i 5,.bytes 32 b]).val ab:=by
  intro r xx he;refine av (v1.ext xx) (t:=.bytes 32 (ahH 32)) rfl rfl λs z f5 s5=>⟨_,z.bytes,?_⟩;rw[he]at hr;have e:Ext h s:=ahG (Z.trans xx) f5 λi c=>ω;exact hr s A (w.ext e) (.an e)
 refine jD ω (λal E F=>?_) λd E bs M e2 F _=>?_
 ·refine⟨_,_,_,_,_,_,_,_,rfl,af λh3 N O s3=>av (t0:=aU.tv) N (t:=aU.tv) ck eZ λu v4 f4 s4=>?_⟩;have B:Ext E u:=ahG O f4 λi c=>ω;intro J P;exact ahO (ah1 (L u (F.trans B) (AR al)))
 refine⟨_,_,_,_,_,_,_,_,rfl,af λh3 N O s3=>av (t0:=aU.tv) N (t:=(d.ms bs).tv) ck eZ λu v4 f4 s4=>?_⟩;have B:Ext E u:=ahG O f4 λi c=>ω;have Q:=F.trans B;have l:=Z.trans Q;intro J P;have aw:=B.size;have z2:=F.size;refine ahO (ahO ⟨d.kind,v4.ah rfl,ahP (λT=>?_) λT=>?_⟩)
 ·have am:d.kind≠1:=by simpa using T
  exact L u Q (GD M (decide_eq_false am))
 have ao:decide (d.kind=1)=true:=by simpa using T
 refine P 0 u ?_;clear P L;intro J2 ap;have ac:=DK (most:=most) (quota:=quota) (peer:=peer) (S:=S) (want:=λk=>decide (k=1)) M ao
 have U:∀(r:aa)(q:Nat)(A':Sl)(a:OL×OL×Int×Bs 32×Int×Bs 32×LU×Int×OL×Int),a.2.2.2.2.2.2.2.2=(some ⟨q,0⟩,(cD most quota (aY d peer text) S).1)->
  Var 242 r q (cD most quota (aY d peer text) S).2.1.tv->PL r b A' (cD most quota (aY d peer text) S).2.2 most quota->Grown b A u A' r->J2 a r:=by
  intro r q A' a ha vq p g;refine ap a r ?_;dsimp only;rw[ha];refine⟨_,jU vq,?_⟩;have ar:Var 52 r h.size (.bytes 32 (ahH 32)):=(v1.ext Q).only g.only λv=>by have:=w.pl.lt v;omega
  refine av ar (t:=.bytes 32 (cD most quota (aY d peer text) S).2.1.root) rfl uo λs z f5 s5=>⟨_,z.bytes,?_⟩
  have g5:Grown b A h A' s:=⟨⟨by have:=l.size;have:=g.only.size;omega,λi c C=>by
   rw[f5.same i (by have:=l.size;have:=g.only.size;omega) ω,g.only.same i (by have:=l.size;omega) C,l.same i c]⟩,λi c=>by
   rcases g.new i c with f|f
   ·exact .inl f
   ·exact .inr (by have:=l.size;omega)⟩
  have p5:PL s b A' (cD most quota (aY d peer text) S).2.2 most quota:=p.only f5 λi c v=>by
   rcases g.new i c with f|f
   ·have:=w.pl.lt f;omega
   ·have:=l.size;omega
  have:=hr s A' (by rw[ac];exact w.grown p5 g5) g5;rw[ac]at this;exact this
 have ad:=mZ M;have e4:=e2.ext B;have v4:Var 58 u E.size (d.ms bs).tv:=v4;refine⟨_,(w.var.ext l).ah rfl,d.slot,v4.ah rfl,aZ v4 ⟨d.target,v4.at.2.2.1,⟨?_,?_⟩⟩⟩
 ·refine iK (m:=d.ms bs) e4 ad λs e=>⟨_,rfl,e,⟨?_,?_⟩⟩
  ·refine nM (x:=aY d peer text) ((w.pl.ext l).ext e) G H I λV A' p6 g6=>⟨_,_,_,_,_,_,rfl,?_⟩;refine af λh7 v7 x7 s7=>⟨x7,av (t0:=It.zero.tv) v7 (t:=(cD most quota (aY d peer text) S).2.1.tv) (It.size _).symm rfl λy D f8 s8=>?_⟩;have ae:Ext V y:=ahG x7 f8 λi c=>ω;exact U y _ A' _ rfl D (p6.ext ae) ((Grown.an e).trans (g6.trans (.an ae)))
  ·refine af λV v6 j s6=>⟨j,?_⟩;refine nM (x:=aY d peer text) (((w.pl.ext l).ext e).ext j) G H I λh7 A' W n=>⟨_,_,_,_,_,_,rfl,?_⟩
   have X:∀i,dD b A' i->i≠s.size:=λi c=>by
    rcases n.new i c with f|f
    ·have:=w.pl.lt f;have:=l.size;have:=e.size;omega
    ·omega
   have Y:¬dD b A s.size:=λv=>by have:=w.pl.lt v;have:=l.size;have:=e.size;omega
   refine av (t0:=It.zero.tv) (v6.only n.only Y) (t:=(cD most quota (aY d peer text) S).2.1.tv) (It.size _).symm rfl λy D f8 s8=>?_;refine U y _ A' _ rfl D (W.only f8 X) ((Grown.an e).trans ⟨⟨by have:=j.size;have:=n.only.size;omega,λi c C=>?_⟩,λi c=>?_⟩)
   ·have:=j.size;have:=n.only.size;rw[f8.same i ω ω,n.only.same i ω C,j.same i c]
   ·rcases n.new i c with f|f
    ·exact .inl f
    ·have:=j.size;exact .inr ω
 ·refine af λs z e s5=>⟨e,?_⟩;refine iK (m:=d.ms bs) (e4.ext e) ad λV j=>⟨_,rfl,j,?_⟩;refine nM (x:=aY d peer text) (((w.pl.ext l).ext e).ext j) G H I λh7 A' W n=>⟨_,_,_,_,_,_,rfl,?_⟩
  have X:∀i,dD b A' i->i≠u.size:=λi c=>by
   rcases n.new i c with f|f
   ·have:=w.pl.lt f;have:=l.size;omega
   ·have:=j.size;omega
  have Y:¬dD b A u.size:=λv=>by have:=w.pl.lt v;have:=l.size;omega
  refine av (t0:=It.zero.tv) ((z.ext j).only n.only Y) (t:=(cD most quota (aY d peer text) S).2.1.tv) (It.size _).symm rfl λy D f8 s8=>?_;refine U y _ A' _ rfl D (W.only f8 X) ⟨⟨by have:=e.size;have:=j.size;have:=n.only.size;omega,λi c C=>?_⟩,λi c=>?_⟩
  ·have:=e.size;have:=j.size;have:=n.only.size;rw[f8.same i ω ω,n.only.same i ω C,j.same i ω,e.same i c]
  ·rcases n.new i c with f|f
   ·exact .inl f
   ·have:=e.size;have:=j.size;exact .inr ω
theorem U4(w:WL 212 h o b A S most quota){peer:Int}{text:LU}(G:1<=most)(H:most<=64)(I:(S.length:Int)<=most)(ht:text.length<1000)
 (hr:∀K A',WL 212 K o b A' (fW (λk=>!decide (k=1)) most quota peer text S).2.2 most quota->Grown b A h A' K->R (ahM [.i (fW (λk=>!decide (k=1)) most quota peer text S).1,.bytes 32 (fW (λk=>!decide (k=1)) most quota peer text S).2.1]).val K):
 Cl 150 [.ptr (PT o),.i peer,.str text] h R:=by
 apply yd;delta dZ jx Fo Fm dH cV ZG C_ bu aJ fU bK bh eE;refine af λh1 v1 Z s1=>?_
 have L:∀r,Ext h1 r->fW (λk=>!decide (k=1)) most quota peer text S=(5,ahH 32,S)->
  gi r h.size 0 32/\Bind (aih r h.size 0 (ahZ 32 (ahH 32))) λ(ab:aa)=>∃(b:Bs 32),ay ab h.size 0 32 b/\R (ahM [.i 5,.bytes 32 b]).val ab:=by
  intro r xx he;refine av (v1.ext xx) (t:=.bytes 32 (ahH 32)) rfl rfl λs z f5 s5=>⟨_,z.bytes,?_⟩;rw[he]at hr;have e:Ext h s:=ahG (Z.trans xx) f5 λi c=>ω;exact hr s A (w.ext e) (.an e)
 refine jD ω (λal E F=>?_) λd E bs M e2 F _=>?_
 ·refine⟨_,_,_,_,_,_,_,_,rfl,af λh3 N O s3=>av (t0:=aU.tv) N (t:=aU.tv) ck eZ λu v4 f4 s4=>?_⟩;have B:Ext E u:=ahG O f4 λi c=>ω;intro J P;exact ahO (ah1 (L u (F.trans B) (AR al)))
 refine⟨_,_,_,_,_,_,_,_,rfl,af λh3 N O s3=>av (t0:=aU.tv) N (t:=(d.ms bs).tv) ck eZ λu v4 f4 s4=>?_⟩;have B:Ext E u:=ahG O f4 λi c=>ω;have Q:=F.trans B;have l:=Z.trans Q;intro J P;have ar:=B.size;have z2:=F.size;refine ahO (ahO ⟨d.kind,v4.ah rfl,ID (λT=>?_) λT=>?_⟩)
 ·exact L u Q (GD M (by rw[decide_eq_true T];rfl))
 have am:(!decide (d.kind=1))=true:=by rw[decide_eq_false T];rfl
 refine P 0 u ?_;clear P L;intro J2 ao;have ac:=DK (most:=most) (quota:=quota) (peer:=peer) (S:=S) (want:=λk=>!decide (k=1)) M am
 have U:∀(r:aa)(q:Nat)(A':Sl)(a:OL×OL×Int×Bs 32×Int×Bs 32×LU×Int×OL×Int),a.2.2.2.2.2.2.2.2=(some ⟨q,0⟩,(cD most quota (aY d peer text) S).1)->
  Var 242 r q (cD most quota (aY d peer text) S).2.1.tv->PL r b A' (cD most quota (aY d peer text) S).2.2 most quota->Grown b A u A' r->J2 a r:=by
  intro r q A' a ha vq p g;refine ao a r ?_;dsimp only;rw[ha];refine⟨_,jU vq,?_⟩;have ap:Var 52 r h.size (.bytes 32 (ahH 32)):=(v1.ext Q).only g.only λv=>by have:=w.pl.lt v;omega
  refine av ap (t:=.bytes 32 (cD most quota (aY d peer text) S).2.1.root) rfl uo λs z f5 s5=>⟨_,z.bytes,?_⟩
  have g5:Grown b A h A' s:=⟨⟨by have:=l.size;have:=g.only.size;omega,λi c C=>by
   rw[f5.same i (by have:=l.size;have:=g.only.size;omega) ω,g.only.same i (by have:=l.size;omega) C,l.same i c]⟩,λi c=>by
   rcases g.new i c with f|f
   ·exact .inl f
   ·exact .inr (by have:=l.size;omega)⟩
  have p5:PL s b A' (cD most quota (aY d peer text) S).2.2 most quota:=p.only f5 λi c v=>by
   rcases g.new i c with f|f
   ·have:=w.pl.lt f;omega
   ·have:=l.size;omega
  have:=hr s A' (by rw[ac];exact w.grown p5 g5) g5;rw[ac]at this;exact this
 have ad:=mZ M;have e4:=e2.ext B;have v4:Var 58 u E.size (d.ms bs).tv:=v4;refine⟨_,(w.var.ext l).ah rfl,d.slot,v4.ah rfl,aZ v4 ⟨d.target,v4.at.2.2.1,⟨?_,?_⟩⟩⟩
 ·refine iK (m:=d.ms bs) e4 ad λs e=>⟨_,rfl,e,⟨?_,?_⟩⟩
  ·refine nM (x:=aY d peer text) ((w.pl.ext l).ext e) G H I λV A' p6 g6=>⟨_,_,_,_,_,_,rfl,?_⟩;refine af λh7 v7 x7 s7=>⟨x7,av (t0:=It.zero.tv) v7 (t:=(cD most quota (aY d peer text) S).2.1.tv) (It.size _).symm rfl λy D f8 s8=>?_⟩;have ae:Ext V y:=ahG x7 f8 λi c=>ω;exact U y _ A' _ rfl D (p6.ext ae) ((Grown.an e).trans (g6.trans (.an ae)))
  ·refine af λV v6 j s6=>⟨j,?_⟩;refine nM (x:=aY d peer text) (((w.pl.ext l).ext e).ext j) G H I λh7 A' W n=>⟨_,_,_,_,_,_,rfl,?_⟩
   have X:∀i,dD b A' i->i≠s.size:=λi c=>by
    rcases n.new i c with f|f
    ·have:=w.pl.lt f;have:=l.size;have:=e.size;omega
    ·omega
   have Y:¬dD b A s.size:=λv=>by have:=w.pl.lt v;have:=l.size;have:=e.size;omega
   refine av (t0:=It.zero.tv) (v6.only n.only Y) (t:=(cD most quota (aY d peer text) S).2.1.tv) (It.size _).symm rfl λy D f8 s8=>?_;refine U y _ A' _ rfl D (W.only f8 X) ((Grown.an e).trans ⟨⟨by have:=j.size;have:=n.only.size;omega,λi c C=>?_⟩,λi c=>?_⟩)
   ·have:=j.size;have:=n.only.size;rw[f8.same i ω ω,n.only.same i ω C,j.same i c]
   ·rcases n.new i c with f|f
    ·exact .inl f
    ·have:=j.size;exact .inr ω
 ·refine af λs z e s5=>⟨e,?_⟩;refine iK (m:=d.ms bs) (e4.ext e) ad λV j=>⟨_,rfl,j,?_⟩;refine nM (x:=aY d peer text) (((w.pl.ext l).ext e).ext j) G H I λh7 A' W n=>⟨_,_,_,_,_,_,rfl,?_⟩
  have X:∀i,dD b A' i->i≠u.size:=λi c=>by
   rcases n.new i c with f|f
   ·have:=w.pl.lt f;have:=l.size;omega
   ·have:=j.size;omega
  have Y:¬dD b A u.size:=λv=>by have:=w.pl.lt v;have:=l.size;omega
  refine av (t0:=It.zero.tv) ((z.ext j).only n.only Y) (t:=(cD most quota (aY d peer text) S).2.1.tv) (It.size _).symm rfl λy D f8 s8=>?_;refine U y _ A' _ rfl D (W.only f8 X) ⟨⟨by have:=e.size;have:=j.size;have:=n.only.size;omega,λi c C=>?_⟩,λi c=>?_⟩
  ·have:=e.size;have:=j.size;have:=n.only.size;rw[f8.same i ω ω,n.only.same i ω C,j.same i ω,e.same i c]
  ·rcases n.new i c with f|f
   ·exact .inl f
   ·have:=e.size;have:=j.size;exact .inr ω
end
end Pool
namespace Pool
open Board (Dm Ms dM bT aU aZ av eZ ck jD uo aP bq)
def j9(text:LU):Dm:=(dM text).getD Dm.zero
theorem qx{text:LU}{d:Dm}(h:dM text=some d):j9 text=d:=by unfold j9;rw[h];rfl
theorem KU{text:LU}(h:dM text=none):j9 text=Dm.zero:=by unfold j9;rw[h];rfl
theorem DL{R:Rq}{h:aa}{s:LU}(B:s.length<100000)(q:∀a b ok,ak 1 a b (aP (j9 s).row)->Ext h a->(∀l,b.a=some l->h.size<=l.b/\l.b<a.size)->R (ahM [((j9 s).ms b).tv,.bool ok]).val a):
 Cl 169 [.str s] h R:=by
 refine jD B (λc a x=>?_) λd a b f e x g=>?_
 ·have:=q a ahS false;rw[KU c]at this;exact this (ak.y_ 1 a) x λl i=>by cases i
 ·have:=q a b true;rw[qx f]at this;exact this e x g
structure Bk where
 r:Bs 32
 d:Dm
 b:Sl
def Bk.ms(k:Bk):Ms:=k.d.ms k.b
def Bk.U5(k:Bk):TV:=k.ms.tv
def Bk.VY(k:Bk):TV:=.agg [.bytes 32 k.r,k.ms.tv]
def Bk.of(k:Bk):Bs 32×Dm:=(k.r,k.d)
theorem Bk.X1(k:Bk):k.U5.size=53:=ck.symm
theorem O8(m:Ms):m.tv.plain=true:=by simp only[Ms.tv,aiR,aj.plain,Bool.and_self]
theorem Bk.X2(k:Bk):k.U5.plain=true:=O8 _
theorem Bk.X4(k:Bk):k.VY.size=85:=by
 have:=k.X1;unfold Bk.U5 at this;simp only[Bk.VY,ail,aj.size,this]
theorem Bk.abL(k:Bk):k.VY.plain=true:=by
 have:=O8 k.ms;simp only[Bk.VY,aiR,aj.plain,this,Bool.and_self]
def Kept(n:Nat)(q:aa)(t:Sl)(bs:List Bk):Prop:=∀k∈bs,ak 1 q k.b (aP k.d.row)/\∀l,k.b.a=some l->n<=l.b/\l.b<q.size/\¬In t l.b
theorem Kept.nil(n:Nat)(q:aa)(t:Sl):Kept n q t []:=λk a=>by cases a
theorem Kept.ext{n:Nat}{q B:aa}{t:Sl}{bs:List Bk}(K:Kept n q t bs)(x:Ext q B):Kept n B t bs:=λk a=>
 ⟨(K k a).1.ext x,λl b=>⟨((K k a).2 l b).1,by have:=((K k a).2 l b).2.1;have:=x.size;omega,((K k a).2 l b).2.2⟩⟩
theorem Kept.step{n T sz:Nat}{q B G:aa}{t t':Sl}{ts:List TV}{bs:List Bk}{k:Bk}(K:Kept n q t bs)(o:Own T sz q t ts)(x:Ext q B)(I:n<=q.size)(e:ak 1 B k.b (aP k.d.row))
 (E:∀l,k.b.a=some l->q.size<=l.b/\l.b<B.size)(f:ag (In t) B G)(H:∀l,t'.a=some l->(∃h,t.a=some h/\h.b=l.b)\/B.size<=l.b):Kept n G t' (bs++[k]):=by
 have j:∀i,In t i->i<q.size:=λi⟨l,a,r⟩=>by have:=o.lt l a;omega
 have p:∀i,In t' i->In t i\/B.size<=i:=λi⟨l,a,r⟩=>by
  rcases H l a with⟨h,b,v⟩|b
  ·exact .inl ⟨h,b,ω⟩
  ·exact .inr ω
 have w:=x.size;have y:=f.size;intro m s;rcases List.mem_append.1 s with b|b
 ·obtain⟨u,c⟩:=K m b;refine⟨(u.ext x).only f λl a=>(c l a).2.2,λl a=>⟨(c l a).1,by have:=(c l a).2.1;omega,λd=>?_⟩⟩;rcases p _ d with g|g
  ·exact(c l a).2.2 g
  ·have:=(c l a).2.1;omega
 ·rw[aiB.1 b];refine⟨e.only f λl a d=>by have:=j _ d;have:=E l a;omega,λl a=>⟨by have:=E l a;omega,by have:=E l a;omega,λd=>?_⟩⟩;rcases p _ d with g|g
  ·have:=j _ g;have:=E l a;omega
  ·have:=E l a;omega
section
variable{R:Rq}{h:aa}{o b:Nat}{A:Sl}{S L:List It}{most quota:Int}{T:TypeId}
theorem Tp:(ctx.ti 342).bytes=136:=κ
theorem abM:(ctx.ti 342).size=85:=κ
theorem aac:(ctx.ti 342).z.size=85:=κ
theorem GF:(ctx.ti 58).bytes=104:=κ
theorem X7:(ctx.ti 58).size=53:=κ
theorem Tq:(ctx.ti 58).z.size=53:=κ
theorem AS:(ctx.ti 52).bytes=32:=κ
theorem ML:(ctx.ti 52).size=32:=κ
theorem GG:(ctx.ti 52).z.size=32:=κ
theorem jV{x:Bs 32}:(ahZ 32 x).size=32:=by simp only[ail]
theorem Im{x:Bs 32}:(ahZ 32 x).plain=true:=by simp only[aiR]
theorem O9{s:Sl}(e:ak 67 h s (oc L))(q:L.length<1000)(G:∀x∈L,x.text.length<1000)
 (I:∀d t(bs:List Bk),bs.map Bk.of=L.map (λx=>(x.root,j9 x.text))->Own 342 85 d t (bs.map Bk.VY)->Kept h.size d t bs->Ext h d->FA h t->R (ah9 t).val d):Cl 298 [.slice s] h R:=by
 apply zX;delta jx zn dW jT dL fJ bN;have el:=e.len;rw[ahJ]at el
 refine⟨λσ g=>0<=σ.2/\σ.2<=L.length/\Ext h g/\FA h σ.1/\∃bs:List Bk,bs.map Bk.of=(L.take σ.2.toNat).map (λx=>(x.root,j9 x.text))/\Own 342 85 g σ.1 (bs.map Bk.VY)/\Kept h.size g σ.1 bs,λσ _=>((L.length:Int)-σ.2).toNat,
  ⟨ahR 0,Ω,ahQ _,(λl q=>by cases q),[],rfl,aik _ _ _,Kept.nil _ _ _⟩,?_⟩
 rintro⟨t,i⟩ y ⟨z,J,a,m,bs,b,c,u⟩;dsimp only at z J a m b c u⊢;have M:=a.size;refine ID (λv=>?_) λv=>?_
 ·refine gJ (e.ext a) z ω λl x _ A=>?_;refine af λh3 N O s3=>aH N (t:=x.tv) rfl λP v4 f4 s4=>?_;have B:Ext y P:=ahG O f4 λi v=>ω;have ad:=G x (aim A);have ae:=B.size;refine⟨x.text,Mz v4,DL ω λQ D ok S w U=>⟨_,_,_,_,_,_,_,_,rfl,?_⟩⟩;refine af λh6 v6 V s6=>av (t0:=aU.tv) v6 (t:=((j9 x.text).ms D).tv) ck eZ λW X f7 s7=>?_;have o:Ext Q W:=ahG V f7 λi v=>ω;have p:=B.trans (w.trans o);refine⟨x.root,jU (x:=x) ((v4.ext w).ext o),aZ X ?_⟩;have Y:=c.len;rw[ahJ,<-ahJ (f:=Bk.of),b,ahJ,ahY]at Y;obtain⟨k,r⟩:∃k,k=Bk.mk x.root (j9 x.text) D:=⟨_,rfl⟩;have z5:=w.size;have al:=o.size;refine cz (C:=ctx) (T:=342) (sz:=85) (x:=k.VY) abM aac (by rw[Tp];decide) (by rw[Tp];omega) (c.ext p) k.X4 k.abL (K:=λam g=>_) ?_|>λH=>by rw[r]at H;exact H
  intro t8 Z o8 f8 E;rw[wrap_i64 (n:=i+1) ω ω];have K8:=Kept.step (k:=k) u c p M (by rw[r];exact S.ext o) (λl q=>by rw[r]at q;have:=U l q;omega) f8 E;have x8:Ext h Z:=ahG (a.trans p) f8 λj⟨l,q,hj⟩=>by have:=m l q;omega
  have ab:(i+1).toNat=i.toNat+1:=ω;refine⟨⟨Ω,Ω,x8,λl q=>?_,bs++[k],?_,?_,K8⟩,Ω⟩
  ·rcases E l q with⟨l',F,ao⟩|F
   ·have:=m l' F;omega
   ·have:=p.size;omega
  ·try dsimp only
   rw[ab,bq A,ah5,ah5,b,r];rfl
  ·rw[ah5];exact o8
 ·have ac:i.toNat=L.length:=ω;rw[ac,aif]at b;exact I y t bs b c u a m
theorem X9{x:It}{c:Nat}{r:Bs 32}{T:TypeId}(v:Var T h c (.bytes 32 r))(q:∀a,Ext h a->R (ahT (decide (x.fr=r))).val a):Cl 299 [x.tv,.ptr (PT c)] h R:=by
 apply qZ x.slot x.root x.peer x.fr x.text;delta mE bu;refine af λd v1 b f=>⟨x.fr,abD (x:=x) v1,r,(v.ext b).bytes,?_⟩;have:decide (x.fr.1=r.1)=decide (x.fr=r):=decide_eq_decide.2 ⟨λe=>Bs.ext' e,λe=>by rw[e]⟩;dsimp only;rw[this];exact q d b
theorem Rj{x:It}{c:Nat}{n:Int}{T:TypeId}(v:Var T h c (.i n))(q:∀a,Ext h a->R (ahT (decide (x.slot<=n))).val a):Cl 179 [x.tv,.ptr (PT c)] h R:=by
 apply oS x.slot x.root x.peer x.fr x.text;delta aJ;exact af λd v1 b e=>⟨x.slot,mU (x:=x) v1,n,(v.ext b).ah rfl,q d b⟩
theorem Rk{x:It}{c:Nat}{n:Int}{T:TypeId}(v:Var T h c (.i n))(q:∀a,Ext h a->R (ahT (decide (x.slot<n))).val a):Cl 167 [x.tv,.ptr (PT c)] h R:=by
 apply tc x.slot x.root x.peer x.fr x.text;delta aJ;exact af λd v1 b e=>⟨x.slot,mU (x:=x) v1,n,(v.ext b).ah rfl,q d b⟩
structure Out(h h':aa)(o b:Nat)(A':Sl)(t:Sl)(bs:List Bk):Prop where
 ex:∃n,h.size<=n/\(∀i,dD b A' i->i<n)/\(∀l,t.a=some l->n<=l.b)/\Kept n h' t bs
theorem X_(w:WL 172 h o b A S most quota)(q:∀x∈S,x.text.length<1000){r:Bs 32}
 (B:∀a A' t(bs:List Bk),WL 172 a o b A' (S.filter λx=>!decide (x.fr=r)) most quota->Grown b A h A' a->bs.map Bk.of=(S.filter λx=>decide (x.fr=r)).map (λx=>(x.root,j9 x.text))->Own 342 85 a t (bs.map Bk.VY)->Out h a o b A' t bs->R (ah9 t).val a):
 Cl 267 [.ptr (PT o),.bytes 32 r] h R:=by
 apply td;delta uh pW bV fh bK eE;have D:=w.pl.jk;refine af λE v1 c F=>ahO ⟨_,(w.var.ext c).ah rfl,?_⟩;refine EO (f:=⟨(aiK (.func 299) [] [.ptr (PT h.size)]).val,rfl⟩) (pred:=λx=>decide (x.fr=r)) (w.pl.ext c) ⟨299,#[],#[(ahN (PT h.size)).val],rfl,bI.Ju κ,λa x R' l m=>X9 (x:=x) (v1.ext l) m⟩ λn A' out d p e G H=>⟨_,rfl,?_⟩;have I:(S.filter λx=>decide (x.fr=r)).length<=S.length:=ais ..;refine O9 p.elems ω (λx s=>q x ((List.mem_filter.1 s).1)) λg t bs u v y j z=>⟨_,rfl,?_⟩;have k:Grown b A h A' g:=(Grown.an c).trans (e.trans (.an j));have:=e.only.size;have:=c.size;exact B g A' t bs (w.grown (d.ext j) k) k u v ⟨n.size,ω,λi C=>d.lt C,z,y⟩
theorem Rl(w:WL 172 h o b A S most quota){n:Int}
 (q:∀a A',WL 172 a o b A' (S.filter λx=>!decide (x.slot<=n)) most quota->Grown b A h A' a->R (TV.i ((S.filter λx=>decide (x.slot<=n)).length:Int)).val a):
 Cl 117 [.ptr (PT o),.i n] h R:=by
 apply q6;delta mC uh aD fh dO bN aT bh eE;refine af λp v1 c r=>ahO ⟨_,(w.var.ext c).ah rfl,?_⟩;refine EO (f:=⟨(aiK (.func 179) [] [.ptr (PT h.size)]).val,rfl⟩) (pred:=λx=>decide (x.slot<=n)) (w.pl.ext c) ⟨179,#[],#[(ahN (PT h.size)).val],rfl,bI.Ju κ,λa x R' g j=>Rj (x:=x) (v1.ext g) j⟩ λd A' out k l m s t=>⟨_,rfl,?_⟩;have ol:=l.len;rw[ahJ]at ol;dsimp only;rw[<-ol];have e:Grown b A h A' d:=(Grown.an c).trans m;exact q d A' (w.grown k e) e
abbrev rts(L:List (Bs 32)):List TV:=L.map (ahZ 32)
theorem Rm(w:WL 212 h o b A S most quota)(Z:∀x∈S,x.text.length<1000){n:Int}
 (E:∀c A' t(bs:List Bk),WL 212 c o b A' (S.filter λx=>!decide (x.slot<n)) most quota->Grown b A h A' c->bs.map Bk.of=(S.filter λx=>decide (x.slot<n)).map (λx=>(x.root,j9 x.text))->Own 58 53 c t (bs.map Bk.U5)->Out h c o b A' t bs->R (ah9 t).val c):
 Cl 103 [.ptr (PT o),.i n] h R:=by
 apply wI;delta uh jx zn dW pW jT fh dL fJ bN aT eE;have am:=w.pl.jk;refine af λh1 v1 y s1=>ahO ⟨_,(w.var.ext y).ah rfl,?_⟩;refine EO (f:=⟨(aiK (.func 167) [] [.ptr (PT h.size)]).val,rfl⟩) (pred:=λx=>decide (x.slot<n)) (w.pl.ext y) ⟨167,#[],#[(ahN (PT h.size)).val],rfl,bI.Ju κ,λc x R' X Y=>Rk (x:=x) (v1.ext X) Y⟩ λd A' out F G g2 ao ap=>⟨_,rfl,?_⟩;have ab:(S.filter λx=>decide (x.slot<n)).length<=S.length:=ais ..;have I:∀x∈S.filter (λx=>decide (x.slot<n)),x.text.length<1000:=λx q=>Z x ((List.mem_filter.1 q).1);have J:Grown b A h A' d:=(Grown.an y).trans g2;have ac:=J.only.size;generalize hL:S.filter (λx=>decide (x.slot<n))=L at G ab I E;have M:=G.elems;have el:=M.len;rw[ahJ]at el
 refine⟨λσ r=>0<=σ.2/\σ.2<=L.length/\Ext d r/\FA d σ.1/\∃bs:List Bk,bs.map Bk.of=(L.take σ.2.toNat).map (λx=>(x.root,j9 x.text))/\Own 58 53 r σ.1 (bs.map Bk.U5)/\Kept d.size r σ.1 bs,λσ _=>((L.length:Int)-σ.2).toNat,
  ⟨ahR 0,Ω,ahQ _,(λl a=>by cases a),[],rfl,aik _ _ _,Kept.nil _ _ _⟩,?_⟩
 rintro⟨t,i⟩ z ⟨N,i1,e,s,bs,g,m,B⟩;dsimp only at N i1 e s g m B⊢;have z3:=e.size;refine ID (λp=>?_) λp=>?_
 ·refine gJ (M.ext e) N ω λl x _ q=>?_;refine af λh4 v4 x4 s4=>aH v4 (t:=x.tv) rfl λh5 v5 f5 s5=>?_;have O:Ext z h5:=ahG x4 f5 λi p=>ω;have ar:=I x (aim q);have aw:=O.size;refine⟨x.text,Mz v5,DL ω λh6 P ok e6 Q ad=>⟨_,_,_,_,_,_,_,_,rfl,?_⟩⟩;refine af λh7 v7 x7 s7=>av (t0:=aU.tv) v7 (t:=((j9 x.text).ms P).tv) ck eZ λh8 v8 f8 s8=>?_;have D:Ext h6 h8:=ahG x7 f8 λi p=>ω;have u:=O.trans (Q.trans D);refine aZ v8 ?_;have tl:=m.len;rw[ahJ,<-ahJ (f:=Bk.of),g,ahJ,ahY]at tl;obtain⟨k,v⟩:∃k,k=Bk.mk x.root (j9 x.text) P:=⟨_,rfl⟩;have z6:=Q.size;have aE:=D.size;refine cz (C:=ctx) (T:=58) (sz:=53) (x:=k.U5) X7 Tq (by rw[GF];decide) (by rw[GF];omega) (m.ext u) k.X1 k.X2 (K:=λa0 r=>_) ?_|>λH=>by rw[v]at H;exact H
  intro t9 h9 o9 f9 U;rw[wrap_i64 (n:=i+1) ω ω];have K9:=Kept.step (k:=k) B m u z3 (by rw[v];exact e6.ext D) (λl a=>by rw[v]at a;have:=ad l a;omega) f9 U;have x9:Ext d h9:=ahG (e.trans u) f9 λj⟨l,a,hj⟩=>by have:=s l a;omega
  have ae:(i+1).toNat=i.toNat+1:=ω;refine⟨⟨Ω,Ω,x9,λl a=>?_,bs++[k],?_,?_,K9⟩,Ω⟩
  ·rcases U l a with⟨l',V,a1⟩|V
   ·have:=s l' V;omega
   ·have:=u.size;omega
  ·try dsimp only
   rw[ae,bq q,ah5,ah5,g,v];rfl
  ·rw[ah5];exact o9
 ·have al:i.toNat=L.length:=ω;rw[al,aif]at g;have W:Grown b A h A' z:=J.trans (.an e);exact E z A' t bs (w.grown (F.ext e) W) W g m ⟨d.size,ac,λi p=>F.lt p,s,B⟩
end
end Pool
namespace Pool
open Board (Dm Ms dM bT aU aZ av eZ ck fO cr jC uo aP bq ov)
theorem Io{d e:Dm}(h:Board.O5 d=some e)(q:0<=d.body/\d.body<18446744073709551616):0<=e.body/\e.body<18446744073709551616:=by
 obtain⟨rfl,_⟩:=Board.DE h;exact q
theorem Ip{s:LU}{d:Dm}(h:dM s=some d)(b:Sl):jC (d.ms b):=by
 show 0<=d.body/\d.body<_;have a:(0:Int)<=0/\(0:Int)<18446744073709551616:=δ;unfold dM at h;split at h
 ·cases h
 split at h
 ·split at h
  ·have:=Board.To (s:=(s.drop 39).take 8) (by rw[ahY];omega);exact Io h ⟨by dsimp only;omega,by dsimp only;omega⟩
  ·cases h
 split at h
 ·split at h
  ·exact Io h a
  ·cases h
 split at h
 ·split at h
  ·cases h
  ·exact Io h a
 ·cases h
section
variable{R:Rq}{h:aa}{m:Nat}{A:Sl}{M L:List It}{most quota:Int}
theorem Gf{s:LU}(B:s.length<1000)(q:∀a b ok,ak 1 a b (aP (j9 s).row)->Ext h a->(∀l,b.a=some l->h.size<=l.b/\l.b<a.size)->R (ahM [((j9 s).ms b).tv,.bool ok]).val a):
 Cl 175 [.str s] h R:=by
 refine fO B (λc a x=>?_) λd a b f e x g=>?_
 ·have:=q a ahS false;rw[KU c]at this;exact this (ak.y_ 1 a) x λl i=>by cases i
 ·have:=q a b true;rw[qx f]at this;exact this e x g
structure eC(m:Nat)(A:Sl)(h:aa)(A':Sl)(h':aa):Prop where
 only:ag (·=m) h h'
 new:∀l,A'.a=some l->(∃l',A.a=some l'/\l'.b=l.b)\/h.size<=l.b
theorem eC.an{q:aa}(x:Ext h q):eC m A h A q:=⟨air x,λl a=>.inl ⟨l,a,rfl⟩⟩
theorem eC.trans{A' B:Sl}{E q:aa}(g:eC m A h A' E)(k:eC m A' E B q):eC m A h B q:=by
 refine⟨g.only.trans k.only,λl c=>?_⟩;have:=g.only.size;rcases k.new l c with⟨d,a,q⟩|a
 ·rcases g.new d a with⟨l2,b,e⟩|b
  ·exact .inl ⟨l2,b,ω⟩
  ·exact .inr ω
 ·exact .inr ω
theorem MM(r:RL h m A M most quota){peer:Int}{text:LU}(O:1<=most)(U:most<=64)(W:(M.length:Int)<=most)(ht:text.length<1000)
 (Z:∀K A',RL K m A' (fW (λk=>decide (k=1)) most quota peer text M).2.2 most quota->eC m A h A' K->R (ahM [.i (fW (λk=>decide (k=1)) most quota peer text M).1,.bytes 32 (fW (λk=>decide (k=1)) most quota peer text M).2.1]).val K):
 Cl 188 [.ptr (PT m),.i peer,.str text] h R:=by
 apply ye;delta dZ jx Fo Fm dH ZH cV C_ bu aJ fU bK bh eE;have a1:=r.var.lt;refine af λh1 v1 L s1=>?_
 have N:∀n,Ext h1 n->fW (λk=>decide (k=1)) most quota peer text M=(5,ahH 32,M)->
  gi n h.size 0 32/\Bind (aih n h.size 0 (ahZ 32 (ahH 32))) λ(ab:aa)=>∃(b:Bs 32),ay ab h.size 0 32 b/\R (ahM [.i 5,.bytes 32 b]).val ab:=by
  intro n xx he;refine av (v1.ext xx) (t:=.bytes 32 (ahH 32)) rfl rfl λs z f5 s5=>⟨_,z.bytes,?_⟩;rw[he]at Z;have f:Ext h s:=ahG (L.trans xx) f5 λi u=>ω;exact Z s A (r.ext f) (.an f)
 refine fO ω (λap H I=>?_) λd H bs B e2 I _=>?_
 ·refine⟨_,_,_,_,_,_,_,_,rfl,af λh3 P Q s3=>av (t0:=aU.tv) P (t:=aU.tv) ck eZ λo v4 f4 s4=>?_⟩;have C:Ext H o:=ahG Q f4 λi u=>ω;intro J T;exact ah1 (N o (I.trans C) (AR ap))
 refine⟨_,_,_,_,_,_,_,_,rfl,af λh3 P Q s3=>av (t0:=aU.tv) P (t:=(d.ms bs).tv) ck eZ λo v4 f4 s4=>?_⟩;have C:Ext H o:=ahG Q f4 λi u=>ω;have V:=I.trans C;have x04:=L.trans V;intro J T;have a2:=C.size;have z2:=I.size;have z1:=L.size;refine ahO ⟨d.kind,v4.ah rfl,ahP (λX=>?_) λX=>?_⟩
 ·have ar:d.kind≠1:=by simpa using X
  exact N o V (GD B (decide_eq_false ar))
 have aw:decide (d.kind=1)=true:=by simpa using X
 refine T 0 o ?_;clear T N;intro J2 aE;have ac:=DK (most:=most) (quota:=quota) (peer:=peer) (S:=M) (want:=λk=>decide (k=1)) B aw
 have Y:∀(n:aa)(q:Nat)(A':Sl)(a:OL×Int×Bs 32×Int×Bs 32×LU×Int×OL×Int),a.2.2.2.2.2.2.2=(some ⟨q,0⟩,(cD most quota (aY d peer text) M).1)->
  Var 82 n q (cD most quota (aY d peer text) M).2.1.tv->RL n m A' (cD most quota (aY d peer text) M).2.2 most quota->eC m A o A' n->J2 a n:=by
  intro n q A' a ha vq p g;refine aE a n ?_;dsimp only;rw[ha];refine⟨_,jU vq,?_⟩;have a0:Var 52 n h.size (.bytes 32 (ahH 32)):=(v1.ext V).only g.only ω;refine av a0 (t:=.bytes 32 (cD most quota (aY d peer text) M).2.1.root) rfl uo λs z f5 s5=>⟨_,z.bytes,?_⟩;have new:∀l,A'.a=some l->(∃w,A.a=some w/\w.b=l.b)\/o.size<=l.b:=g.new
  have g5:eC m A h A' s:=⟨⟨by have:=g.only.size;omega,λi u D=>by
   rw[f5.same i (by have:=g.only.size;omega) ω,g.only.same i ω D,x04.same i u]⟩,λl c=>by
   rcases new l c with e|e
   ·exact .inl e
   ·exact .inr ω⟩
  have E:∀l,A'.a=some l->l.b≠h.size:=λl c=>by
   rcases new l c with⟨w,e,ad⟩|e
   ·have:=r.low w e;omega
   ·omega
  have p5:RL s m A' (cD most quota (aY d peer text) M).2.2 most quota:=⟨p.var.only f5 ω,p.el.only f5 E,p.cap,p.apart,λl c=>by have:=p.low l c;omega,p.jk⟩;have:=Z s A' (by rw[ac];exact p5) g5;rw[ac]at this;exact this
 have ae:=mZ B;have al:=Board.kV (ov B);have am:=Ip B bs;have e4:=e2.ext C;have v4:Var 58 o H.size (d.ms bs).tv:=v4;refine⟨d.slot,v4.ah rfl,aZ v4 ⟨d.target,v4.at.2.2.1,⟨?_,?_⟩⟩⟩
 ·refine cr (m:=d.ms bs) e4 ae al am λs f=>⟨_,rfl,f,⟨?_,?_⟩⟩
  ·refine bE (x:=aY d peer text) ((r.ext x04).ext f) O U W λh6 A' p6 f6 n6=>⟨_,_,_,_,_,_,rfl,?_⟩;refine af λh7 v7 x7 s7=>⟨x7,av (t0:=It.zero.tv) v7 (t:=(cD most quota (aY d peer text) M).2.1.tv) (It.size _).symm rfl λy F f8 s8=>?_⟩;have ao:Ext h6 y:=ahG x7 f8 λi u=>ω;exact Y y _ A' _ rfl F (p6.ext ao) ((eC.an f).trans (eC.trans ⟨f6,n6⟩ (.an ao)))
  ·refine af λh6 v6 v s6=>⟨v,?_⟩;refine bE (x:=aY d peer text) (((r.ext x04).ext f).ext v) O U W λh7 A' j f7 G=>⟨_,_,_,_,_,_,rfl,?_⟩;have z5:=f.size
   have E:∀l,A'.a=some l->l.b≠s.size:=λl c=>by
    rcases G l c with⟨w,e,ad⟩|e
    ·have:=r.low w e;omega
    ·omega
   refine av (t0:=It.zero.tv) (v6.only f7 ω) (t:=(cD most quota (aY d peer text) M).2.1.tv) (It.size _).symm rfl λy F f8 s8=>?_;have p8:RL y m A' (cD most quota (aY d peer text) M).2.2 most quota:=⟨j.var.only f8 ω,j.el.only f8 E,j.cap,j.apart,λl c=>by have:=j.low l c;omega,j.jk⟩;refine Y y _ A' _ rfl F p8 ((eC.an f).trans ⟨⟨by have:=f7.size;omega,λi u D=>?_⟩,λl c=>?_⟩)
   ·have:=f7.size;rw[f8.same i ω ω,f7.same i ω D,v.same i u]
   ·rcases G l c with e|e
    ·exact .inl e
    ·exact .inr ω
 ·refine af λs z f s5=>⟨f,?_⟩;refine cr (m:=d.ms bs) (e4.ext f) ae al am λh6 v=>⟨_,rfl,v,?_⟩;have z6:=v.size;refine bE (x:=aY d peer text) (((r.ext x04).ext f).ext v) O U W λh7 A' j f7 G=>⟨_,_,_,_,_,_,rfl,?_⟩
  have E:∀l,A'.a=some l->l.b≠o.size:=λl c=>by
   rcases G l c with⟨w,e,ad⟩|e
   ·have:=r.low w e;omega
   ·omega
  refine av (t0:=It.zero.tv) ((z.ext v).only f7 ω) (t:=(cD most quota (aY d peer text) M).2.1.tv) (It.size _).symm rfl λy F f8 s8=>?_;have p8:RL y m A' (cD most quota (aY d peer text) M).2.2 most quota:=⟨j.var.only f8 ω,j.el.only f8 E,j.cap,j.apart,λl c=>by have:=j.low l c;omega,j.jk⟩;refine Y y _ A' _ rfl F p8 ⟨⟨by have:=f7.size;omega,λi u D=>?_⟩,λl c=>?_⟩
  ·have:=f7.size;rw[f8.same i ω ω,f7.same i ω D,v.same i ω,f.same i u]
  ·rcases G l c with e|e
   ·exact .inl e
   ·exact .inr ω
theorem MN(r:RL h m A M most quota){peer:Int}{text:LU}(O:1<=most)(U:most<=64)(W:(M.length:Int)<=most)(ht:text.length<1000)
 (Z:∀K A',RL K m A' (fW (λk=>!decide (k=1)) most quota peer text M).2.2 most quota->eC m A h A' K->R (ahM [.i (fW (λk=>!decide (k=1)) most quota peer text M).1,.bytes 32 (fW (λk=>!decide (k=1)) most quota peer text M).2.1]).val K):
 Cl 187 [.ptr (PT m),.i peer,.str text] h R:=by
 apply yf;delta dZ jx Fo Fm dH ZH cV C_ bu aJ fU bK bh eE;have a0:=r.var.lt;refine af λh1 v1 L s1=>?_
 have N:∀n,Ext h1 n->fW (λk=>!decide (k=1)) most quota peer text M=(5,ahH 32,M)->
  gi n h.size 0 32/\Bind (aih n h.size 0 (ahZ 32 (ahH 32))) λ(ab:aa)=>∃(b:Bs 32),ay ab h.size 0 32 b/\R (ahM [.i 5,.bytes 32 b]).val ab:=by
  intro n xx he;refine av (v1.ext xx) (t:=.bytes 32 (ahH 32)) rfl rfl λs z f5 s5=>⟨_,z.bytes,?_⟩;rw[he]at Z;have f:Ext h s:=ahG (L.trans xx) f5 λi u=>ω;exact Z s A (r.ext f) (.an f)
 refine fO ω (λap H I=>?_) λd H bs B e2 I _=>?_
 ·refine⟨_,_,_,_,_,_,_,_,rfl,af λh3 P Q s3=>av (t0:=aU.tv) P (t:=aU.tv) ck eZ λo v4 f4 s4=>?_⟩;have C:Ext H o:=ahG Q f4 λi u=>ω;intro J T;exact ah1 (N o (I.trans C) (AR ap))
 refine⟨_,_,_,_,_,_,_,_,rfl,af λh3 P Q s3=>av (t0:=aU.tv) P (t:=(d.ms bs).tv) ck eZ λo v4 f4 s4=>?_⟩;have C:Ext H o:=ahG Q f4 λi u=>ω;have V:=I.trans C;have x04:=L.trans V;intro J T;have a1:=C.size;have z2:=I.size;have z1:=L.size;refine ahO ⟨d.kind,v4.ah rfl,ahP (λX=>?_) λX=>?_⟩
 ·exact N o V (GD B (by rw[X];rfl))
 have ar:(!decide (d.kind=1))=true:=by rw[X];rfl
 refine T 0 o ?_;clear T N;intro J2 aw;have ac:=DK (most:=most) (quota:=quota) (peer:=peer) (S:=M) (want:=λk=>!decide (k=1)) B ar
 have Y:∀(n:aa)(q:Nat)(A':Sl)(a:OL×Int×Bs 32×Int×Bs 32×LU×Int×OL×Int),a.2.2.2.2.2.2.2=(some ⟨q,0⟩,(cD most quota (aY d peer text) M).1)->
  Var 82 n q (cD most quota (aY d peer text) M).2.1.tv->RL n m A' (cD most quota (aY d peer text) M).2.2 most quota->eC m A o A' n->J2 a n:=by
  intro n q A' a ha vq p g;refine aw a n ?_;dsimp only;rw[ha];refine⟨_,jU vq,?_⟩;have aE:Var 52 n h.size (.bytes 32 (ahH 32)):=(v1.ext V).only g.only ω;refine av aE (t:=.bytes 32 (cD most quota (aY d peer text) M).2.1.root) rfl uo λs z f5 s5=>⟨_,z.bytes,?_⟩;have new:∀l,A'.a=some l->(∃w,A.a=some w/\w.b=l.b)\/o.size<=l.b:=g.new
  have g5:eC m A h A' s:=⟨⟨by have:=g.only.size;omega,λi u D=>by
   rw[f5.same i (by have:=g.only.size;omega) ω,g.only.same i ω D,x04.same i u]⟩,λl c=>by
   rcases new l c with e|e
   ·exact .inl e
   ·exact .inr ω⟩
  have E:∀l,A'.a=some l->l.b≠h.size:=λl c=>by
   rcases new l c with⟨w,e,ad⟩|e
   ·have:=r.low w e;omega
   ·omega
  have p5:RL s m A' (cD most quota (aY d peer text) M).2.2 most quota:=⟨p.var.only f5 ω,p.el.only f5 E,p.cap,p.apart,λl c=>by have:=p.low l c;omega,p.jk⟩;have:=Z s A' (by rw[ac];exact p5) g5;rw[ac]at this;exact this
 have ae:=mZ B;have al:=Board.kV (ov B);have am:=Ip B bs;have e4:=e2.ext C;have v4:Var 58 o H.size (d.ms bs).tv:=v4;refine⟨d.slot,v4.ah rfl,aZ v4 ⟨d.target,v4.at.2.2.1,⟨?_,?_⟩⟩⟩
 ·refine cr (m:=d.ms bs) e4 ae al am λs f=>⟨_,rfl,f,⟨?_,?_⟩⟩
  ·refine bE (x:=aY d peer text) ((r.ext x04).ext f) O U W λh6 A' p6 f6 n6=>⟨_,_,_,_,_,_,rfl,?_⟩;refine af λh7 v7 x7 s7=>⟨x7,av (t0:=It.zero.tv) v7 (t:=(cD most quota (aY d peer text) M).2.1.tv) (It.size _).symm rfl λy F f8 s8=>?_⟩;have ao:Ext h6 y:=ahG x7 f8 λi u=>ω;exact Y y _ A' _ rfl F (p6.ext ao) ((eC.an f).trans (eC.trans ⟨f6,n6⟩ (.an ao)))
  ·refine af λh6 v6 v s6=>⟨v,?_⟩;refine bE (x:=aY d peer text) (((r.ext x04).ext f).ext v) O U W λh7 A' j f7 G=>⟨_,_,_,_,_,_,rfl,?_⟩;have z5:=f.size
   have E:∀l,A'.a=some l->l.b≠s.size:=λl c=>by
    rcases G l c with⟨w,e,ad⟩|e
    ·have:=r.low w e;omega
    ·omega
   refine av (t0:=It.zero.tv) (v6.only f7 ω) (t:=(cD most quota (aY d peer text) M).2.1.tv) (It.size _).symm rfl λy F f8 s8=>?_;have p8:RL y m A' (cD most quota (aY d peer text) M).2.2 most quota:=⟨j.var.only f8 ω,j.el.only f8 E,j.cap,j.apart,λl c=>by have:=j.low l c;omega,j.jk⟩;refine Y y _ A' _ rfl F p8 ((eC.an f).trans ⟨⟨by have:=f7.size;omega,λi u D=>?_⟩,λl c=>?_⟩)
   ·have:=f7.size;rw[f8.same i ω ω,f7.same i ω D,v.same i u]
   ·rcases G l c with e|e
    ·exact .inl e
    ·exact .inr ω
 ·refine af λs z f s5=>⟨f,?_⟩;refine cr (m:=d.ms bs) (e4.ext f) ae al am λh6 v=>⟨_,rfl,v,?_⟩;have z6:=v.size;refine bE (x:=aY d peer text) (((r.ext x04).ext f).ext v) O U W λh7 A' j f7 G=>⟨_,_,_,_,_,_,rfl,?_⟩
  have E:∀l,A'.a=some l->l.b≠o.size:=λl c=>by
   rcases G l c with⟨w,e,ad⟩|e
   ·have:=r.low w e;omega
   ·omega
  refine av (t0:=It.zero.tv) ((z.ext v).only f7 ω) (t:=(cD most quota (aY d peer text) M).2.1.tv) (It.size _).symm rfl λy F f8 s8=>?_;have p8:RL y m A' (cD most quota (aY d peer text) M).2.2 most quota:=⟨j.var.only f8 ω,j.el.only f8 E,j.cap,j.apart,λl c=>by have:=j.low l c;omega,j.jk⟩;refine Y y _ A' _ rfl F p8 ⟨⟨by have:=f7.size;omega,λi u D=>?_⟩,λl c=>?_⟩
  ·have:=f7.size;rw[f8.same i ω ω,f7.same i ω D,v.same i ω,f.same i u]
  ·rcases G l c with e|e
   ·exact .inl e
   ·exact .inr ω
theorem Dq:(ctx.ti 82).bytes=96:=κ
theorem Mp:(ctx.ti 82).size=67:=κ
theorem Mq:(ctx.ti 82).z.size=67:=κ
theorem kW{i:Nat}{x:It}(pred:It->Bool)(q:L[i]? =some x):(L.take (i+1)).filter pred=(L.take i).filter pred++if pred x=true then[x]else[]:=by
 rw[bq q,List.filter_append];congr 1;cases h:pred x<;>simp[List.filter,h]
theorem Tr{s:Sl}{x:It}{K:Sl->aa->Prop}(o:Own 82 67 h s (oc L))(B:L.length<1000)
 (q:∀a b,Own 82 67 b a (oc (L++[x]))->ag (In s) h b->(∀l,a.a=some l->(∃c,s.a=some c/\c.b=l.b)\/h.size<=l.b)->K a b):
 ∃new,cv (h.push (Vc.row (ahI [x.tv]) 82)) (ah0 (some (Vc.Loc.mk h.size 0)) 1 1) 67 new/\(∀v∈new,bQ v=true)/\aq ctx 82 s 1 new (h.push (Vc.row (ahI [x.tv]) 82)) K:=by
 have d:=o.len;rw[ahJ]at d;refine cz (C:=ctx) (T:=82) (sz:=67) (x:=x.tv) Mp Mq (by rw[Dq];decide) (by rw[Dq];omega) o (It.size x) (It.plain x) λa b e f g=>q a b ?_ f g;rw[oc,ah5];exact e
theorem Iq(r:RL h m A M most quota){t:Sl}(o:Own 82 67 h t (oc L))(q:L.length<900)(B:∀l,t.a=some l->l.b≠m){K:aa->Prop}
 (E:∀a,RL a m t L most quota->ag (·=m) h a->K a):gi h m 0 1/\Bind (aih h m 0 (ah9 t)) K:=by
 refine aF (i:=0) (t:=.slice t) (t0:=.slice A) r.var rfl rfl rfl rfl λa c b d=>E a ⟨c,o.elems.only b B,o.cap,B,λl q=>by have:=o.lt l q;omega,q⟩ b
theorem kI(r:RL h m A M most quota){k:Bs 32}(W:∀F A' t,RL F m A' (M.filter λx=>!decide (x.fr=k)) most quota->eC m A h A' F->Own 82 67 F t (oc (M.filter λx=>decide (x.fr=k)))->(∀l,t.a=some l->h.size<=l.b)->R (ah9 t).val F):
 Cl 250 [.ptr (PT m),.bytes 32 k] h R:=by
 apply zY;delta mE aI ue bV dL bu bK bN;have ad:=r.jk;have hm:=r.var.lt;refine af λJ v1 p s1=>⟨A,(r.var.ext p).ah rfl,?_⟩;have r1:=r.ext p;have el:=r1.el.len;rw[ahJ]at el
 refine⟨λσ K=>0<=σ.2.2/\σ.2.2<=M.length/\Ext J K/\(∀l,σ.1.a=some l->J.size<=l.b)/\(∀l,σ.2.1.a=some l->J.size<=l.b)/\(∀i,In σ.1 i->¬In σ.2.1 i)/\Own 82 67 K σ.1 (oc ((M.take σ.2.2.toNat).filter λx=>decide (x.fr=k)))/\Own 82 67 K σ.2.1 (oc ((M.take σ.2.2.toNat).filter λx=>!decide (x.fr=k))),
  λσ _=>((M.length:Int)-σ.2.2).toNat,⟨ahR 0,Ω,ahQ _,(λl a=>by cases a),(λl a=>by cases a),(λi⟨l,a,_⟩=>by cases a),aik _ _ _,aik _ _ _⟩,?_⟩
 rintro⟨t,u,i⟩ V ⟨S,X,g,v,w,ap,y,z⟩;dsimp only at S X g v w ap y z⊢;have z2:=g.size;refine ID (λd=>?_) λd=>?_
 ·refine gJ (r1.el.ext g) S ω λl x _ b=>?_;refine af λT Y Z s3=>aH Y (t:=x.tv) rfl λB v4 f4 s4=>?_;have f:Ext V B:=ahG Z f4 λi d=>ω;have ae:=f.size;refine⟨x.fr,abD v4,k,((v1.ext g).ext f).bytes,?_⟩;have ab:decide (x.fr.1=k.1)=decide (x.fr=k):=decide_eq_decide.2 ⟨λe=>Bs.ext' e,λe=>by rw[e]⟩;dsimp only;rw[ab];have G:(i+1).toNat=i.toNat+1:=ω;have H:=kW (λx=>decide (x.fr=k)) b;have I:=kW (λx=>!decide (x.fr=k)) b;have al:((M.take i.toNat).filter λx=>decide (x.fr=k)).length<=M.length:=aiv (ais ..) (by rw[ahY];omega);have am:((M.take i.toNat).filter λx=>!decide (x.fr=k)).length<=M.length:=aiv (ais ..) (by rw[ahY];omega);have U:∀{s:Sl}{L:List It},Own 82 67 B s (oc L)->∀i,In s i->i<B.size:=λo i⟨l,a,d⟩=>by have:=o.lt l a;omega
  refine ahP (λC=>?_) λC=>?_
  ·rw[if_pos C]at H;rw[if_neg (by rw[C];decide),aiC]at I;refine pZ v4 (Tr (y.ext f) ω λN h8 O f8 D=>?_);rw[wrap_i64 (n:=i+1) ω ω]
   have P:∀i,In N i->In t i\/B.size<=i:=λi⟨l,a,d⟩=>by
    rcases D l a with⟨q,c,Q⟩|c
    ·exact .inl ⟨q,c,ω⟩
    ·exact .inr ω
   refine⟨⟨Ω,Ω,ahG (g.trans f) f8 λj⟨l,a,hj⟩=>by have:=v l a;omega,λl a=>?_,w,λi d b=>?_,?_,?_⟩,Ω⟩
   ·rcases D l a with⟨q,c,Q⟩|c
    ·have:=v q c;omega
    ·omega
   ·rcases P i d with E|E
    ·exact ap i E b
    ·have:=U (z.ext f) i b;omega
   ·try dsimp only
    rw[G,H];exact O
   ·try dsimp only
    rw[G,I];exact(z.ext f).only f8 λl a b=>ap _ b ⟨l,a,rfl⟩
  ·rw[if_neg (by rw[C];decide),aiC]at H;rw[if_pos (by rw[C];rfl)]at I;refine pZ v4 (Tr (z.ext f) ω λN h8 O f8 D=>?_);rw[wrap_i64 (n:=i+1) ω ω]
   have P:∀i,In N i->In u i\/B.size<=i:=λi⟨l,a,d⟩=>by
    rcases D l a with⟨q,c,Q⟩|c
    ·exact .inl ⟨q,c,ω⟩
    ·exact .inr ω
   refine⟨⟨Ω,Ω,ahG (g.trans f) f8 λj⟨l,a,hj⟩=>by have:=w l a;omega,v,λl a=>?_,λi d b=>?_,?_,?_⟩,Ω⟩
   ·rcases D l a with⟨q,c,Q⟩|c
    ·have:=w q c;omega
    ·omega
   ·rcases P i b with E|E
    ·exact ap i d E
    ·have:=U (y.ext f) i d;omega
   ·try dsimp only
    rw[G,H];exact(y.ext f).only f8 λl a b=>ap _ ⟨l,a,rfl⟩ b
   ·try dsimp only
    rw[G,I];exact O
 ·have ac:i.toNat=M.length:=ω;rw[ac,aif]at y z;have ao:(M.filter λx=>!decide (x.fr=k)).length<=M.length:=ais ..;refine Iq (r1.ext g) z ω (λl a=>by have:=w l a;have:=p.size;omega) λT r3 f3=>?_;refine W T u t r3 ⟨(air (p.trans g)).trans f3,λl a=>.inr (by have:=w l a;have:=p.size;omega)⟩ (y.only f3 λl a=>by have:=v l a;have:=p.size;omega) λl a=>by have:=v l a;have:=p.size;omega
theorem MO(r:RL h m A M most quota){n:Int}(E:∀q A',RL q m A' (M.filter λx=>!decide (x.slot<=n)) most quota->eC m A h A' q->R (TV.i ((M.filter λx=>decide (x.slot<=n)).length:Int)).val q):
 Cl 119 [.ptr (PT m),.i n] h R:=by
 apply wJ;delta aI dL bN;have P:=r.jk;have Q:=r.var.lt;refine⟨A,r.var.ah rfl,?_⟩;have el:=r.el.len;rw[ahJ]at el
 refine⟨λσ s=>0<=σ.2.2/\σ.2.2<=M.length/\Ext h s/\(∀l,σ.1.a=some l->h.size<=l.b)/\σ.2.1=((((M.take σ.2.2.toNat).filter λx=>decide (x.slot<=n)).length:Nat):Int)/\Own 82 67 s σ.1 (oc ((M.take σ.2.2.toNat).filter λx=>!decide (x.slot<=n))),
  λσ _=>((M.length:Int)-σ.2.2).toNat,⟨ahR 0,Ω,ahQ _,(λl a=>by cases a),rfl,aik _ _ _⟩,?_⟩
 rintro⟨u,c,i⟩ C ⟨v,D,b,d,e,f⟩;dsimp only at v D b d e f⊢;have S:=b.size;refine ID (λw=>?_) λw=>?_
 ·refine gJ (r.el.ext b) v ω λl x _ y=>?_;refine af λz F G T=>aH F (t:=x.tv) rfl λH v4 f4 U=>?_;have g:Ext C H:=ahG G f4 λi w=>ω;have V:=g.size;have k:(i+1).toNat=i.toNat+1:=ω;have o:=kW (λx=>decide (x.slot<=n)) y;have p:=kW (λx=>!decide (x.slot<=n)) y;have W:((M.take i.toNat).filter λx=>decide (x.slot<=n)).length<=M.length:=aiv (ais ..) (by rw[ahY];omega);have X:((M.take i.toNat).filter λx=>!decide (x.slot<=n)).length<=M.length:=aiv (ais ..) (by rw[ahY];omega);refine⟨x.slot,mU v4,ID (λI=>?_) λI=>?_⟩
  ·rw[if_neg (by simp;omega),aiC]at o;rw[if_pos (by simp;omega)]at p;refine pZ v4 (Tr (f.ext g) ω λY Z J f8 K=>?_);rw[wrap_i64 (n:=i+1) ω ω];refine⟨⟨Ω,Ω,ahG (b.trans g) f8 λj⟨l,a,hj⟩=>by have:=d l a;omega,λl a=>?_,?_,?_⟩,Ω⟩
   ·rcases K l a with⟨L,B,ab⟩|B
    ·have:=d L B;omega
    ·omega
   ·try dsimp only
    rw[k,o,e]
   ·try dsimp only
    rw[k,p];exact J
  ·rw[if_pos (by simp;omega)]at o;rw[if_neg (by simp;omega),aiC]at p;rw[wrap_i64 (n:=i+1) ω ω,wrap_i64 (n:=c+1) ω ω];refine⟨⟨Ω,Ω,b.trans g,d,?_,?_⟩,Ω⟩
   ·try dsimp only
    rw[k,o,e,ahX,List.length_singleton];omega
   ·try dsimp only
    rw[k,p];exact f.ext g
 ·have N:i.toNat=M.length:=ω;rw[N,aif]at e f;have ac:(M.filter λx=>!decide (x.slot<=n)).length<=M.length:=ais ..;refine Iq (r.ext b) f ω (λl a=>by have:=d l a;omega) λz O f3=>?_;rw[e];exact E z u O ⟨(air b).trans f3,λl a=>.inr (d l a)⟩
end
end Pool
namespace Gate
open Board (av uo)
open Pool (rts jV Im AS ML GG)
theorem qO:(ctx.ti 3).bytes=8:=κ
theorem KA:(ctx.ti 3).size=1:=κ
theorem EC:(ctx.ti 3).z.size=1:=κ
section
variable{R:Rq}{h h':aa}{s:Sl}{L:List (Bs 32)}{l:List Int}
theorem kz:(rts L).length=L.length:=by simp[rts]
theorem Rn{x:Bs 32}{K:Sl->aa->Prop}(o:Own 52 32 h s (rts L))(q:L.length<100000)(E:∀a h',Own 52 32 h' a (rts (L++[x]))->ag (In s) h h'->(∀i,In a i->In s i\/h.size<=i)->K a h'):
 ∃new,cv (h.push (row (ahI [ahZ 32 x]) 52)) (ah0 (some (Vc.Loc.mk h.size 0)) 1 1) 32 new/\(∀v∈new,bQ v=true)/\aq ctx 52 s 1 new (h.push (row (ahI [ahZ 32 x]) 52)) K:=by
 have c:=o.len;rw[kz]at c;refine cz (C:=ctx) (T:=52) (sz:=32) (x:=.bytes 32 x) ML GG (by rw[AS];decide) (by rw[AS];omega) o jV Im λa h' d e f=>E a h' (by simpa[rts]using d) e λi⟨l,q,j⟩=>?_;rcases f l q with⟨g,b,k⟩|b
 ·exact .inl ⟨g,b,ω⟩
 ·exact .inr ω
theorem abN{x:Int}{K:Sl->aa->Prop}(o:Own 3 1 h s (dX l))(q:l.length<100000)(E:∀a h',Own 3 1 h' a (dX (l++[x]))->ag (In s) h h'->(∀i,In a i->In s i\/h.size<=i)->K a h'):
 ∃new,cv (h.push (row (ahI [TV.i x]) 3)) (ah0 (some (Vc.Loc.mk h.size 0)) 1 1) 1 new/\(∀v∈new,bQ v=true)/\aq ctx 3 s 1 new (h.push (row (ahI [TV.i x]) 3)) K:=by
 have c:=o.len;rw[ahJ]at c;refine cz (C:=ctx) (T:=3) (sz:=1) (x:=.i x) KA EC (by rw[qO];decide) (by rw[qO];omega) o rfl rfl λa h' d e f=>E a h' (by simpa[dX]using d) e λi⟨l,q,j⟩=>?_;rcases f l q with⟨g,b,k⟩|b
 ·exact .inl ⟨g,b,ω⟩
 ·exact .inr ω
theorem th(e:ak 32 h s (rts L)){i:Int}(E:0<=i){x:Bs 32}(q:L[i.toNat]? =some x){K:Bs 32->Prop}(G:K x):0<=i/\i<(s.len:Int)/\Nn s.a λl=>∃b,ay h l.b (l.o+i.toNat*32) 32 b/\K b:=by
 have c:=e.len;have:=(ait.1 q).1;rw[kz]at c;refine e.read E ω λl t _ a d=>?_;unfold rts at a;rw[ah6,q]at a;cases a;exact⟨x,d,G⟩
theorem zZ(e:ak 1 h s (dX l)){i:Int}(E:0<=i){x:Int}(q:l[i.toNat]? =some x){K:Int->Prop}(G:K x):0<=i/\i<(s.len:Int)/\Nn s.a λl=>∃n,ah h l.b (l.o+i.toNat*1) (.i n)/\K n:=by
 have b:=e.len;have:=(ait.1 q).1;rw[ahJ]at b;refine e.read E ω λp t _ a c=>?_;rw[ah6,q]at a;cases a;exact⟨x,c,G⟩
end
def DM(N:List Nd)(x:Nd):Bs 32:=if x.par<0 then ahH 32 else((N[x.par.toNat]?).map Nd.root).getD (ahH 32)
def JH(N:List Nd):List (Bs 32):=N.map (DM N)
theorem AT{N:List Nd}{y z:Nd}(q:y.par<N.length):DM (N++[z]) y=DM N y:=by
 unfold DM;split
 ·rfl
 ·rw[List.getElem?_append_left ω]
theorem Ya{N:List Nd}{most:Int}(o:Cb N most){y:Nd}(q:y∈N):y.par<N.length:=by
 obtain⟨i,a,rfl⟩:=List.getElem_of_mem q;have q:N[i]? =some N[i]:=ahV a;by_cases b:0<i
 ·have:=(o.up i _ q b).2;omega
 ·have:i=0:=ω;subst this;rw[o.first _ q];omega
theorem U6{N:List Nd}{most:Int}(o:Cb N most){x:Nd}(q:x.par<N.length):JH (N++[x])=JH N++[DM N x]:=by
 unfold JH;rw[ah5,ah7,aiL,AT q];congr 1;exact List.map_congr_left λy a=>AT (Ya o a)
theorem GH{N:List Nd}{x y:Nd}(q:0<=x.par)(h:N[x.par.toNat]? =some y):DM N x=y.root:=by
 unfold DM;rw[if_neg ω,h];rfl
structure RT(h:aa)(m:Nat)(A B D:Sl)(N:List Nd)(most:Int):Prop where
 var:Var 130 h m (.agg [.slice A,.slice B,.slice D,.i most])
 a:Own 52 32 h A (rts (N.map Nd.root))
 b:Own 3 1 h B (dX (N.map Nd.slot))
 d:Own 52 32 h D (rts (JH N))
 ok:Cb N most
 ne:¬In A m/\¬In B m/\¬In D m
 ab:∀i,In A i->¬In B i
 ad:∀i,In A i->¬In D i
 bd:∀i,In B i->¬In D i
def BP(m:Nat)(A B D:Sl)(i:Nat):Prop:=i=m\/In A i\/In B i\/In D i
section
variable{R:Rq}{h h':aa}{m:Nat}{A B D:Sl}{N:List Nd}{most:Int}
theorem RT.only{S:Nat->Prop}(p:RT h m A B D N most)(f:ag S h h')(q:∀i,BP m A B D i->¬S i):RT h' m A B D N most:=
 ⟨p.var.only f (q m (.inl rfl)),p.a.keep f λi a=>q i (.inr (.inl a)),p.b.keep f λi a=>q i (.inr (.inr (.inl a))),p.d.keep f λi a=>q i (.inr (.inr (.inr a))),p.ok,p.ne,p.ab,p.ad,p.bd⟩
theorem RT.ext(p:RT h m A B D N most)(x:Ext h h'):RT h' m A B D N most:=p.only (S:=λ_=>False) (.an x) λ_ _ a=>a
theorem RT.lt(p:RT h m A B D N most){i:Nat}(q:BP m A B D i):i<h.size:=by
 rcases q with rfl|q|q|q
 ·exact p.var.lt
 ·exact p.a.gv i q
 ·exact p.b.gv i q
 ·exact p.d.gv i q
theorem RT.la(p:RT h m A B D N most):A.len=N.length:=by have:=p.a.len;rw[kz,ahJ]at this;omega
theorem RT.lb(p:RT h m A B D N most):B.len=N.length:=by have:=p.b.len;rw[ahJ,ahJ]at this;omega
theorem RT.ld(p:RT h m A B D N most):D.len=N.length:=by have:=p.d.len;rw[kz]at this;unfold JH at this;rw[ahJ]at this;omega
theorem MP{i:Nat}{x:Nd}(h:N[i]? =some x):(N.map Nd.root)[i]? =some x.root:=by rw[ah6,h];rfl
theorem AU{i:Nat}{x:Nd}(h:N[i]? =some x):(N.map Nd.slot)[i]? =some x.slot:=by rw[ah6,h];rfl
theorem Ts{i:Nat}{x:Nd}(h:N[i]? =some x):(JH N)[i]? =some (DM N x):=by unfold JH;rw[ah6,h];rfl
theorem fA(p:RT h m A B D N most){k:Bs 32}(q:∀h',Ext h h'->R (TV.i (place k N)).val h'):Cl 73 [.ptr (PT m),.bytes 32 k] h R:=by
 apply oU;delta mE aI jN lR bV iP bu fU bK bN;have K:=p.la;have L:=p.ok.len;have M:=p.ok.most;refine af λw v1 r O=>⟨A,(p.var.ext r).ah rfl,?_⟩;refine⟨λσ C=>0<=σ.2/\σ.2<=N.length/\Ext w C/\∀j:Nat,(j:Int)<σ.2->∀y,N[j]? =some y->y.root≠k,λσ _=>((N.length:Int)-σ.2).toNat,⟨ahR 0,by dsimp only;omega,ahQ _,λj c=>by dsimp only at c;omega⟩,?_⟩;rintro⟨z,i⟩ s ⟨u,E,d,e⟩;dsimp only at u E e⊢;have f:=r.trans d;refine ID (λg=>?_) λg=>?_
 ·obtain⟨x,l⟩:∃x,N[i.toNat]? =some x:=⟨_,ahV ω⟩;refine th ((p.a.ext f).elems) u (MP l) ?_;refine af λP F G Q=>av (t:=.bytes 32 x.root) F jV.symm (jV.trans jV.symm) λv v4 f4 S=>?_;have o:Ext s v:=ahG G f4 λi g=>aib (aic g);refine⟨_,v4.bytes,_,((v1.ext d).ext o).bytes,?_⟩;dsimp only;rw[show decide (x.root.l=k.l)=decide (x.root=k)from El _ _];refine ID (λa=>?_) λa=>?_
  ·have:=js p.ok.nodup l;rw[a,show((i.toNat:Nat):Int)=i by omega]at this;rw[<-this];exact q v (f.trans o)
  ·rw[wrap_i64 (n:=i+1) ω ω];refine⟨⟨ω,ω,d.trans o,λj c y b=>?_⟩,ω⟩;by_cases H:j=i.toNat
   ·subst H;rw[l]at b;cases b;exact a
   ·exact e j ω y b
 ·have I:place k N<0:=mL.2 λJ=>by
   obtain⟨y,b,a⟩:=ahK.1 J;obtain⟨j,c,rfl⟩:=List.getElem_of_mem b;exact e j ω _ (ahV c) a
  have:=q s f;rw[(qJ k N).2.2 I]at this;exact this
def upI(N:List Nd)(i:Int):Int:=if 0<i/\i<N.length then((N[i.toNat]?).map Nd.par).getD (-1)else-1
theorem Yb{i:Int}{x:Nd}(E:0<i)(q:N[i.toNat]? =some x):upI N i=x.par:=by
 have:=(ait.1 q).1;unfold upI;rw[if_pos ⟨E,ω⟩,q];rfl
theorem Yc(p:RT h m A B D N most){i:Int}(q:∀h',Ext h h'->R (TV.i (upI N i)).val h'):Cl 285 [.ptr (PT m),.i i] h R:=by
 apply rU;delta aI jZ lR dw bK bN aT;have l:=p.la;have n:=p.ld;have b:¬(0<i/\i<N.length)->upI N i=-1:=λd=>by unfold upI;rw[if_neg d]
 refine ID (λe=>?_) λe=>⟨A,p.var.ah rfl,ID (λf=>?_) λf=>⟨D,p.var.ah rfl,?_⟩⟩
 ·have:=q h (ahQ _);rw[b ω]at this;exact this
 ·have:=q h (ahQ _);rw[b ω]at this;exact this
 ·obtain⟨x,a⟩:∃x,N[i.toNat]? =some x:=⟨_,ahV ω⟩;have g:=p.ok.up i.toNat x a ω;obtain⟨y,c⟩:∃y,N[x.par.toNat]? =some y:=⟨_,ahV ω⟩;refine th p.d.elems ω (Ts a) (fA p λj k=>⟨_,rfl,?_⟩);rw[GH g.1 c,js p.ok.nodup c,show((x.par.toNat:Nat):Int)=x.par by omega,<-Yb ω a];exact q j k
theorem EU{root:Bs 32}{slot:Int}(E:1<=most/\most<=256)(G:0<=slot/\slot<=1073741824)
 (H:∀h' m A B D,RT h' m A B D [⟨root,slot,-1⟩] most->Ext h h'->(∀i,BP m A B D i->h.size<=i)->R (ahM [.ptr (PT m),.bool true]).val h'):
 Cl 160 [.bytes 32 root,.i slot,.i most] h R:=by
 apply yg;delta Km zl Bb bV dI bu fU bK aT eE;refine af λd v1 s S=>ID (λh=>ω) λ_=>aie.2 ⟨λh=>ω,λ_=>ID (λh=>ω) λ_=>aie.2 ⟨λh=>ω,λ_=>⟨root,v1.bytes,?_⟩⟩⟩;have u:=aii (T:=52) (sz:=32) d (rts [root]) (λt e=>by simp[rts]at e;rw[e];exact jV);have C:ahI [ahZ 32 root]=ahI (rts [root]):=rfl;dsimp only;rw[C];have v:=ahL d (row (ahI (rts [root])) 52);have F:(d.push (row (ahI (rts [root])) 52)).size=d.size+1:=by simp
 generalize d.push (row (ahI (rts [root])) 52)=f at u v F⊢;have w:=aii (T:=3) (sz:=1) f (dX [slot]) (Ew _);have I:ahI [TV.i slot]=ahI (dX [slot]):=rfl;rw[I];have r:=ahL f (row (ahI (dX [slot])) 3);have J:(f.push (row (ahI (dX [slot])) 3)).size=f.size+1:=by simp
 generalize f.push (row (ahI (dX [slot])) 3)=g at w r J⊢;have z:=aii (T:=52) (sz:=32) g (rts [ahH 32]) (λt e=>by simp[rts]at e;rw[e];exact jV);have K:ahI [ahZ 32 (ahH 32)]=ahI (rts [ahH 32]):=rfl;rw[K];have p:=ahL g (row (ahI (rts [ahH 32])) 52);have L:(g.push (row (ahI (rts [ahH 32])) 52)).size=g.size+1:=by simp
 generalize g.push (row (ahI (rts [ahH 32])) 52)=M at z p L⊢;refine af λN O q U=>?_;have b:∀{n k j i:Nat},In (ah0 (some (Vc.Loc.mk n 0)) k j) i->i=n:=λ⟨l,P,a⟩=>by cases P;exact a.symm
 have ok:Cb [⟨root,slot,-1⟩] most:=⟨by simp,λx c=>by simp at c;rw[<-c],λi x c Q=>by
  have:=(ait.1 c).1;simp at this;omega,by simp,λx c=>by simp at c;rw[c];exact G,λi x y c Q=>by
  have:=(ait.1 c).1;simp at this;omega,by simp;omega,E⟩
 refine H N M.size _ _ _ ⟨O,((u.ext r).ext p).ext q,(w.ext p).ext q,z.ext q,ok,⟨λa=>?_,λa=>?_,λa=>?_⟩,λi a o=>?_,λi a o=>?_,λi a o=>?_⟩ (((((s.trans v).trans r).trans p)).trans q) λi a=>?_
 ·have:=b a;omega
 ·have:=b a;omega
 ·have:=b a;omega
 ·have:=b a;have:=b o;omega
 ·have:=b a;have:=b o;omega
 ·have:=b a;have:=b o;omega
 ·have:=s.size;rcases a with rfl|a|a|a
  ·omega
  ·have:=b a;omega
  ·have:=b a;omega
  ·have:=b a;omega
theorem U7(p:RT h m A B D N most){root parent:Bs 32}{slot:Int}
 (M:∀h' A' B' D',RT h' m A' B' D' (iF N most root parent slot) most->Step (BP m A B D) h (BP m A' B' D') h'->R (TV.i (nQ N most root parent slot)).val h'):
 Cl 249 [.ptr (PT m),.bytes 32 root,.bytes 32 parent,.i slot] h R:=by
 apply q7;delta pN dZ aI aD jv Bb bV jS bu dO bK bN aT bh;have la:=p.la;have lb:=p.lb;have ld:=p.ld;have hl:=p.ok.len;have hm:=p.ok.most
 have j:∀{e:Int}{q:aa},Ext h q->nQ N most root parent slot=e->e≠0->R (TV.i e).val q:=λ{e q} x he d=>by
  have:=M q A B D;unfold iF at this;rw[he,if_neg d]at this;exact this (p.ext x) (.an x)
 refine af λg v1 x1 s1=>af λh2 P s s2=>⟨root,(v1.ext s).bytes,?_⟩;have l:=x1.trans s;refine fA (p.ext l) λh3 v=>⟨_,rfl,ID (λw=>j (l.trans v) (by unfold nQ;rw[if_pos w]) δ) λw=>⟨parent,(P.ext v).bytes,?_⟩⟩;have Q:=l.trans v;refine fA (p.ext Q) λy S=>⟨_,rfl,?_⟩;have n:=Q.trans S;have z:=v.trans S;have f:=p.ext n;intro J T;refine ID (λd=>j n ?_ δ) λhp=>⟨B,f.var.ah rfl,?_⟩
 ·unfold nQ nodeAt;rw[if_neg w,if_neg ω]
 obtain⟨k,u,q1,q2,q3,q4,q5⟩:=fB (r:=parent) (L:=N) ω;have K:N[(place parent N).toNat]? =some u:=by rw[q2,aid];exact q3
 have ao:nodeAt N (place parent N)=some u:=by unfold nodeAt;rw[if_pos ω];exact K
 have C:nQ N most root parent slot=if slot<=u.slot\/1073741824<slot then 5 else if most<=N.length then 6 else 0:=by
  unfold nQ;rw[if_neg w,ao]
 refine zZ f.b.elems ω (AU K) (ID (λU=>j n (by rw[C,if_pos (.inl U)]) δ) λU=>aie.2 ⟨λV=>j n (by rw[C,if_pos (.inr V)]) δ,λV=>T 0 y ?_⟩);clear T J;refine⟨A,f.var.ah rfl,most,f.var.ah rfl,ID (λhf=>j n (by rw[C,if_neg ω,if_pos ω]) δ) λhf=>?_⟩;have W:nQ N most root parent slot=0:=by rw[C,if_neg ω,if_neg ω]
 clear j;have X:iF N most root parent slot=N++[⟨root,slot,place parent N⟩]:=by unfold iF;rw[if_pos W]
 rw[W,X]at M;have Y:=p.ok.add (root:=root) (parent:=parent) (slot:=slot);rw[X]at Y;have ap:DM N ⟨root,slot,place parent N⟩=parent:=by rw[GH (by simp only;omega) K];exact q4
 have Z:=U6 p.ok (x:=⟨root,slot,place parent N⟩) (by simp only;omega);rw[ap]at Z;have aw:=l.size;have aE:=z.size;have z2:=s.size;have lt:=λi(a:BP m A B D i)=>p.lt a;have w1:Var 52 y h.size (.bytes 32 root):=(v1.ext s).ext z;have w2:Var 52 y g.size (.bytes 32 parent):=P.ext z;refine⟨A,f.var.ah rfl,root,w1.bytes,ahL _ _,Rn f.a (by rw[ahJ];omega) λA' h5 a5 f5 E=>?_⟩;have v5:Var 130 h5 m (.agg [.slice A,.slice B,.slice D,.i most]):=f.var.only f5 p.ne.1;have b5:=f.b.keep f5 λi a c=>p.ab i c a;have d5:=f.d.keep f5 λi a c=>p.ad i c a;have u5:Var 52 h5 g.size (.bytes 32 parent):=w2.only f5 λa=>by have:=lt _ (.inr (.inl a));omega
 have F:¬In A' m:=λa=>by
  rcases E m a with b|b
  ·exact p.ne.1 b
  ·have:=lt m (.inl rfl);omega
 refine aF v5 (i:=0) (t:=.slice A') rfl rfl rfl rfl λo v6 f6 s6=>?_;have v6:Var 130 o m (.agg [.slice A',.slice B,.slice D,.i most]):=v6;have a6:=a5.keep f6 λi a e=>F ((show i=m from e)▸a);have b6:=b5.keep f6 λi a e=>p.ne.2.1 ((show i=m from e)▸a);have d6:=d5.keep f6 λi a e=>p.ne.2.2 ((show i=m from e)▸a);have u6:Var 52 o g.size (.bytes 32 parent):=u5.only f6 (show¬g.size=m by have:=lt m (.inl rfl);omega);refine⟨B,v6.ah rfl,abN b6 (by rw[ahJ];omega) λB' h7 b7 f7 G=>?_⟩;have a0:y.size<=o.size:=by have:=f5.size;have:=f6.size;omega
 have ab:∀i,In A' i->¬In B i:=λi a c=>by
  rcases E i a with b|b
  ·exact p.ab i b c
  ·have:=lt i (.inr (.inr (.inl c)));omega
 have v7:Var 130 h7 m (.agg [.slice A',.slice B,.slice D,.i most]):=v6.only f7 p.ne.2.1;have a7:=a6.keep f7 ab;have d7:=d6.keep f7 λi a c=>p.bd i c a;have u7:Var 52 h7 g.size (.bytes 32 parent):=u6.only f7 λa=>by have:=lt _ (.inr (.inr (.inl a)));omega
 have O:¬In B' m:=λa=>by
  rcases G m a with b|b
  ·exact p.ne.2.1 b
  ·have:=lt m (.inl rfl);omega
 refine aF v7 (i:=1) (t:=.slice B') rfl rfl rfl rfl λH I f8 s8=>?_;have I:Var 130 H m (.agg [.slice A',.slice B',.slice D,.i most]):=I;have a8:=a7.keep f8 λi a e=>F ((show i=m from e)▸a);have b8:=b7.keep f8 λi a e=>O ((show i=m from e)▸a);have d8:=d7.keep f8 λi a e=>p.ne.2.2 ((show i=m from e)▸a);have u8:Var 52 H g.size (.bytes 32 parent):=u7.only f8 (show¬g.size=m by have:=lt m (.inl rfl);omega);refine⟨D,I.ah rfl,parent,u8.bytes,ahL _ _,Rn d8 (by unfold JH;rw[ahJ];omega) λD' b d9 f9 n9=>?_⟩;have a1:o.size<=H.size:=by have:=f7.size;have:=f8.size;omega
 have ac:∀i,In A' i->¬In D i:=λi a c=>by
  rcases E i a with b|b
  ·exact p.ad i b c
  ·have:=lt i (.inr (.inr (.inr c)));omega
 have ad:∀i,In B' i->¬In D i:=λi a c=>by
  rcases G i a with b|b
  ·exact p.bd i b c
  ·have:=lt i (.inr (.inr (.inr c)));omega
 have v9:Var 130 b m (.agg [.slice A',.slice B',.slice D,.i most]):=I.only f9 p.ne.2.2;have a9:=a8.keep f9 ac;have b9:=b8.keep f9 ad
 have ae:¬In D' m:=λa=>by
  rcases n9 m a with b|b
  ·exact p.ne.2.2 b
  ·have:=lt m (.inl rfl);omega
 refine aF v9 (i:=2) (t:=.slice D') rfl rfl rfl rfl λal v10 f10 a2=>?_;have v10:Var 130 al m (.agg [.slice A',.slice B',.slice D',.i most]):=v10;have am:∀i,In A' i->i<o.size:=a6.gv;have ar:∀i,In B' i->i<H.size:=b8.gv;refine M al A' B' D' ⟨v10,?_,?_,?_,Y,⟨F,O,ae⟩,λi a c=>?_,λi a c=>?_,λi a c=>?_⟩ ⟨⟨?_,?_⟩,?_⟩
 ·rw[ah5];exact a9.keep f10 λi a e=>F ((show i=m from e)▸a)
 ·rw[ah5];exact b9.keep f10 λi a e=>O ((show i=m from e)▸a)
 ·rw[Z];exact d9.keep f10 λi a e=>ae ((show i=m from e)▸a)
 ·rcases G i c with b|b
  ·exact ab i a b
  ·have:=am i a;omega
 ·rcases n9 i c with b|b
  ·exact ac i a b
  ·have:=am i a;omega
 ·rcases n9 i c with b|b
  ·exact ad i a b
  ·have:=ar i a;omega
 ·have:=f9.size;have:=f10.size;omega
 ·intro i a d;have:=f5.size;have:=f6.size;have:=f7.size;have:=f8.size;have:=f9.size
  rw[f10.same i ω (λe=>d (.inl e)),f9.same i ω (λc=>d (.inr (.inr (.inr c)))),f8.same i ω (λe=>d (.inl e)),f7.same i ω (λc=>d (.inr (.inr (.inl c)))),f6.same i ω (λe=>d (.inl e)),
   f5.same i ω (λc=>d (.inr (.inl c))),z.same i ω,l.same i a]
 ·rintro i (rfl|a|a|a)
  ·exact .inl (.inl rfl)
  ·exact(E i a).imp (λh=>.inr (.inl h)) λh=>ω
  ·exact(G i a).imp (λh=>.inr (.inr (.inl h))) λh=>ω
  ·exact(n9 i a).imp (λh=>.inr (.inr (.inr h))) λh=>ω
end
end Gate
namespace Gate
def z_(N:List Nd)(most:Int)(out:List Nd)(i:Int):List Nd:=
 if 0<=place (dm N (dm N i).1.par).1.root out then iF out most (dm N i).1.root (dm N (dm N i).1.par).1.root (dm N i).1.slot else out
def jW(N:List Nd)(most:Int)(k:Nat):Nat->List Nd
 |0=>[⟨(dm N (k:Int)).1.root,(dm N (k:Int)).1.slot,-1⟩]
 |d+1=>z_ N most (jW N most k d) ((k+1+d:Nat):Int)
def e_(N:List Nd)(most:Int)(k:Nat):List Nd:=jW N most k (N.length-(k+1))
def fP(N:List Nd)(k j:Nat):List Nat:=(aiS j).filter (bL (dV N) k)
def Jl(N:List Nd)(i:Nat):Bs 32:=((N[i]?).map Nd.root).getD (ahH 32)
def slI(N:List Nd)(i:Nat):Int:=((N[i]?).map Nd.slot).getD 0
def EV(N:List Nd):List (Bs 32×Int×Bs 32):=N.map λx=>(x.root,x.slot,DM N x)
def O_(N:List Nd)(k i:Nat):Bs 32×Int×Bs 32:=(Jl N i,slI N i,if i=k then ahH 32 else Jl N (dV N i))
section
variable{N:List Nd}{most:Int}
theorem wK{i:Nat}{x:Nd}(h:N[i]? =some x):Jl N i=x.root:=by unfold Jl;rw[h];rfl
theorem MQ{i:Nat}{x:Nd}(h:N[i]? =some x):slI N i=x.slot:=by unfold slI;rw[h];rfl
theorem Tt(o:Cb N most){i j:Nat}(q:i<N.length)(A:j<N.length)(h:Jl N i=Jl N j):i=j:=by
 have a:N[i]? =some N[i]:=ahV q;have b:N[j]? =some N[j]:=ahV A;rw[wK a,wK b]at h;have c:=vD o.nodup a;have d:=vD o.nodup b;rw[h,d]at c;exact(Option.some.inj c).symm
theorem U8(o:Cb N most){x:Nd}(q:x.par<N.length):EV (N++[x])=EV N++[(x.root,x.slot,DM N x)]:=by
 unfold EV;rw[ah5,ah7,aiL,AT q];congr 1;exact List.map_congr_left λy a=>by rw[AT (Ya o a)]
theorem Yd:(EV N).length=N.length:=by simp[EV]
theorem wL{k j:Nat}:fP N k (j+1)=fP N k j++if bL (dV N) k j=true then[j]else[]:=by
 unfold fP;rw[List.range_succ,List.filter_append];congr 1;by_cases h:bL (dV N) k j=true<;>simp[h]
theorem Pa(o:Cb N most){k:Nat}(q:k<N.length):fP N k (k+1)=[k]:=by
 rw[wL,if_pos (qH k)]
 have:fP N k k=[]:=List.filter_eq_nil_iff.2 λx a=>by
  have a:=List.mem_range.1 a;intro h;have:=za o.tree x ω h;omega
 rw[this];rfl
theorem AV{k j i:Nat}:i∈fP N k j↔i<j/\bL (dV N) k i=true:=by
 unfold fP;rw[List.mem_filter,List.mem_range]
theorem uI{i:Nat}{x:Nd}(h:N[i]? =some x):dm N (i:Int)=(x,true):=gW ω (by rw[aid];exact h)
theorem FD(o:Cb N most){k:Nat}(q:k<N.length):∀d,k+1+d<=N.length->Cb (jW N most k d) most/\EV (jW N most k d)=(fP N k (k+1+d)).map (O_ N k)
 |0,_=>by
  have a:N[k]? =some N[k]:=ahV q;have hl:=o.len;have b:=o.most;have e:jW N most k 0=[⟨N[k].root,N[k].slot,-1⟩]:=by unfold jW;rw[uI a]
  rw[e]
  refine⟨⟨by simp,λx a=>by simp at a;rw[<-a],λi x a G=>by
   have:=(ait.1 a).1;simp at this;omega,by simp,λx z=>by simp at z;rw[z];exact o.slots N[k] (List.getElem_mem q),λi x y a G=>by
   have:=(ait.1 a).1;simp at this;omega,by simp;omega,b⟩,?_⟩
  rw[Nat.add_zero,Pa o q];unfold EV O_;simp only[ah7,aiL,if_true,wK a,MQ a];rfl
 |d+1,hd=>by
  obtain⟨ok,c⟩:=FD o q d ω;obtain⟨j,A⟩:∃j,j=k+1+d:=⟨_,rfl⟩;have g:j<N.length:=ω;have a:N[j]? =some N[j]:=ahV g;have H:=o.up j _ a ω;have l:N[j].par.toNat<N.length:=ω;have m:N[N[j].par.toNat]? =some N[N[j].par.toNat]:=ahV l;have par:dV N j=N[j].par.toNat:=AJ a;obtain⟨out,r⟩:∃out,out=jW N most k d:=⟨_,rfl⟩;have e:jW N most k (d+1)=z_ N most out (j:Int):=by rw[r,A];rfl
  rw[e,show k+1+(d+1)=j+1 by omega,wL];rw[<-r,<-A]at c;rw[<-r]at ok;have I:(dm N (j:Int)).1=N[j]:=by rw[uI a]
  have J:(dm N N[j].par).1=N[N[j].par.toNat]:=by rw[gW H.1 m]
  have K:out.map Nd.root=(fP N k j).map (Jl N):=by
   have:=congrArg (aiD λt:Bs 32×Int×Bs 32=>t.1) c;unfold EV at this;rw[ah3,ah3]at this;exact this
  have s:∀i,i<N.length->(Jl N i∈out.map Nd.root↔i<j/\bL (dV N) k i=true):=λi L=>by
   rw[K,ahK];constructor
   ·rintro⟨i',M,O⟩;have P:=AV.1 M;have:=Tt o ω L O;rw[<-this];exact P
   ·exact λh=>⟨i,AV.2 h,rfl⟩
  have T7:bL (dV N) k j=bL (dV N) k N[j].par.toNat:=by
   rw[gq o.tree g,par];have:¬j=k:=ω;simp[this];omega
  unfold z_;rw[I,J,<-wK m];by_cases f:0<=place (Jl N N[j].par.toNat) out
  ·rw[if_pos f];have Q:Jl N N[j].par.toNat∈out.map Nd.root:=aiF λn=>by have:=mL.2 n;omega
   have R:=((s _ l).1 Q).2;obtain⟨p,u,q1,B,v,C,q5⟩:=fB f
   have S:¬0<=place N[j].root out:=λh=>by
    have b:N[j].root∈out.map Nd.root:=aiF λn=>by have:=mL.2 n;omega
    rw[<-wK a]at b;have:=((s _ g).1 b).1;omega
   have T:nodeAt out (place (Jl N N[j].par.toNat) out)=some u:=by unfold nodeAt;rw[if_pos f,B,aid];exact v
   have D:(u.root,u.slot,DM out u)∈EV out:=ahK.2 ⟨u,aim v,rfl⟩;rw[c]at D;obtain⟨i,U,w⟩:=ahK.1 D;have ab:=AV.1 U;unfold O_ at w;have E:Jl N i=u.root:=congrArg (λt=>t.1) w;have V:slI N i=u.slot:=congrArg (λt=>t.2.1) w;rw[C]at E;have W:=Tt o ω l E
   have ac:u.slot<N[j].slot:=by
    rw[<-V,W,MQ m];exact o.later j _ _ a ω m
   have ad:=(o.slots _ (List.getElem_mem g)).2;have ae:out.length=(fP N k j).length:=by rw[<-Yd,c,ahJ]
   have al:(fP N k j).length<=j:=by
    have:=ais (bL (dV N) k) (aiS j)
    rwa [List.length_range]at this
   have am:=o.len
   have X:nQ out most N[j].root (Jl N N[j].par.toNat) N[j].slot=0:=by
    unfold nQ;rw[if_neg S,T];simp only;rw[if_neg ω,if_neg ω]
   have F:=ok.add (root:=N[j].root) (parent:=Jl N N[j].par.toNat) (slot:=N[j].slot);have Y:iF out most N[j].root (Jl N N[j].par.toNat) N[j].slot=out++[⟨N[j].root,N[j].slot,place (Jl N N[j].par.toNat) out⟩]:=by unfold iF;rw[if_pos X]
   rw[Y]at F⊢;refine⟨F,?_⟩;rw[U8 ok (by simp only;omega),c,T7,if_pos R,ah5];congr 1;simp only[ah7,aiL];unfold O_;rw[if_neg (show¬j=k by omega),par,wK a,MQ a,GH (y:=u) (by simp only;omega) (by simp only;rw[B,aid];exact v),C]
  ·rw[if_neg f]
   have Z:¬bL (dV N) k j=true:=λh=>by
    rw[T7]at h;have b:=(s _ l).2 ⟨ω,h⟩
    exact f (aiF λn=>by
     have:=mL.1 (show place (Jl N N[j].par.toNat) out<0 by omega);exact this b)
   rw[if_neg Z,aiC];exact⟨ok,c⟩
theorem wM(o:Cb N most){k:Nat}(q:k<N.length):Cb (e_ N most k) most/\EV (e_ N most k)=(fP N k N.length).map (O_ N k):=by
 have:=FD o q (N.length-(k+1)) ω
 rwa [show k+1+(N.length-(k+1))=N.length by omega]at this
theorem FE(o:Cb N most){k:Nat}(q:k<N.length):(e_ N most k).map Nd.root=(fP N k N.length).map (Jl N):=by
 have:=congrArg (aiD λt:Bs 32×Int×Bs 32=>t.1) (wM o q).2;unfold EV at this;rw[ah3,ah3]at this;exact this
theorem Pb(o:Cb N most){k:Nat}(q:k<N.length):(e_ N most k).map Nd.slot=(fP N k N.length).map (slI N):=by
 have:=congrArg (aiD λt:Bs 32×Int×Bs 32=>t.2.1) (wM o q).2;unfold EV at this;rw[ah3,ah3]at this;exact this
theorem Ro(o:Cb N most){k:Nat}(q:k<N.length):JH (e_ N most k)=(fP N k N.length).map λi=>if i=k then ahH 32 else Jl N (dV N i):=by
 have:=congrArg (aiD λt:Bs 32×Int×Bs 32=>t.2.2) (wM o q).2;unfold EV at this;rw[ah3,ah3]at this;exact this
end
end Gate
namespace Gate
open Pool (xE)
def DN(L:List Nd)(own:Nat->Int):Bs 32:=((L[C2 L.length (dV L) (jG L own) (lM L) 0]?).map Nd.root).getD (ahH 32)
def lY(L:List Nd)(f:Nat->Int)(r:Bs 32):Int:=if 0<=place r L then f (place r L).toNat else 0
section
variable{R:Rq}{h h':aa}{w tb r:Nat}{O S B G A:Sl}{L:List Nd}{most:Int}{own:Nat->Int}
theorem Rp(p:WT h w tb O S B G L own)(t:yK h tb r A L most)(E:∀h',Ext h h'->R (ahZ 32 (DN L own)).val h'):Cl 190 [.ptr (PT w)] h R:=by
 apply tj;delta aI De ud BH gT dH Be c7 bu fU bK bN aT eE;have m:=t.ok.QD;obtain⟨k,f⟩:∃k,k=C2 L.length (dV L) (jG L own) (lM L) 0:=⟨_,rfl⟩;have z:k<L.length:=f▸SG t.ok.tree t.ok.names _ 0 m;have e:L[k]? =some L[k]:=ahV z;obtain⟨x,C⟩:∃x,x=L[k]:=⟨_,rfl⟩;rw[<-C]at e;have D:DN L own=x.root:=by unfold DN;rw[<-f,e];rfl
 have F:Mk L own 0=(k:Int):=by unfold Mk;rw[<-f]
 refine af λn v1 g U=>ahO ?_;intro H o;have j:=p.ext g;have t1:=t.ext g
 have s:∀(a:OL×OL×OL×Sl×Int×Bool×OL×Bool)(b:aa)(q:Nat),a.2.2.2.2.2.2.1=some ⟨q,0⟩->Ext n b->Var 69 b q x.tv->H a b:=by
  intro a b q I u J;refine o a b ?_;dsimp only;rw[I];refine⟨x.root,J.at.1,aH (v1.ext u) (t:=.bytes 32 x.root) rfl λK M f5 V=>⟨_,M.bytes,?_⟩⟩;rw[<-D];exact E K (ahG (g.trans u) f5 λi v=>ω)
 clear o;refine⟨some ⟨tb,0⟩,j.var.ah rfl,G,j.var.ah rfl,gz j.f (ahR 0) (ja (Mk L own) (i:=0) m) ?_⟩;rw[F];refine⟨cL t1 λy c=>⟨_,_,_,_,rfl,?_⟩,af λy N c W=>⟨c,cL (t1.ext c) λP d=>⟨_,_,_,_,rfl,?_⟩⟩⟩
 ·rw[gW (i:=(k:Int)) ω e];refine af λP Q d X=>⟨d,aH Q (t:=x.tv) rfl λl v4 f4 T=>?_⟩;exact s _ l y.size rfl (c.trans (ahG d f4 λi v=>ω)) v4
 ·rw[gW (i:=(k:Int)) ω e];refine aH (N.ext d) (t:=x.tv) rfl λl v4 f4 T=>?_;exact s _ l n.size rfl (ahG (c.trans d) f4 λi v=>ω) v4
def abQ(h:aa)(f:Vc.One)(g:Nat->Int)(n:Nat):Prop:=∃(k:Nat)(first cap:Array Value),f.v=.func (.func k) first cap/\LL Tryz.prog k/\
 ∀(h':aa)(i:Nat)(R:Rq),Ext h h'->i<n->R (TV.i (g i)).val h'->bB Tryz.prog k (first.toList++aj.vals [.i (i:Int)]++cap.toList) h' R
theorem GA(p:WT h w tb O S B G L own)(t:yK h tb r A L most){f:Vc.One}{g:Nat->Int}(E:abQ h f g L.length){k:Bs 32}(q:∀h',Ext h h'->R (TV.i (lY L g k)).val h'):
 Cl 191 [.ptr (PT w),.bytes 32 k,.one f] h R:=by
 apply wN;delta aI aD gU Ul bV jS bu dO bK bN aT bh;refine af λo v1 a s=>ahO ⟨some ⟨tb,0⟩,(p.var.ext a).ah rfl,k,v1.bytes,dx (t.ext a) λb e=>⟨_,rfl,ID (λc=>?_) λc=>?_⟩⟩
 ·have d:=a.trans e;have i:=p.ext d;have lo:=i.lo;rw[vP]at lo;have u:=qJ k L;refine⟨O,i.var.ah rfl,ID (λ_=>?_) λv=>ω⟩;obtain⟨j,first,cap,l,m,n⟩:=E;refine⟨j,first,cap,l,m,?_⟩;rw[show place k L=(((place k L).toNat:Nat):Int) by omega];refine n b (place k L).toNat _ d ω ⟨_,rfl,?_⟩;have:=q b d;unfold lY at this;rw[if_pos c]at this;exact this
 ·have:=q b (a.trans e);unfold lY at this;rw[if_neg c]at this;exact this
theorem aaX(p:WT h w tb O S B G L own)(t:yK h tb r A L most){k:Bs 32}(q:∀h',Ext h h'->R (TV.i (lY L (jG L own) k)).val h'):Cl 122 [.ptr (PT w),.bytes 32 k] h R:=by
 apply q8;delta SU uh bV dw fh bu bK aT eE;refine af λo v1 e s=>af λu j b v=>⟨some ⟨w,0⟩,(v1.ext b).ah rfl,k,j.bytes,?_⟩;have a:=e.trans b;refine GA (f:=⟨(aiK (.func 192) [] [.ptr (PT h.size)]).val,rfl⟩) (g:=jG L own) (p.ext a) (t.ext a) ⟨192,#[],#[(ahN (PT h.size)).val],rfl,bI.Ju κ,λh' i R' c x l=>?_⟩ λm n=>⟨_,rfl,q m (a.trans n)⟩;have d:=(p.ext a).ext c;show Cl 192 [.i (i:Int),.ptr (PT h.size)] h' R';apply oV;delta Bd dw aT;exact⟨some ⟨w,0⟩,((v1.ext b).ext c).ah rfl,S,d.var.ah rfl,gz d.s ω (ja (jG L own) (i:=((i:Int)).toNat) ω) l⟩
theorem Ye(p:WT h w tb O S B G L own)(t:yK h tb r A L most){k:Bs 32}(q:∀h',Ext h h'->R (TV.i (lY L own k)).val h'):Cl 245 [.ptr (PT w),.bytes 32 k] h R:=by
 apply uJ;delta SU uh bV dw fh bu bK aT eE;refine af λo v1 e s=>af λu j b v=>⟨some ⟨w,0⟩,(v1.ext b).ah rfl,k,j.bytes,?_⟩;have a:=e.trans b;refine GA (f:=⟨(aiK (.func 284) [] [.ptr (PT h.size)]).val,rfl⟩) (g:=own) (p.ext a) (t.ext a) ⟨284,#[],#[(ahN (PT h.size)).val],rfl,bI.Ju κ,λh' i R' c x l=>?_⟩ λm n=>⟨_,rfl,q m (a.trans n)⟩;have d:=(p.ext a).ext c;show Cl 284 [.i (i:Int),.ptr (PT h.size)] h' R';apply rV;delta Bd dw aT;exact⟨some ⟨w,0⟩,((v1.ext b).ext c).ah rfl,O,d.var.ah rfl,gz d.o ω (ja own (i:=((i:Int)).toNat) ω) l⟩
end
end Gate
namespace Gate
open Pool (xE)
open Board (Vt)
theorem gh(z:TV):∀n,bZ z n=ahI (aiw n z)
 |0=>rfl
 |n+1=>by rw[List.replicate_succ];simp only[bZ,ahI,gh z n]
theorem Pc(h:aa):∀n,zL h (aiw n none) (aiw n none)
 |0=>.nil
 |n+1=>.cons trivial (Pc h n)
section
variable{R:Rq}{h h':aa}
def DO(v q:Int):Prop:=1<=v/\v<=64/\1<=q/\q<=32
theorem U9{v A:Int}(B:¬DO v A->R (ahN none).val h)
 (M:DO v A->∀h' b r u w C,Jj h' b r u w C (gZ v.toNat A) v.toNat->Ext h h'->(∀i,sV b r u w C i->h.size<=i)->R (ahN (PT b)).val h'):
 Cl 144 [.i v,.i A] h R:=by
 apply Gg;delta Dg Df xK jf zm rG FV FU eE;refine ID (λn=>B (λj=>by have:=j.1;omega)) λD=>aie.2 ⟨λn=>B (λj=>by have:=j.2.1;omega),λE=>ID (λn=>B (λj=>by have:=j.2.2.1;omega)) λg3=>aie.2 ⟨λn=>B (λj=>by have:=j.2.2.2;omega),λg4=>?_⟩⟩;have can:DO v A:=⟨ω,ω,ω,ω⟩
 have K:∀(g:aa)(c d f:Nat),Ext h g->g[c]? =some (row (bZ (ahN none) v.toNat) 198)->g[d]? =some (row (bZ (ahT false) v.toNat) 4)->g[f]? =some (bP [] 0)->h.size<=c/\h.size<=d/\h.size<=f/\c≠d/\c≠f/\d≠f->
  Bind (iu g (.agg [.i A,.slice (ah0 (some (ain c 0)) v.toNat v.toNat),.slice (ah0 (some (ain d 0)) v.toNat v.toNat),.map (some f)]) 202) λL=>R (aiA (.ptr (some (ain g.size 0)))) L:=by
  rintro g c d f F G H I ⟨N,O,P,Q,S,T⟩;have l1:=jo G;have l2:=jo H;have l3:=(aiE.1 I).1;refine af λU v4 k s4=>?_
  have V:Own 198 1 g (ah0 (some (ain c 0)) v.toNat v.toNat) (XE (aiw v.toNat none)):=
   ⟨λt o=>by obtain⟨x,_,rfl⟩:=ahK.1 o;rfl,by simp,ahW _,.inr ⟨c,[],rfl,by rw[G,gh];simp[XE],by simp⟩⟩
  have lo:Own 4 1 g (ah0 (some (ain d 0)) v.toNat v.toNat) (VX (aiw v.toNat false)):=
   ⟨λt o=>by obtain⟨x,_,rfl⟩:=ahK.1 o;rfl,by simp,ahW _,.inr ⟨d,[],rfl,by rw[H,gh];simp[VX],by simp⟩⟩
  have W:k9 kM kR g f []:=⟨[],0,by rw[I];simp[kZ],rfl,(λe X=>by cases X),aiT⟩;have inl:∀i,In (ah0 (some (ain c 0)) v.toNat v.toNat) i->i=c:=λi⟨l,p,a⟩=>by cases p;exact a.symm
  have m:∀i,In (ah0 (some (ain d 0)) v.toNat v.toNat) i->i=d:=λi⟨l,p,a⟩=>by cases p;exact a.symm
  have J:∀q,some q∉aiw v.toNat (none:Option Nat):=λq s=>by simp[List.mem_replicate]at s
  refine M can U g.size f _ _ (aiw v.toNat none) ⟨v4,V.ext k,Pc _ _,lo.ext k,W.ext k,ON ⟨ω,ω⟩ ⟨ω,ω⟩,⟨λa=>?_,λa=>?_⟩,⟨λa=>?_,λa=>?_⟩,λi a Y=>?_,λq s=>absurd s (J q)⟩ (F.trans k) ?_
  ·have:=inl _ a;omega
  ·exact S (inl _ a).symm
  ·have:=m _ a;omega
  ·exact T (m _ a).symm
  ·exact Q ((inl i a).symm.trans (m i Y))
  ·rintro i (rfl|rfl|a|a|a)
   ·exact F.size
   ·exact P
   ·rw[inl i a];exact N
   ·rw[m i a];exact O
   ·exact absurd a (J i)
 have Z:∀x y z:Obj,Ext h (((h.push x).push y).push z):=λx y z=>((ahL h x).trans (ahL _ y)).trans (ahL _ z);have E:∀x y z:Obj,(((h.push x).push y).push z)[((h.push x).push y).size]? =some z:=λx y z=>cg _ _;have D:∀x y z:Obj,(((h.push x).push y).push z)[(h.push x).size]? =some y:=λx y z=>((ahL ((h.push x).push y) z).same _ (by simp)).trans (cg _ _);have g0:∀x y z:Obj,(((h.push x).push y).push z)[h.size]? =some x:=λx y z=>((ahL ((h.push x).push y) z).same _ (by simp;omega)).trans (((ahL (h.push x) y).same _ (by simp)).trans (cg _ _))
 repeat' apply And.intro
 all_goals first
  |omega
  |(refine K _ _ _ _ (Z _ _ _) ?_ ?_ ?_ ?_<;>first|exact g0 _ _ _|exact D _ _ _|exact E _ _ _|(simp only[Array.size_push];omega))
end
end Gate
end Go.Proofs.YtennbinbffdimaaGreat
namespace Go.Vc
open Go
theorem least{p:Nat->Prop}(h:∃n,p n):∃n,p n/\∀m,m<n->¬p m:=by
 obtain⟨n,d⟩:=h
 induction n using Nat.strongRecOn with
 |_ n e=>
  by_cases c:∃m,m<n/\p m
  ·obtain⟨m,a,b⟩:=c;exact e m a b
  ·exact⟨n,d,λm a b=>c ⟨m,a,b⟩⟩
open Classical in
theorem Loop.less{σ:Type}{q:σ}{E:aa}{round:σ->aa->(σ->aa->Prop)->Prop}(S:Nat->σ->aa->Prop){n0:Nat}(H:S n0 q E)
 (I:∀n s h(G:σ->aa->Prop),S n s h->(∀m a h',m<n->S m a h'->G a h')->round s h G):Loop q E round:=by
 refine⟨λs h=>∃n,S n s h,λs h=>if b:∃n,S n s h then aiU (least b)else 0,⟨n0,H⟩,λs h e=>?_⟩;have g:=Classical.choose_spec (least e);refine I _ s h _ g.1 λm a h' j c=>⟨⟨m,c⟩,?_⟩;have d:∃n,S n a h':=⟨m,c⟩;have i:=Classical.choose_spec (least d);show(if b:∃n,S n a h' then aiU (least b)else 0)<(if b:∃n,S n s h then aiU (least b)else 0);rw[dif_pos d,dif_pos (show∃n,S n s h from e)];rcases Nat.lt_or_ge m (aiU (least d))with f|f
 ·exact absurd c (i.2 m f)
 ·omega
end Go.Vc
namespace Go.Proofs.YtennbinbffdimaaGreat
open Go Go.Vc
namespace Gate
open Board (av uo)
open Pool (rts jV Im Ij)
structure RW(h:aa)(w m:Nat)(O:Sl)(N:List Nd)(own:Nat->Int):Prop where
 var:Var 263 h w (.agg [.ptr (PT m),.slice O,.i N.length])
 o:Own 3 1 h O (dX (gy N.length own))
theorem take_succ{α:Type}{l:List α}{j:Nat}{x:α}(h:l[j]? =some x):l.take (j+1)=l.take j++[x]:=by
 rw[List.take_add_one,h];rfl
section
variable{R:Rq}{h h':aa}{w m:Nat}{O A B D:Sl}{N:List Nd}{most:Int}{own:Nat->Int}
theorem RW.ext(p:RW h w m O N own)(x:Ext h h'):RW h' w m O N own:=⟨p.var.ext x,p.o.ext x⟩
theorem Rr(p:RT h m A B D N most)(q:∀h' w O,RW h' w m O N (λ_=>0)->Ext h h'->(∀i,i=w\/In O i->h.size<=i)->¬In O w->R (ahN (PT w)).val h'):
 Cl 181 [.ptr (PT m)] h R:=by
 apply yh;delta SS aI bN bh eE;have d:=p.la;have b:=p.ok.len;have s:=p.ok.most;refine⟨A,p.var.ah rfl,A,p.var.ah rfl,ω,ω,ω,ω,ahL _ _,?_⟩;have c:=aii (T:=3) (sz:=1) h (dX (gy N.length λ_=>0)) (Ew _)
 have j:bZ (TV.i 0) (Int.toNat (A.len:Int))=ahI (dX (gy N.length λ_=>0)):=by
  rw[gh,aid,d];congr 1;unfold gy;rw[List.map_const',List.length_range];simp[dX]
 rw[j,aid];have k:(dX (gy N.length λ_=>0)).length=A.len:=by simp[d]
 rw[k]at c;have e:=ahL h (row (ahI (dX (gy N.length λ_=>0))) 3);have n:(h.push (row (ahI (dX (gy N.length λ_=>0))) 3)).size=h.size+1:=by simp
 generalize h.push (row (ahI (dX (gy N.length λ_=>0))) 3)=o at c e n⊢;refine af λr f g t=>?_;rw[d]at f c;refine q r o.size _ ⟨f,c.ext g⟩ (e.trans g) (λi a=>?_) λa=>?_
 ·rcases a with rfl|⟨l,b,a⟩
  ·omega
  ·cases b;simp only at a;omega
 ·obtain⟨l,b,a⟩:=a;cases b;simp only at a;omega
theorem Pd(t:RT h m A B D N most)(p:RW h w m O N own){k:Bs 32}(q:∀h',Ext h h'->R (TV.i (place k N)).val h'):
 Cl 286 [.ptr (PT w),.bytes 32 k] h R:=by
 apply mq;delta lR bV dw jS bu bK aT;refine af λd v1 a e=>⟨_,(p.var.ext a).ah rfl,k,v1.bytes,fA (t.ext a) λc b=>⟨_,rfl,_,((p.var.ext a).ext b).ah rfl,?_⟩⟩;have:=qJ k N;exact ID (λh=>ω) λ_=>q c (a.trans b)
theorem U_(t:RT h m A B D N most)(p:RW h w m O N own){k:Bs 32}(q:∀h',Ext h h'->R (TV.i (lY N own k)).val h'):
 Cl 247 [.ptr (PT w),.bytes 32 k] h R:=by
 apply mu;delta pN aI aD bV dw jS bu dO bK aT bh;refine af λf v1 c g=>⟨k,v1.bytes,Pd (t.ext c) (p.ext c) λd e=>⟨_,rfl,?_⟩⟩;have a:=c.trans e;have i:=qJ k N;refine ID (λb=>⟨O,(p.var.ext a).ah rfl,zZ (p.o.ext a).elems b (ja own ω) ?_⟩) λb=>?_
 ·have:=q d a;unfold lY at this;rw[if_pos b]at this;exact this
 ·have:=q d a;unfold lY at this;rw[if_neg b]at this;exact this
end
end Gate
namespace Gate
structure Sep(h:aa)(F:Nat->Nat->Prop):Prop where
 nC:∀j k i,F j i->F k i->j=k
 lt:∀j i,F j i->i<h.size
def mK(F:Nat->Nat->Prop)(j:Nat)(S:Nat->Prop):Nat->Nat->Prop:=λk=>if k=j then S else F k
def cO(F:Nat->Nat->Prop)(i:Nat):Prop:=∃k,F k i
section
variable{h h':aa}{F:Nat->Nat->Prop}{S S':Nat->Prop}{j k:Nat}
theorem bF:mK F j S j=S:=if_pos rfl
theorem au(q:k≠j):mK F j S k=F k:=if_neg q
theorem Sep.off(s:Sep h F)(q:k≠j):∀i,F k i->¬F j i:=λ_ a b=>q (s.nC _ _ _ a b)
theorem Sep.ext(s:Sep h F)(x:Ext h h'):Sep h' F:=⟨s.nC,λj i a=>by have:=s.lt j i a;have:=x.size;omega⟩
theorem Sep.step(s:Sep h F)(st:Step (F j) h S' h')(lt:∀i,S' i->i<h'.size):Sep h' (mK F j S'):=by
 have new:∀k i,k≠j->F k i->¬S' i:=λk i m g n=>by
  rcases st.new i n with l|l
  ·exact m (s.nC _ _ _ g l)
  ·have:=s.lt k i g;omega
 refine⟨λa b i c e=>?_,λa i c=>?_⟩
 ·by_cases d:a=j
  ·by_cases f:b=j
   ·rw[d,f]
   ·rw[d,bF]at c;rw[au f]at e;exact absurd c (new b i f e)
  ·by_cases f:b=j
   ·rw[f,bF]at e;rw[au d]at c;exact absurd e (new a i d c)
   ·rw[au d]at c;rw[au f]at e;exact s.nC _ _ _ c e
 ·by_cases d:a=j
  ·rw[d,bF]at c;exact lt i c
  ·rw[au d]at c;have:=s.lt a i c;have:=st.only.size;omega
theorem Step.all(st:Step (F j) h S' h'):Step (cO F) h (cO (mK F j S')) h':=
 ⟨st.only.mono λi b=>⟨j,b⟩,λi⟨k,a⟩=>by
  by_cases e:k=j
  ·rw[e,bF]at a;exact(st.new i a).imp (λx=>⟨j,x⟩) id
  ·rw[au e]at a;exact .inl ⟨k,a⟩⟩
theorem Sep.made{lo:Nat->Nat}(q:∀j i,F j i->lo j<=i/\i<lo (j+1))(mono:∀j,lo j<=lo (j+1))(top:∀j,lo j<=h.size):Sep h F:=by
 have up:∀a d,lo a<=lo (a+d):=λa d=>by
  induction d with
  |zero=>exact ahW _
  |succ d c=>exact aiv c (mono _)
 refine⟨λa b i e f=>?_,λj i g=>by have:=(q j i g).2;have:=top (j+1);omega⟩;have m:=q a i e;have n:=q b i f;rcases Nat.lt_trichotomy a b with k|l|k
 ·have:=up (a+1) (b-(a+1));rw[show a+1+(b-(a+1))=b by omega]at this;omega
 ·exact l
 ·have:=up (b+1) (a-(b+1));rw[show b+1+(a-(b+1))=a by omega]at this;omega
end
end Gate
namespace Gate
open Pool (xE)
section
variable{R:Rq}{h h':aa}{b r:Nat}{A:Sl}{L:List Nd}{most:Int}
def AW(slot most:Int):Prop:=1<=most/\most<=256/\0<=slot/\slot<=1073741824
theorem Yf{root:Bs 32}{slot:Int}(q:AW slot most):Cb [⟨root,slot,-1⟩] most:=by
 have one:∀(i:Nat)(x:Nd),([⟨root,slot,-1⟩]:List Nd)[i]? =some x->i=0/\x=⟨root,slot,-1⟩:=λi x a=>by
  cases i with
  |zero=>exact⟨rfl,by simpa using a.symm⟩
  |succ i=>simp at a
 unfold AW at q
 exact⟨by simp,λx a=>by rw[(one 0 x a).2],λi x a b=>by have:=(one i x a).1;omega,by simp,λx a=>by rw[aiB.1 a];exact q.2.2,
  λi x y a b=>by have:=(one i x a).1;omega,by simp;omega,⟨q.1,q.2.1⟩⟩
theorem DP{root:Bs 32}{slot:Int}(B:¬AW slot most->∀h',Ext h h'->R (ahM [.ptr none,.i 1]).val h')
 (G:AW slot most->∀h' b r A,yK h' b r A [⟨root,slot,-1⟩] most->Ext h h'->(∀i,kH b r A i->h.size<=i)->R (ahM [.ptr (PT b),.i 0]).val h'):
 Cl 141 [.bytes 32 root,.i slot,.i most] h R:=by
 apply HK;delta dZ BJ jf Da C' bV fh dI bK bh eE;refine af λa v1 z k=>?_;intro F C;have n:¬AW slot most->R (ahM [.ptr none,.i 1]).val a:=λH=>B H a z;refine ID (λs=>n (λf=>by have:=f.1;omega)) λd=>aie.2 ⟨λs=>n (λf=>by have:=f.2.1;omega),λQ=>ID (λs=>n (λf=>by have:=f.2.2.1;omega)) λS=>aie.2 ⟨λs=>n (λf=>by have:=f.2.2.2;omega),λT=>?_⟩⟩;have can:AW slot most:=⟨ω,ω,ω,ω⟩;refine C (none,0) a ?_;clear C F n B
 have t:∀{g:aa}{q m:Nat},Ext a g->g[q]? =some (row (ahI [(⟨root,slot,-1⟩:Nd).tv]) 69)->k9 kR vI g m [(root,0)]->q≠m->a.size<=q->a.size<=m->
  Bind (iu g (.agg [.slice (ah0 (some (ain q 0)) 1 1),.map (some m),.i most]) 168) λI=>R (aiA (.aX [.ptr (some (ain g.size 0)),.i 0])) I:=by
  intro g q m p D J K U E;refine af λL v4 u V=>G can L g.size m _ ⟨v4,?_,J.ext u,Yf can,⟨?_,?_⟩⟩ ((z.trans p).trans u) ?_
  ·have:Own 69 34 g (ah0 (some (ain q 0)) 1 1) (ZJ [⟨root,slot,-1⟩]):=⟨Xh _,rfl,ahW _,.inr ⟨q,[],rfl,by rw[D];simp[ZJ],by simp⟩⟩;exact this.ext u
  ·rintro⟨l,o,v⟩;cases o;have:=jo D;simp only at v;omega
  ·rintro⟨l,o,v⟩;cases o;exact K v
  ·rintro i (rfl|rfl|⟨l,o,rfl⟩)
   ·have:=p.size;omega
   ·omega
   ·cases o;simp only;omega
 have put:∀{g:aa}{m:Nat}{P:aa->Prop},Ext a g->a.size<=m->k9 kR vI g m []->(∀d,k9 kR vI d m [(root,0)]->ag (·=m) g d->Ext a d->d.size=g.size->P d)->
  ∃es c,g[m]? =some (bP es c)/\dc ctx (.array 32 5) es/\Bind (g.setIfInBounds m (bP (iA (.bytes 32 root) (.i 0) c es) (eN (.bytes 32 root) c es))) P:=
  λp E M N=>M.put SY root 0 λd j f1 k=>N d j f1 (ahG p f1 λi O=>by subst O;exact E) k
 refine⟨root,v1.bytes,root,v1.bytes,?_⟩;have w:=ahL a (row (ahI [(⟨root,slot,-1⟩:Nd).tv]) 69);have xb:=ahL a (bP [] 0);have x:=ahL (a.push (row (ahI [(⟨root,slot,-1⟩:Nd).tv]) 69)) (bP [] 0);have y:=ahL (a.push (bP [] 0)) (row (ahI [(⟨root,slot,-1⟩:Nd).tv]) 69)
 refine⟨⟨w,w.trans x,put (w.trans x) (by simp) (k9.new _) λd j f1 e k=>⟨e,t e ?_ j (by simp) (ahW _) (by simp)⟩⟩,xb,
  ⟨xb.trans y,put (xb.trans y) (ahW _) ((k9.new a).ext y) λd j f1 e k=>⟨e,t e ?_ j (by simp) (by simp) (ahW _)⟩⟩,
  put xb (ahW _) (k9.new a) λd j f1 e k=>⟨e,e.trans (ahL _ _),t (e.trans (ahL _ _)) ?_ (j.ext (ahL _ _)) ?_ e.size (ahW _)⟩⟩
 ·exact(f1.same _ (by simp;omega) (by simp)).trans ((x.same _ (by simp)).trans (cg _ _))
 ·exact(f1.same _ (by simp) (by simp)).trans (cg _ _)
 ·exact cg _ _
 ·rw[k];simp
end
end Gate
namespace Peers
def get(k:Int):List (Int×Int)->Option Int
 |[]=>none
 |e::es=>if k=e.1 then some e.2 else get k es
def put(k v:Int):List (Int×Int)->List (Int×Int)
 |[]=>[(k,v)]
 |e::es=>if k=e.1 then(e.1,v)::es else e::put k v es
def drop(k:Int):List (Int×Int)->List (Int×Int)
 |[]=>[]
 |e::es=>if k=e.1 then es else e::drop k es
def keys(L:List (Int×Int)):List Int:=L.map (·.1)
def score(L:List (Int×Int))(k:Int):Int:=(get k L).getD 0
theorem get_mem{L:List (Int×Int)}(q:(keys L).Nodup){k v:Int}:get k L=some v↔(k,v)∈L:=by
 induction L with
 |nil=>simp[get]
 |cons e es c=>
  have b:e.1∉keys es/\(keys es).Nodup:=by simpa[keys]using q
  unfold get;by_cases h:k=e.1
  ·rw[if_pos h];constructor
   ·intro a;have:e.2=v:=Option.some.inj a;rw[h,<-this];exact aiV ..
   ·intro a;rcases ah4.1 a with a|a
    ·rw[<-a]
    ·exfalso;exact b.1 (ahK.2 ⟨_,a,h⟩)
  ·rw[if_neg h,c b.2];constructor
   ·exact aiM _
   ·intro a;rcases ah4.1 a with a|a
    ·exact absurd (by rw[<-a]) h
    ·exact a
theorem get_none{L:List (Int×Int)}{k:Int}:get k L=none↔k∉keys L:=by
 induction L with
 |nil=>simp[get,keys]
 |cons e es a=>
  unfold get;by_cases h:k=e.1
  ·rw[if_pos h];simp[keys,h]
  ·rw[if_neg h,a];simp[keys,h]
theorem Pf{L L':List (Int×Int)}(q:L.Perm L')(A:(keys L).Nodup)(k:Int):get k L=get k L':=by
 have a:(keys L').Nodup:=(q.map _).nodup_iff.1 A;cases h:get k L with
 |some v=>exact((get_mem a).2 (q.mem_iff.1 ((get_mem A).1 h))).symm
 |none=>
  cases b:get k L' with
  |none=>rfl
  |some v=>
   have:=(get_mem A).2 (q.mem_iff.2 ((get_mem a).1 b));rw[h]at this;cases this
theorem wO{L L':List (Int×Int)}(q:L.Perm L')(A:(keys L).Nodup)(k:Int):score L k=score L' k:=by
 unfold score;rw[Pf q A]
theorem sH{L:List (Int×Int)}(q:(keys L).Nodup)(k:Int):drop k L=L.filter (λe=>decide (e.1≠k)):=by
 induction L with
 |nil=>rfl
 |cons e es c=>
  have b:e.1∉keys es/\(keys es).Nodup:=by simpa[keys]using q
  unfold drop;by_cases h:k=e.1
  ·rw[if_pos h,List.filter_cons_of_neg (by simp[h])];refine(List.filter_eq_self.2 λx a=>?_).symm;simp only[ne_eq,decide_eq_true_eq];intro d;exact b.1 (ahK.2 ⟨x,a,by rw[d,h]⟩)
  ·rw[if_neg h,List.filter_cons_of_pos (by simp;exact λa=>h a.symm),c b.2]
theorem j_{L:List (Int×Int)}(q:(keys L).Nodup)(k v:Int):(put k v L).Perm ((k,v)::drop k L):=by
 induction L with
 |nil=>exact List.Perm.refl _
 |cons e es a=>
  have b:e.1∉keys es/\(keys es).Nodup:=by simpa[keys]using q
  unfold put drop;by_cases h:k=e.1
  ·rw[if_pos h,if_pos h,h]
  ·rw[if_neg h,if_neg h];exact((a b.2).cons e).trans (List.Perm.swap ..)
theorem KV{L L':List (Int×Int)}(q:L.Perm L')(A:(keys L).Nodup)(k:Int):(drop k L).Perm (drop k L'):=by
 have a:(keys L').Nodup:=(q.map _).nodup_iff.1 A;rw[sH A,sH a];exact q.filter _
theorem Pg{L L':List (Int×Int)}(A:L.Perm L')(q:(keys L).Nodup)(k v:Int):(put k v L).Perm (put k v L'):=by
 have a:(keys L').Nodup:=(A.map _).nodup_iff.1 q;exact(j_ q k v).trans (((KV A q k).cons _).trans (j_ a k v).symm)
theorem kf{L:List (Int×Int)}(q:(keys L).Nodup){k:Int}{e:Int×Int}:e∈drop k L↔e∈L/\e.1≠k:=by
 rw[sH q];simp
theorem qy{L:List (Int×Int)}(q:(keys L).Nodup)(k:Int):(keys (drop k L)).Nodup:=by
 rw[sH q];exact List.Nodup.sublist (List.Sublist.map _ List.filter_sublist) q
theorem DQ{L:List (Int×Int)}(q:(keys L).Nodup)(k:Int):k∉keys (drop k L):=by
 intro h;obtain⟨e,a,b⟩:=ahK.1 h;exact((kf q).1 a).2 b
theorem Ir{L:List (Int×Int)}(q:(keys L).Nodup)(k v:Int):(keys (put k v L)).Nodup:=by
 have a:=(j_ q k v).map (·.1);refine a.nodup_iff.2 ?_;simp only[ah7,aiG];exact⟨DQ q k,qy q k⟩
theorem aad{L:List (Int×Int)}(q:(keys L).Nodup)(k v x:Int):get x (put k v L)=if x=k then some v else get x L:=by
 rw[Pf (j_ q k v) (Ir q k v)];have e:get x ((k,v)::drop k L)=if x=k then some v else get x (drop k L):=rfl
 rw[e];by_cases h:x=k
 ·rw[if_pos h,if_pos h]
 ·rw[if_neg h,if_neg h];cases a:get x L with
  |none=>
   rw[get_none]at a⊢;intro b;obtain⟨e,c,d⟩:=ahK.1 b;exact a (ahK.2 ⟨e,((kf q).1 c).1,d⟩)
  |some w=>exact(get_mem (qy q k)).2 ((kf q).2 ⟨(get_mem q).1 a,h⟩)
theorem Yg{L:List (Int×Int)}(q:(keys L).Nodup)(k x:Int):get x (drop k L)=if x=k then none else get x L:=by
 by_cases h:x=k
 ·rw[if_pos h,get_none,h];exact DQ q k
 ·rw[if_neg h];cases a:get x L with
  |none=>
   rw[get_none]at a⊢;intro b;obtain⟨e,c,d⟩:=ahK.1 b;exact a (ahK.2 ⟨e,((kf q).1 c).1,d⟩)
  |some w=>exact(get_mem (qy q k)).2 ((kf q).2 ⟨(get_mem q).1 a,h⟩)
theorem drop_length{L:List (Int×Int)}{k:Int}(h:k∈keys L):(drop k L).length+1=L.length:=by
 induction L with
 |nil=>simp[keys]at h
 |cons e es b=>
  unfold drop;by_cases a:k=e.1
  ·rw[if_pos a];rfl
  ·rw[if_neg a];simp only[aio]
   have:k∈keys es:=by
    simp only[keys,ah7,ah4]at h;rcases h with h|h
    ·exact absurd h a
    ·exact h
   have:=b this;omega
theorem Cr{L:List (Int×Int)}{k v:Int}:(put k v L).length=if k∈keys L then L.length else L.length+1:=by
 induction L with
 |nil=>simp[put,keys]
 |cons e es d=>
  unfold put;by_cases a:k=e.1
  ·rw[if_pos a,if_pos (by simp[keys,a])];rfl
  ·rw[if_neg a];simp only[aio,d];by_cases b:k∈keys es
   ·rw[if_pos b,if_pos (by simp only[keys,ah7,ah4];exact .inr b)]
   ·rw[if_neg b,if_neg (by simp only[keys,ah7,ah4];rintro(c|c);exact a c;exact b c)]
def p_(L:List (Int×Int))(w:Int):Prop:=w∈keys L/\∀x∈keys L,score L w<score L x\/score L w=score L x/\w<=x
theorem p_.unique{L:List (Int×Int)}{w q:Int}(h:p_ L w)(A:p_ L q):w=q:=by
 have a:=h.2 q A.1;have b:=A.2 w h.1;omega
theorem p_.perm{L L':List (Int×Int)}{w:Int}(q:L.Perm L')(A:(keys L).Nodup)(h:p_ L w):p_ L' w:=by
 refine⟨(q.map (·.1)).mem_iff.1 h.1,λx a=>?_⟩;rw[<-wO q A,<-wO q A];exact h.2 x ((q.map (·.1)).mem_iff.2 a)
def leI(x y:Int):Bool:=decide (x<=y)
def Jk(L:List (Int×Int)):List Int:=(keys L).mergeSort leI
theorem KW(a b c:Int)(h:leI a b=true)(k:leI b c=true):leI a c=true:=by
 unfold leI at*;simp only[decide_eq_true_eq]at*;omega
theorem KX(a b:Int):(leI a b||leI b a)=true:=by
 unfold leI;simp only[Bool.or_eq_true,decide_eq_true_eq];omega
theorem Aa(L:List (Int×Int)):(Jk L).Perm (keys L):=List.mergeSort_perm _ _
theorem wP(L:List (Int×Int)):(Jk L).Pairwise (λx y=>x<=y):=by
 have:=List.pairwise_mergeSort KW KX (keys L);exact this.imp λh=>by simpa[leI]using h
theorem nt:∀{a b:List Int},a.Perm b->a.Pairwise (λx y=>x<=y)->b.Pairwise (λx y=>x<=y)->a=b:=by
 intro a b c d e;exact c.eq_of_pairwise (λx y _ _ f g=>ω) d e
theorem KY{L L':List (Int×Int)}(q:L.Perm L'):Jk L=Jk L':=
 nt ((Aa L).trans ((q.map _).trans (Aa L').symm)) (wP L) (wP L')
theorem Rs(L:List (Int×Int)):(Jk L).length=L.length:=by
 rw[(Aa L).length_eq];simp[keys]
def wQ(d:Int)(e:Int×Int):Option (Int×Int):=if 0<=e.2+d then none else some (e.1,e.2+d)
def tick(d:Int)(L:List (Int×Int)):List (Int×Int):=L.filterMap (wQ d)
theorem Is{d:Int}{L:List (Int×Int)}{e:Int×Int}:e∈tick d L↔(e.1,e.2-d)∈L/\e.2<0:=by
 unfold tick;rw[List.mem_filterMap];constructor
 ·rintro⟨x,a,h⟩;unfold wQ at h;split at h
  ·cases h
  ·cases h;refine⟨?_,ω⟩;have:x=(x.1,x.2+d-d):=by ext<;>simp
   rw[<-this];exact a
 ·rintro⟨b,c⟩;refine⟨_,b,?_⟩;unfold wQ;rw[if_neg (by simp only;omega)];congr 1;ext<;>simp
theorem U'{d:Int}{L:List (Int×Int)}(q:(keys L).Nodup):(keys (tick d L)).Nodup:=by
 induction L with
 |nil=>exact q
 |cons e es a=>
  have f:e.1∉keys es/\(keys es).Nodup:=by simpa[keys]using q
  have a:=a f.2;unfold tick at a⊢;rw[aiN];unfold wQ;split
  ·exact a
  ·rename_i b c;split at c
   ·cases c
   ·cases c;simp only[keys,ah7,aiG];refine⟨λg=>?_,a⟩;obtain⟨x,h,i⟩:=ahK.1 g;have:=(Is (d:=d) (L:=es) (e:=x)).1 h;exact f.1 (ahK.2 ⟨_,this.1,i⟩)
theorem Va{d:Int}{L L':List (Int×Int)}(q:L.Perm L'):(tick d L).Perm (tick d L'):=q.filterMap _
theorem Ab(d:Int)(L:List (Int×Int)):(tick d L).length<=L.length:=List.length_filterMap_le _ _
end Peers
end Go.Proofs.YtennbinbffdimaaGreat
namespace Go.Proofs
open Go.Shelf
def Tryz.keysA_ren:Go.Shelf.Ren:=⟨λ|7=>154|10=>216|n=>n,λ|23=>213|26=>3|3=>3|28=>225|0=>0|27=>224|33=>43|4=>4|n=>n,λ|n=>n⟩
theorem Tryz.keysA:Go.Proofs.SlLaysZI.n7 Tryz.prog Tryz.keysA_ren:={
 mixed:=κ
 f7:=⟨Tryz.f154.name,δ,Tryz.func154.trans (congrArg some κ)⟩
 f10:=⟨Tryz.f216.name,δ,Tryz.func216.trans (congrArg some κ)⟩
 t0:=Tryz.underlying0
 a0:=Tryz.isAgg0
 z0:=Tryz.sizeOf0
 v0:=Tryz.zeroValue0
 t4:=Tryz.underlying4
 a4:=Tryz.isAgg4
 z4:=Tryz.sizeOf4
 v4:=Tryz.zeroValue4
 t23:=Tryz.underlying213
 a23:=Tryz.isAgg213
 z23:=Tryz.sizeOf213
 v23:=Tryz.zeroValue213
 t26:=Tryz.underlying3
 a26:=Tryz.isAgg3
 z26:=Tryz.sizeOf3
 v26:=Tryz.zeroValue3
 t27:=Tryz.underlying224
 a27:=Tryz.isAgg224
 z27:=Tryz.sizeOf224
 v27:=Tryz.zeroValue224
 t28:=Tryz.underlying225
 a28:=Tryz.isAgg225
 z28:=Tryz.sizeOf225
 v28:=Tryz.zeroValue225
 t33:=Tryz.underlying43
 a33:=Tryz.isAgg43
 z33:=Tryz.sizeOf43
 v33:=Tryz.zeroValue43}
def Tryz.sortedA_ren:Go.Shelf.Ren:=⟨λ|6=>153|8=>214|9=>215|11=>271|13=>273|12=>272|23=>310|24=>311|14=>301|15=>302|16=>303|17=>304|18=>305|19=>306|20=>307|21=>308|22=>309|25=>329|26=>330|27=>331|28=>332|29=>333|30=>334|31=>341|n=>n,λ|26=>3|28=>225|24=>92|0=>0|3=>3|37=>88|48=>288|50=>53|4=>4|40=>372|39=>371|45=>169|5=>5|9=>9|51=>397|55=>401|57=>408|58=>409|33=>43|n=>n,λ|n=>n⟩
theorem Tryz.sortedA:Go.Proofs.SlLaysZI.n6 Tryz.prog Tryz.sortedA_ren:={
 mixed:=κ
 f6:=⟨Tryz.f153.name,δ,Tryz.func153.trans (congrArg some κ)⟩
 f8:=⟨Tryz.f214.name,δ,Tryz.func214.trans (congrArg some κ)⟩
 f11:=⟨Tryz.f271.name,δ,Tryz.func271.trans (congrArg some κ)⟩
 t0:=Tryz.underlying0
 a0:=Tryz.isAgg0
 z0:=Tryz.sizeOf0
 v0:=Tryz.zeroValue0
 t24:=Tryz.underlying92
 a24:=Tryz.isAgg92
 z24:=Tryz.sizeOf92
 v24:=Tryz.zeroValue92
 t26:=Tryz.underlying3
 a26:=Tryz.isAgg3
 z26:=Tryz.sizeOf3
 v26:=Tryz.zeroValue3
 t28:=Tryz.underlying225
 a28:=Tryz.isAgg225
 z28:=Tryz.sizeOf225
 v28:=Tryz.zeroValue225
 i26:=κ}
def Tryz.sortA_ren:Go.Shelf.Ren:=⟨λ|5=>215|8=>273|7=>272|19=>310|20=>311|10=>301|11=>302|12=>303|13=>304|14=>305|15=>306|16=>307|17=>308|18=>309|30=>329|31=>330|32=>331|33=>332|34=>333|35=>334|40=>341|n=>n,λ|23=>92|25=>3|3=>3|32=>88|22=>92|0=>0|44=>288|46=>53|4=>4|36=>372|35=>371|41=>169|5=>5|9=>9|53=>397|57=>401|63=>408|64=>409|n=>n,λ|n=>n⟩
theorem Tryz.sortA:Go.Proofs.SlLaysM.n5 Tryz.prog Tryz.sortA_ren:={
 mixed:=κ
 f5:=⟨Tryz.f215.name,δ,Tryz.func215.trans (congrArg some κ)⟩
 f7:=⟨Tryz.f272.name,δ,Tryz.func272.trans (congrArg some κ)⟩
 f8:=Tryz.func273.trans (congrArg some κ)
 f10:=⟨Tryz.f301.name,δ,Tryz.func301.trans (congrArg some κ)⟩
 f11:=⟨Tryz.f302.name,δ,Tryz.func302.trans (congrArg some κ)⟩
 f12:=⟨Tryz.f303.name,δ,Tryz.func303.trans (congrArg some κ)⟩
 f13:=⟨Tryz.f304.name,δ,Tryz.func304.trans (congrArg some κ)⟩
 f14:=⟨Tryz.f305.name,δ,Tryz.func305.trans (congrArg some κ)⟩
 f15:=⟨Tryz.f306.name,δ,Tryz.func306.trans (congrArg some κ)⟩
 f16:=⟨Tryz.f307.name,δ,Tryz.func307.trans (congrArg some κ)⟩
 f17:=⟨Tryz.f308.name,δ,Tryz.func308.trans (congrArg some κ)⟩
 f18:=⟨Tryz.f309.name,δ,Tryz.func309.trans (congrArg some κ)⟩
 f19:=Tryz.func310.trans (congrArg some κ)
 f20:=Tryz.func311.trans (congrArg some κ)
 f30:=⟨Tryz.f329.name,δ,Tryz.func329.trans (congrArg some κ)⟩
 f31:=Tryz.func330.trans (congrArg some κ)
 f32:=Tryz.func331.trans (congrArg some κ)
 f33:=⟨Tryz.f332.name,δ,Tryz.func332.trans (congrArg some κ)⟩
 f34:=⟨Tryz.f333.name,δ,Tryz.func333.trans (congrArg some κ)⟩
 f35:=⟨Tryz.f334.name,δ,Tryz.func334.trans (congrArg some κ)⟩
 f40:=⟨Tryz.f341.name,δ,Tryz.func341.trans (congrArg some κ)⟩
 t0:=Tryz.underlying0
 a0:=Tryz.isAgg0
 z0:=Tryz.sizeOf0
 v0:=Tryz.zeroValue0
 t3:=Tryz.underlying3
 a3:=Tryz.isAgg3
 z3:=Tryz.sizeOf3
 v3:=Tryz.zeroValue3
 t4:=Tryz.underlying4
 a4:=Tryz.isAgg4
 z4:=Tryz.sizeOf4
 v4:=Tryz.zeroValue4
 t5:=Tryz.underlying5
 a5:=Tryz.isAgg5
 z5:=Tryz.sizeOf5
 v5:=Tryz.zeroValue5
 t9:=Tryz.underlying9
 a9:=Tryz.isAgg9
 z9:=Tryz.sizeOf9
 v9:=Tryz.zeroValue9
 t22:=Tryz.underlying92
 a22:=Tryz.isAgg92
 z22:=Tryz.sizeOf92
 v22:=Tryz.zeroValue92
 t23:=Tryz.underlying92
 a23:=Tryz.isAgg92
 z23:=Tryz.sizeOf92
 v23:=Tryz.zeroValue92
 t25:=Tryz.underlying3
 a25:=Tryz.isAgg3
 z25:=Tryz.sizeOf3
 v25:=Tryz.zeroValue3
 t32:=Tryz.underlying88
 a32:=Tryz.isAgg88
 z32:=Tryz.sizeOf88
 v32:=Tryz.zeroValue88
 t35:=Tryz.underlying371
 a35:=Tryz.isAgg371
 z35:=Tryz.sizeOf371
 v35:=Tryz.zeroValue371
 t36:=Tryz.underlying372
 a36:=Tryz.isAgg372
 z36:=Tryz.sizeOf372
 v36:=Tryz.zeroValue372
 t41:=Tryz.underlying169
 a41:=Tryz.isAgg169
 z41:=Tryz.sizeOf169
 v41:=Tryz.zeroValue169
 t44:=Tryz.underlying288
 a44:=Tryz.isAgg288
 z44:=Tryz.sizeOf288
 v44:=Tryz.zeroValue288
 t46:=Tryz.underlying53
 a46:=Tryz.isAgg53
 z46:=Tryz.sizeOf53
 v46:=Tryz.zeroValue53
 t53:=Tryz.underlying397
 a53:=Tryz.isAgg397
 z53:=Tryz.sizeOf397
 v53:=Tryz.zeroValue397
 t57:=Tryz.underlying401
 a57:=Tryz.isAgg401
 z57:=Tryz.sizeOf401
 v57:=Tryz.zeroValue401
 t63:=Tryz.underlying408
 a63:=Tryz.isAgg408
 z63:=Tryz.sizeOf408
 v63:=Tryz.zeroValue408
 t64:=Tryz.underlying409
 a64:=Tryz.isAgg409
 z64:=Tryz.sizeOf409
 v64:=Tryz.zeroValue409}
end Go.Proofs
namespace Go.Proofs.YtennbinbffdimaaGreat
open Go Go.Vc
namespace Peers
def iU(n:Int):TV:=.int .i64 n
def cN(es:List (Int×Int×Nat)):List (TV×TV×Nat):=es.map λe=>(.int .i64 e.1,.int .i64 e.2.1,e.2.2)
def abs(es:List (Int×Int×Nat)):List (Int×Int):=es.map λe=>(e.1,e.2.1)
def wR(es:List (Int×Int×Nat))(c:Nat):Prop:=(∀e∈es,e.2.2<c)/\(es.map (·.2.2)).Nodup
def Ac(h:aa)(r:Nat)(L:List (Int×Int)):Prop:=∃es c,h[r]? =some (bP (cN es) c)/\abs es=L/\wR es c
theorem Ac.ext{h q:aa}{r:Nat}{L:List (Int×Int)}(m:Ac h r L)(e:Ext h q):Ac q r L:=by
 obtain⟨es,c,a,b⟩:=m;exact⟨es,c,by rw[e.same r (aiE.1 a).1,a],b⟩
theorem Ac.only{S:Nat->Prop}{h q:aa}{r:Nat}{L:List (Int×Int)}(m:Ac h r L)(o:ag S h q)(A:¬S r):Ac q r L:=by
 obtain⟨es,c,a,b⟩:=m;exact⟨es,c,by rw[o.same r (aiE.1 a).1 A,a],b⟩
theorem Ac.lt{h:aa}{r:Nat}{L:List (Int×Int)}(m:Ac h r L):r<h.size:=by
 obtain⟨es,c,a,b⟩:=m;exact(aiE.1 a).1
theorem lZ(es:List (Int×Int×Nat)):dc ctx (.int .i64) (cN es):=by
 intro e a;obtain⟨x,_,rfl⟩:=ahK.1 a;rfl
theorem Ae(k:Int):∀es:List (Int×Int×Nat),dP (.int .i64 k) (cN es)=(get k (abs es)).map (aia .i64)
 |[]=>rfl
 |e::es=>by
  have a:=Ae k es;unfold cN abs at a⊢;simp only[ah7,dP,get,jl,decide_eq_true_eq];by_cases h:k=e.1
  ·rw[if_pos h,if_pos h];rfl
  ·rw[if_neg h,if_neg h];exact a
theorem aae(k:Int)(es:List (Int×Int×Nat)):Jm (.int .i64 k) (cN es)=(get k (abs es)).isSome:=by
 unfold Jm;rw[Ae];simp
theorem Iu(k:Int)(es:List (Int×Int×Nat)):TW (dP (.int .i64 k) (cN es)) (.int .i64 0)=.int .i64 (score (abs es) k):=by
 unfold TW score;rw[Ae];cases get k (abs es)<;>rfl
theorem aaf(k v:Int){c:Nat}{es:List (Int×Int×Nat)}(q:wR es c):
 ∃j,iA (.int .i64 k) (.int .i64 v) c (cN es)=cN j/\abs j=put k v (abs es)/\wR j (eN (.int .i64 k) c (cN es)):=by
 have key:∀es:List (Int×Int×Nat),(∃f,iA (.int .i64 k) (.int .i64 v) c (cN es)=cN f/\abs f=put k v (abs es)/\
  ((get k (abs es)=none/\f.map (·.2.2)=es.map (·.2.2)++[c])\/(get k (abs es)≠none/\f.map (·.2.2)=es.map (·.2.2)))):=by
  intro es
  induction es with
  |nil=>exact⟨[(k,v,c)],rfl,rfl,.inl ⟨rfl,rfl⟩⟩
  |cons e es p=>
   obtain⟨f,l,m,d⟩:=p;have d1:cN (e::es)=(.int .i64 e.1,.int .i64 e.2.1,e.2.2)::cN es:=rfl;have d2:abs (e::es)=(e.1,e.2.1)::abs es:=rfl;rw[d1,d2];simp only[iA,put,get,jl,decide_eq_true_eq];by_cases h:k=e.1
   ·rw[if_pos h,if_pos h,if_pos h];exact⟨(e.1,v,e.2.2)::es,rfl,rfl,.inr ⟨by simp,rfl⟩⟩
   ·rw[if_neg h,if_neg h,if_neg h,l,<-m];refine⟨e::f,rfl,rfl,?_⟩;rcases d with⟨d,g⟩|⟨d,g⟩
    ·exact .inl ⟨d,by simp[g]⟩
    ·exact .inr ⟨d,by simp[g]⟩
 obtain⟨f,l,m,d⟩:=key es;refine⟨f,l,m,?_⟩
 have r:eN (.int .i64 k) c (cN es)=match get k (abs es)with|some _=>c|none=>c+1:=by
  unfold eN;rw[Ae];cases get k (abs es)<;>rfl
 rw[r];have o:∀e∈f,e.2.2∈f.map (·.2.2):=λe i=>ahK.2 ⟨e,i,rfl⟩
 have n:∀x∈es.map (·.2.2),x<c:=λx s=>by
  obtain⟨e,i,rfl⟩:=ahK.1 s;exact q.1 e i
 rcases d with⟨d,g⟩|⟨d,g⟩
 ·rw[d];refine⟨λe i=>?_,?_⟩
  ·have:=o e i;rw[g]at this;rcases List.mem_append.1 this with h|h
   ·exact Nat.lt_succ_of_lt (n _ h)
   ·rw[aiB.1 h];exact Nat.lt_succ_self _
  ·rw[g];refine List.nodup_append.2 ⟨q.2,by simp,λa t b u=>?_⟩;rw[aiB.1 u];have:=n a t;omega
 ·cases w:get k (abs es)with
  |none=>exact absurd w d
  |some v=>
   refine⟨λe i=>?_,by rw[g];exact q.2⟩;have:=o e i;rw[g]at this;exact n _ this
theorem Ph(k:Int){c:Nat}:∀{es:List (Int×Int×Nat)},wR es c->∃a,eW (.int .i64 k) (cN es)=cN a/\abs a=drop k (abs es)/\wR a c/\a.Sublist es
 |[],q=>⟨[],rfl,rfl,q,List.Sublist.refl _⟩
 |e::es,q=>by
  have f:wR es c:=⟨λx b=>q.1 x (aiM _ b),(aiG.1 q.2).2⟩;obtain⟨g,i,j,m,l⟩:=Ph k f;have d1:cN (e::es)=(.int .i64 e.1,.int .i64 e.2.1,e.2.2)::cN es:=rfl;have d2:abs (e::es)=(e.1,e.2.1)::abs es:=rfl;rw[d1,d2];simp only[eW,drop,jl,decide_eq_true_eq];by_cases h:k=e.1
  ·rw[if_pos h,if_pos h];exact⟨es,rfl,rfl,f,List.sublist_cons_self _ _⟩
  ·rw[if_neg h,if_neg h,i,<-j];have d:=l.cons_cons e;refine⟨e::g,rfl,rfl,⟨λx b=>q.1 x (d.mem b),q.2.sublist (d.map _)⟩,d⟩
theorem abR(m:Nat):AnyZI.SortsIn Tryz.prog Tryz.sortedA_ren Fence.wide m:=
 ⟨λa off cap b W c d e=>callsIn_wide.2 (AnyM.slices_Sort_int Tryz.sortA a off cap b W c d e),
  λp cap W=>callsIn_wide.2 (AnyM.slices_Sort_int_none Tryz.sortA p cap W)⟩
def aag:Value->Option (DataW Unit×List MemPlace):=λ_=>some (.nil,[])
theorem abS{q:TypeId}(A:Tryz.prog.underlying q=some (.int .i64))(x:Int×Int×Nat)(B:(aix .i64 x.1).wf=true):
 WideElems.rd Tryz.prog q aag ⟨(aia .i64 x.1).val,(aia .i64 x.2.1).val,x.2.2⟩=some (.int .i64 x.1,.nil):=by
 unfold WideElems.rd;have:=Maps.keyOf_int_mk (P:=Tryz.prog) A B;simp only[aiA];rw[this];rfl
theorem owns{w:World}{r c:Nat}{es:List (Int×Int×Nat)}(q:w.heap[r]? =some (bP (cN es) c))(A:wR es c)(B:(keys (abs es)).Nodup)(E:∀k∈keys (abs es),(aix .i64 k).wf=true)(G:es.length<=maxLen):
 ∃D:DataW Unit,w.ownsMap Tryz.prog 3 aag r es.length D/\Maps.size D=es.length/\(Go.intKeys D).Perm (keys (abs es)):=by
 have g:bP (cN es) c=.map (es.map λx=>(⟨(aia .i64 x.1).val,(aia .i64 x.2.1).val,x.2.2⟩:MapEntry)).toArray c:=by
  unfold bP cN;rw[ah3];rfl
 rw[g]at q;have h:Tryz.prog.underlying 3=some (.int .i64):=Tryz.underlying3
 have f:∀x∈es,WideElems.rd Tryz.prog 3 aag ⟨(aia .i64 x.1).val,(aia .i64 x.2.1).val,x.2.2⟩=some (.int .i64 x.1,.nil):=λx d=>
  abS h x (E _ (ahK.2 ⟨_,ahK.2 ⟨x,d,rfl⟩,rfl⟩))
 refine⟨_,⟨_,c,q,⟨by simpa using G,⟨?_,?_,?_⟩,?_⟩,by simp,rfl⟩,?_,?_⟩
 ·intro x d;simp only[ahK]at d;obtain⟨y,e,rfl⟩:=d;exact A.1 y e
 ·simp only[ah3];exact A.2
 ·simp only[ah3]
  have:(aiD ((λx:MapEntry=>x.key)∘λx:Int×Int×Nat=>(⟨(aia .i64 x.1).val,(aia .i64 x.2.1).val,x.2.2⟩:MapEntry)) es)=(keys (abs es)).map (λk=>aiu .i64 k):=by
   unfold keys abs;simp only[ah3];rfl
  rw[this];exact B.map _ (λa b i j=>i (by injection j))
 ·intro x d;simp only[ahK]at d;obtain⟨y,e,rfl⟩:=d;exact⟨_,f y e⟩
 ·rw[Maps.size_eq,length_sorted];simp
 ·have l:(aiD (WideElems.rg Tryz.prog 3 aag) (es.map λx=>(⟨(aia .i64 x.1).val,(aia .i64 x.2.1).val,x.2.2⟩:MapEntry)))=es.map λx=>((aix .i64 x.1,DataW.nil):Lit×DataW Unit):=by
   rw[ah3];refine List.map_congr_left λx d=>?_;simp only[Function.comp,WideElems.rg];rw[f x d];rfl
  rw[l];have m:=(WideShapes.sorted_perm (es.map λx=>((aix .i64 x.1,DataW.nil):Lit×DataW Unit))).map (λp=>Go.intOf p.1);refine m.trans ?_;rw[ah3];unfold keys abs;rw[ah3];exact List.Perm.refl _
section
variable{R:Value->aa->Prop}{h:aa}
def Up(A:Sl)(n:Nat):Prop:=∀l,A.a=some l->n<=l.b
theorem Pj{r:Nat}{L:List (Int×Int)}(m:Ac h r L)(I:(keys L).Nodup)(J:∀k∈keys L,(aix .i64 k).wf=true)(A:L.length<1000000)
 (B:∀f s,Ext h f->Own 3 1 f s ((Jk L).map iU)->Up s h.size->R (ah9 s).val f):
 bB Tryz.prog 154 (aj.vals [.map (some r)]) h λv i=>∃o:One,v=(TV.one o).val/\bB Tryz.prog 153 (aj.vals [.one o]) i R:=by
 obtain⟨es,c,n,rfl,K⟩:=m;have al:es.length=(abs es).length:=by simp[abs]
 intro w M;subst M;have N:=callsIn_wide.1 (AnyZI.keys_in Tryz.keysA Fence.wide 5 trivial rfl (some r) w);refine N.mono λe w1 O=>?_;obtain⟨P,rfl⟩:=O;refine⟨⟨rfl,rfl,rfl,λe=>by cases e⟩,_,P,⟨_,rfl⟩,rfl,?_⟩;intro W d;have Q:r<w.heap.size:=(aiE.1 n).1
 have S:W.heap[r]? =some (bP (cN es) c):=by
  rw[d];exact(ahL w.heap _).same r Q▸n
 have p:es.length<=maxLen:=by unfold maxLen;omega
 obtain⟨D,T,u,U⟩:=owns S K I J p;have am:W.heap.size=w.heap.size+1:=by rw[d];simp
 have V:=AnyZI.keys_gives (ρ:=Tryz.keysA_ren) {Tryz.keysA with} Fence.wide 2 trivial rfl ω w.heap.size r es.length D W ω (by
  rw[cell?_eq];unfold lz;have X:W.heap=w.heap.push (.cells #[.map (some r)] (Tryz.keysA_ren.t 23)):=d;rw[X];simp) T
 have Y:=AnyZI.sorted_in Tryz.sortedA Fence.wide 5 trivial trivial trivial trivial rfl ω (abR _) (enters_of Tryz.func215 κ rfl) 216 #[.pointer (some ⟨w.heap.size,0,none⟩)] trivial (enters_of Tryz.func216 κ rfl) _ _ (by rw[u];exact p) (by rw[u];omega) W V;refine(callsIn_wide.1 Y).mono λe j Z=>?_;obtain⟨v,a,ab,hS,z,ao,b⟩:=Z
 have C:a.mergeSort (λx y=>decide (x<=y))=Jk (abs es):=by
  refine nt ?_ ?_ (wP _)
  ·exact(List.mergeSort_perm _ _).trans ((hS.trans U).trans (Aa _).symm)
  ·have:=List.pairwise_mergeSort KW KX a;exact this.imp λh=>by simpa[leI]using h
 have E:Ext w.heap W.heap:=by rw[d];exact ahL _ _
 have F:Ext W.heap j.heap:=⟨b.size,b.block⟩;have ac:a.length=(Jk (abs es)).length:=by rw[<-C,(List.mergeSort_perm _ _).length_eq]
 refine⟨⟨b.os,b.tape,b.output,λe=>by cases e⟩,v,ab,?_⟩;rw[C]at z
 have ad:∀l:List Int,ahI (l.map iU)=l.map (λq=>aiu .i64 q):=λl=>by
  induction l with
  |nil=>rfl
  |cons x xs ih=>simp only[ah7,ahI,ih];rfl
 rcases z.2 with⟨rfl,h0⟩|⟨g,cap,G,rfl,hg,ae,i,h2,h3,H⟩
 ·have:Jk (abs es)=[]:=List.eq_nil_of_length_eq_zero ω;have:=B j.heap ahS (E.trans F) (by rw[this];exact aik _ _ _) (λl A=>by cases A);exact this
 ·refine B j.heap ⟨some ⟨g,0⟩,a.length,cap⟩ (E.trans F) ⟨?_,by rw[ahJ];exact ac.symm,i,.inr ⟨g,G.toList.drop a.length,rfl,?_,?_⟩⟩ ?_
  ·intro t ht;obtain⟨x,_,rfl⟩:=ahK.1 ht;rfl
  ·rw[ae,ad];unfold row;rw[aiQ]at H;have:(aiD (λq=>aiu .i64 q) (Jk (abs es)))=G.toList.take a.length:=H.symm;rw[this,List.take_append_drop];rfl
  ·simp only[aiP,Array.length_toList,h3,aiQ]
  ·intro l A;cases A;simp only;omega
end
end Peers
namespace Peers
structure Good(L:List (Int×Int)):Prop where
 one:(keys L).Nodup
 fit:∀k∈keys L,(aix .i64 k).wf=true
 low:∀e∈L,-1048576<=e.2/\e.2<0
def Valid(most bD decay:Int):Prop:=1<=most/\most<=16/\1<=bD/\bD<=1048576/\1<=decay/\decay<=1048576
structure Pe(h:aa)(b r:Nat)(L:List (Int×Int))(most bD decay gone:Int):Prop where
 var:Var 215 h b (.agg [.map (some r),.i most,.i bD,.i decay,.i gone])
 map:Ac h r L
 good:Good L
 len:(L.length:Int)<=most
 cfg:Valid most bD decay
section
variable{R:Rq}{h h':aa}{b r:Nat}{L:List (Int×Int)}{most bD decay gone:Int}
theorem Pe.ext(p:Pe h b r L most bD decay gone)(e:Ext h h'):Pe h' b r L most bD decay gone:=⟨p.var.ext e,p.map.ext e,p.good,p.len,p.cfg⟩
theorem Pe.only{S:Nat->Prop}(p:Pe h b r L most bD decay gone)(o:ag S h h')(q:¬S b)(A:¬S r):Pe h' b r L most bD decay gone:=⟨p.var.only o q,p.map.only o A,p.good,p.len,p.cfg⟩
theorem Pe.ne(p:Pe h b r L most bD decay gone):b≠r:=by
 rintro rfl;obtain⟨es,c,a,_⟩:=p.map;have:=p.var;unfold Var at this;rw[a]at this;cases this
theorem AX(g:Good L)(k:Int):-1048576<=score L k/\score L k<=0:=by
 unfold score;cases a:get k L with
 |none=>simp
 |some v=>
  have:=g.low _ ((get_mem g.one).1 a);simp only[Option.getD_some];simp only at this;omega
theorem gB{n top:Int}(q:R (ahT (decide (1<=n/\n<=top))).val h):Cl 146 [.i n,.i top] h R:=by
 apply DR;delta bO mN;refine ID (λa=>?_) λa=>?_
 ·have:decide (1<=n/\n<=top)=decide (n<=top):=by rw[decide_eq_decide];simp[a]
  rw[this]at q;exact q
 ·have:decide (1<=n/\n<=top)=false:=by rw[decide_eq_false_iff_not];exact λb=>a b.1
  rw[this]at q;exact q
theorem DP(A:Valid most bD decay->∀h',Ext h h'->Pe h' (h.size+1) h.size [] most bD decay 0->R (ahN (some ⟨h.size+1,0⟩)).val h')(q:¬Valid most bD decay->R (ahN none).val h):
 Cl 78 [.i most,.i bD,.i decay] h R:=by
 apply Gh;delta xK jf rG aT bh;refine gB ⟨_,rfl,?_⟩;refine ahP (λc=>q (λa=>?_)) (λc=>?_)
 ·simp only[Bool.not_eq_true',decide_eq_false_iff_not]at c;exact c ⟨a.1,a.2.1⟩
 refine gB ⟨_,rfl,?_⟩;refine ahP (λb=>q (λa=>?_)) (λb=>?_)
 ·simp only[Bool.not_eq_true',decide_eq_false_iff_not]at b;exact b ⟨a.2.2.1,a.2.2.2.1⟩
 refine gB ⟨_,rfl,?_⟩;refine ahP (λd=>q (λa=>?_)) (λd=>?_)
 ·simp only[Bool.not_eq_true',decide_eq_false_iff_not]at d;exact d a.2.2.2.2
 simp only[Bool.not_eq_false',decide_eq_true_eq]at c b d;have a:Valid most bD decay:=⟨c.1,c.2,b.1,b.2,d.1,d.2⟩;have l:=ahL h (bP [] 0);have m:(h.push (bP [] 0)).size=h.size+1:=by simp
 unfold cu;obtain⟨b,n,g,j,r⟩:=B7 (h.push (bP [] 0)) (.agg [.map (some h.size),.i most,.i bD,.i decay,.i 0]) 215;rw[n];rw[m]at g⊢;have o:Ac (h.push (bP [] 0)) h.size []:=⟨[],0,by simp[cN],rfl,(λe f=>by cases f),aiT⟩;exact A a b (l.trans j) ⟨g,o.ext j,⟨aiT,(λk p=>by cases p),(λe f=>by cases f)⟩,by simp;omega,a⟩
theorem Iv(p:Pe h b r L most bD decay gone){k:Int}(q:R (TV.i (score L k)).val h):Cl 87 [.ptr (PT b),.i k] h R:=by
 apply uK;delta aD QL dw dO aT bh;obtain⟨es,c,a,rfl,_⟩:=p.map;refine ahO ⟨some r,p.var.ah rfl,cN es,c,a,lZ es,_,Iu k es,q⟩
theorem Pk(p:Pe h b r L most bD decay gone){k:Int}(q:R (ahT (decide (score L k<=-bD))).val h):Cl 147 [.ptr (PT b),.i k] h R:=by
 apply tq;delta bO c7 aT mN;have a:=p.cfg;unfold Valid at a;refine ah1 ⟨bD,p.var.ah rfl,Iv p ⟨_,rfl,ahQ _,?_⟩⟩;rw[wrap_i64 ω ω];have:(0:Int)-bD=-bD:=ω;rw[this];exact q
theorem Ru(p:Pe h b r L most bD decay gone)(q:∀h' s,Ext h h'->Own 3 1 h' s ((Jk L).map iU)->Up s h.size->R (ah9 s).val h'):
 Cl 85 [.ptr (PT b)] h R:=by
 apply uL;delta pW;have c:=p.len;have a:=p.cfg;unfold Valid at a;refine ahO ⟨some r,p.var.ah rfl,?_⟩;refine(Pj p.map p.good.one p.good.fit ω (R:=λv h=>∃s:Sl,v=(ah9 s).val/\R (ah9 s).val h) λh' s x o u=>⟨s,rfl,q h' s x o u⟩)
theorem ints_at{h:aa}{A:Sl}{l:List Int}(e:ak 1 h A (l.map iU)){i:Int}(q:0<=i)(E:i<l.length){K:Go.Vc.Loc->Prop}
 (B:∀p x,l[i.toNat]? =some x->ah h p.b (p.o+i.toNat*1) (.i x)->K p):0<=i/\i<A.len/\Nn A.a K:=by
 have b:=e.len;rw[ahJ]at b;refine e.read q ω λp t _ a c=>?_;rw[ah6,aiW]at a;obtain⟨x,d,rfl⟩:=a;exact B p x d c
theorem Vb{l:List Int}(q:l.Pairwise (λx y=>x<=y)){i j:Nat}{x y:Int}(A:i<=j)(B:l[i]? =some x)(E:l[j]? =some y):x<=y:=by
 obtain⟨a,rfl⟩:=ait.1 B;obtain⟨b,rfl⟩:=ait.1 E;rcases Nat.lt_or_eq_of_le A with h|h
 ·exact List.pairwise_iff_getElem.1 q i j a b h
 ·subst h;exact ahR _
theorem Rv(p:Pe h b r L most bD decay gone)(G:L≠[])(H:∀h' w,Ext h h'->p_ L w->R (TV.i w).val h'):Cl 151 [.ptr (PT b)] h R:=by
 apply uM;delta gT jN QL Be iP bN aT bh;refine Ru p λI s v o _=>⟨s,rfl,?_⟩;have X:=Rs L;have Y:0<L.length:=List.length_pos_iff.2 G;have J:=o.len;rw[ahJ]at J;have Z:=p.len;have K:=p.cfg;unfold Valid at K;have M:=wP L;have A:∀x,x∈Jk L↔x∈keys L:=λx=>(Aa L).mem_iff;refine ints_at o.elems (i:=0) ω ω λl n N O=>⟨n,O,?_⟩
 refine⟨λd B=>0<=d.2/\d.2<=(Jk L).length/\Ext I B/\(∃q:Nat,(Jk L)[q]? =some d.1/\(q:Int)<max d.2 1)/\(∀(j:Nat)(x:Int),(j:Int)<d.2->(Jk L)[j]? =some x->score L d.1<score L x\/score L d.1=score L x/\d.1<=x),
  λd _=>(((Jk L).length:Int)-d.2).toNat,⟨by simp,by simp,ahQ _,⟨0,N,by simp;omega⟩,λj x g=>by simp at g;omega⟩,?_⟩
 rintro⟨a,i⟩ B ⟨C,P,x,⟨q,k,Q⟩,m⟩;simp only at C P k Q m⊢;have u:=(p.ext v).ext x;refine ID (λS=>?_) λS=>?_
 ·refine ints_at (o.ext x).elems C ω λl' y t T=>⟨y,T,?_⟩;obtain⟨es,c,D,U,_⟩:=u.map;have E:=Iu y es;have F:=Iu a es;rw[U]at E F;refine⟨some r,u.var.ah rfl,cN es,c,D,lZ es,_,E,some r,u.var.ah rfl,cN es,c,D,lZ es,_,F,?_⟩;rw[wrap_i64 (n:=i+1) ω ω];have V:q<=i.toNat:=ω;have ab:=Vb M V k t;refine ID (λW=>⟨⟨ω,ω,x,⟨i.toNat,t,ω⟩,λj z g f=>?_⟩,ω⟩) λW=>⟨⟨ω,ω,x,⟨q,k,ω⟩,λj z g f=>?_⟩,ω⟩
  ·by_cases e:(j:Int)=i
   ·have:j=i.toNat:=ω;rw[this,t]at f;cases f;exact .inr ⟨rfl,ahR _⟩
   ·have:=m j z ω f;left;omega
  ·by_cases e:(j:Int)=i
   ·have:j=i.toNat:=ω;rw[this,t]at f;cases f;omega
   ·exact m j z ω f
 ·refine H _ a (v.trans x) ⟨(A a).1 (aim k),λz f=>?_⟩;obtain⟨j,g,rfl⟩:=List.getElem_of_mem ((A z).2 f);exact m j _ ω (ahV g)
def lower(s pts:Int):Int:=mx (s-mn pts 1048576) (-1048576)
theorem Af{s pts:Int}(q:-1048576<=s/\s<=0)(A:0<pts):-1048576<=lower s pts/\lower s pts<0:=by
 unfold lower mx mn;split<;>split<;>omega
def m_(most:Int)(L:List (Int×Int))(k pts:Int)(L':List (Int×Int))(g:Int):Prop:=
 (pts<=0/\L'=L/\g=0)\/
 (0<pts/\(k∈keys L\/(L.length:Int)<most)/\g=0/\L'=put k (lower (score L k) pts) L)\/
 (0<pts/\k∉keys L/\most<=L.length/\g=1/\∃w,p_ L w/\L'=put k (lower 0 pts) (drop w L))
theorem Good.put(g:Good L){k v:Int}(q:(aix .i64 k).wf=true)(A:-1048576<=v/\v<0):Good (Peers.put k v L):=by
 have c:=j_ g.one k v;refine⟨Ir g.one k v,λx d=>?_,λe a=>?_⟩
 ·have:=(c.map (·.1)).mem_iff.1 d;simp only[ah7,ah4]at this;rcases this with rfl|b
  ·exact q
  ·obtain⟨e,a,rfl⟩:=ahK.1 b;exact g.fit _ (ahK.2 ⟨e,((kf g.one).1 a).1,rfl⟩)
 ·have:=c.mem_iff.1 a;rcases ah4.1 this with rfl|b
  ·exact A
  ·exact g.low _ ((kf g.one).1 b).1
theorem Good.drop(g:Good L)(k:Int):Good (Peers.drop k L):=
 ⟨qy g.one k,λx b=>by
  obtain⟨e,a,rfl⟩:=ahK.1 b;exact g.fit _ (ahK.2 ⟨e,((kf g.one).1 a).1,rfl⟩),λe a=>g.low _ ((kf g.one).1 a).1⟩
theorem q9{h:aa}{r:Nat}{o:Obj}:ag (·=r) h (h.setIfInBounds r o):=
 ⟨by simp,λi c a=>by rw[Array.getElem?_setIfInBounds_ne (λb=>a b.symm)]⟩
theorem wU{h:aa}{r:Nat}{o:Obj}(q:r<h.size):(h.setIfInBounds r o)[r]? =some o:=by simp[q]
theorem Ac.put{es:List (Int×Int×Nat)}{c:Nat}{k v:Int}(q:r<h.size)(A:wR es c):Ac (h.setIfInBounds r (bP (iA (.i k) (.i v) c (cN es)) (eN (.i k) c (cN es)))) r (Peers.put k v (abs es)):=by
 obtain⟨a,b,d,e⟩:=aaf k v A;rw[b];exact⟨a,_,wU q,d,e⟩
theorem Ac.drop{es:List (Int×Int×Nat)}{c:Nat}{k:Int}(q:r<h.size)(A:wR es c):Ac (h.setIfInBounds r (bP (eW (.i k) (cN es)) c)) r (Peers.drop k (abs es)):=by
 obtain⟨a,b,d,e,_⟩:=Ph k A;rw[b];exact⟨a,_,wU q,d,e⟩
theorem abT{T:TypeId}{h:aa}{b i:Nat}{ts:List TV}(v:Var T h b (.agg ts))(q:∀t∈ts,t.size=1)(B:i<ts.length){t:TV}(A:t.size=1)(E:∀ts:List TV,(∀t∈ts,t.size=1)->i<ts.length->(ahI ts).take i++t.cells++(ahI ts).drop (i+1)=ahI (ts.set i t)):
 gi h b i 1/\∃q,t.put h b i=q/\Var T q b (.agg (ts.set i t))/\ag (·=b) h q/\q.size=h.size:=by
 have c:(ahI ts).length=ts.length:=by rw[aj.bz (sz:=1) ts q,aiQ]
 have a:i+t.size<=(aiH ts).cells.length:=by simp only[TV.cells,c,A];omega
 refine⟨gO v (by rw[<-A];exact a),_,rfl,?_,gm v a,gn v a⟩;have:=je (t:=t) v a;unfold Var;rw[this];simp only[TV.cells,A];rw[E ts q B]
theorem Ve(p:Pe h b r L most bD decay gone){k pts:Int}(hk:(aix .i64 k).wf=true)(hg:0<=gone/\gone<1000000)
 (O:∀h' L' g,m_ most L k pts L' g->Pe h' b r L' most bD decay (gone+g)->ag (λi=>i=b\/i=r) h h'->R (ahM []).val h'):Cl 81 [.ptr (PT b),.i k,.i pts] h R:=by
 apply wS;delta Ks sr xJ QL C' eX c5 aT bh;have u:=p.cfg;unfold Valid at u;have a0:=p.len;intro J hJ;refine ahO ?_;refine ID (λP=>O h L 0 (.inl ⟨P,rfl,rfl⟩) (by simpa using p) (aiz _ _)) λP=>hJ _ _ ?_;intro J2 ab
 have last:∀(l:aa)(s:List (Int×Int))(g:Int),Pe l b r s most bD decay (gone+g)->ag (λi=>i=b\/i=r) h l->m_ most L k pts (Peers.put k (lower (score s k) pts) s) g->
  (k∈keys s\/(s.length:Int)<most)->J2 PUnit.unit l:=by
  intro l s g j y hf z;refine ab _ _ ?_;have D:=j.map.lt;obtain⟨es,c,m,rfl,Q⟩:=j.map;have ac:=AX j.good k;refine⟨some r,j.var.ah rfl,some r,j.var.ah rfl,cN es,c,m,lZ es,_,Iu k es,cN es,c,m,lZ es,?_⟩;have a1:0<mn pts 1048576/\mn pts 1048576<=1048576:=by unfold mn;split<;>omega
  rw[wrap_i64 (n:=score (abs es) k-mn pts 1048576) ω ω];have ad:=Af (pts:=pts) ac ω;have x:=q9 (h:=l) (r:=r) (o:=bP (iA (.i k) (.i (lower (score (abs es) k) pts)) c (cN es)) (eN (.i k) c (cN es)));refine O _ _ g hf ⟨j.var.only x j.ne,Ac.put D Q,j.good.put hk ad,?_,p.cfg⟩ (y.trans (x.mono λi q=>.inr q));have ae:=j.len;rw[Cr];split
  ·exact ae
  ·rename_i hn;rcases z with S|S
   ·exact absurd S hn
   ·omega
 obtain⟨es,c,m,E,Q⟩:=p.map;have y:=Iu k es;rw[E]at y;refine⟨some r,p.var.ah rfl,cN es,c,m,lZ es,_,y,?_⟩;have T:=aae k es;rw[E]at T;rw[T]
 have U:(get k L).isSome=true↔k∈keys L:=by
  cases V:get k L with
  |none=>simp[get_none.1 V]
  |some v=>simp only[Option.isSome_some,true_iff];exact ahK.2 ⟨_,(get_mem p.good.one).1 V,rfl⟩
 intro J3 W
 have X:(k∈keys L\/(L.length:Int)<most)->J3 false h:=λz=>
  W _ _ (ahO (last h L 0 (by simpa using p) (aiz _ _) (.inr (.inl ⟨ω,z,rfl,rfl⟩)) z))
 refine ahP (λA=>?_) (λA=>X (.inl (U.1 (by simpa using A))));have Y:k∉keys L:=λF=>by rw[U.2 F]at A;cases A
 have al:(cN es).length=L.length:=by rw[<-E];simp[cN,abs]
 refine⟨some r,p.var.ah rfl,cN es,c,m,most,p.var.ah rfl,?_⟩;rw[al];by_cases B:most<=(L.length:Int)
 ·dsimp only;rw[decide_eq_true B];refine W _ _ (ah1 ⟨some r,p.var.ah rfl,?_⟩);refine Rv p (by rintro rfl;simp at B;omega) λl w G Z=>⟨w,rfl,G,?_⟩;have j:=p.ext G;have D:=j.map.lt;obtain⟨C,H,am,ao,ap⟩:=j.map;refine⟨cN C,H,am,lZ C,?_⟩;have x:=q9 (h:=l) (r:=r) (o:=bP (eW (.i w) (cN C)) H);have m2:=Ac.drop (k:=w) D ap;have v2:=j.var.only x j.ne;refine⟨gone,v2.ah rfl,?_⟩
  obtain⟨w3,I,e3,v3,o3,s3⟩:=abT (i:=4) (t:=.i (gone+1)) v2 (by simp[ail]) (by simp) rfl (λts l q=>by
   match ts,l,q with
   |[a,b,c,d,e],l,_=>
    have g:∀t∈[a,b,c,d,e],t.cells.length=1:=λt ht=>by rw[TV.ai];exact l t ht
    obtain⟨a',K⟩:=aip.1 (g a (by simp));obtain⟨b',m⟩:=aip.1 (g b (by simp));obtain⟨c',u⟩:=aip.1 (g c (by simp));obtain⟨d',M⟩:=aip.1 (g d (by simp));obtain⟨e',N⟩:=aip.1 (g e (by simp));simp[ahI,K,m,u,M,N]
   |a::b::c::d::e::f::ar,l,_=>
    have g:∀t∈a::b::c::d::e::f::ar,t.cells.length=1:=λt ht=>by rw[TV.ai];exact l t ht
    obtain⟨a',K⟩:=aip.1 (g a (by simp));obtain⟨b',m⟩:=aip.1 (g b (by simp));obtain⟨c',u⟩:=aip.1 (g c (by simp));obtain⟨d',M⟩:=aip.1 (g d (by simp));obtain⟨e',N⟩:=aip.1 (g e (by simp));simp[ahI,K,m,u,M,N])
  refine⟨w3,?_⟩;rw[wrap_i64 (n:=gone+1) ω ω];have aw:(TV.i (gone+1)).put (l.setIfInBounds r (bP (eW (.i w) (cN C)) H)) b (0+4)=I:=e3;rw[aw];have a2:=drop_length (Z.1)
  have aE:score (Peers.drop w L) k=0:=by
   unfold score;rw[Yg p.good.one];split
   ·rfl
   ·rw[get_none.2 Y];rfl
  have p3:Pe I b r (Peers.drop w L) most bD decay (gone+1):=
   ⟨v3,by rw[<-ao];exact m2.only o3 (λF=>j.ne F.symm),p.good.drop w,ω,p.cfg⟩
  refine last I (Peers.drop w L) 1 p3 (((air G).trans (x.mono λi q=>.inr q)).trans (o3.mono λi q=>.inl q)) ?_ (.inr ω);rw[aE];exact .inr (.inr ⟨ω,Y,B,rfl,w,Z,rfl⟩)
 ·dsimp only;rw[decide_eq_false B];exact X (.inr ω)
end
end Peers
namespace Peers
theorem q_{α q:Type}{f g:α->Option q}:∀{l:List α},(∀x∈l,f x=g x)->l.filterMap f=l.filterMap g
 |[],_=>rfl
 |x::l,h=>by
  rw[aiN,aiN,h x (aiV ..),q_ (λy a=>h y (aiM _ a))]
def oA(d:Int)(e:Int×Int×Nat):Option (Int×Int×Nat):=if 0<=e.2.1+d then none else some (e.1,e.2.1+d,e.2.2)
def part(d:Int)(s:Nat->Bool)(es:List (Int×Int×Nat)):List (Int×Int×Nat):=es.filterMap λe=>if s e.2.2 then oA d e else some e
def more(s:Nat->Bool)(b:Nat):Nat->Bool:=λn=>s n||decide (n=b)
theorem AY{d:Int}{e y:Int×Int×Nat}(h:oA d e=some y):y.1=e.1/\y.2.2=e.2.2:=by
 unfold oA at h;split at h
 ·cases h
 ·cases h;exact⟨rfl,rfl⟩
theorem Iw{d:Int}{s:Nat->Bool}{es:List (Int×Int×Nat)}{y:Int×Int×Nat}(h:y∈part d s es):∃e∈es,y.1=e.1/\y.2.2=e.2.2/\(s e.2.2=false->y=e):=by
 obtain⟨e,c,a⟩:=List.mem_filterMap.1 h;refine⟨e,c,?_⟩;cases b:s e.2.2 with
 |true=>
  rw[b,if_pos rfl]at a;obtain⟨f,g⟩:=AY a;exact⟨f,g,λi=>by cases i⟩
 |false=>
  rw[b,if_neg (by simp)]at a;cases a;exact⟨rfl,rfl,λ_=>rfl⟩
theorem Vf{d:Int}{s:Nat->Bool}{b:Nat}:∀{es:List (Int×Int×Nat)},(∀e∈es,e.2.2≠b)->part d (more s b) es=part d s es:=by
 intro es h;unfold part;refine q_ λe a=>?_;have:more s b e.2.2=s e.2.2:=by unfold more;rw[decide_eq_false (h e a),Bool.or_false]
 rw[this]
theorem Vg(k:Int)(e:Int×Int×Nat)(es:List (Int×Int×Nat))(h:k≠e.1):eW (.i k) (cN (e::es))=(.i e.1,.i e.2.1,e.2.2)::eW (.i k) (cN es):=by
 have d1:cN (e::es)=(.i e.1,.i e.2.1,e.2.2)::cN es:=rfl;rw[d1];simp only[eW,jl,decide_eq_true_eq,if_neg h]
theorem Yh(k v:Int)(c:Nat)(e:Int×Int×Nat)(es:List (Int×Int×Nat))(h:k≠e.1):iA (.i k) (.i v) c (cN (e::es))=(.i e.1,.i e.2.1,e.2.2)::iA (.i k) (.i v) c (cN es):=by
 have d1:cN (e::es)=(.i e.1,.i e.2.1,e.2.2)::cN es:=rfl;rw[d1];simp only[iA,jl,decide_eq_true_eq,if_neg h]
theorem KZ{d:Int}{s:Nat->Bool}{x:Int×Int×Nat}{c:Nat}(A:s x.2.2=false):∀{es:List (Int×Int×Nat)},x∈es->(keys (abs es)).Nodup->(es.map (·.2.2)).Nodup->
 (oA d x=none->eW (.i x.1) (cN (part d s es))=cN (part d (more s x.2.2) es))/\
 (∀y,oA d x=some y->iA (.i x.1) (.i y.2.1) c (cN (part d s es))=cN (part d (more s x.2.2) es)):=by
 intro es
 induction es with
 |nil=>intro h;cases h
 |cons e es r=>
  intro t u v;have l:e.1∉keys (abs es)/\(keys (abs es)).Nodup:=by simpa[keys,abs]using u
  have g:e.2.2∉es.map (·.2.2)/\(es.map (·.2.2)).Nodup:=aiG.1 v
  have b:∀s,part d s (e::es)=(match(if s e.2.2 then oA d e else some e)with|some y=>y::part d s es|none=>part d s es):=λs=>by
   unfold part;rw[aiN];cases(if s e.2.2 then oA d e else some e)<;>rfl
  rcases ah4.1 t with rfl|j
  ·have w:part d (more s x.2.2) es=part d s es:=Vf λe B C=>g.1 (ahK.2 ⟨e,B,C⟩);have k:more s x.2.2 x.2.2=true:=by unfold more;simp
   rw[b s,b (more s x.2.2),A,k,w];simp only[Bool.false_eq_true,if_false,if_true];have d1:cN (x::part d s es)=(.i x.1,.i x.2.1,x.2.2)::cN (part d s es):=rfl;refine⟨λa=>?_,λy a=>?_⟩
   ·rw[a,d1];simp[eW,jl]
   ·obtain⟨D,E⟩:=AY a;rw[a,d1];have d2:cN (y::part d s es)=(.i y.1,.i y.2.1,y.2.2)::cN (part d s es):=rfl;simp only[iA,jl,decide_eq_true_eq,if_true];rw[d2,D,E]
  ·have m:x.1≠e.1:=by
    intro h;exact l.1 (ahK.2 ⟨(x.1,x.2.1),ahK.2 ⟨x,j,rfl⟩,h⟩)
   have F:e.2.2≠x.2.2:=by
    intro h;exact g.1 (ahK.2 ⟨x,j,h.symm⟩)
   have k:more s x.2.2 e.2.2=s e.2.2:=by unfold more;rw[decide_eq_false F,Bool.or_false]
   obtain⟨n,o⟩:=r j l.2 g.2;rw[b s,b (more s x.2.2),k];cases f:(if s e.2.2 then oA d e else some e)with
   |none=>exact⟨n,o⟩
   |some y=>
    have p:y.1=e.1:=by
     cases q:s e.2.2 with
     |true=>rw[q,if_pos rfl]at f;exact(AY f).1
     |false=>rw[q,if_neg (by simp)]at f;cases f;rfl
    simp only;refine⟨λa=>?_,λz a=>?_⟩
    ·rw[Vg _ _ _ (by rw[p];exact m),n a];rfl
    ·rw[Yh _ _ _ _ _ (by rw[p];exact m),o z a];rfl
theorem Vh(d:Int)(es:List (Int×Int×Nat)):part d (λ_=>false) es=es:=by
 unfold part;simp
theorem Yi{d:Int}{s:Nat->Bool}{es:List (Int×Int×Nat)}(h:∀e∈es,s e.2.2=true):abs (part d s es)=tick d (abs es):=by
 unfold part tick abs;rw[List.map_filterMap,List.filterMap_map];refine q_ λe a=>?_;rw[h e a,if_pos rfl];unfold oA wQ;simp only[Function.comp];split<;>rfl
theorem Gi{es:List (Int×Int×Nat)}{x:Int×Int×Nat}(q:x∈es):get x.1 (abs es)≠none:=by
 intro a;rw[get_none]at a;exact a (ahK.2 ⟨(x.1,x.2.1),ahK.2 ⟨x,q,rfl⟩,rfl⟩)
section
variable{R:Rq}{h h':aa}{b r:Nat}{L:List (Int×Int)}{most bD decay gone:Int}
def MR(q:Nat)(es:List (Int×Int×Nat))(h:aa):Nat:=match h[q]? with
 |some (.mapIter _ _ seen _)=>(es.filter λe=>!seen.contains e.2.2).length
 |_=>0
theorem Vi{es:List (Int×Int×Nat)}{seen:Array Nat}{x:Int×Int×Nat}(q:x∈es)(A:seen.contains x.2.2=false):
 (es.filter λe=>!(seen.push x.2.2).contains e.2.2).length<(es.filter λe=>!seen.contains e.2.2).length:=by
 induction es with
 |nil=>cases q
 |cons e es b=>
  have c:∀es:List (Int×Int×Nat),(es.filter λe=>!(seen.push x.2.2).contains e.2.2).length<=(es.filter λe=>!seen.contains e.2.2).length:=λes=>by
   induction es with
   |nil=>simp
   |cons e es b=>
    simp only[List.filter_cons];cases a:seen.contains e.2.2 with
    |true=>
     have:(seen.push x.2.2).contains e.2.2=true:=by
      rw[aiO]at a⊢;exact Array.mem_push_of_mem _ a
     rw[this];simpa using b
    |false=>
     simp only[Bool.not_false,if_true];split
     ·simp only[aio];omega
     ·simp only[aio];omega
  simp only[List.filter_cons];rcases ah4.1 q with rfl|q
  ·have:(seen.push x.2.2).contains x.2.2=true:=by
    rw[aiO];exact Array.mem_push_self
   rw[this,A];simp only[Bool.not_true,Bool.false_eq_true,if_false,Bool.not_false,if_true,aio];have:=c es;omega
  ·have:=b q;cases a:seen.contains e.2.2 with
   |true=>
    have d:(seen.push x.2.2).contains e.2.2=true:=by
     rw[aiO]at a⊢;exact Array.mem_push_of_mem _ a
    rw[d];simpa using this
   |false=>
    simp only[Bool.not_false,if_true,aio];split
    ·simp only[aio];omega
    ·omega
theorem contains_push(seen:Array Nat)(b n:Nat):(seen.push b).contains n=more (λn=>seen.contains n) b n:=by
 unfold more;rw[Bool.eq_iff_iff,Bool.or_eq_true,decide_eq_true_eq,aiO,aiO,Array.mem_push]
theorem Good.tick(g:Good L)(q:1<=decay):Good (Peers.tick decay L):=by
 refine⟨U' g.one,λx b=>?_,λe a=>?_⟩
 ·obtain⟨e,a,rfl⟩:=ahK.1 b;exact g.fit _ (ahK.2 ⟨_,(Is.1 a).1,rfl⟩)
 ·obtain⟨c,d⟩:=Is.1 a;have:=g.low _ c;simp only at this;omega
theorem Vj(p:Pe h b r L most bD decay gone)(hr:∀h',Pe h' b r (tick decay L) most bD decay gone->ag (λi=>i=b\/i=r) h h'->R (ahM []).val h'):
 Cl 102 [.ptr (PT b)] h R:=by
 apply wT;delta Ks sr BM SQ BG C' eX JA aT;have ac:=p.cfg;unfold Valid at ac;have ad:=p.map.lt;have a5:=p.var.lt;have ae:=p.ne;have C:=p.good;obtain⟨es,c,O,D,k⟩:=p.map;have P:(keys (abs es)).Nodup:=by rw[D];exact C.one
 refine ahO ⟨some r,p.var.ah rfl,cN es,c,O,?_⟩;have Q:=ahL h (.mapIter (some r) c #[] c);refine⟨λ_ l=>∃seen,l[h.size]? =some (.mapIter (some r) c seen c)/\l[r]? =some (bP (cN (part decay (λn=>seen.contains n) es)) c)/\ag (λi=>i=r) h l,λ_ l=>MR h.size es l,⟨#[],by simp,?_,air Q⟩,?_⟩
 ·rw[Q.same r ad,O]
  have:part decay (λn=>(#[]:Array Nat).contains n) es=es:=by
   have e:(λn=>(#[]:Array Nat).contains n)=λ_=>false:=by funext n;simp
   rw[e,Vh]
  rw[this]
 rintro _ a ⟨seen,E,F,g⟩;have S:Var 215 a b (.agg [.map (some r),.i most,.i bD,.i decay,.i gone]):=p.var.only g ae
 have T:∀y∈part decay (λn=>seen.contains n) es,y.2.2<c:=λy m=>by
  obtain⟨e,j,_,d,_⟩:=Iw m;rw[d];exact k.1 e j
 have U:∀f:List (Int×Int×Nat),(f.map (·.2.2)).Nodup->((part decay (λn=>seen.contains n) f).map (·.2.2)).Nodup:=λf=>by
  induction f with
  |nil=>intro _;exact aiT
  |cons e f V=>
   intro G;obtain⟨n1,W⟩:=aiG.1 G
   have hp:part decay (λn=>seen.contains n) (e::f)=(match(if seen.contains e.2.2 then oA decay e else some e)with|some y=>y::part decay (λn=>seen.contains n) f|none=>part decay (λn=>seen.contains n) f):=by
    unfold part;rw[aiN];cases(if seen.contains e.2.2 then oA decay e else some e)<;>rfl
   rw[hp];cases H:(if seen.contains e.2.2 then oA decay e else some e)with
   |none=>exact V W
   |some y=>
    have m:y.2.2=e.2.2:=by
     split at H
     ·exact(AY H).2
     ·cases H;rfl
    simp only[ah7,aiG];refine⟨λq=>?_,V W⟩;obtain⟨z,hz,d⟩:=ahK.1 q;obtain⟨e',al,_,u,_⟩:=Iw hz;exact n1 (ahK.2 ⟨e',al,by rw[<-u,d,m]⟩)
 refine⟨rfl,r,c,c,seen,cN (part decay (λn=>seen.contains n) es),c,E,F,λe j=>?_,ahW _,λam=>?_,λe j t=>?_⟩
 ·obtain⟨y,m,rfl⟩:=ahK.1 j;exact T y m
 ·
  have ao:∀e∈es,seen.contains e.2.2=true:=λe j=>by
   cases X:seen.contains e.2.2 with
   |true=>rfl
   |false=>
    have ap:e∈part decay (λn=>seen.contains n) es:=List.mem_filterMap.2 ⟨e,j,by show(if seen.contains e.2.2=true then oA decay e else some e)=some e;rw[X,if_neg (by simp)]⟩;have:=am _ (ahK.2 ⟨e,ap,rfl⟩);rw[<-X];exact this
  refine hr a ⟨S,⟨_,c,F,?_,⟨T,U es k.2⟩⟩,C.tick ω,?_,p.cfg⟩ (g.mono λi w=>.inr w)
  ·rw[Yi ao,D]
  ·have a:=Ab decay L;have d:=p.len;omega
 ·obtain⟨x,q,rfl⟩:=ahK.1 j;simp only at t;obtain⟨e0,A,_,ar,aw⟩:=Iw q;have aE:x=e0:=aw (by rw[<-ar];exact t);subst aE;have a0:h.size<a.size:=(aiE.1 E).1;have B:=q9 (h:=a) (r:=h.size) (o:=.mapIter (some r) c (seen.push x.2.2) c)
  have I:(a.setIfInBounds h.size (.mapIter (some r) c (seen.push x.2.2) c))[r]? =some (bP (cN (part decay (λn=>seen.contains n) es)) c):=by
   rw[B.same r (by have:=g.size;omega) ω,F]
  have Y:(a.setIfInBounds h.size (.mapIter (some r) c (seen.push x.2.2) c))[h.size]? =some (.mapIter (some r) c (seen.push x.2.2) c):=wU a0;have J:=S.only B ω
  have a1:ag (λi=>i=r) h (a.setIfInBounds h.size (.mapIter (some r) c (seen.push x.2.2) c)):=
   ⟨aiv g.size B.size,λi w G=>(B.same i (Nat.lt_of_lt_of_le w g.size) ω).trans (g.same i w G)⟩
  have a6:(a.setIfInBounds h.size (.mapIter (some r) c (seen.push x.2.2) c)).size=a.size:=by simp
  generalize a.setIfInBounds h.size (.mapIter (some r) c (seen.push x.2.2) c)=d at*;refine⟨rfl,r,c,seen,cN (part decay (λn=>seen.contains n) es),c,(.i x.1,.i x.2.1,x.2.2),Y,I,ahK.2 ⟨x,q,rfl⟩,?_,x.1,rfl,x.2.1,rfl,decay,J.ah rfl,?_⟩
  ·have:(cN (part decay (λn=>seen.contains n) es)).map (λx=>x.2.2)=(part decay (λn=>seen.contains n) es).map (·.2.2):=by
    unfold cN;rw[ah3];rfl
   rw[this];exact U es k.2
  have a2:=C.low (x.1,x.2.1) (by rw[<-D];exact ahK.2 ⟨x,A,rfl⟩);simp only at a2;dsimp only;rw[wrap_i64 (n:=x.2.1+decay) ω ω]
  have Z:(λn=>(seen.push x.2.2).contains n)=more (λn=>seen.contains n) x.2.2:=by
   funext n;exact contains_push seen x.2.2 n
  have a3:r<d.size:=by have:=g.size;omega
  have ab:∀o:Obj,o=bP (cN (part decay (λn=>(seen.push x.2.2).contains n) es)) c->
   (∃seen,(d.setIfInBounds r o)[h.size]? =some (.mapIter (some r) c seen c)/\(d.setIfInBounds r o)[r]? =some (bP (cN (part decay (λn=>seen.contains n) es)) c)/\ag (λi=>i=r) h (d.setIfInBounds r o))/\MR h.size es (d.setIfInBounds r o)<MR h.size es a:=by
   rintro o rfl;have o3:=q9 (h:=d) (r:=r) (o:=bP (cN (part decay (λn=>(seen.push x.2.2).contains n) es)) c);have K:=o3.same h.size ω ω;rw[Y]at K;refine⟨⟨seen.push x.2.2,K,wU a3,a1.trans o3⟩,?_⟩;unfold MR;rw[K,E];exact Vi A t
  refine ID (λM=>?_) λM=>?_
  ·refine⟨some r,J.ah rfl,cN (part decay (λn=>seen.contains n) es),c,I,lZ _,?_⟩;have N:oA decay x=none:=by unfold oA;rw[if_pos M]
   have:=(KZ (c:=c) (s:=λn=>seen.contains n) t A P k.2).1 N;rw[this,<-Z];exact ab _ rfl
  ·refine⟨some r,J.ah rfl,cN (part decay (λn=>seen.contains n) es),c,I,lZ _,?_⟩;have N:oA decay x=some (x.1,x.2.1+decay,x.2.2):=by unfold oA;rw[if_neg M]
   have u:=(KZ (c:=c) (s:=λn=>seen.contains n) t A P k.2).2 _ N;simp only at u
   have a4:eN (.i x.1) c (cN (part decay (λn=>seen.contains n) es))=c:=by
    unfold eN;rw[Ae];have:=Gi q;cases hg:get x.1 (abs (part decay (λn=>seen.contains n) es))with
    |none=>exact absurd hg this
    |some v=>rfl
   rw[u,a4,<-Z];exact ab _ rfl
end
end Peers
namespace Clock
def CI(T:TypeId)(h:aa)(b:Nat)(n w:Int):Prop:=h[b]? =some (row [.i n,.i w] T)
theorem CI.now{T:TypeId}{h:aa}{b:Nat}{n w:Int}(q:CI T h b n w):ah h b 0 (.i n):=vA q rfl
theorem CI.win{T:TypeId}{h:aa}{b:Nat}{n w:Int}(q:CI T h b n w):ah h b 1 (.i w):=vA q rfl
theorem CI.lt{T:TypeId}{h:aa}{b:Nat}{n w:Int}(q:CI T h b n w):b<h.size:=jo q
theorem CI.only{T:TypeId}{h q:aa}{b:Nat}{n w:Int}{S:Nat->Prop}(A:CI T h b n w)(B:ag S h q)(E:¬S b):CI T q b n w:=by
 have a:=A.lt;unfold CI at*;rw[B.same b a E,A]
theorem CI.ext{T:TypeId}{h q:aa}{b:Nat}{n w:Int}(A:CI T h b n w)(e:Ext h q):CI T q b n w:=by
 have a:=A.lt;unfold CI at*;rw[e.same b a,A]
def eD(w:Int):Int:=mn (mx w 1) 64
theorem AZ(w:Int):1<=eD w/\eD w<=64:=by unfold eD mn mx;omega
section
variable{R:Rq}{h:aa}{b:Nat}{n w:Int}
theorem DB{q:Int}(A:∀a,CI 217 a h.size 0 (eD q)->Ext h a->a.size=h.size+1->R (ahN (PT h.size)).val a):Cl 79 [.i q] h R:=by
 apply Gj;delta mD fh eE;exact A _ (tS _ _ _) (tU _ _ _) (qG _ _ _)
theorem DT(q:CI 217 h b n w)(A:R (TV.i n).val h):Cl 98 [.ptr (PT b)] h R:=by
 apply yj;delta aD dw dO aT bh;exact jm q.now A
theorem Vk(q:CI 217 h b n w)(B:n<1073741824)(E:0<=n)(A:∀a,CI 217 a b (n+1) w->ag (·=b) h a->a.size=h.size->R (ahT true).val a):Cl 101 [.ptr (PT b)] h R:=by
 apply l9;delta xJ bO c5 i_ mN;refine jm q.now ?_;rw[aie];refine⟨λc=>ω,λ_=>?_⟩;refine jm q.now ?_;refine⟨gO q (by simp),?_⟩;rw[wrap_i64 ω ω];exact A _ (je q (by simp[ail])) (gm q (by simp[ail])) (gn q (by simp[ail]))
theorem Yj(q:CI 217 h b n w)(A:1073741824<=n)(B:R (ahT false).val h):Cl 101 [.ptr (PT b)] h R:=by
 apply l9;delta xJ bO c5 i_ mN;refine jm q.now ?_;exact ID (λ_=>B) λa=>absurd A a
theorem vJ(q:CI 217 h b n w)(B:0<=n)(E:n<=1073741824)(G:1<=w)(H:w<=64)(A:R (TV.i (mx (n-w) 0)).val h):Cl 107 [.ptr (PT b)] h R:=by
 apply uN;delta aD dO bh;refine jm q.now ?_;refine jm q.win ?_;rw[wrap_i64 ω ω];exact A
def Cs(n q slot:Int):Bool:=decide (q<slot)&&decide (slot<=n)
theorem qQ(B:CI 217 h b n w){A slot:Int}(q:R (ahT (Cs n A slot)).val h):Cl 263 [.ptr (PT b),.i A,.i slot] h R:=by
 apply uO;delta bO mN;refine ah1 ?_;unfold Cs at q;refine ahP (λa=>?_) (λa=>?_)
 ·refine jm B.now ?_;rw[a]at q;exact q
 ·rw[a]at q;exact q
def xO(n w slot:Int):Bool:=decide (mx (n-w) 0<=slot)&&decide (slot<=mn (n+1) 1073741824)
theorem Vl(A:CI 217 h b n w)(B:0<=n)(E:n<=1073741824)(G:1<=w)(H:w<=64){slot:Int}(q:R (ahT (xO n w slot)).val h):Cl 262 [.ptr (PT b),.i slot] h R:=by
 apply wV;delta gM bO c5 mN;refine ah1 ?_;refine vJ A B E G H ⟨_,rfl,?_⟩;unfold xO at q;refine ahP (λa=>?_) (λa=>?_)
 ·refine jm A.now ?_;rw[a]at q;rw[wrap_i64 ω ω];exact q
 ·rw[a]at q;exact q
theorem AQ{q:Int}(A:∀a,CI 183 a h.size 0 (eD q)->Ext h a->a.size=h.size+1->R (ahN (PT h.size)).val a):Cl 95 [.i q] h R:=by
 apply yl;delta mD fh eE;refine ID (λb=>?_) λb=>aie.2 ⟨λc=>?_,λc=>?_⟩
 ·have e:eD q=1:=by unfold eD mn mx;omega
  rw[e]at A;exact A _ (tS _ _ _) (tU _ _ _) (qG _ _ _)
 ·have e:eD q=64:=by unfold eD mn mx;omega
  rw[e]at A;exact A _ (tS _ _ _) (tU _ _ _) (qG _ _ _)
 ·have e:eD q=q:=by unfold eD mn mx;omega
  rw[e]at A;exact A _ (tS _ _ _) (tU _ _ _) (qG _ _ _)
theorem Ct(q:CI 183 h b n w)(B:n<1073741824)(E:0<=n)(A:∀a,CI 183 a b (n+1) w->ag (·=b) h a->a.size=h.size->R (ahT true).val a):Cl 108 [.ptr (PT b)] h R:=by
 apply iV;delta xJ bO c5 i_ mN;refine jm q.now ?_;rw[aie];refine⟨λc=>ω,λ_=>?_⟩;refine jm q.now ?_;refine⟨gO q (by simp),?_⟩;rw[wrap_i64 ω ω];exact A _ (je q (by simp[ail])) (gm q (by simp[ail])) (gn q (by simp[ail]))
theorem Vm(q:CI 183 h b n w)(A:n=1073741824)(B:R (ahT false).val h):Cl 108 [.ptr (PT b)] h R:=by
 apply iV;delta xJ bO c5 i_ mN;refine jm q.now ?_;exact ID (λ_=>B) λa=>absurd A a
theorem FF(q:CI 183 h b n w)(B:0<=n)(E:n<=1073741824)(G:1<=w)(H:w<=64)(A:R (TV.i (mx (n-w) 0)).val h):Cl 114 [.ptr (PT b)] h R:=by
 apply oB;delta aD dO bh;refine jm q.now ?_;refine jm q.win ?_;refine ID (λa=>?_) λa=>?_
 ·have e:mx (n-w) 0=0:=by unfold mx;omega
  rw[e]at A;exact A
 ·have e:mx (n-w) 0=n-w:=by unfold mx;omega
  rw[e]at A;refine jm q.now ?_;refine jm q.win ?_;rw[wrap_i64 ω ω];exact A
theorem Pm(B:CI 183 h b n w){A slot:Int}(q:R (ahT (Cs n A slot)).val h):Cl 183 [.ptr (PT b),.i A,.i slot] h R:=by
 apply oD;delta bO mN;unfold Cs at q;refine ahP (λa=>?_) (λa=>?_)
 ·refine jm B.now ?_;rw[a]at q;exact q
 ·rw[a]at q;exact q
theorem Rw(A:CI 183 h b n w)(B:0<=n)(E:n<=1073741824)(G:1<=w)(H:w<=64){slot:Int}(I:slot<=9223372036854775807)(q:R (ahT (xO n w slot)).val h):Cl 184 [.ptr (PT b),.i slot] h R:=by
 apply oW;delta gM bO mN;refine FF A B E G H ⟨_,rfl,?_⟩;refine ID (λa=>?_) λa=>?_
 ·refine jm A.now ?_;have d:0<=slot:=by unfold mx at a;omega
  rw[wrap_i64 ω ω];refine ID (λc=>?_) λc=>?_
  ·have e:xO n w slot=decide (slot<=1073741824):=by
    unfold xO;rw[decide_eq_true a,aiq];exact decide_eq_decide.2 (by unfold mn;omega)
   rw[e]at q;exact q
  ·have e:xO n w slot=false:=by
    unfold xO;rw[decide_eq_true a,aiq];exact decide_eq_false (by unfold mn;omega)
   rw[e]at q;exact q
 ·have e:xO n w slot=false:=by
   unfold xO;rw[decide_eq_false a,aiI]
  rw[e]at q;exact q
end
end Clock
namespace Gate
open Pool (It WL dD)
open Peers (Pe)
section
variable{h h':aa}{b w tb o n:Nat}{L:List Nd}{most quota bD decay gone:Int}{own:Nat->Int}{t:Tb}{I:List It}{P:List (Int×Int)}{S Q:Nat->Prop}{T:TypeId}
def kX(h:aa)(b:Nat)(L:List Nd)(most:Int)(S:Nat->Prop):Prop:=∃r A,yK h b r A L most/\S=kH b r A
def dY(h:aa)(w tb:Nat)(L:List Nd)(own:Nat->Int)(S:Nat->Prop):Prop:=∃O X B G,WT h w tb O X B G L own/\S=gV w O X B G
def Cu(h:aa)(b:Nat)(t:Tb)(n:Nat)(S:Nat->Prop):Prop:=∃r a c d,Jj h b r a c d t n/\S=sV b r a c d
def kj(T:TypeId)(h:aa)(o:Nat)(I:List It)(most quota:Int)(S:Nat->Prop):Prop:=∃b A,WL T h o b A I most quota/\S=λi=>i=o\/dD b A i
def Tu(h:aa)(b:Nat)(P:List (Int×Int))(most bD decay gone:Int)(S:Nat->Prop):Prop:=∃r,Pe h b r P most bD decay gone/\S=λi=>i=b\/i=r
theorem kX.only(p:kX h b L most S)(f:ag Q h h')(q:∀i,S i->¬Q i):kX h' b L most S:=by
 obtain⟨r,A,p,rfl⟩:=p;exact⟨r,A,p.only f q,rfl⟩
theorem dY.only(p:dY h w tb L own S)(f:ag Q h h')(q:∀i,S i->¬Q i):dY h' w tb L own S:=by
 obtain⟨O,X,B,G,p,rfl⟩:=p;exact⟨O,X,B,G,WP.only p f q,rfl⟩
theorem Cu.only(p:Cu h b t n S)(f:ag Q h h')(q:∀i,S i->¬Q i):Cu h' b t n S:=by
 obtain⟨r,a,c,d,p,rfl⟩:=p;exact⟨r,a,c,d,p.only f q,rfl⟩
theorem kj.only(p:kj T h o I most quota S)(f:ag Q h h')(q:∀i,S i->¬Q i):kj T h' o I most quota S:=by
 obtain⟨b,A,p,rfl⟩:=p;exact⟨b,A,p.only f (q _ (.inl rfl)) λi a=>q _ (.inr a),rfl⟩
theorem Tu.only(p:Tu h b P most bD decay gone S)(f:ag Q h h')(q:∀i,S i->¬Q i):Tu h' b P most bD decay gone S:=by
 obtain⟨r,p,rfl⟩:=p;exact⟨r,p.only f (q _ (.inl rfl)) (q _ (.inr rfl)),rfl⟩
theorem kX.lt(p:kX h b L most S):∀i,S i->i<h.size:=by
 obtain⟨r,A,p,rfl⟩:=p;exact λi a=>p.lt a
theorem dY.lt(p:dY h w tb L own S):∀i,S i->i<h.size:=by
 obtain⟨O,X,B,G,p,rfl⟩:=p;exact λi a=>WP.lt p a
theorem Cu.lt(p:Cu h b t n S):∀i,S i->i<h.size:=by
 obtain⟨r,c,d,e,p,rfl⟩:=p;exact λi a=>p.lt a
theorem kj.lt(p:kj T h o I most quota S):∀i,S i->i<h.size:=by
 obtain⟨b,A,p,rfl⟩:=p;rintro i (rfl|a)
 ·exact p.var.lt
 ·exact p.pl.lt a
theorem Tu.lt(p:Tu h b P most bD decay gone S):∀i,S i->i<h.size:=by
 obtain⟨r,p,rfl⟩:=p;rintro i (rfl|rfl)
 ·exact p.var.lt
 ·exact p.map.lt
end
end Gate
namespace Gate
open Go Go.Vc Board
section
variable{R:Rq}{h:aa}{c:Cf}{L:List Vd}
theorem gB{n m:Int}(q:R (ahT (rD n m)).val h):Cl 139 [.i n,.i m] h R:=by
 apply EW;delta bO mN;unfold rD at q;refine ID (λa=>?_) λa=>?_
 ·rw[decide_eq_true a,aiq]at q;exact q
 ·rw[decide_eq_false a,aiI]at q;exact q
theorem Iy{v:Vd}(q:∀d,Ext h d->R (ahT (OM v)).val d):Cl 199 [v.tv] h R:=by
 apply uP v.cW v.key;delta jw bO c4 aJ bh mN;refine af λe v1 f g=>⟨v.cW,v1.ah rfl,?_⟩;have c:=q e f;unfold OM at c;refine ID (λa=>?_) λa=>?_
 ·rw[decide_eq_true a,aiq]at c;refine⟨v.cW,v1.ah rfl,ID (λb=>?_) λb=>?_⟩
  ·rw[decide_eq_true b,aiq]at c;exact⟨v.key,v1.ah rfl,gB ⟨_,rfl,c⟩⟩
  ·rw[decide_eq_false b,aiI]at c;exact c
 ·rw[decide_eq_false a,aiI,aiI]at c;exact c
theorem K0{v:Vd}{s:Int}:nX (v::L) s=if OM v=true/\s+v.cW<4611686018427387904 then nX L (s+v.cW)else none:=rfl
theorem Vn{v:Vd}(q:OM v=true):0<=v.cW/\v.cW<4611686018427387904:=by
 unfold OM at q;simp only[aiJ,decide_eq_true_eq]at q;exact q.1
theorem Pn{s:Sl}(e:ak 2 h s (jI L))(G:s.len<100000)(q:∀f,Ext h f->R (ahM [.i ((nX L 0).getD 0),.bool (nX L 0).isSome]).val f):Cl 138 [.slice s] h R:=by
 apply Bu;delta Fs bN bh;have el:L.length=s.len:=by have:=e.len;rwa [ahJ]at this
 refine⟨λσ o=>0<=σ.2.2.2/\σ.2.2.2<=s.len/\Ext h o/\0<=σ.2.2.1/\σ.2.2.1<4611686018427387904/\nX L 0=nX (L.drop σ.2.2.2.toNat) σ.2.2.1,λσ _=>((s.len:Int)-σ.2.2.2).toNat,⟨ahR 0,by dsimp only;omega,ahQ _,ahR 0,δ,rfl⟩,?_⟩;rintro⟨F,H,t,i⟩ p ⟨g,r,c,t0,t1,a⟩;dsimp only at g r t0 t1 a⊢;refine ID (λj=>?_) λj=>?_
 ·refine Ds (e.ext c) g ω λx u=>af λI w y J=>aH w (t:=x.tv) rfl λz v4 A K=>?_;have B:Ext h z:=c.trans (ahG y A λi j=>ω);rw[zF u,K0]at a;refine⟨x.cW,x.key,⟨v4.ah rfl,v4.ah rfl⟩,Iy (v:=x) λk d=>⟨_,rfl,?_⟩⟩;have l:=B.trans d;have stop:nX L 0=none->R (ahM [.i 0,.bool false]).val k:=λC=>by have:=q k l;rw[C]at this;exact this
  refine ahP (λb=>stop ?_) λb=>⟨x.cW,(v4.ext d).ah rfl,?_⟩
  ·rw[a,if_neg (λm=>by rw[m.1]at b;cases b)]
  ·have ok:OM x=true:=by simpa using b
   have st:=Vn ok;dsimp only;rw[wrap_i64 (n:=t+x.cW) ω ω,wrap_i64 (n:=i+1) ω ω];refine ID (λD=>stop ?_) λD=>⟨x.cW,(v4.ext d).ah rfl,?_⟩
   ·rw[a,if_neg (λm=>ω)]
   ·dsimp only;rw[wrap_i64 (n:=t+x.cW) ω ω];refine⟨⟨Ω,Ω,l,Ω,Ω,?_⟩,Ω⟩;rw[if_pos ⟨ok,ω⟩]at a;show nX L 0=nX (L.drop (i+1).toNat) (t+x.cW);rw[show(i+1).toNat=i.toNat+1 by omega];exact a
 ·have E:i.toNat=L.length:=ω;rw[E,List.drop_length]at a;have:=q p c;rw[a]at this;exact this
theorem JI{s:Sl}(e:ak 2 h s (jI L))(A:∀v∈L,v.cW<9223372036854775808)(G:s.len<100000)(q:∀g,Ext h g->R (ahM [.i ((nX L 0).getD 0),.bool (nX L 0).isSome]).val g):Cl 163 [.slice s] h R:=by
 apply ux;delta Fs c4 bN bh;have el:L.length=s.len:=by have:=e.len;rwa [ahJ]at this
 refine⟨λσ u=>0<=σ.2.2.2/\σ.2.2.2<=s.len/\Ext h u/\0<=σ.2.2.1/\σ.2.2.1<4611686018427387904/\nX L 0=nX (L.drop σ.2.2.2.toNat) σ.2.2.1,λσ _=>((s.len:Int)-σ.2.2.2).toNat,⟨ahR 0,by dsimp only;omega,ahQ _,ahR 0,δ,rfl⟩,?_⟩;rintro⟨F,H,t,i⟩ b ⟨j,w,f,t0,t1,a⟩;dsimp only at j w t0 t1 a⊢;refine ID (λk=>?_) λk=>?_
 ·refine Ds (e.ext f) j ω λx l=>?_;have I:b.size=b.size:=rfl;refine af λm y z J=>aH y (t:=x.tv) rfl λc v4 B K=>?_;have o:Ext h c:=f.trans (ahG z B λi k=>ω);rw[zF l,K0]at a;have stop:nX L 0=none->R (ahM [.i 0,.bool false]).val c:=λd=>by have:=q c o;rw[d]at this;exact this
  have no:OM x=false->R (ahM [.i 0,.bool false]).val c:=λd=>stop (by rw[a,if_neg (λr=>by rw[r.1]at d;cases d)]);refine⟨x.cW,v4.ah rfl,ID (λC=>no ?_) λC=>⟨x.key,v4.ah rfl,ID (λb=>no ?_) λb=>⟨x.key,v4.ah rfl,ID (λm=>no ?_) λm=>⟨x.cW,v4.ah rfl,?_⟩⟩⟩⟩
  ·unfold OM;rw[decide_eq_false ω];rfl
  ·unfold OM rD;rw[decide_eq_false (p:=(1:Int)<=(x.key.length:Int)) ω];simp
  ·unfold OM rD;rw[decide_eq_false (p:=(x.key.length:Int)<=32) ω];simp
  ·have M:=A x (aim l);dsimp only;rw[bH (n:=x.cW) ω ω,bH (n:=t+x.cW) ω ω,wrap_i64 (n:=i+1) ω ω];refine ID (λD=>stop ?_) λD=>⟨⟨Ω,Ω,o,Ω,Ω,?_⟩,Ω⟩
   ·rw[a,if_neg (λr=>ω)]
   ·have ok:OM x=true:=by
     unfold OM rD;simp only[aiJ,decide_eq_true_eq];omega
    rw[if_pos ⟨ok,ω⟩]at a;show nX L 0=nX (L.drop (i+1).toNat) (t+x.cW);rw[show(i+1).toNat=i.toNat+1 by omega];exact a
 ·have E:i.toNat=L.length:=ω;rw[E,List.drop_length]at a;have:=q b f;rw[a]at this;rw[wrap_i64 ω ω];exact this
theorem MS{s:Sl}{l:List Bool}{v:Bool}(e:ak 1 h s (aP l))(A:l.length<100000)(q:∀n:Int,(0<=n↔v∈l)->R (TV.i n).val h):Cl 200 [.slice s,.bool v] h R:=by
 apply gN;delta jN lR iP bN;have el:l.length=s.len:=by have:=e.len;rwa [ahJ]at this
 refine⟨λσ g=>0<=σ.2/\σ.2<=s.len/\g=h/\v∉l.take σ.2.toNat,λσ _=>((s.len:Int)-σ.2).toNat,⟨ahR 0,Ω,rfl,by simp⟩,?_⟩;rintro⟨f,i⟩ g ⟨c,k,rfl,b⟩;dsimp only at c k b⊢;refine ID (λm=>?_) λm=>?_
 ·refine jH e c ω λx j=>ahP (λa=>?_) λa=>?_
  ·have a:v=x:=by simpa using a
   subst a;exact q i ⟨λ_=>aim j,λ_=>c⟩
  ·have a:v≠x:=by simpa using a
   rw[wrap_i64 (n:=i+1) ω ω];refine⟨⟨Ω,Ω,rfl,?_⟩,Ω⟩;show v∉l.take (i+1).toNat;rw[show(i+1).toNat=i.toNat+1 by omega,bq j,List.mem_append,aiB];rintro(d|d)
   ·exact b d
   ·exact a d
 ·rw[aiy ω]at b;exact q (-1) ⟨λp=>ω,λo=>absurd o b⟩
theorem Iz{s:Sl}{l:List Bool}{v:Bool}(e:ak 1 h s (aP l))(q:l.length<100000)(A:R (ahT (decide (v∈l))).val h):Cl 140 [.slice s,.bool v] h R:=by
 apply fN;refine MS e q λn a=>⟨n,rfl,?_⟩;dsimp only;rw[show decide (0<=n)=decide (v∈l)from decide_eq_decide.2 a];exact A
def GI(c:Cf)(n:Nat):List Bool:=[rD c.ep 32,rD c.aN (min 16 n),rD c.no 256,rD c.eu 64,rD c.ew 64,rD c.quo 64,rD c.pe 16,rD c.gY 256,rD c.win 64,rD c.bD 1048576,rD c.dec 1048576]
theorem MT:sB c L=((nX L 0).isSome&&rD L.length 64&&!decide (false∈GI c L.length)):=by
 unfold sB GI;congr 1;generalize rD c.ep 32=a;generalize rD c.aN (min 16 L.length)=b;generalize rD c.no 256=d;generalize rD c.eu 64=e;generalize rD c.ew 64=f;generalize rD c.quo 64=g;generalize rD c.pe 16=h;generalize rD c.gY 256=i;generalize rD c.win 64=j;generalize rD c.bD 1048576=k;generalize rD c.dec 1048576=l;cases a<;>cases b<;>cases d<;>cases e<;>cases f<;>cases g<;>cases h<;>cases i<;>cases j<;>cases k<;>cases l<;>rfl
theorem IA(e:ak 2 h c.vals (jI L))(A:c.vals.len<100000)(q:∀i,Ext h i->R (ahT (sB c L)).val i):Cl 74 [c.tv] h R:=by
 apply Cv c.vals c.ep c.aN c.no c.eu c.ew c.quo c.pe c.gY c.win c.bD c.dec;delta fK mC jg iz BK bO cV dI bN aT bh mN eE;have el:L.length=c.vals.len:=by have:=e.len;rwa [ahJ]at this
 refine af λr v1 j s=>?_;intro u l;refine⟨c.vals,v1.ah rfl,Pn (e.ext j) A λf k=>⟨_,_,rfl,?_⟩⟩;have a:Var 24 f h.size c.tv:=v1.ext k;rw[MT]at q;have g:=λi m=>q i ((j.trans k).trans m);refine ahP (λb=>?_) λb=>?_
 ·have b:(nX L 0).isSome=false:=by simpa using b
  have:=g f (ahQ _);rw[b]at this;exact this
 ·have b:(nX L 0).isSome=true:=by simpa using b
  rw[b,aiq]at g;refine⟨c.vals,a.ah rfl,gB ⟨_,rfl,?_⟩⟩;rw[<-el];refine ahP (λd=>?_) λd=>?_
  ·have d:rD L.length 64=false:=by simpa using d
   have:=g f (ahQ _);rw[d]at this;exact this
  ·have d:rD L.length 64=true:=by simpa using d
   rw[d,aiq]at g;refine l false f ?_;refine⟨_,a.ah rfl,_,a.ah rfl,c.vals,a.ah rfl,_,a.ah rfl,_,a.ah rfl,_,a.ah rfl,_,a.ah rfl,_,a.ah rfl,_,a.ah rfl,_,a.ah rfl,_,a.ah rfl,_,a.ah rfl,?_⟩;refine gB ⟨_,rfl,ahQ _,gB ⟨_,rfl,ahQ _,gB ⟨_,rfl,ahQ _,gB ⟨_,rfl,ahQ _,gB ⟨_,rfl,ahQ _,gB ⟨_,rfl,ahQ _,gB ⟨_,rfl,ahQ _,gB ⟨_,rfl,ahQ _,gB ⟨_,rfl,ahQ _,gB ⟨_,rfl,ahQ _,gB ⟨_,rfl,?_⟩⟩⟩⟩⟩⟩⟩⟩⟩⟩⟩;have n:mn 16 (c.vals.len:Int)=min 16 (L.length:Int):=by rw[J7,el]
   rw[n]
   have o:=aii (T:=4) (sz:=1) f (aP (GI c L.length)) (λt p=>by
    obtain⟨x,_,rfl⟩:=ahK.1 p;rfl)
   exact Iz o.elems (by simp[GI]) ⟨_,rfl,g _ (ahL _ _)⟩
theorem Po(el:L.length=c.vals.len):Can c L↔(∃s,nX L 0=some s)/\∀k,k<12->∀x y,(Board.dX c)[2*k]? =some x->(Board.dX c)[2*k+1]? =some y->1<=x/\x<=y:=by
 constructor
 ·intro a;refine⟨a.tot,λk f x y d e=>?_⟩;have h:=a.aN;have j:=a.len;have g:=J7 16 (c.vals.len:Int);have f:k=0\/k=1\/k=2\/k=3\/k=4\/k=5\/k=6\/k=7\/k=8\/k=9\/k=10\/k=11:=ω;rcases f with rfl|rfl|rfl|rfl|rfl|rfl|rfl|rfl|rfl|rfl|rfl|rfl<;>injection d with d<;>injection e with e<;>subst d<;>subst e
  ·exact a.ep
  ·rw[g];omega
  ·exact a.no
  ·exact a.eu
  ·exact a.ew
  ·exact a.quo
  ·exact a.pe
  ·exact a.gY
  ·exact a.win
  ·exact a.bD
  ·exact a.dec
  ·omega
 ·rintro⟨i,b⟩;have g:=J7 16 (c.vals.len:Int);have h:=b 1 δ c.aN (mn 16 (c.vals.len:Int)) rfl rfl;have l:=b 11 δ (c.vals.len:Int) 64 rfl rfl;exact⟨i,ω,b 0 δ _ _ rfl rfl,ω,b 2 δ _ _ rfl rfl,b 3 δ _ _ rfl rfl,b 4 δ _ _ rfl rfl,b 5 δ _ _ rfl rfl,b 6 δ _ _ rfl rfl,b 7 δ _ _ rfl rfl,b 8 δ _ _ rfl rfl,b 9 δ _ _ rfl rfl,b 10 δ _ _ rfl rfl⟩
theorem tu(e:ak 2 h c.vals (jI L))(q:∀v∈L,v.cW<9223372036854775808)(hv:c.vals.len<100000)(G:∀d,Ext h d->R (ahT (sB c L)).val d):Cl 96 [c.tv] h R:=by
 apply vW c.vals c.ep c.aN c.no c.eu c.ew c.quo c.pe c.gY c.win c.bD c.dec;delta fK Fq jw HB bN mN;have F:L.length=c.vals.len:=by have:=e.len;rwa [ahJ]at this
 refine af λh1 v1 N s1=>?_;refine⟨c.vals,c.ep,c.aN,c.no,c.eu,c.ew,c.quo,c.pe,c.gY,c.win,c.bD,c.dec,v1.at,?_⟩;refine Dt (c:=c) λO s2 p H=>⟨_,rfl,?_⟩;have g:=N.trans H;have el:=jA p;have P:(Board.dX c).length=24:=rfl
 have stop:¬Can c L->∀d,Ext h d->R (ahT false).val d:=λw d z=>by
  have A:sB c L=false:=by
   cases A:sB c L with
   |false=>rfl
   |true=>exact absurd (lW.1 A) w
  have:=G d z
  rwa [A]at this
 refine⟨λσ I=>0<=σ.2/\σ.2<=24/\σ.2%2=0/\I=O/\(∀k:Nat,2*k<σ.2.toNat->∀x y,(Board.dX c)[2*k]? =some x->(Board.dX c)[2*k+1]? =some y->1<=x/\x<=y),λσ _=>((24:Int)-σ.2).toNat,
  ⟨ahR 0,δ,δ,rfl,λj Q=>by simp at Q⟩,?_⟩
 rintro⟨f,i⟩ I ⟨B,S,T,rfl,r⟩;dsimp only at B S T r⊢;refine ID (λU=>?_) λU=>?_
 ·have t:2*(i.toNat/2)=i.toNat:=ω;have u:(i+1).toNat=2*(i.toNat/2)+1:=ω;have no:∀x y,(Board.dX c)[i.toNat]? =some x->(Board.dX c)[(i+1).toNat]? =some y->¬(1<=x/\x<=y)->¬Can c L:=λx y l V w m=>w (((Po F).1 m).2 (i.toNat/2) ω x y (by rw[t];exact l) (by rw[<-u];exact V));obtain⟨W,X⟩:∃y,(Board.dX c)[(i+1).toNat]? =some y:=⟨_,ahV (by rw[P];omega)⟩;refine gX p B ω λx l=>ID (λY=>stop (no x W l X ω) _ g) λY=>?_;rw[wrap_i64 (n:=i+1) ω ω,wrap_i64 (n:=i+2) ω ω];refine gX p B ω λz o=>gX p (i:=i+1) ω ω λy J=>ID (λZ=>stop (no z y o J ω) _ g) λZ=>?_;rw[l]at o;injection o with o;subst o;refine⟨⟨Ω,Ω,Ω,rfl,λk q=>?_⟩,Ω⟩;by_cases ab:2*k<i.toNat
  ·exact r k ab
  ·have q:2*k<(i+2).toNat:=q;have ac:k=i.toNat/2:=ω;subst ac;rw[t,<-t,<-u,t];intro a b C D;rw[l]at C;rw[J]at D;injection C with C;injection D with D;omega
 ·refine⟨c.vals,(v1.ext H).ah rfl,JI (e.ext g) q ω λK M=>⟨_,_,rfl,?_⟩⟩;have u:i.toNat=24:=ω;rw[u]at r;cases E:nX L 0 with
  |none=>exact stop (λm=>by obtain⟨s,hs⟩:=m.tot;rw[hs]at E;cases E) K (g.trans M)
  |some s=>
   have m:Can c L:=(Po F).2 ⟨⟨s,E⟩,λk q=>r k ω⟩;have:=G K (g.trans M);rw[lW.2 m]at this;exact this
end
end Gate
namespace Gate
open Go Go.Vc Board
section
variable{R:Rq}{h:aa}{c:Cf}{L:List Vd}
theorem aah(n:Int):(Uy n).length=4:=fL 4 _
theorem Rx{v:Vd}:(oM v).length=9+v.key.length:=by
 unfold oM;rw[ahX,ahX,fL,fL]
theorem uR:∀(l:List Int),(l.flatMap Uy).length=4*l.length
 |[]=>rfl
 |n::l=>by rw[List.flatMap_cons,ahX,aah,uR l,aio];omega
theorem sI:∀(l:List Vd),(∀v∈l,v.key.length<=32)->(l.flatMap oM).length<=41*l.length
 |[],_=>ahW 0
 |v::l,h=>by
  have b:=h v (aiV);have c:=sI l λx a=>h x (aiM _ a);rw[List.flatMap_cons,ahX,Rx,aio];omega
theorem A0{α q:Type}{f:α->List q}{l:List α}{x:α}:(l++[x]).flatMap f=l.flatMap f++f x:=by simp
theorem Yk{Q Q':Nat->Prop}{s:Sl}{bs:LU}(r:Row Q h s bs)(q:∀i,Q i->Q' i):Row Q' h s bs:=⟨r.own,λl a=>q _ (r.sP l a),λi b=>q _ (r.new i b)⟩
theorem Pp(e:ak 2 h c.vals (jI L))(q:c.vals.len<=64)(G:∀v∈L,v.key.length<=32)(O:∀H,Ext h H->R (ah2 (oO c L)).val H):Cl 202 [c.tv] h R:=by
 apply Bv c.vals c.ep c.aN c.no c.eu c.ew c.quo c.pe c.gY c.win c.bD c.dec;delta fK mC iz gu rH jT mO dL fJ c4 aJ bN aT bh;have el:L.length=c.vals.len:=by have:=e.len;rwa [ahJ]at this
 refine af λb v1 N s1=>?_;refine⟨_,v1.ah rfl,_,v1.ah rfl,_,v1.ah rfl,_,v1.ah rfl,_,v1.ah rfl,_,v1.ah rfl,_,v1.ah rfl,_,v1.ah rfl,_,v1.ah rfl,_,v1.ah rfl,_,v1.ah rfl,c.vals,v1.ah rfl,?_⟩
 have w:=aii (T:=3) (sz:=1) b (ints (jO c L.length)) (λt P=>by
  obtain⟨x,_,rfl⟩:=ahK.1 P;rfl)
 have Q:ahI [TV.i c.ep,TV.i c.aN,TV.i c.no,TV.i c.eu,TV.i c.ew,TV.i c.quo,TV.i c.pe,TV.i c.gY,TV.i c.win,TV.i c.bD,TV.i c.dec,TV.i (c.vals.len:Int)]=ahI (ints (jO c L.length)):=by rw[<-el];rfl
 dsimp only;rw[Q];have y:=ahL b (Vc.row (ahI (ints (jO c L.length))) 3);have U:(b.push (Vc.row (ahI (ints (jO c L.length))) 3)).size=b.size+1:=by simp
 generalize b.push (Vc.row (ahI (ints (jO c L.length))) 3)=I at w y U⊢;have V:=N.trans y;have en:=w.elems;have W:Row (λi=>b.size<i) I ahS []:=⟨aik _ _ _,(λl q=>by cases q),λi a=>ω⟩;refine⟨λσ g=>0<=σ.2/\σ.2<=12/\Row (λi=>b.size<i) g σ.1 (((jO c L.length).take σ.2.toNat).flatMap Uy)/\ag (λi=>b.size<i) I g,λσ _=>(12-σ.2).toNat,⟨ahR 0,δ,W,aiz _ _⟩,?_⟩;rintro⟨s,i⟩ z ⟨j,A,p,r⟩;dsimp only at j A p⊢;have X:Ext h z:=ahG V r λi a=>ω;refine ID (λa=>?_) λa=>?_
 ·have a:i<12:=a;have Y:ak 1 z ⟨some ⟨b.size,0⟩,12,12⟩ (ints (jO c L.length)):=(w.only r (λl q=>by cases q;exact Nat.lt_irrefl _)).elems;obtain⟨x,m⟩:∃x,(jO c L.length)[i.toNat]? =some x:=⟨_,ahV (show i.toNat<(jO c L.length).length by show i.toNat<12;omega)⟩;have Z:=Y.get _ rfl i.toNat (.i x) (by rw[ah6,m];rfl);refine⟨j,a,x,Z,?_⟩;refine gw (k:=4) p (by rw[uR,ahY];show 4*min i.toNat 12<5000;omega) δ λd s4 f o4=>⟨_,rfl,?_⟩;rw[wrap_i64 (n:=i+1) ω ω];refine⟨⟨Ω,Ω,?_,r.trans o4⟩,Ω⟩;show Row _ _ _ (((jO c L.length).take (i+1).toNat).flatMap Uy);rw[show(i+1).toNat=i.toNat+1 by omega,bq m,A0];exact f
 ·have B:i.toNat=(jO c L.length).length:=by show i.toNat=12;have:¬i<12:=a;omega
  rw[B,aif]at p;have v3:Var 24 z h.size c.tv:=(v1.ext y).only r ω;refine⟨c.vals,v3.ah rfl,?_⟩;refine⟨λσ g=>0<=σ.2/\σ.2<=c.vals.len/\Row (λi=>b.size<i) g σ.1 ((jO c L.length).flatMap Uy++(L.take σ.2.toNat).flatMap oM)/\Ext h g,λσ _=>((c.vals.len:Int)-σ.2).toNat,⟨ahR 0,Ω,by simpa using p,X⟩,?_⟩;rintro⟨s,i⟩ d ⟨j,A,f,C⟩;dsimp only at j A f⊢;refine ID (λa=>?_) λa=>?_
  ·refine Ds (e.ext C) j ω λx m=>af λh5 v5 x5 s5=>aH v5 (t:=x.tv) rfl λu v6 o6 s6=>?_;have J:Ext d u:=ahG x5 o6 λi a=>ω;have o:=f.ext J;have o:Row (λi=>b.size<i/\i≠d.size) u s ((jO c L.length).flatMap Uy++(L.take i.toNat).flatMap oM):=⟨o.own,λl q=>⟨o.sP l q,λhc=>by have:=f.own.lt l q;omega⟩,λi a=>⟨o.new i a,ω⟩⟩;have kx:=G x (aim m);have tl:=sI (L.take i.toNat) λv hv=>G v (List.mem_of_mem_take hv);rw[ahY]at tl
   have l6:((jO c L.length).flatMap Uy++(L.take i.toNat).flatMap oM).length<=48+41*64:=by
    rw[ahX,uR];show 4*12+_<=_;omega
   have D:Var 137 (Vc.keeps (·=d.size) u) d.size x.tv:=v6.keeps (S:=(·=d.size)) rfl;refine⟨Vc.keeps (·=d.size) u,jq,_,D.ah rfl,_,D.ah rfl,_,D.ah rfl,?_⟩;refine gw (k:=8) o ω δ λh7 s7 r7 E=>⟨_,rfl,tV E (λi a F=>F.2 a),?_⟩;refine gw (k:=1) r7 (by rw[ahX,fL];omega) δ λh8 s8 K M=>⟨_,rfl,tV (E.trans M) (λi a F=>F.2 a),KK ?_⟩;refine Ez K (by rw[ahX,ahX,fL,fL];omega) λs9 h9 r9 f9 b9=>?_;have f9:=K.cut f9;rw[wrap_i64 (n:=i+1) ω ω];refine⟨⟨Ω,Ω,?_,ahG (C.trans J) ((E.trans M).trans f9) λi a=>ω⟩,Ω⟩;show Row _ _ _ ((jO c L.length).flatMap Uy++(L.take (i+1).toNat).flatMap oM);rw[show(i+1).toNat=i.toNat+1 by omega,bq m,A0];have:=Yk r9 (Q':=λi=>b.size<i) λi a=>a.1;rw[show oM x=(vM (ahU .u64 x.cW) 8++vM (ahU .u64 (x.key.length:Int)) 1)++x.key from rfl];simp only[List.append_assoc]at this⊢;exact this
  ·have B:i.toNat=L.length:=ω;rw[B,aif]at f;exact⟨_,f.str,O d C⟩
theorem IB(q:∀v∈L,v.key.length<=32):(oO c L).length<=48+41*L.length:=by
 have:=sI L q;unfold oO;rw[ahX,uR];show 4*12+_<=_;omega
theorem MU(n:Int)(k:Nat):KE (ahU .u64 n) k=vM (ahU .u64 n) k:=zH k _ (fM n).1 (fM n).2
theorem Vo(el:L.length=c.vals.len)(k:Nat)(q:k<12):∃x,(Board.dX c)[2*k]? =some x/\(jO c L.length)[k]? =some x:=by
 have q:k=0\/k=1\/k=2\/k=3\/k=4\/k=5\/k=6\/k=7\/k=8\/k=9\/k=10\/k=11:=ω;rcases q with rfl|rfl|rfl|rfl|rfl|rfl|rfl|rfl|rfl|rfl|rfl|rfl<;>first|exact⟨_,rfl,rfl⟩|exact⟨_,rfl,by rw[el];rfl⟩
theorem iZ(e:ak 2 h c.vals (jI L))(O:c.vals.len<=64)(q:∀v∈L,v.key.length<=32)(A:∀r,Ext h r->R (ah2 (oO c L)).val r):Cl 157 [c.tv] h R:=by
 apply uQ c.vals c.ep c.aN c.no c.eu c.ew c.quo c.pe c.gY c.win c.bD c.dec;delta fK rH c4 bN bh;have el:L.length=c.vals.len:=by have:=e.len;rwa [ahJ]at this
 refine af λP v1 B Q=>?_;refine⟨c.vals,c.ep,c.aN,c.no,c.eu,c.ew,c.quo,c.pe,c.gY,c.win,c.bD,c.dec,v1.at,?_⟩;refine Dt (c:=c) λC S s u=>⟨_,rfl,?_⟩;have D:=B.trans u;have T:=jA s;have U:(Board.dX c).length=24:=rfl;refine⟨λσ l=>0<=σ.2/\σ.2<=24/\σ.2%2=0/\Ext C l/\σ.1=((jO c L.length).take (σ.2.toNat/2)).flatMap Uy,λσ _=>((24:Int)-σ.2).toNat,⟨ahR 0,δ,δ,ahQ _,rfl⟩,?_⟩;rintro⟨t,i⟩ V ⟨b,m,E,f,a⟩;dsimp only at b m E a⊢;refine ID (λg=>?_) λg=>?_
 ·refine gX (s.ext f) b ω λx j=>bE 4 _ _ _ δ λo d=>⟨_,rfl,?_,?_⟩
  ·rw[a,uR,dy,ahY];show((4*min (i.toNat/2) 12+4:Nat):Int)<=_;omega
  ·rw[wrap_i64 (n:=i+2) ω ω];refine⟨⟨Ω,Ω,Ω,f.trans d,?_⟩,Ω⟩;show t++_=((jO c L.length).take ((i+2).toNat/2)).flatMap Uy;obtain⟨y,k,F⟩:=Vo el (i.toNat/2) ω;rw[show 2*(i.toNat/2)=i.toNat by omega,j]at k;injection k with k;subst k;rw[show(i+2).toNat/2=i.toNat/2+1 by omega,bq F,A0,a,MU];rfl
 ·have p:i.toNat/2=(jO c L.length).length:=by show _=12;omega
  rw[p,aif]at a;refine⟨c.vals,(v1.ext (u.trans f)).ah rfl,?_⟩;refine⟨λσ l=>0<=σ.2/\σ.2<=c.vals.len/\Ext h l/\σ.1=(jO c L.length).flatMap Uy++(L.take σ.2.toNat).flatMap oM,λσ _=>((c.vals.len:Int)-σ.2).toNat,⟨ahR 0,Ω,D.trans f,by simpa using a⟩,?_⟩;rintro⟨t,i⟩ o ⟨b,m,d,a⟩;dsimp only at b m a⊢;refine ID (λg=>?_) λg=>?_
  ·refine Ds (e.ext d) b ω λx j=>af λW G H X=>aH G (t:=x.tv) rfl λI v6 J Y=>?_;have K:Ext o I:=ahG H J λi g=>ω;have Z:=q x (aim j);have M:=sI (L.take i.toNat) λv N=>q v (List.mem_of_mem_take N);rw[ahY]at M
   have l6:t.length<=48+41*64:=by
    rw[a,ahX,uR];show 4*12+_<=_;omega
   refine⟨_,v6.ah rfl,_,v6.ah rfl,_,v6.ah rfl,?_⟩;refine bE 8 _ _ _ δ λh7 w=>⟨_,rfl,w,by rw[dy];omega,?_⟩;refine bE 1 _ _ _ δ λh8 z=>⟨_,rfl,z,by rw[ahX,dy,dy];omega,by rw[ahX,ahX,dy,dy];omega,?_⟩;rw[wrap_i64 (n:=i+1) ω ω];refine⟨⟨Ω,Ω,((d.trans K).trans w).trans z,?_⟩,Ω⟩;show _=(jO c L.length).flatMap Uy++(L.take (i+1).toNat).flatMap oM;rw[show(i+1).toNat=i.toNat+1 by omega,bq j,A0,a,MU,MU];rw[show oM x=(vM (ahU .u64 x.cW) 8++vM (ahU .u64 (x.key.length:Int)) 1)++x.key from rfl];simp only[List.append_assoc]
  ·have p:i.toNat=L.length:=ω;rw[p,aif]at a;have:=A o d;rw[<-show t=oO c L from a]at this;exact this
theorem Cx:vX.length=6:=δ
theorem Ry(e:ak 2 h c.vals (jI L))(A:c.vals.len<=64)(q:∀v∈L,v.key.length<=32)(B:∀a,Ext h a->R (ahZ 32 (uy c L)).val a):Cl 142 [c.tv] h R:=by
 apply Cw c.vals c.ep c.aN c.no c.eu c.ew c.quo c.pe c.gY c.win c.bD c.dec;delta jg Oj dH dI xQ bu fU bK eE;have el:L.length=c.vals.len:=by have:=e.len;rwa [ahJ]at this
 refine af λu v1 b w=>af λx n d y=>?_;refine⟨c.vals,c.ep,c.aN,c.no,c.eu,c.ew,c.quo,c.pe,c.gY,c.win,c.bD,c.dec,(v1.ext d).at,?_⟩;have f:=b.trans d;have z:=IB (c:=c) q;refine Pp (e.ext f) A q λg j=>⟨_,rfl,?_⟩;have k:=ahL g (row (ahI [ah2 vX,ah2 (oO c L)]) 9);refine nV (ts:=[vX,oO c L]) ?_ ?_ (by simp) λC l=>⟨_,rfl,?_⟩
 ·exact(aii (T:=9) (sz:=1) g [ah2 vX,ah2 (oO c L)] (λt m=>by
   simp only[ah4,List.not_mem_nil,or_false]at m;rcases m with rfl|rfl<;>rfl)).elems
 ·simp only[List.flatten_cons,List.flatten_nil,aiC,ahX,Cx];omega
 ·have o:[vX,oO c L].flatten=vX++oO c L:=by simp
  rw[o];refine aH (((n.ext j).ext k).ext l) (t:=.bytes 32 (uy c L)) uo λp r s D=>⟨_,r.bytes,?_⟩;exact B p (ahG (((f.trans j).trans k).trans l) s λi E=>by have:=b.size;omega)
theorem cr(e:ak 2 h c.vals (jI L))(A:c.vals.len<=64)(q:∀v∈L,v.key.length<=32)(B:∀a,Ext h a->R (ahZ 32 (uy c L)).val a):Cl 89 [c.tv] h R:=by
 apply wW c.vals c.ep c.aN c.no c.eu c.ew c.quo c.pe c.gY c.win c.bD c.dec;delta Oj dH xQ bu fU bK;have el:L.length=c.vals.len:=by have:=e.len;rwa [ahJ]at this
 refine af λo v1 b p=>af λr k d u=>?_;refine⟨c.vals,c.ep,c.aN,c.no,c.eu,c.ew,c.quo,c.pe,c.gY,c.win,c.bD,c.dec,(v1.ext d).at,?_⟩;have f:=b.trans d;have w:=IB (c:=c) q;refine iZ (e.ext f) A q λx g=>⟨_,rfl,?_,?_⟩
 ·show((vX.length+_:Nat):Int)<=_;rw[Cx];omega
 ·refine kI (s:=vX++oO c L) (by rw[ahX,Cx];omega) λy j=>⟨_,rfl,?_⟩;refine aH ((k.ext g).ext j) (t:=.bytes 32 (uy c L)) uo λl m n z=>⟨_,m.bytes,?_⟩;exact B l (ahG ((f.trans g).trans j) n λi C=>by have:=b.size;omega)
end
end Gate
namespace Gate
open Board (Vd Cf jI)
open Pool (It WL dD)
open Peers (Pe)
structure Ad where
 tr:Nat
 we:Nat
 ta:Nat
 bk:Nat
 kd:Nat
 wt:Nat
 wh:Nat
 jL:Nat
def EX(c:Cf)(a:Ad):TV:=.agg [c.tv,.ptr (PT a.tr),.ptr (PT a.we),.ptr (PT a.ta)]
def MV(c:Cf)(a:Ad)(left:Int):TV:=.agg [c.tv,.ptr (PT a.jL),.agg [.ptr (PT a.bk),.ptr (PT a.kd),.ptr (PT a.wt),.ptr (PT a.wh)],.i left]
structure aQ(h:aa)(g:Nat)(a:Ad)(c:Cf)(V:List Vd)(s:St)(Fp:Nat->Nat->Prop):Prop where
 sep:Sep h Fp
 tree:kX h a.tr s.N c.no (Fp 0)
 D9:dY h a.we a.tr s.N (cZ (bJ V) s.tb s.N) (Fp 1)
 ij:Cu h a.ta s.tb V.length (Fp 2)
 bk:Var 164 h a.bk (EX c a)
 f3:Fp 3=(·=a.bk)
 kids:kj 172 h a.kd s.kids c.eu c.quo (Fp 4)
 wait:kj 212 h a.wt s.wait c.ew c.quo (Fp 5)
 who:Tu h a.wh s.sc c.pe c.bD c.dec s.gone (Fp 6)
 jL:Clock.CI 217 h a.jL s.now (Clock.eD c.win)
 f7:Fp 7=(·=a.jL)
 var:Var 147 h g (MV c a s.left)
 f8:Fp 8=(·=g)
 vals:ak 2 h c.vals (jI V)
 off:∀k i,Fp k i->¬In c.vals i
 can:Can c V
section
variable{R:Rq}{h h':aa}{g:Nat}{a:Ad}{c:Cf}{V:List Vd}{s:St}{Fp:Nat->Nat->Prop}
theorem TV.bX{S:Nat->Prop}{h h':aa}(e:ag S h h'){s:Sl}{sz:Nat}{ts:List TV}(q:ak sz h s ts)(A:∀i,In s i->¬S i):ak sz h' s ts:=
 ⟨q.len,q.nil,λl a i t b=>TV.SC e (A l.b ⟨l,a,rfl⟩) (q.get l a i t b)⟩
theorem aQ.only{Q:Nat->Prop}(p:aQ h g a c V s Fp)(f:ag Q h h')(q:∀k i,Fp k i->¬Q i)(A:∀i,In c.vals i->¬Q i):aQ h' g a c V s Fp:=
 ⟨⟨p.sep.nC,λj i b=>by have:=p.sep.lt j i b;have:=f.size;omega⟩,p.tree.only f (q 0),p.D9.only f (q 1),p.ij.only f (q 2),p.bk.only f (q 3 _ (by rw[p.f3])),p.f3,p.kids.only f (q 4),p.wait.only f (q 5),p.who.only f (q 6),
   p.jL.only f (q 7 _ (by rw[p.f7])),p.f7,p.var.only f (q 8 _ (by rw[p.f8])),p.f8,TV.bX f p.vals A,p.off,p.can⟩
theorem aQ.ext(p:aQ h g a c V s Fp)(x:Ext h h'):aQ h' g a c V s Fp:=p.only (Q:=λ_=>False) (.an x) (λ_ _ _ b=>b) λ_ _ b=>b
theorem K1(e:ak 2 h c.vals (jI V))(k:Can c V)
 (M:∀h' tr we b d g j y z C,Var 164 h' d (.agg [c.tv,.ptr (PT tr),.ptr (PT we),.ptr (PT b)])->kX h' tr (kT c V).N c.no y->dY h' we tr (kT c V).N (λ_=>0) z->Cu h' b (gZ V.length c.ep) V.length C->
  Ext h h'->(∀i,y i->h.size<=i/\i<g)->(∀i,z i->g<=i/\i<j)->(∀i,C i->j<=i/\i<d)->h.size<=g->g<=j->j<=d->d<h'.size->R (ahN (PT d)).val h'):
 Cl 75 [c.tv] h R:=by
 apply Gk c.vals c.ep c.aN c.no c.eu c.ew c.quo c.pe c.gY c.win c.bD c.dec;delta mD mC BL iz FW rG fh aJ bK bN aT bh eE;have el:V.length=c.vals.len:=by have:=e.len;rwa [ahJ]at this
 have kl:=k.len;have keys:=uz k;refine af λh1 v1 o s1=>?_;refine⟨c.vals,c.ep,c.aN,c.no,c.eu,c.ew,c.quo,c.pe,c.gY,c.win,c.bD,c.dec,v1.at,?_⟩;refine IA (e.ext o) ω λK p=>⟨_,rfl,?_⟩;rw[lW.2 k];have q:Var 24 K h.size c.tv:=v1.ext p;have D:=o.trans p;refine ahO ⟨c.vals,c.ep,c.aN,c.no,c.eu,c.ew,c.quo,c.pe,c.gY,c.win,c.bD,c.dec,q.at,c.no,q.ah rfl,?_⟩;refine Ry (e.ext D) ω (λv L=>(keys v L).2) λh3 l=>⟨_,rfl,l,?_⟩;have P:=D.trans l;have z1:=o.size;have z2:=p.size;have z3:=l.size;refine DP (λs=>absurd ⟨k.no.1,k.no.2,δ,δ⟩ s) λ_ E tr r A t u Q=>⟨_,_,rfl,?_⟩;have v4:Var 24 E h.size c.tv:=q.ext (l.trans u);refine⟨c.vals,c.ep,c.aN,c.no,c.eu,c.ew,c.quo,c.pe,c.gY,c.win,c.bD,c.dec,v4.at,c.vals,v4.ah rfl,c.ep,v4.ah rfl,?_⟩;refine Kz t λT w O S B G U m W=>⟨_,rfl,m,?_⟩;rw[<-el];refine U9 (λs=>absurd ⟨ω,ω,k.ep.1,k.ep.2⟩ s) λ_ X b F H I J x f Y=>⟨_,rfl,f,?_⟩;refine af λZ v7 n s7=>?_;rw[show((V.length:Int)).toNat=V.length by omega]at x;have z4:=u.size;have z5:=m.size;have z6:=f.size
 refine M Z tr w b X.size E.size T.size (kH tr r A) (gV w O S B G) (sV b F H I J) v7 ⟨r,A,t.ext ((m.trans f).trans n),rfl⟩ ⟨O,S,B,G,WP.ext U (f.trans n),rfl⟩ ⟨F,H,I,J,x.ext n,rfl⟩
  ((((P.trans u).trans m).trans f).trans n) (λi a=>⟨by have:=Q i a;omega,t.lt a⟩) (λi a=>W i a) (λi a=>⟨Y i a,x.lt a⟩) ω z5 z6 ω
end
end Gate
namespace Gate
open Board (Vd Cf jI)
open Pool (It WL dD)
open Peers (Pe)
structure IE(lo:Nat)(h:aa)(c:Cf)(V:List Vd)(a:Ad)(m1 m2:Nat)(S0 S1 S2:Nat->Prop):Prop where
 var:Var 164 h a.bk (EX c a)
 tree:kX h a.tr (kT c V).N c.no S0
 D9:dY h a.we a.tr (kT c V).N (λ_=>0) S1
 ij:Cu h a.ta (gZ V.length c.ep) V.length S2
 r0:∀i,S0 i->lo<=i/\i<m1
 r1:∀i,S1 i->m1<=i/\i<m2
 r2:∀i,S2 i->m2<=i/\i<a.bk
 l0:lo<=m1
 l1:m1<=m2
 l2:m2<=a.bk
section
variable{R:Rq}{h h':aa}{g lo m1 m2:Nat}{a:Ad}{c:Cf}{V:List Vd}{s:St}{S0 S1 S2 S4 S5 S6:Nat->Prop}
theorem IE.ext(p:IE lo h c V a m1 m2 S0 S1 S2)(x:Ext h h'):IE lo h' c V a m1 m2 S0 S1 S2:=
 ⟨p.var.ext x,p.tree.only (.an x) (λ_ _ b=>b),p.D9.only (.an x) (λ_ _ b=>b),p.ij.only (.an x) (λ_ _ b=>b),p.r0,p.r1,p.r2,p.l0,p.l1,p.l2⟩
theorem kj.ext{T:TypeId}{o:Nat}{q:List It}{most quota:Int}{S:Nat->Prop}(p:kj T h o q most quota S)(x:Ext h h'):kj T h' o q most quota S:=p.only (.an x) λ_ _ a=>a
theorem Tu.ext{b:Nat}{P:List (Int×Int)}{most q A gone:Int}{S:Nat->Prop}(p:Tu h b P most q A gone S)(x:Ext h h'):Tu h' b P most q A gone S:=p.only (.an x) λ_ _ a=>a
theorem Pq{b i:Nat}(q:dD b ahS i):i=b:=by
 rcases q with a|a
 ·exact a
 ·exact(qN a).elim
def Two(n:Nat)(S:Nat->Prop):Prop:=∀i,S i->n<=i/\i<n+2
theorem aaY{n q:Int}(k:1<=n/\n<=64)(A:1<=q/\q<=64)(B:∀h' S,kj 172 h' (h.size+1) [] n q S->Two h.size S->Ext h h'->h'.size=h.size+2->R (ahN (some ⟨h.size+1,0⟩)).val h'):Cl 76 [.i n,.i q] h R:=
 Pool.UX (λb=>absurd ⟨k.1,k.2,A.1,A.2⟩ b) λ_ h' w x z=>B h' _ ⟨_,_,w,rfl⟩ (λi c=>by
  rcases c with a|a
  ·omega
  ·have:=Pq a;omega) x z
theorem aaZ{n q:Int}(k:1<=n/\n<=64)(A:1<=q/\q<=64)(B:∀h' S,kj 212 h' (h.size+1) [] n q S->Two h.size S->Ext h h'->h'.size=h.size+2->R (ahN (some ⟨h.size+1,0⟩)).val h'):Cl 77 [.i n,.i q] h R:=
 Pool.UY (λb=>absurd ⟨k.1,k.2,A.1,A.2⟩ b) λ_ h' w x z=>B h' _ ⟨_,_,w,rfl⟩ (λi c=>by
  rcases c with a|a
  ·omega
  ·have:=Pq a;omega) x z
theorem aa0{n b d:Int}(k:Peers.Valid n b d)(q:∀h' S,Tu h' (h.size+1) [] n b d 0 S->Two h.size S->Ext h h'->R (ahN (some ⟨h.size+1,0⟩)).val h'):Cl 78 [.i n,.i b,.i d] h R:=
 Peers.DP (λ_ h' x p=>q h' _ ⟨_,p,rfl⟩ (λi c=>ω) x) λa=>absurd k a
structure aaj(lo:Nat)(h:aa)(c:Cf)(V:List Vd)(a:Ad)(m1 m2 k4 k5 k6:Nat)(S0 S1 S2 S4 S5 S6:Nat->Prop):Prop where
 b:IE lo h c V a m1 m2 S0 S1 S2
 kids:kj 172 h a.kd [] c.eu c.quo S4
 wait:kj 212 h a.wt [] c.ew c.quo S5
 who:Tu h a.wh [] c.pe c.bD c.dec 0 S6
 r4:Two k4 S4
 r5:Two k5 S5
 r6:Two k6 S6
 l4:a.bk<k4
 l5:k4+2<=k5
 l6:k5+2<=k6
def partsOf(S0 S1 S2 S4 S5 S6:Nat->Prop)(a:Ad)(g:Nat):Nat->Nat->Prop
 |0=>S0
 |1=>S1
 |2=>S2
 |3=>(·=a.bk)
 |4=>S4
 |5=>S5
 |6=>S6
 |7=>(·=a.jL)
 |8=>(·=g)
 |_=>λ_=>False
theorem aaj.gate{A B q:Nat}(p:aaj lo h c V a m1 m2 A B q S0 S1 S2 S4 S5 S6)(G:q+2<=a.jL)(H:a.jL<g)
 (E:Clock.CI 217 h a.jL 0 (Clock.eD c.win))(var:Var 147 h g (MV c a 0))(vals:ak 2 h c.vals (jI V))(off:∀i,In c.vals i->i<lo)(can:Can c V):
 aQ h g a c V (kT c V) (partsOf S0 S1 S2 S4 S5 S6 a g):=by
 have l:=var.lt;have d:=p.b.l0;have e:=p.b.l1;have f:=p.b.l2;have m:=p.l4;have n:=p.l5;have o:=p.l6;refine⟨?_,p.b.tree,?_,p.b.ij,p.b.var,rfl,p.kids,p.wait,p.who,E,rfl,var,rfl,vals,?_,can⟩
 ·refine Sep.made (lo:=λ|0=>lo|1=>m1|2=>m2|3=>a.bk|4=>A|5=>B|6=>q|7=>a.jL|8=>g|_=>g+1) ?_ ?_ ?_
  ·intro j i b
   match j,b with
   |0,b=>exact p.b.r0 i b
   |1,b=>exact p.b.r1 i b
   |2,b=>exact p.b.r2 i b
   |3,b=>have b:i=a.bk:=b;show a.bk<=i/\i<A;omega
   |4,b=>have:=p.r4 i b;show A<=i/\i<B;omega
   |5,b=>have:=p.r5 i b;show B<=i/\i<q;omega
   |6,b=>have:=p.r6 i b;show q<=i/\i<a.jL;omega
   |7,b=>have b:i=a.jL:=b;show a.jL<=i/\i<g;omega
   |8,b=>have b:i=g:=b;show g<=i/\i<g+1;omega
   |_+9,b=>exact b.elim
  ·intro j
   match j with
   |0=>exact d
   |1=>exact e
   |2=>exact f
   |3=>show a.bk<=A;omega
   |4=>show A<=B;omega
   |5=>show B<=q;omega
   |6=>show q<=a.jL;omega
   |7=>show a.jL<=g;omega
   |8=>show g<=g+1;omega
   |_+9=>exact ahW _
  ·intro j
   match j with
   |0=>show lo<=_;omega
   |1=>show m1<=_;omega
   |2=>show m2<=_;omega
   |3=>show a.bk<=_;omega
   |4=>show A<=_;omega
   |5=>show B<=_;omega
   |6=>show q<=_;omega
   |7=>show a.jL<=_;omega
   |8=>show g<=_;omega
   |_+9=>show g+1<=_;omega
 ·show dY h a.we a.tr (kT c V).N (cZ (bJ V) (gZ V.length c.ep) (kT c V).N) S1;rw[Uz];exact p.b.D9
 ·intro j i b k;have:=off i k
  match j,b with
  |0,b=>have:=p.b.r0 i b;omega
  |1,b=>have:=p.b.r1 i b;omega
  |2,b=>have:=p.b.r2 i b;omega
  |3,b=>have b:i=a.bk:=b;omega
  |4,b=>have:=p.r4 i b;omega
  |5,b=>have:=p.r5 i b;omega
  |6,b=>have:=p.r6 i b;omega
  |7,b=>have b:i=a.jL:=b;omega
  |8,b=>have b:i=g:=b;omega
  |_+9,b=>exact b.elim
end
end Gate
namespace Gate
open Board (Vd Cf jI av)
open Pool (It WL dD)
open Peers (Pe)
theorem Pu:(ctx.ti 137).bytes=24:=κ
theorem aak:(ctx.ti 137).size=2:=κ
theorem Yl:(ctx.ti 137).z.size=2:=κ
def Ym(a:Ad):TV:=.agg [.ptr (PT a.bk),.ptr (PT a.kd),.ptr (PT a.wt),.ptr (PT a.wh)]
section
variable{R:Rq}{h h':aa}{g lo m1 m2:Nat}{a:Ad}{c:Cf}{V:List Vd}{s:St}{S0 S1 S2 S4 S5 S6:Nat->Prop}
theorem IE.only{Q:Nat->Prop}(p:IE lo h c V a m1 m2 S0 S1 S2)(f:ag Q h h')(q:∀i,lo<=i->i<=a.bk->¬Q i):IE lo h' c V a m1 m2 S0 S1 S2:=
 have l0:=p.l0;have l1:=p.l1;have l2:=p.l2
 ⟨p.var.only f (q _ ω (ahW _)),p.tree.only f (λi b=>by have:=p.r0 i b;exact q i ω ω),p.D9.only f (λi b=>by have:=p.r1 i b;exact q i ω ω),p.ij.only f (λi b=>by have:=p.r2 i b;exact q i ω ω),p.r0,p.r1,p.r2,l0,l1,l2⟩
theorem Yn(k:Can c V):Peers.Valid c.pe c.bD c.dec:=⟨k.pe.1,k.pe.2,k.bD.1,k.bD.2,k.dec.1,k.dec.2⟩
theorem K4(e:ak 2 h c.vals (jI V))(hl:c.vals.len<100000)(ao:sB c V=false->∀h',Ext h h'->R (ahM [.ptr none,.i 1]).val h')
 (hr:Can c V->∀h' g a s Fp,aQ h' g a {c with vals:=s} V (kT c V) Fp->Ext h h'->(∀k i,Fp k i->h.size<=i)->(∀i,In s i->h.size<=i)->R (ahM [.ptr (PT g),.i 0]).val h'):
 Cl 19 [c.tv] h R:=by
 apply IC c.vals c.ep c.aN c.no c.eu c.ew c.quo c.pe c.gY c.win c.bD c.dec;delta On Fu BJ iJ cV mO fh dI jY iI aJ aT bh eE;have el:V.length=c.vals.len:=by have:=e.len;rwa [ahJ]at this
 refine af λW v1 x1 s1=>?_;refine⟨c.vals,c.ep,c.aN,c.no,c.eu,c.ew,c.quo,c.pe,c.gY,c.win,c.bD,c.dec,v1.at,?_⟩;refine IA (e.ext x1) hl λK x2=>⟨_,rfl,?_⟩;have v2:Var 24 K h.size c.tv:=v1.ext x2;have ac:=x1.trans x2;refine ahP (λhb=>?_) λhb=>?_
 ·exact ao (by simpa using hb) K ac
 have k:Can c V:=lW.1 (by simpa using hb);have kl:=k.len;have z1:=x1.size;have z2:=x2.size;have on:=aii (T:=137) (sz:=2) K [] (λt ht=>by cases ht);have xp:=ahL K (row (ahI []) 137);have sp:(K.push (row (ahI []) 137)).size=K.size+1:=by simp
 refine⟨c.vals,(v2.ext xp).ah rfl,?_⟩;refine pT (C:=ctx) (T:=137) (t:=ah0 (some (Vc.Loc.mk K.size 0)) 0 0) aak Yl (by rw[Pu];decide) δ (by rw[Pu];simp only;omega) on ((e.ext ac).ext xp) (λu hu=>by obtain⟨v,_,rfl⟩:=ahK.1 hu;rfl) (λu hu=>by obtain⟨v,_,rfl⟩:=ahK.1 hu;rfl) λE h3 o3 ap f3 b3=>?_;have x3:=ap rfl;have v3:Var 24 h3 h.size c.tv:=(v2.ext xp).ext x3;have ar:=(ac.trans xp).trans x3;rw[List.nil_append]at o3;have aw:∀i,In E i->i<h3.size:=λi d=>o3.gv i d
 have ad:∀i,In E i->h.size+1<=i:=λi⟨l,hl,d⟩=>by
  rcases b3 l hl with⟨l',W,aE⟩|W
  ·cases W;simp only at aE;omega
  ·have h9:K.size+1<=l.b:=by simpa using W
   omega
 refine aF (i:=0) (t:=.slice E) (t0:=.slice c.vals) v3 rfl rfl rfl rfl λw v4 f4 z4=>?_;have ae:Ext h w:=ahG ar f4 λi d=>ω;have e4:ak 2 w E (jI V):=TV.bX f4 o3.elems λi d=>by have:=ad i d;omega
 have v4:Var 24 w h.size {c with vals:=E}.tv:=v4;have k':Can {c with vals:=E} V:=⟨k.tot,k.len,k.ep,k.aN,k.no,k.eu,k.ew,k.quo,k.pe,k.gY,k.win,k.bD,k.dec⟩;intro J HJ;refine⟨E,c.ep,c.aN,c.no,c.eu,c.ew,c.quo,c.pe,c.gY,c.win,c.bD,c.dec,v4.at,c.eu,v4.ah rfl,c.quo,v4.ah rfl,c.ew,v4.ah rfl,c.quo,v4.ah rfl,c.pe,v4.ah rfl,c.bD,v4.ah rfl,c.dec,v4.ah rfl,?_⟩;have a8:h.size<=w.size:=ae.size
 have al:∀(b:aa)(lo q tr we m f D wt X m1 m2 z H k6:Nat)(S0 S1 S2 S4 S5 S6:Nat->Prop),Ext w b->w.size<=lo->Var 143 b q (Ym ⟨tr,we,m,f,D,wt,X,0⟩)->
  aaj lo b {c with vals:=E} V ⟨tr,we,m,f,D,wt,X,0⟩ m1 m2 z H k6 S0 S1 S2 S4 S5 S6->k6+2<=b.size->
  J (some ⟨f,0⟩,c.eu,c.quo,some ⟨D,0⟩,c.ew,c.quo,some ⟨wt,0⟩,c.pe,c.bD,c.dec,some ⟨X,0⟩,some ⟨q,0⟩) b:=by
  intro b lo q tr we m f D wt X m1 m2 z H k6 S0 S1 S2 S4 S5 S6 L U M p a0;have vh:Var 24 b h.size {c with vals:=E}.tv:=v4.ext L;refine HJ _ b ⟨E,c.ep,c.aN,c.no,c.eu,c.ew,c.quo,c.pe,c.gY,c.win,c.bD,c.dec,vh.at,c.win,vh.ah rfl,_,_,_,_,M.at,?_⟩;refine Clock.DB λo a1 A z5=>⟨_,rfl,A,af λx v6 n s6=>?_⟩;have O:=A.trans n
  have N:aaj lo x {c with vals:=E} V ⟨tr,we,m,f,D,wt,X,b.size⟩ m1 m2 z H k6 S0 S1 S2 S4 S5 S6:=
   ⟨⟨p.b.var.ext O,(p.b.ext O).tree,(p.b.ext O).D9,(p.b.ext O).ij,p.b.r0,p.b.r1,p.b.r2,p.b.l0,p.b.l1,p.b.l2⟩,p.kids.ext O,p.wait.ext O,p.who.ext O,p.r4,p.r5,p.r6,p.l4,p.l5,p.l6⟩
  have gate:=N.gate (g:=o.size) a0 (by show b.size<o.size;omega) (a1.ext n) v6 ((e4.ext L).ext O) (λi d=>by have:=aw i d;omega) k';refine hr k x o.size _ E _ gate ((ae.trans L).trans O) (λj i d=>?_) λi d=>by have:=ad i d;omega
  have:=gate.sep.lt j i d;have a9:=L.size
  match j,d with
  |0,d=>have:=p.b.r0 i d;omega
  |1,d=>have:=p.b.r1 i d;have:=p.b.l0;omega
  |2,d=>have:=p.b.r2 i d;have:=p.b.l0;have:=p.b.l1;omega
  |3,d=>have d:i=f:=d;have:=p.b.l0;have:=p.b.l1;have:=p.b.l2;simp only at this;omega
  |4,d=>have:=p.r4 i d;have:=p.b.l0;have:=p.b.l1;have:=p.b.l2;have:=p.l4;simp only at*;omega
  |5,d=>have:=p.r5 i d;have:=p.b.l0;have:=p.b.l1;have:=p.b.l2;have:=p.l4;have:=p.l5;simp only at*;omega
  |6,d=>have:=p.r6 i d;have:=p.b.l0;have:=p.b.l1;have:=p.b.l2;have:=p.l4;have:=p.l5;have:=p.l6;simp only at*;omega
  |7,d=>have d:i=b.size:=d;omega
  |8,d=>have d:i=o.size:=d;omega
  |_+9,d=>exact d.elim
 have kc:1<=c.eu/\c.eu<=64:=k.eu;have vp:=Yn k
 have t78:∀(b:aa)(lo q tr we m f D wt m1 m2 z H:Nat)(S0 S1 S2 S4 S5:Nat->Prop),Ext w b->w.size<=lo->w.size<=q->(q<lo\/f<q)->(q<z\/z+2<=q)->(q<H\/H+2<=q)->Var 143 b q (.agg [.ptr none,.ptr none,.ptr none,.ptr none])->
  IE lo b {c with vals:=E} V ⟨tr,we,m,f,0,0,0,0⟩ m1 m2 S0 S1 S2->kj 172 b D [] c.eu c.quo S4->kj 212 b wt [] c.ew c.quo S5->Two z S4->Two H S5->f<z->z+2<=H->H+2<=b.size->
  Cl 78 [.i c.pe,.i c.bD,.i c.dec] b λv F=>∃(I:OL),v=(ahN I).val/\gi F q 0 4/\Bind (aih F q 0 (.agg [.ptr (PT f),.ptr (PT D),.ptr (PT wt),.ptr I])) λG=>J (some ⟨f,0⟩,c.eu,c.quo,some ⟨D,0⟩,c.ew,c.quo,some ⟨wt,0⟩,c.pe,c.bD,c.dec,I,some ⟨q,0⟩) G:=by
  intro b lo q tr we m f D wt m1 m2 z H S0 S1 S2 S4 S5 L U hq c1 c2 c3 M Y pk pw r4 r5 l4 l5 l6;have ql:=M.lt;refine aa0 vp λF S6 N P B=>⟨_,rfl,?_⟩;have z7:=B.size;refine av (t:=Ym ⟨tr,we,m,f,D,wt,b.size+1,0⟩) (M.ext B) rfl rfl λG v8 f8 z8=>?_;refine al G lo q tr we m f D wt (b.size+1) m1 m2 z H b.size S0 S1 S2 S4 S5 S6 (ahG (L.trans B) f8 λi d=>?_) U v8 ?_ ?_
  ·omega
  ·have y:=(Y.ext B).only f8 λi W K=>by simp only at K;omega
   refine⟨⟨y.var,y.tree,y.D9,y.ij,y.r0,y.r1,y.r2,y.l0,y.l1,y.l2⟩,(pk.ext B).only f8 λi d=>by have:=r4 i d;omega,(pw.ext B).only f8 λi d=>by have:=r5 i d;omega,N.only f8 λi d=>by have:=P i d;omega,r4,r5,P,l4,l5,l6⟩
  ·obtain⟨r,pp,_⟩:=N;have:=pp.var.lt;omega
 have t77:∀(b:aa)(lo q tr we m f D m1 m2 z:Nat)(S0 S1 S2 S4:Nat->Prop),Ext w b->w.size<=lo->w.size<=q->(q<lo\/f<q)->(q<z\/z+2<=q)->Var 143 b q (.agg [.ptr none,.ptr none,.ptr none,.ptr none])->
  IE lo b {c with vals:=E} V ⟨tr,we,m,f,0,0,0,0⟩ m1 m2 S0 S1 S2->kj 172 b D [] c.eu c.quo S4->Two z S4->f<z->z+2<=b.size->
  Cl 77 [.i c.ew,.i c.quo] b λv x=>∃(Q:OL),v=(ahN Q).val/\Ext b x/\
   Cl 78 [.i c.pe,.i c.bD,.i c.dec] x λv F=>∃(I:OL),v=(ahN I).val/\gi F q 0 4/\Bind (aih F q 0 (.agg [.ptr (PT f),.ptr (PT D),.ptr Q,.ptr I])) λG=>J (some ⟨f,0⟩,c.eu,c.quo,some ⟨D,0⟩,c.ew,c.quo,Q,c.pe,c.bD,c.dec,I,some ⟨q,0⟩) G:=by
  intro b lo q tr we m f D m1 m2 z S0 S1 S2 S4 L U hq c1 c2 M Y pk r4 l4 l5;have ql:=M.lt;refine aaZ k.ew k.quo λx S5 N P n z6=>⟨_,rfl,n,?_⟩;exact t78 x lo q tr we m f D (b.size+1) m1 m2 z b.size S0 S1 S2 S4 S5 (L.trans n) U hq c1 c2 ω (M.ext n) (Y.ext n) (pk.ext n) N r4 P l4 ω ω
 have t76:∀(b:aa)(lo q tr we m f m1 m2:Nat)(S0 S1 S2:Nat->Prop),Ext w b->w.size<=lo->w.size<=q->(q<lo\/f<q)->Var 143 b q (.agg [.ptr none,.ptr none,.ptr none,.ptr none])->
  IE lo b {c with vals:=E} V ⟨tr,we,m,f,0,0,0,0⟩ m1 m2 S0 S1 S2->f<b.size->
  Cl 76 [.i c.eu,.i c.quo] b λv o=>∃(p1:OL),v=(ahN p1).val/\Ext b o/\
  Cl 77 [.i c.ew,.i c.quo] o λv x=>∃(Q:OL),v=(ahN Q).val/\Ext o x/\
   Cl 78 [.i c.pe,.i c.bD,.i c.dec] x λv F=>∃(I:OL),v=(ahN I).val/\gi F q 0 4/\Bind (aih F q 0 (.agg [.ptr (PT f),.ptr p1,.ptr Q,.ptr I])) λG=>J (some ⟨f,0⟩,c.eu,c.quo,p1,c.ew,c.quo,Q,c.pe,c.bD,c.dec,I,some ⟨q,0⟩) G:=by
  intro b lo q tr we m f m1 m2 S0 S1 S2 L U hq c1 M Y S;have ql:=M.lt;refine aaY k.eu k.quo λo S4 p5 r5 A z5=>⟨_,rfl,A,?_⟩;exact t77 o lo q tr we m f (b.size+1) m1 m2 b.size S0 S1 S2 S4 (L.trans A) U hq c1 ω (M.ext A) (Y.ext A) p5 r5 S ω
 refine⟨?_,?_⟩
 ·refine K1 e4 k' λo tr we m f m1 m2 S0 S1 S2 v5 a2 a3 a4 A r0 r1 r2 l0 l1 l2 S=>⟨_,rfl,A,⟨?_,?_⟩⟩
  all_goals have ab:IE w.size o {c with vals:=E} V ⟨tr,we,m,f,0,0,0,0⟩ m1 m2 S0 S1 S2:=⟨v5,a2,a3,a4,r0,r1,r2,l0,l1,l2⟩
  all_goals have z5:=A.size
  ·refine aaY k.eu k.quo λx S4 N P n z6=>⟨_,rfl,n,⟨?_,?_⟩⟩
   ·refine aaZ k.ew k.quo λF S5 p7 r7 B z7=>⟨_,rfl,B,⟨?_,?_⟩⟩
    ·refine aa0 vp λG S6 p8 r8 x8=>⟨_,rfl,af λh9 v9 x9 s9=>⟨x9,?_⟩⟩;have z8:=x8.size;refine av (t:=Ym ⟨tr,we,m,f,o.size+1,x.size+1,F.size+1,0⟩) v9 rfl rfl λam v10 f10 a'=>?_;have Z:Ext G am:=ahG x9 f10 λi d=>ω;have y:=((((ab.ext n).ext B).ext x8).ext Z);obtain⟨r,pp,hS⟩:=p8;have ba:=pp.var.lt;refine al am w.size G.size tr we m f (o.size+1) (x.size+1) (F.size+1) m1 m2 o.size x.size F.size S0 S1 S2 S4 S5 S6 ((((A.trans n).trans B).trans x8).trans Z) (ahW _) v10 ?_ ω;exact⟨⟨y.var,y.tree,y.D9,y.ij,y.r0,y.r1,y.r2,y.l0,y.l1,y.l2⟩,((N.ext B).ext x8).ext Z,(p7.ext x8).ext Z,Tu.ext ⟨r,pp,hS⟩ Z,P,r7,r8,S,ω,ω⟩
    ·refine af λG v8 x8 s8=>⟨x8,?_⟩;exact t78 G w.size F.size tr we m f (o.size+1) (x.size+1) m1 m2 o.size x.size S0 S1 S2 S4 S5 (((A.trans n).trans B).trans x8) (ahW _) ω ω ω ω v8 (((ab.ext n).ext B).ext x8) ((N.ext B).ext x8) (p7.ext x8) P r7 S ω ω
   ·refine af λF v7 B s7=>⟨B,?_⟩;exact t77 F w.size x.size tr we m f (o.size+1) m1 m2 o.size S0 S1 S2 S4 ((A.trans n).trans B) (ahW _) ω ω ω v7 ((ab.ext n).ext B) (N.ext B) P S ω
  ·refine af λx v6 n s6=>⟨n,?_⟩;exact t76 x w.size o.size tr we m f m1 m2 S0 S1 S2 (A.trans n) (ahW _) ω ω v6 (ab.ext n) ω
 ·refine af λo v5 A s5=>⟨A,?_⟩;refine K1 (e4.ext A) k' λx tr we m f m1 m2 S0 S1 S2 v6 a5 a6 a7 n r0 r1 r2 l0 l1 l2 S=>⟨_,rfl,n,?_⟩;exact t76 x o.size w.size tr we m f m1 m2 S0 S1 S2 (A.trans n) A.size (ahW _) ω (v5.ext n) ⟨v6,a5,a6,a7,r0,r1,r2,l0,l1,l2⟩ S
end
end Gate
namespace Gate
open Board (Vd Cf jI av)
open Pool (It WL dD)
open Peers (Pe)
structure Pt where
 n:Int
 o:Int
 e:Int
 p:Int
 v:Int
 m:Int
def Pt.zero:Pt:=⟨0,0,0,0,0,0⟩
section
variable{R:Rq}{h h':aa}{g:Nat}{a:Ad}{c:Cf}{V:List Vd}{s:St}{Fp:Nat->Nat->Prop}{x y:Pt}
theorem IF(t:Tb)(i:Int):(nZ t i).2=(dU t i).isSome:=by
 unfold nZ;cases dU t i<;>rfl
theorem aQ.book(p:aQ h g a c V s Fp){K:Rq}(q:K (ahN (PT a.bk)).val h):Cl 32 [.ptr (PT g)] h K:=by
 apply Ag;delta Of;exact ahO ⟨_,p.var.ah rfl,q⟩
theorem aQ.early(p:aQ h g a c V s Fp){K:Rq}(q:K (ahN (PT a.wt)).val h):Cl 51 [.ptr (PT g)] h K:=by
 apply yo;delta Of;exact ahO ⟨_,p.var.ah rfl,q⟩
theorem aQ.adk(p:aQ h g a c V s Fp){K:Rq}(q:K (ahN (PT a.wh)).val h):Cl 52 [.ptr (PT g)] h K:=by
 apply yp;delta Of;exact ahO ⟨_,p.var.ah rfl,q⟩
theorem aQ.FG(p:aQ h g a c V s Fp){K:Rq}(q:K (ahN (PT a.tr)).val h):Cl 33 [.ptr (PT a.bk)] h K:=by
 apply ym;delta Of;exact ahO ⟨_,p.bk.ah rfl,q⟩
end
end Gate
namespace Gate
open Board (Vd Cf jI av uo)
open Pool (It WL dD)
open Peers (Pe)
section
variable{R:Rq}{h h':aa}{g:Nat}{a:Ad}{c:Cf}{V:List Vd}{s:St}{Fp:Nat->Nat->Prop}
def iL(s:St):Nd:=(dm s.N 0).1
theorem IG(p:aQ h g a c V s Fp)(q:∀h',Ext h h'->R (ahM [.bytes 32 (iL s).root,.i (iL s).slot]).val h'):Cl 116 [.ptr (PT g)] h R:=by
 apply yq;delta dH FW bu fU bK aT bh;refine af λz v1 k B=>?_;have e:=p.ext k;obtain⟨r,A,u,C⟩:=e.tree;refine⟨_,e.var.ah rfl,e.FG ⟨_,rfl,cL u λb f=>⟨_,_,_,_,rfl,?_⟩⟩⟩;refine af λD v w E=>av (t:=(iL s).tv) v rfl rfl λj v4 f4 F=>?_;have l:Ext b j:=ahG w f4 λi d=>aib (aic d);have G:=f.size;have m:Var 69 (Vc.keeps (·=b.size) j) b.size (iL s).tv:=v4.keeps (S:=(·=b.size)) rfl;refine⟨Vc.keeps (·=b.size) j,jq,(iL s).root,m.at.1,(iL s).slot,m.at.2.1,?_⟩;refine aH ((v1.ext f).ext l) (t:=.bytes 32 (iL s).root) uo λn x f5 H=>?_;have y:Ext h n:=ahG ((k.trans f).trans l) f5 λi d=>aib (aic d);exact⟨tV f5 (λi d o=>by have d:i=b.size:=d;have o:i=h.size:=o;omega),_,x.bytes,q n y⟩
def kL(c:Cf)(s:St)(kind slot:Int):Bool:=if kind=1 then Clock.Cs s.now (iL s).slot slot else Clock.xO s.now (Clock.eD c.win) slot
theorem Rz{m:Board.Ms}(p:aQ h g a c V s Fp)(n0:0<=s.now)(A:s.now<=1073741824)(q:∀h',Ext h h'->R (ahT (kL c s m.kind m.slot)).val h'):Cl 205 [.ptr (PT g),m.tv] h R:=by
 apply yt (PT g) m.kind m.slot m.target m.ax m.body m.bits m.tag;delta dh jw nT c7 aJ fU bK aT;refine af λr v1 d C=>?_;have b:=p.ext d;have l:=Clock.AZ c.win;refine⟨m.kind,v1.at.1,ahP (λe=>?_) λe=>?_⟩
 ·have f:m.kind≠1:=by simpa using e
  have j:kL c s m.kind m.slot=Clock.xO s.now (Clock.eD c.win) m.slot:=if_neg f;rw[j]at q;exact⟨_,b.var.ah rfl,m.slot,v1.at.2.1,Clock.Vl b.jL n0 A l.1 l.2 ⟨_,rfl,q r d⟩⟩
 ·have f:m.kind=1:=by simpa using e
  have j:kL c s m.kind m.slot=Clock.Cs s.now (iL s).slot m.slot:=if_pos f;rw[j]at q;refine IG b λu v=>⟨_,_,rfl,af λD w x E=>aH w (t:=.bytes 32 (iL s).root) uo λn v4 f4 F=>?_⟩;have y:Ext u n:=ahG x f4 λi z=>aib (aic z);have k:=v.trans y;have o:=b.ext k;have B:=v1.ext k;exact⟨_,o.var.ah rfl,m.slot,B.at.2.1,Clock.qQ o.jL ⟨_,rfl,q n (d.trans k)⟩⟩
def iM(v:Int):Int:=if v=4\/v=5 then 4 else if v=6\/v=9 then 1 else if v=7\/v=10 then 3 else if v=8 then 5 else 0
theorem Pv{v:Int}(A:R (TV.i (iM v)).val h):Cl 82 [.i v] h R:=by
 apply DU;delta dO bh;have go:∀n:Int,iM v=n->R (TV.i n).val h:=λn g=>by rw[<-g];exact A
 intro s o;refine ID (λe=>o _ h ?_) λe=>o _ h ?_
 ·rw[decide_eq_true e];exact ah1 (go 4 (if_pos (.inl e)))
 ·refine ID (λj=>go 4 (if_pos (.inr j))) λj=>?_;intro t p;have a:¬(v=4\/v=5):=λb=>b.elim e j;refine ID (λc=>p _ h ?_) λc=>p _ h ?_
  ·rw[decide_eq_true c];exact ah1 (go 1 (by unfold iM;rw[if_neg a,if_pos (.inl c)]))
  ·refine ID (λk=>go 1 (by unfold iM;rw[if_neg a,if_pos (.inr k)])) λk=>?_;have d:¬(v=6\/v=9):=λb=>b.elim c k;refine ID (λf=>?_) λf=>?_
   ·have r:=go 3 (by unfold iM;rw[if_neg a,if_neg d,if_pos (.inl f)]);exact ID (λ_=>r) λg=>absurd f g
   ·refine ID (λl=>go 3 (by unfold iM;rw[if_neg a,if_neg d,if_pos (.inr l)])) λl=>?_;have q:¬(v=7\/v=10):=λb=>b.elim f l;exact ID (λm=>go 5 (by unfold iM;rw[if_neg a,if_neg d,if_neg q,if_pos m])) λm=>go 0 (by unfold iM;rw[if_neg a,if_neg d,if_neg q,if_neg m])
end
end Gate
namespace Gate
open Board (Vd Cf jI av uo)
open Pool (It WL dD has iX)
open Peers (Pe)
section
variable{R:Rq}{h h':aa}{g:Nat}{a:Ad}{c:Cf}{V:List Vd}{s:St}{Fp:Nat->Nat->Prop}
theorem adl{l:Go.Vc.Loc}:fG Tryz.prog h 84 (ahN (some l)).val "Len" 83 (ahN (some l)).val:=zb bI (e:=172) κ κ iX κ
theorem adm{l:Go.Vc.Loc}:fG Tryz.prog h 84 (ahN (some l)).val "Has" 37 (ahN (some l)).val:=zb bI (e:=172) κ κ iX κ
theorem e_len{l:Go.Vc.Loc}:fG Tryz.prog h 97 (ahN (some l)).val "Len" 84 (ahN (some l)).val:=zb bI (e:=212) κ κ iX κ
theorem adn{l:Go.Vc.Loc}:fG Tryz.prog h 97 (ahN (some l)).val "Has" 371 (ahN (some l)).val:=zb bI (e:=212) κ κ iX κ
theorem MG(r:Bs 32):has r []=false:=rfl
def kN(s:St)(kind:Int)(r:Bs 32):Bool:=if kind=1 then decide (0<=place r s.N)||has r s.kids else has r s.wait
theorem RA{m:Board.Ms}{r:Bs 32}(p:aQ h g a c V s Fp)(q:∀h',Ext h h'->R (ahT (kN s m.kind r)).val h'):Cl 207 [.ptr (PT g),m.tv,.bytes 32 r] h R:=by
 apply yu (PT g) m.kind m.slot m.target m.ax m.body m.bits m.tag;delta dZ Xd dh jZ jw bO cV bV i_ bu aJ bK aT mN;refine af λG v1 E H=>af λj k w I=>?_;have d:=E.trans w;have b:=p.ext d;have l:=v1.ext w;obtain⟨J,A,F,K⟩:=b.tree;obtain⟨L,M,x,N⟩:=b.kids;obtain⟨O,P,y,Q⟩:=b.wait;have z:∀{B:List It},¬((0:Int)<(B.length:Int))->B=[]:=λi=>List.eq_nil_of_length_eq_zero ω;refine⟨_,b.var.ah rfl,?_⟩;intro S C;refine⟨m.kind,l.at.1,ID (λf=>?_) λf=>?_⟩
 ·refine⟨_,b.var.ah rfl,C _ j ?_⟩;have n:kN s m.kind r=(decide (0<=place r s.N)||has r s.kids):=if_pos f;rw[n]at q;refine⟨m.kind,l.at.1,ID (λ_=>?_) λi=>absurd f i⟩;refine⟨_,b.var.ah rfl,r,k.bytes,b.FG ⟨_,rfl,ahQ _,dx F λD e=>⟨_,rfl,?_⟩⟩⟩;refine ID (λo=>?_) λo=>?_
  ·have:=q D (d.trans e);rw[decide_eq_true o,Bool.true_or]at this;exact this
  ·rw[decide_eq_false o,Bool.false_or]at q;refine⟨_,_,_,_,rfl,adl,Pool.U1 (x.ext e) ⟨_,rfl,?_⟩⟩;refine ID (λ_=>⟨r,(k.ext e).bytes,_,_,_,_,rfl,adm,Pool.UZ (x.ext e) λt u=>⟨_,rfl,q t ((d.trans e).trans u)⟩⟩) λv=>?_;have:=q D (d.trans e);rw[z v,MG]at this;exact this
 ·have n:kN s m.kind r=has r s.wait:=if_neg f;rw[n]at q;refine C _ j ⟨m.kind,l.at.1,ID (λi=>absurd i f) λ_=>?_⟩;refine⟨_,_,_,_,rfl,e_len,Pool.U2 y ⟨_,rfl,?_⟩⟩;refine ID (λ_=>⟨r,k.bytes,_,_,_,_,rfl,adn,Pool.U0 y λt u=>⟨_,rfl,q t (d.trans u)⟩⟩) λv=>?_;have:=q j d;rw[z v,MG]at this;exact this
end
end Gate
namespace Board
noncomputable def yw(slot:Int)(n:Nat):List Int:=(sorted slot n).map gA.who
theorem EY(slot:Int)(n:Nat):(yw slot n).Perm ((aiS n).map λ(i:Nat)=>(i:Int)):=by
 have:=(sorted_perm slot n).map gA.who;unfold QZ at this;rw[ah3]at this;exact this
theorem RB(slot:Int)(n:Nat):(yw slot n).Nodup:=by
 rw[(EY slot n).nodup_iff];exact List.Pairwise.map _ (λa b(h:a≠b)=>ω) List.nodup_range
theorem Yo{slot:Int}{n:Nat}{x:Int}(h:x∈yw slot n):0<=x/\x<n:=by
 have:=(EY slot n).mem_iff.1 h;obtain⟨i,a,rfl⟩:=ahK.1 this;have:=List.mem_range.1 a;omega
theorem Pw(slot:Int)(n:Nat):(yw slot n).length=n:=by rw[(EY slot n).length_eq];simp
theorem Yp{n:Nat}{aN slot:Int}(q:0<=slot)(A:slot<=1073741824):mem n aN slot=(yw slot n).take (min (max aN 0) (n:Int)).toNat:=by
 unfold mem yw;rw[if_neg ω,List.map_take]
theorem Tv{n:Nat}{aN slot:Int}(h:slot<0\/1073741824<slot):mem n aN slot=[]:=by
 unfold mem;rw[if_pos h]
theorem Tw:∀(l:List Int)(k x:Int),x∉l->idx l x k=-1
 |[],_,_,_=>rfl
 |y::q,k,x,h=>by
  rw[idx,if_neg (λe=>h (by rw[e];exact aiV ..)),Tw q _ x (λa=>h (aiM _ a))]
section
variable{R:Rq}{h:aa}{c:Cf}
theorem ri{b:Nat}(v:Var 24 h b c.tv){K:Sl->Int->Int->Int->Int->Int->Int->Int->Int->Int->Int->Int->Prop}(U:K c.vals c.ep c.aN c.no c.eu c.ew c.quo c.pe c.gY c.win c.bD c.dec):
 ∃(s:Sl),∃(n q A B E G H I J M O:Int),(ah h b 0 (aW s)/\ah h b 1 (.i n)/\ah h b 2 (.i q)/\ah h b 3 (.i A)/\ah h b 4 (.i B)/\ah h b 5 (.i E)/\ah h b 6 (.i G)/\ah h b 7 (.i H)/\
  ah h b 8 (.i I)/\ah h b 9 (.i J)/\ah h b 10 (.i M)/\ah h b 11 (.i O))/\K s n q A B E G H I J M O:=
 ⟨c.vals,c.ep,c.aN,c.no,c.eu,c.ew,c.quo,c.pe,c.gY,c.win,c.bD,c.dec,v.at,U⟩
end
end Board
namespace Board
section
variable{R:Rq}{h:aa}
def xv(c x:Int):Int:=ahU .u8 ((BitVec.ofInt (IntKind.bits .u8) c^^^BitVec.ofInt (IntKind.bits .u8) x).toNat:Int)
def xb(c:UInt8)(x:Int):UInt8:=UInt8.ofNat (xv (c.toNat:Int) x).toNat
def Gl(key:LU):Bs 64:=⟨(key++aiw 64 0).take 64,by simp⟩
def g_(key:LU)(x:Int):LU:=(aiS 64).map λi=>xb (ee (Gl key) i) x
theorem FH(key:LU)(x:Int):(g_ key x).length=64:=by simp[g_]
theorem IJ{key:LU}{x:Int}(q:key.length<=64)(A:∀j,Ext h j->R (ah2 (g_ key x)).val j):Cl 328 [.str key,.int .u8 x] h R:=by
 apply JJ;delta aG gu QK c5 Uj fC eE;refine af λa v1 k D=>⟨?_,?_⟩
 ·intro u;cases u
 rintro l v;obtain rfl:l=⟨h.size,0⟩:=(Option.some.inj v).symm;have w:Nat.min key.length (aA (ah0 (some (Vc.Loc.mk h.size 0)) 64 64) 0 64 1).len=key.length:=Nat.min_eq_left q;rw[w,aif];have y:(ahZ 64 (ahH 64)).cells.length=64:=by rw[TV.ai];rfl
 have g:=iO (key.map λc=>aiu .u8 (c.toNat:Int)) a h.size 0 _ 407 v1 (by rw[ahJ,y];omega);refine⟨v1.gi (by show 0+key.length<=64;omega),?_⟩
 have m:Var 407 (rE a h.size 0 (key.map λc=>aiu .u8 (c.toNat:Int))) h.size (.bytes 64 (Gl key)):=by
  unfold Var;rw[g.1];congr 2;simp only[TV.cells,Gl,ahH,List.take_zero,List.nil_append,ahJ,Nat.zero_add,List.map_take,ah5,List.map_replicate];rw[List.take_append,aiy (by rw[ahJ];exact q),List.take_replicate,List.drop_replicate,ahJ];congr 2;omega
 have p:Ext h (rE a h.size 0 (key.map λc=>aiu .u8 (c.toNat:Int))):=by
  refine⟨by rw[g.2.1];exact k.size,λb d=>?_⟩;rw[g.2.2 b ω];exact k.same b d
 refine Z9 ?_;generalize(rE a h.size 0 (key.map λc=>aiu .u8 (c.toNat:Int)))=z at m p⊢;refine⟨λi r=>0<=i/\i<=64/\ag (·=h.size) z r/\Var 407 r h.size (.bytes 64 (j7 (λi=>xb (ee (Gl key) i) x) (Gl key) i.toNat)),λi _=>((64:Int)-i).toNat,⟨ahR 0,δ,aiz _ _,m⟩,?_⟩;rintro i B ⟨s,E,f3,e⟩;refine ID (λf=>?_) λf=>?_
 ·have d:=gP e (i:=i.toNat) ω;rw[kU _ _ _ _ ω,if_neg ω]at d;have t:0<=xv ((ee (Gl key) i.toNat).toNat:Int) x/\xv ((ee (Gl key) i.toNat).toNat:Int) x<256:=aO _;refine⟨s,f,_,d,s,f,?_⟩;refine j3 e (i:=i.toNat) (o:=0+i.toNat*1) ω ω t.1 t.2 λF v4 f4 G=>?_;rw[wrap_i64 (n:=i+1) ω ω];refine⟨⟨ω,ω,f3.trans f4,?_⟩,by dsimp only;omega⟩;rw[show(i+1).toNat=i.toNat+1 by omega];exact v4
 ·have C:i.toNat=64:=ω;rw[C]at e;refine⟨_,vN e,?_⟩;rw[Z8];exact A B (ahG p f3 λi f=>ω)
def K5(r:Bs 32):Bs 16:=⟨r.l.take 16,by rw[ahY,r.h];rfl⟩
def oZ(key s:LU):Bs 32:=k_ (g_ key 54++s)
def EZ(key s:LU):Bs 16:=K5 (k_ (g_ key 92++(oZ key s).l))
theorem Px{T:TypeId}{b:Nat}{x:Bs 32}(v:Var T h b (.bytes 32 x)):ay h b 0 16 (K5 x):=by
 intro j a;have:=v.bytes j ω;rw[this];simp only[K5,aij,List.getElem?_take,if_pos a]
theorem RC{key:LU}{s:Sl}{ts:List (LU)}(A:key.length<=64)(e:ak 1 h s (ts.map ah2))(G:ts.flatten.length<100000)(ac:ts.length<10000)
 (Z:∀f,Ext h f->R (ahZ 16 (EZ key ts.flatten)).val f):Cl 293 [.str key,.slice s] h R:=by
 apply MW;delta dz jg aG HH gu HF dH nT Og iJ JB pV dI c4 iI fC fU bK eE;refine af λz v1 H X=>?_;intro B p;refine ID (λad=>ω) λ_=>p key z ?_;clear p B;refine IJ A λw I=>⟨_,rfl,?_⟩;have J:=ahL w (row (ahI [ah2 (g_ key 54)]) 9);have Y:ak 1 (w.push (row (ahI [ah2 (g_ key 54)]) 9)) s (ts.map ah2):=((e.ext H).ext I).ext J;refine⟨_,Y.cells (λu q=>by obtain⟨t,_,rfl⟩:=ahK.1 q;rfl) δ,aj.lK (λu q=>by obtain⟨t,_,rfl⟩:=ahK.1 q;rfl),?_⟩
 have o2:=aii (T:=9) (sz:=1) w [ah2 (g_ key 54)] (λt K=>by
  simp only[ah4,List.not_mem_nil,or_false]at K;subst K;rfl)
 have L:=e.len;rw[ahJ]at L;rw[<-L,show ts.length=(ts.map ah2).length from(ahJ _).symm];refine HQ aaT XK (by rw[Mx];decide) δ (by rw[Mx,ahJ];show(1+_)*16<=_;omega) o2 (λu q=>by obtain⟨t,_,rfl⟩:=ahK.1 q;rfl) λs3 M o3 f3 b3=>?_
 have x3:Ext w M:=ahG J f3 λi k=>by
  obtain⟨l,G,rfl⟩:=k;obtain rfl:=Option.some.inj G;exact ahW _
 have e3:ak 1 M s3 ((g_ key 54::ts).map ah2):=o3.elems;refine nV (ts:=g_ key 54::ts) e3 ?_ (by rw[aio];omega) λh4 x4=>⟨oZ key ts.flatten,rfl,?_⟩
 ·rw[List.flatten_cons,ahX,FH];omega
 refine af λh5 v5 x5 s5=>aH v5 (t:=.bytes 32 (oZ key ts.flatten)) uo λo v6 f6 s6=>?_;have x6:Ext h4 o:=ahG x5 f6 λi k=>ω;have Kh:Ext z o:=((I.trans x3).trans x4).trans x6;intro B p;have ae:z.size=h.size+1:=X;have N:[g_ key 92,(oZ key ts.flatten).l].flatten=g_ key 92++(oZ key ts.flatten).l:=by simp
 have x:[g_ key 92,(oZ key ts.flatten).l].flatten.length<700000:=by
  rw[N,ahX,FH,(oZ key ts.flatten).h];decide
 have y:∀(O P:LU)(Q:Sl)(S:LU)(U:Sl)(V:Bs 32)(f:aa)(b:Nat),Ext o f->o.size<=b->Var 52 f b (.bytes 32 (k_ [g_ key 92,(oZ key ts.flatten).l].flatten))->B (O,P,Q,S,U,V,some ⟨b,0⟩) f:=by
  intro O P Q S U V f b W hb hv;refine p _ f ⟨δ,δ,ahW 16,?_⟩;rw[show(aA (ah0 (some (Vc.Loc.mk b 0)) 32 32) 0 (Int.toNat 16) 1).a=some ⟨b,0⟩from rfl];refine⟨K5 (k_ [g_ key 92,(oZ key ts.flatten).l].flatten),Px hv,?_⟩;have ab:Var 56 f h.size (.bytes 16 (ahH 16)):=v1.ext (Kh.trans W);refine aH ab (t:=.bytes 16 (K5 (k_ [g_ key 92,(oZ key ts.flatten).l].flatten))) uo λm C f7 s7=>⟨_,C.bytes,?_⟩;have:=Z m (ahG ((H.trans Kh).trans W) f7 λi k=>ω);rw[N];exact this
 clear p;refine⟨(oZ key ts.flatten).l,vN v6,?_,?_⟩
 ·refine IJ A λm g=>⟨_,rfl,g,⟨?_,?_⟩,?_⟩
  ·refine nV (ts:=[g_ key 92,(oZ key ts.flatten).l]) (mS (T:=9) m [g_ key 92,(oZ key ts.flatten).l]) x (by simp) λd c=>⟨_,rfl,?_⟩;refine af λr v9 j s9=>⟨j,aH v9 (t:=.bytes 32 (k_ [g_ key 92,(oZ key ts.flatten).l].flatten)) uo λD v10 f10 E=>?_⟩;have n:Ext o d:=(g.trans (ahL m _)).trans c;exact y _ _ _ _ _ _ _ d.size (ahG (n.trans j) f10 λi k=>by have:=n.size;omega) n.size v10
  ·refine af λd F c s8=>⟨c,?_⟩;refine nV (ts:=[g_ key 92,(oZ key ts.flatten).l]) ((mS (T:=9) m [g_ key 92,(oZ key ts.flatten).l]).ext c) x (by simp) λr j=>⟨_,rfl,?_⟩;refine aH (F.ext j) (t:=.bytes 32 (k_ [g_ key 92,(oZ key ts.flatten).l].flatten)) uo λD v10 f10 E=>?_;have n:Ext o (m.push (row (ahI ([g_ key 92,(oZ key ts.flatten).l].map ah2)) 9)):=g.trans (ahL m _);exact y _ _ _ _ _ _ _ _ (ahG ((n.trans c).trans j) f10 λi k=>by have:=n.size;rw[k];exact this) n.size v10
  ·refine af λd F c s8=>⟨c,?_⟩;refine nV (ts:=[g_ key 92,(oZ key ts.flatten).l]) (mS (T:=9) d [g_ key 92,(oZ key ts.flatten).l]) x (by simp) λr j=>⟨_,rfl,?_⟩;have v:Ext d r:=(ahL d _).trans j;refine aH (F.ext v) (t:=.bytes 32 (k_ [g_ key 92,(oZ key ts.flatten).l].flatten)) uo λD v10 f10 E=>?_;exact y _ _ _ _ _ _ _ _ (ahG ((g.trans c).trans v) f10 λi k=>by have:=g.size;omega) g.size v10
 ·refine af λm C g s7=>⟨g,?_⟩;refine IJ A λd c=>⟨_,rfl,c,?_⟩;refine nV (ts:=[g_ key 92,(oZ key ts.flatten).l]) (mS (T:=9) d [g_ key 92,(oZ key ts.flatten).l]) x (by simp) λr j=>⟨_,rfl,?_⟩;have v:Ext d r:=(ahL d _).trans j;refine aH ((C.ext c).ext v) (t:=.bytes 32 (k_ [g_ key 92,(oZ key ts.flatten).l].flatten)) uo λD v10 f10 E=>?_;exact y _ _ _ _ _ _ _ _ (ahG ((g.trans c).trans v) f10 λi k=>ω) (ahW _) v10
def Kh(a t:Bs 16):Bs 16:=j7 (λj=>xb (ee a j) ((ee t j).toNat:Int)) a 16
def eH:List (Bs 16)->Bs 16->Bs 16
 |[],a=>a
 |t::ts,a=>eH ts (Kh a t)
theorem Cy:∀(ts:List (Bs 16))(t a:Bs 16),eH (ts++[t]) a=Kh (eH ts a) t
 |[],_,_=>rfl
 |u::ts,t,a=>by show eH (ts++[t]) _=_;rw[Cy ts t];rfl
abbrev tags(l:List (Bs 16)):List TV:=l.map (ahZ 16)
theorem Vp{s:Sl}{ts:List (Bs 16)}(e:ak 16 h s (tags ts))(U:ts.length<1000000)(A:∀p,Ext h p->R (ahZ 16 (eH ts (ahH 16))).val p):Cl 295 [.slice s] h R:=by
 apply II;delta aG gU Og pV QK c5 bN;have z:=e.len;rw[ahJ]at z;refine af λa v1 q S=>af λB C g T=>?_;have V:h.size<a.size:=ω;refine⟨λi b=>0<=i/\i<=ts.length/\ag (·=a.size) B b/\Var 56 b a.size (.bytes 16 (eH (ts.take i.toNat) (ahH 16))),λi _=>((ts.length:Int)-i).toNat,⟨ahR 0,ω,aiz _ _,C⟩,?_⟩;rintro i c ⟨D,W,f3,k⟩;have E:ak 16 c s (tags ts):=e.ext (ahG (q.trans g) f3 λi d=>ω);refine ID (λd=>?_) λd=>?_
 ·refine E.read D ω λl t X r F=>?_;rw[ah6]at r;obtain⟨t',G,rfl⟩:=aiW.1 r;refine⟨t',F,?_⟩;refine af λu v4 H I=>aH v4 (t:=.bytes 16 t') uo λv J f5 Y=>?_;have w:Ext c v:=ahG H f5 λi d=>ω;have Z:=f3.size;have b3:a.size<c.size:=ω;refine⟨λj b=>0<=j/\j<=16/\ag (·=a.size) v b/\Var 56 b a.size (.bytes 16 (j7 (λj=>xb (ee (eH (ts.take i.toNat) (ahH 16)) j) ((ee t' j).toNat:Int)) (eH (ts.take i.toNat) (ahH 16)) j.toNat)),λj _=>((16:Int)-j).toNat,⟨ahR 0,δ,aiz _ _,k.ext w⟩,?_⟩;rintro j K ⟨m,j1,f6,v6⟩;have L:Var 56 K c.size (.bytes 16 t'):=J.only f6 ω;refine ID (λf=>?_) λf=>?_
  ·have x:=gP v6 (i:=j.toNat) ω;rw[kU _ _ _ _ ω,if_neg ω]at x;have M:=gP L (i:=j.toNat) ω;have y:0<=xv ((ee (eH (ts.take i.toNat) (ahH 16)) j.toNat).toNat:Int) ((ee t' j.toNat).toNat:Int)/\xv ((ee (eH (ts.take i.toNat) (ahH 16)) j.toNat).toNat:Int) ((ee t' j.toNat).toNat:Int)<256:=aO _;refine⟨m,f,_,x,m,f,_,M,m,f,?_⟩;refine j3 v6 (i:=j.toNat) (o:=0+j.toNat*1) ω ω y.1 y.2 λh7 N f7 s7=>?_;rw[wrap_i64 (n:=j+1) ω ω];refine⟨⟨ω,ω,f6.trans f7,?_⟩,by dsimp only;omega⟩;rw[show(j+1).toNat=j.toNat+1 by omega];exact N
  ·have O:j.toNat=16:=ω;rw[O]at v6;rw[wrap_i64 (n:=i+1) ω ω];refine⟨⟨ω,ω,(f3.trans ((air w).mono (λ_ h=>h))).trans f6,?_⟩,by dsimp only;omega⟩;rw[show(i+1).toNat=i.toNat+1 by omega,bq G,Cy];exact v6
 ·have P:ts.take i.toNat=ts:=aiy ω;rw[P]at k;have Q:Var 56 c h.size (.bytes 16 (ahH 16)):=(v1.ext g).only f3 ω;refine⟨_,k.bytes,aH Q (t:=.bytes 16 (eH ts (ahH 16))) uo λu v4 f4 I=>⟨_,v4.bytes,?_⟩⟩;refine A u (ahG (ahG (q.trans g) f3 λi d=>ω) f4 λi d=>ω)
end
end Board
namespace Board
section
variable{R:Rq}{h:aa}
def Ah(m:Ms)(who:Int):Ms:=if m.kind=3 then⟨2,m.slot,m.target,who,0,ahS,ahH 16⟩else m
def Cz(m:Ms)(row:List Bool):List Bool:=if m.kind=3 then[]else row
theorem Yq{m:Ms}{who:Int}(q:∀f,Ext h f->R (Ah m who).tv.val f):Cl 294 [m.tv,.i who] h R:=by
 apply IK m.kind m.slot m.target m.ax m.body m.bits m.tag who;delta dh dW bu aJ;refine af λn v1 g w=>af λj a b x=>?_;have l:Var 58 j h.size m.tv:=v1.ext b;have a:Var 58 j n.size aU.tv:=a;have o:=l.at;obtain⟨p,r,s,y,z,A,B⟩:=o;refine⟨_,p,ID (λk=>⟨_,r,_,s,?_⟩) λk=>aZ l ?_⟩
 ·have c:Ah m who=⟨2,m.slot,m.target,who,0,ahS,ahH 16⟩:=if_pos k;refine av a (t:=(Ms.mk 2 m.slot m.target who 0 ahS (ahH 16)).tv) ck eZ λd e f3 u=>?_;refine aZ (m:=Ms.mk 2 m.slot m.target who 0 ahS (ahH 16)) e ?_;have:=q d (ahG (g.trans b) f3 λi v=>ω);rw[c]at this;exact this
 ·have c:Ah m who=m:=if_neg k;refine av a (t:=m.tv) ck eZ λd e f3 u=>?_;refine aZ e ?_;have:=q d (ahG (g.trans b) f3 λi v=>ω);rw[c]at this;exact this
noncomputable def aR(n:Nat)(aN:Int)(m:Ms)(row:List Bool):List Int×Bool:=
 if dn m row=false then([],false)
 else if m.kind=3 then(if mem n aN m.slot=[]\/row.length≠(mem n aN m.slot).length then([],false)else(pk (mem n aN m.slot) row,true))
 else if m.kind=1/\sA (mem n aN m.slot)≠m.ax then([],false)
 else if idx (mem n aN m.slot) m.ax 0<0 then([],false)else([m.ax],true)
theorem Py(h:aa):ak 1 h ahS (ints []):=ak.y_ 1 h
theorem Pz(h:aa)(x:Int):ak 1 (h.push (Vc.row (ahI [TV.i x]) 3)) ⟨some ⟨h.size,0⟩,1,1⟩ (ints [x]):=
 (aii (T:=3) (sz:=1) h [TV.i x] (λt a=>by
  simp only[ah4,List.not_mem_nil,or_false]at a;subst a;rfl)).elems
theorem CA{c:Cf}{m:Ms}{row:List Bool}(A:c.vals.len<900)(e:ak 1 h m.bits (aP row))(M:row.length<100000)
 (B:∀f G,ak 1 f G (ints (aR c.vals.len c.aN m row).1)->Ext h f->R (ahM [.slice G,.bool (aR c.vals.len c.aN m row).2]).val f):Cl 170 [c.tv,m.tv] h R:=by
 apply Bx c.vals c.ep c.aN c.no c.eu c.ew c.quo c.pe c.gY c.win c.bD c.dec m.kind m.slot m.target m.ax m.body m.bits m.tag;delta dh Xa SN dW mO Uk dI sN aJ aT eE;refine af λq v1 L X=>af λN r H Y=>?_;have v1:Var 24 q h.size c.tv:=v1;have r:Var 58 N q.size m.tv:=r;have I:=L.trans H;refine aZ r (Ia (e.ext I) M λo y=>⟨_,rfl,?_⟩);have j:=I.trans y;have s:Var 24 o h.size c.tv:=(v1.ext H).ext y;have O:Var 58 o q.size m.tv:=r.ext y;have P:=O.at;obtain⟨J,t,Z,u,a4,Q,a6⟩:=P
 have w:∀f,Ext h f->aR c.vals.len c.aN m row=([],false)->R (ahM [.slice ahS,.bool false]).val f:=λf x g=>by
  have:=B f ahS (by rw[g];exact Py f) x;rw[g]at this;exact this
 refine ahP (λb=>w o j ?_) λb=>⟨_,J,ID (λl=>?_) λl=>⟨_,J,?_⟩⟩
 ·unfold aR;rw[if_pos (by simpa using b)]
 ·have b:¬dn m row=false:=by simpa using b
  refine ri s ⟨_,t,_,Q,?_⟩;refine EF (c:=c) A (e.ext j) (λd a z=>⟨_,_,rfl,w d (j.trans a) ?_⟩) λd S T a U V=>⟨_,_,rfl,?_⟩
  ·unfold aR;rw[if_neg b,if_pos l,if_pos z]
  ·have g:aR c.vals.len c.aN m row=(pk (mem c.vals.len c.aN m.slot) row,true):=by
    unfold aR;rw[if_neg b,if_pos l,if_neg (λk=>k.elim U (λk=>k V))]
   have:=B d S (by rw[g];exact T.elems) (j.trans a);rw[g]at this;exact this
 ·have b:¬dn m row=false:=by simpa using b
  have last:∀d,Ext o d->(¬(m.kind=1/\sA (mem c.vals.len c.aN m.slot)≠m.ax))->Cl 235 [c.tv,.i m.slot,.i m.ax] d λv h=>∃(n:Int),v=aiA (TV.i n)/\If (decide (n<0)) (R (aiA (ahM [ah9 ahS,ahT false])) h) (∃(n:Int),ah h q.size 34 (.i n)/\R (aiA (ahM [ah9 (ah0 (some (Vc.Loc.mk h.size 0)) 1 1),ahT true])) (h.push (Vc.row (ahI [TV.i n]) 3))):=by
   intro d a K;refine Q0 (c:=c) A λC D=>⟨_,rfl,ID (λE=>w C ((j.trans a).trans D) ?_) λE=>⟨m.ax,lI D (lI a u),?_⟩⟩
   ·unfold aR;rw[if_neg b,if_neg l,if_neg K,if_pos E]
   ·have g:aR c.vals.len c.aN m row=([m.ax],true):=by
     unfold aR;rw[if_neg b,if_neg l,if_neg K,if_neg E]
    have:=B _ ⟨some ⟨C.size,0⟩,1,1⟩ (by rw[g];exact Pz C m.ax) (((j.trans a).trans D).trans (ahL _ _));rw[g]at this;exact this
  refine ID (λF=>?_) λF=>?_
  ·refine ri s ⟨_,t,_,u,?_⟩;refine JD (c:=c) A λd a=>⟨_,rfl,a,?_⟩;have W:=s.ext a;refine ahP (λp=>ahP (λp=>w d (j.trans a) ?_) λz=>absurd p (by rw[z];decide)) λp=>?_
   ·unfold aR;rw[if_neg b,if_neg l,if_pos ⟨F,by simpa using p⟩]
   ·refine ri W ⟨_,lI a t,_,lI a u,?_⟩;exact last d a λk=>k.2 (by simpa using p)
  ·refine ri s ⟨_,t,_,u,?_⟩;exact last o (ahQ _) λk=>F k.1
theorem RD:∀(l:List Int)(row:List Bool)(x:Int),x∈pk l row->x∈l
 |[],_,x,h=>by simp[pk]at h
 |_::_,[],x,h=>by simp[pk]at h
 |y::l,b::row,x,h=>by
  unfold pk at h;split at h
  ·rcases ah4.1 h with q|q
   ·exact ah4.2 (.inl q)
   ·exact ah4.2 (.inr (RD l row x q))
  ·exact ah4.2 (.inr (RD l row x h))
theorem mem_range{n:Nat}{aN slot x:Int}(h:x∈mem n aN slot):0<=x/\x<n:=by
 by_cases a:slot<0\/1073741824<slot
 ·rw[Tv a]at h;cases h
 ·rw[Yp ω ω]at h;exact Yo (List.mem_of_mem_take h)
theorem E1{n:Nat}{aN:Int}{m:Ms}{row:List Bool}{x:Int}(h:x∈(aR n aN m row).1):x∈mem n aN m.slot:=by
 unfold aR at h;split at h
 ·cases h
 ·split at h
  ·split at h
   ·cases h
   ·exact RD _ _ _ h
  ·split at h
   ·cases h
   ·split at h
    ·cases h
    ·rename_i a;simp only[aiB]at h;subst h;apply aiF;intro b;rw[Tw _ _ _ b]at a;exact a δ
theorem qz{n:Nat}{aN:Int}{m:Ms}{row:List Bool}:(aR n aN m row).1.length<=n+1:=by
 have c:∀(l:List Int)(row:List Bool),(pk l row).length<=l.length:=by
  intro l
  induction l with
  |nil=>intro row;simp[pk]
  |cons y l a=>
   intro row;cases row with
   |nil=>simp[pk]
   |cons b row=>
    unfold pk;split
    ·simp[a row]
    ·have:=a row;simp;omega
 unfold aR;split
 ·simp
 ·split
  ·split
   ·simp
   ·have:=c (mem n aN m.slot) row;have:=qS n aN m.slot;show(pk _ _).length<=_;omega
  ·split
   ·simp
   ·split<;>simp
end
end Board
namespace Board
section
variable{R:Rq}{h:aa}
def DV(L:List Vd)(i:Int):LU:=(L.getD i.toNat ⟨0,[]⟩).key
def rW(L:List Vd)(m:Ms)(row:List Bool)(i:Int):Bs 16:=EZ (DV L i) (c8 (Ah m i) (Cz m row))
noncomputable def lg(n:Nat)(aN:Int)(L:List Vd)(m:Ms)(row:List Bool):Bs 16×Bool:=
 if(aR n aN m row).2=true then(eH ((aR n aN m row).1.map (rW L m row)) (ahH 16),true)else(ahH 16,false)
theorem GJ:(ctx.ti 56).bytes=16:=κ
theorem Yr:(ctx.ti 56).size=16:=κ
theorem Tx:(ctx.ti 56).z.size=16:=κ
theorem Vq{m:Ms}{row:List Bool}{q:aa}(e:ak 1 q m.bits (aP row))(who:Int):ak 1 q (Ah m who).bits (aP (Cz m row)):=by
 unfold Ah Cz;split
 ·exact ak.y_ 1 q
 ·exact e
theorem Ys(m:Ms)(row:List Bool):(Cz m row).length<=row.length:=by
 unfold Cz;split<;>simp
theorem Yt{c:Cf}{m:Ms}{row:List Bool}{L:List Vd}(hv:c.vals.len<900)(H:ak 2 h c.vals (jI L))(ab:∀v∈L,v.key.length<=64)(e:ak 1 h m.bits (aP row))(hl:row.length<500)
 (I:∀J,Ext h J->R (ahM [.bytes 16 (lg c.vals.len c.aN L m row).1,.bool (lg c.vals.len c.aN L m row).2]).val J):Cl 264 [c.tv,m.tv] h R:=by
 apply IL c.vals c.ep c.aN c.no c.eu c.ew c.quo c.pe c.gY c.win c.bD c.dec m.kind m.slot m.target m.ax m.body m.bits m.tag;delta fK jg dh HF Oi dW pV jT dL dI fJ bN aT eE;have lv:L.length=c.vals.len:=by have:=H.len;rwa [ahJ]at this
 refine af λh1 v1 z s1=>af λh2 k o s2=>af λK v3 A s3=>?_;have v1:Var 24 K h.size c.tv:=(ah8 (t:=c.tv) v1 o).ext A;have k:Var 58 K h1.size m.tv:=ah8 (t:=m.tv) k A;have M:=(z.trans o).trans A;refine ri v1 (aZ k (CA hv (e.ext M) ω λB N D q=>⟨_,_,rfl,?_⟩));have r:=M.trans q;have w1:=v1.ext q;have w2:=k.ext q;have O:=v3.ext q;refine ahP (λd=>?_) λd=>?_
 ·have s:lg c.vals.len c.aN L m row=(ahH 16,false):=by
   unfold lg;rw[if_neg (by simpa using d)]
  refine av O (t:=.bytes 16 (ahH 16)) rfl rfl λu v5 f5 s5=>⟨_,v5.bytes,?_⟩;have:=I u (ahG r f5 λi P=>by have:=z.size;have:=o.size;omega);rw[s]at this;exact this
 ·have d:(aR c.vals.len c.aN m row).2=true:=by simpa using d
  have s:lg c.vals.len c.aN L m row=(eH ((aR c.vals.len c.aN m row).1.map (rW L m row)) (ahH 16),true):=by
   unfold lg;rw[if_pos d]
  have Q:∀x∈(aR c.vals.len c.aN m row).1,0<=x/\x<c.vals.len:=λx w=>mem_range (E1 w);have ac:=qz (n:=c.vals.len) (aN:=c.aN) (m:=m) (row:=row);generalize(aR c.vals.len c.aN m row).1=l at D s Q ac;have el:=jA D
  refine⟨λσ S=>0<=σ.2/\σ.2<=N.len/\Own 56 16 S σ.1 (tags ((l.take σ.2.toNat).map (rW L m row)))/\(∀p,σ.1.a=some p->B.size<=p.b)/\Ext B S,λσ _=>((N.len:Int)-σ.2).toNat,
   ⟨ahR 0,Ω,aik _ _ _,(λp f=>by cases f),ahQ _⟩,?_⟩
  rintro⟨t,i⟩ u ⟨U,i1,y,E,a⟩;dsimp only at U i1 y E a⊢;refine ID (λP=>?_) λP=>?_
  ·refine gX (D.ext a) U ω λx w=>?_;have ad:=Q x (aim w);refine⟨c.vals,(w1.ext a).at.1,?_⟩;refine((H.ext r).ext a).read ad.1 ω λaE tv a0 V ae=>?_;rw[ah6]at V;obtain⟨g,W,rfl⟩:=aiW.1 V;have al:DV L x=g.key:=by unfold DV;rw[aij,W];rfl
   have am:=ab g (aim W);refine⟨g.key,ae.2,aZ (w2.ext a) ?_⟩;have e5:ak 1 u m.bits (aP row):=(e.ext r).ext a;refine Yq (m:=m) (who:=x) λh6 b=>⟨_,_,_,_,_,_,_,rfl,b,?_⟩;have a1:=Ys m row;refine Ib (m:=Ah m x) (Vq (e5.ext b) x) ω λF X=>⟨_,rfl,X,ahL _ _,?_⟩;have a2:=mT (Ah m x) (Cz m row);refine RC (ts:=[c8 (Ah m x) (Cz m row)]) am (mS (T:=9) F [c8 (Ah m x) (Cz m row)]) (by simp only[List.flatten_cons,List.flatten_nil,aiC];omega) (by simp) λh8 x8=>⟨_,rfl,?_⟩;have ao:[c8 (Ah m x) (Cz m row)].flatten=c8 (Ah m x) (Cz m row):=by simp
   rw[ao];have G:Ext u h8:=((b.trans X).trans (ahL _ _)).trans x8;have Y:=y.ext G;have tl:=Y.len;rw[ahJ,ahJ,ahY]at tl;have ap:EZ g.key (c8 (Ah m x) (Cz m row))=rW L m row x:=by unfold rW;rw[al]
   refine cz (C:=ctx) (T:=56) (sz:=16) (x:=.bytes 16 (EZ g.key (c8 (Ah m x) (Cz m row)))) Yr Tx (by rw[GJ];decide) (by rw[GJ];omega) Y rfl rfl λs9 h9 o9 f9 b9=>?_;rw[wrap_i64 (n:=i+1) ω ω];have x9:Ext B h9:=ahG (a.trans G) f9 λj⟨p,f,hj⟩=>by have:=E p f;omega
   have z8:=(a.trans G).size;refine⟨⟨ω,ω,?_,λp f=>?_,x9⟩,Ω⟩
   ·rw[show(i+1).toNat=i.toNat+1 by omega,bq w,ah5,ah7,aiL,<-ap];simpa[tags]using o9
   ·rcases b9 p f with⟨p',Z,a3⟩|Z
    ·have:=E p' Z;omega
    ·omega
  ·have ar:l.take i.toNat=l:=aiy ω;rw[ar]at y;refine Vp y.elems (by rw[ahJ];omega) λh6 b=>⟨_,rfl,?_⟩;have aw:=(r.trans a).trans b;refine av ((O.ext a).ext b) (t:=.bytes 16 (eH (l.map (rW L m row)) (ahH 16))) rfl rfl λF v7 f7 s7=>⟨_,v7.bytes,?_⟩;have:=I F (ahG aw f7 λj hj=>by have:=z.size;have:=o.size;omega);rw[s]at this;exact this
noncomputable def jE(n:Nat)(aN:Int)(L:List Vd)(m:Ms)(row:List Bool):Bool:=(lg n aN L m row).2&&decide ((lg n aN L m row).1.l=m.tag.l)
theorem RE{c:Cf}{m:Ms}{row:List Bool}{L:List Vd}(q:c.vals.len<900)(A:ak 2 h c.vals (jI L))(B:∀v∈L,v.key.length<=64)(e:ak 1 h m.bits (aP row))(E:row.length<500)
 (G:∀g,Ext h g->R (ahT (jE c.vals.len c.aN L m row)).val g):Cl 206 [c.tv,m.tv] h R:=by
 apply E2 c.vals c.ep c.aN c.no c.eu c.ew c.quo c.pe c.gY c.win c.bD c.dec m.kind m.slot m.target m.ax m.body m.bits m.tag;delta dh SL bO dW pV mN;refine af λp v1 r z=>af λj b k C=>?_;have v1:Var 24 j h.size c.tv:=ah8 (t:=c.tv) v1 k;have b:Var 58 j p.size m.tv:=b;have d:=r.trans k;refine ri v1 (aZ b (Yt q (A.ext d) B (e.ext d) E λs l=>⟨_,_,rfl,?_⟩));refine af λD v4 u F=>av v4 (t:=.bytes 16 (lg c.vals.len c.aN L m row).1) rfl rfl λn w f5 H=>?_;have o:Ext s n:=ahG u f5 λi I=>ω;have x:=(d.trans l).trans o;have a:=G n x;unfold jE at a;refine ahP (λf=>?_) λf=>?_
 ·rw[f,aiq]at a;have y:=(b.ext l).ext o;exact⟨_,w.bytes,m.tag,y.at.2.2.2.2.2.2,a⟩
 ·rw[f,aiI]at a;exact a
noncomputable def mc(n:Nat)(aN:Int)(L:List Vd)(m:Ms)(row:List Bool):Ms×Bool:=
 if(lg n aN L m row).2=true then({m with tag:=(lg n aN L m row).1},true)else(aU,false)
theorem Vt.size(v:Vt):v.tv.size=34:=by simp only[Vt.tv,ail,aj.size]
theorem Vt.plain(v:Vt):v.tv.plain=true:=by simp only[Vt.tv,aiR,aj.plain,Bool.and_self]
noncomputable def jb(n:Nat)(aN:Int)(m:Ms)(row:List Bool):List Vt:=
 if(aR n aN m row).2=false\/m.kind=1 then[]else(aR n aN m row).1.map λi=>⟨i,m.slot,m.target⟩
theorem DW:(ctx.ti 124).bytes=48:=κ
theorem Yu:(ctx.ti 124).size=34:=κ
theorem Ty:(ctx.ti 124).z.size=34:=κ
theorem PA{c:Cf}{m:Ms}{row:List Bool}(M:c.vals.len<900)(e:ak 1 h m.bits (aP row))(hl:row.length<500)
 (A:∀s u,ak 34 s u (EG (jb c.vals.len c.aN m row))->Ext h s->(∀p,u.a=some p->h.size<=p.b)->R (ah9 u).val s):Cl 104 [c.tv,m.tv] h R:=by
 apply E3 c.vals c.ep c.aN c.no c.eu c.ew c.quo c.pe c.gY c.win c.bD c.dec m.kind m.slot m.target m.ax m.body m.bits m.tag;delta dh SM zn cV dW pW jT dL fJ aJ bN;refine af λK v1 L s1=>af λy o z s2=>?_;have v1:Var 24 y h.size c.tv:=ah8 (t:=c.tv) v1 z;have o:Var 58 y K.size m.tv:=o;have B:=L.trans z;refine ri v1 (aZ o (CA M (e.ext B) ω λf D v E=>⟨_,_,rfl,?_⟩));have q:=B.trans E;have F:=o.ext E;intro J N;refine ahP (λg=>?_) λg=>⟨_,F.at.1,ID (λw=>?_) λw=>N _ _ ?_⟩
 ·have b:jb c.vals.len c.aN m row=[]:=if_pos (.inl (by simpa using g));exact A f ahS (by rw[b];exact ak.y_ _ _) q (λp a=>by cases a)
 ·have b:jb c.vals.len c.aN m row=[]:=if_pos (.inr w);exact A f ahS (by rw[b];exact ak.y_ _ _) q (λp a=>by cases a)
 ·have g:(aR c.vals.len c.aN m row).2=true:=by simpa using g
  have b:jb c.vals.len c.aN m row=(aR c.vals.len c.aN m row).1.map λi=>⟨i,m.slot,m.target⟩:=if_neg (by rw[g];rintro(h|h);cases h;exact w h);have O:=qz (n:=c.vals.len) (aN:=c.aN) (m:=m) (row:=row);generalize(aR c.vals.len c.aN m row).1=l at v b O;have el:=jA v
  refine⟨λσ G=>0<=σ.2/\σ.2<=D.len/\Own 124 34 G σ.1 (EG ((l.take σ.2.toNat).map λi=>⟨i,m.slot,m.target⟩))/\(∀p,σ.1.a=some p->f.size<=p.b)/\Ext f G,λσ _=>((D.len:Int)-σ.2).toNat,
   ⟨ahR 0,Ω,aik _ _ _,(λp a=>by cases a),ahQ _⟩,?_⟩
  rintro⟨t,i⟩ P ⟨H,Q,k,r,d⟩;dsimp only at H Q k r d⊢;refine ID (λS=>?_) λS=>?_
  ·refine gX (v.ext d) H ω λx U=>?_;have I:=F.ext d;refine⟨_,I.at.2.1,_,I.at.2.2.1,?_⟩;have V:=k.len;rw[ahJ,ahJ,ahY]at V;refine cz (C:=ctx) (T:=124) (sz:=34) (x:=Vt.tv ⟨x,m.slot,m.target⟩) Yu Ty (by rw[DW];decide) (by rw[DW];omega) k (Vt.size _) (Vt.plain _) λs9 W X f9 Y=>?_;rw[wrap_i64 (n:=i+1) ω ω];have Z:Ext f W:=ahG d f9 λj⟨p,a,hj⟩=>by have:=r p a;omega
   have z5:=d.size;refine⟨⟨ω,ω,?_,λp a=>?_,Z⟩,Ω⟩
   ·rw[show(i+1).toNat=i.toNat+1 by omega,bq U,ah5];simpa[EG]using X
   ·rcases Y p a with⟨p',h1',ac⟩|h1'
    ·have:=r p' h1';omega
    ·omega
  ·have ab:l.take i.toNat=l:=aiy ω;rw[ab]at k;exact A P t (by rw[b];exact k.elems) (q.trans d) λp a=>aiv q.size (r p a)
end
end Board
namespace Gate
open Board (Vd Cf Ms Dm jI av aP aU dM bT aR jE aZ eZ ck jD iK)
open Pool (It WL dD has iX mZ)
open Peers (Pe)
section
variable{R:Rq}{h h':aa}{g:Nat}{a:Ad}{c:Cf}{V:List Vd}{s:St}{Fp:Nat->Nat->Prop}
noncomputable def dQ(c:Cf)(V:List Vd)(s:St)(m:Ms)(row:List Bool):Int:=
 if kL c s m.kind m.slot=false then 6 else if(aR V.length c.aN m row).2=false then 7 else if jE V.length c.aN V m row=false then 8 else if kN s m.kind (bT m row)=true then 9 else 0
theorem PB(p:aQ h g a c V s Fp)(n0:0<=s.now)(n1:s.now<=1073741824){text:LU}(ht:text.length<1000)
 (ae:dM text=none->∀h',Ext h h'->R (ahM [aU.tv,.i 5]).val h')
 (hr:∀d,dM text=some d->∀h' b,ak 1 h' b (aP d.row)->Ext h h'->R (ahM [(d.ms b).tv,.i (dQ c V s (d.ms b) d.row)]).val h'):
 Cl 148 [.ptr (PT g),.str text] h R:=by
 apply yx;delta jx dW QI bK bh;refine af λT v1 K s1=>?_;have v1:Var 58 T h.size aU.tv:=v1
 have out:∀(m:Ms)(e:aa)(q:Nat)(n:Int),Ext T e->Var 58 e q m.tv->(∀h',Ext h h'->Ext e h'\/ag (·=h.size) e h'->R (ahM [m.tv,.i n]).val h')->
  gi e h.size 0 53/\Bind (aih e h.size 0 m.tv) λf=>∃(U:Int),∃(W:Int),∃(X:Bs 32),∃(Y:Int),∃(Z:Int),∃(s:Sl),∃(ab:Bs 16),(ah f h.size 0 (.i U)/\ah f h.size 1 (.i W)/\ay f h.size 2 32 X/\ah f h.size 34 (.i Y)/\ah f h.size 35 (.int .u64 Z)/\ah f h.size 36 (aW s)/\ay f h.size 37 16 ab)/\
   R (ahM [.agg [.i U,.i W,.bytes 32 X,.i Y,.int .u64 Z,.slice s,.bytes 16 ab],.i n]).val f:=by
  intro m e q n xx vm hk;refine av (t0:=aU.tv) (v1.ext xx) (t:=m.tv) ck eZ λf z f5 s5=>aZ (m:=m) z ?_;exact hk f (ahG (K.trans xx) f5 λi x=>aib (aic x)) (.inr f5)
 refine jD ω (λal E M=>?_) λd E bs hd F M nw=>?_
 ·refine⟨_,_,_,_,_,_,_,_,rfl,af λh3 N O s3=>av (t0:=aU.tv) N (t:=aU.tv) ck eZ λr v4 f4 s4=>?_⟩;have u:Ext E r:=ahG O f4 λi x=>aib (aic x);exact ah1 (aZ (m:=aU) v4 (out aU r _ 5 (M.trans u) v4 λf o _=>ae al f o))
 refine⟨_,_,_,_,_,_,_,_,rfl,af λh3 N O s3=>av (t0:=aU.tv) N (t:=(d.ms bs).tv) ck eZ λr v4 f4 s4=>?_⟩;have u:Ext E r:=ahG O f4 λi x=>aib (aic x);have v4:Var 58 r E.size (d.ms bs).tv:=v4;have y:=M.trans u;have ac:=mZ hd;have k:=p.can;have kl:=k.len;have keys:=uz k;have el:V.length=c.vals.len:=by have:=p.vals.len;rwa [ahJ]at this
 have z1:=K.size
 have A:∀(n:Int)(e:aa),dQ c V s (d.ms bs) d.row=n->Ext r e->∀h',Ext h h'->Ext e h'\/ag (·=h.size) e h'->R (ahM [(d.ms bs).tv,.i n]).val h':=by
  intro n e hn P h' x' am;rw[<-hn];have eh:=F.ext (u.trans P);refine hr d hd h' bs ?_ x';rcases am with Q|Q
  ·exact eh.ext Q
  ·refine TV.bX Q eh λi⟨l,hl,x⟩ hq=>?_;have:=(nw l hl).1;have hq:i=h.size:=hq;omega
 have B:∀{e},Ext r e->aQ e g a c V s Fp:=λP=>p.ext (K.trans (y.trans P));refine ahO (aZ (m:=d.ms bs) v4 (Rz (m:=d.ms bs) (B (ahQ _)) n0 n1 λf o=>⟨_,rfl,?_⟩));have z:=v4.ext o;refine ahP (λj=>aZ (m:=d.ms bs) z (out _ f _ 6 (y.trans o) z (A 6 f (if_pos (by simpa using j)) o))) λj=>?_;have G:¬kL c s (d.ms bs).kind (d.ms bs).slot=false:=by simpa using j
 refine⟨c.vals,c.ep,c.aN,c.no,c.eu,c.ew,c.quo,c.pe,c.gY,c.win,c.bD,c.dec,(B o).var.at.1,aZ (m:=d.ms bs) z ?_⟩;refine Board.CA (c:=c) ω (F.ext (u.trans o)) ω λh6 s6 _ x6=>⟨_,_,rfl,?_⟩;have w:=o.trans x6;have v6:=v4.ext w;rw[<-el];refine ahP (λj=>aZ (m:=d.ms bs) v6 (out _ h6 _ 7 (y.trans w) v6 (A 7 h6 ?_ w))) λj=>?_
 ·unfold dQ;rw[if_neg G,if_pos (by simpa using j)]
 have S:¬(aR V.length c.aN (d.ms bs) d.row).2=false:=by simpa using j
 refine⟨c.vals,c.ep,c.aN,c.no,c.eu,c.ew,c.quo,c.pe,c.gY,c.win,c.bD,c.dec,(B w).var.at.1,aZ (m:=d.ms bs) v6 ?_⟩;refine Board.RE (c:=c) (L:=V) ω (B w).vals (λv hv=>by have:=keys v hv;omega) (F.ext (u.trans w)) ac λh7 x7=>⟨_,rfl,?_⟩;have C:=w.trans x7;have H:=v4.ext C;rw[<-el];refine ahP (λj=>aZ (m:=d.ms bs) H (out _ h7 _ 8 (y.trans C) H (A 8 h7 ?_ C))) λj=>?_
 ·unfold dQ;rw[if_neg G,if_neg S,if_pos (by simpa using j)]
 have a3:¬jE V.length c.aN V (d.ms bs) d.row=false:=by simpa using j
 refine aZ (m:=d.ms bs) H (aZ (m:=d.ms bs) H (iK (m:=d.ms bs) (F.ext (u.trans C)) ac λh8 x8=>⟨_,rfl,x8,?_⟩));have ad:=C.trans x8;refine RA (m:=d.ms bs) (B ad) λI x9=>⟨_,rfl,?_⟩;have D:=ad.trans x9;have J:=v4.ext D;refine ahP (λj=>aZ (m:=d.ms bs) J (out _ I _ 9 (y.trans D) J (A 9 I ?_ D))) λj=>aZ (m:=d.ms bs) J (out _ I _ 0 (y.trans D) J (A 0 I ?_ D))
 ·unfold dQ;rw[if_neg G,if_neg S,if_neg a3,if_pos j]
 ·unfold dQ;rw[if_neg G,if_neg S,if_neg a3,if_neg (by rw[j];decide)]
end
end Gate
namespace Gate
open Board (Vd Cf jI)
open Pool (It WL dD)
open Peers (Pe)
section
variable{h h':aa}{g:Nat}{a:Ad}{c:Cf}{V:List Vd}{s:St}{Fp:Nat->Nat->Prop}{S':Nat->Prop}
theorem aQ.PC(p:aQ h g a c V s Fp):∀i,In c.vals i->i<h.size:=λi⟨l,d,n⟩=>by
 have k:=p.can.len;obtain⟨v,e⟩:∃v,V[0]? =some v:=⟨_,ahV ω⟩;have f:=p.vals.get l d 0 v.tv (by rw[ah6,e];rfl);have j:ah h l.b (l.o+0*2) (.i v.cW):=f.1;have b:lz h l.b (l.o+0*2)=some (.i v.cW):=j;unfold lz at b;split at b
 ·rename_i m;have:=(aiE.1 m).1;omega
 ·cases b
theorem aQ.BR(p:aQ h g a c V s Fp){j:Nat}(st:Step (Fp j) h S' h'):∀k i,mK Fp j S' k i->¬In c.vals i:=λk i b d=>by
 by_cases e:k=j
 ·rw[e,bF]at b;rcases st.new i b with f|f
  ·exact p.off j i f d
  ·have:=p.PC i d;omega
 ·rw[au e]at b;exact p.off k i b d
theorem aQ.Ai(p:aQ h g a c V s Fp){q:List It}(A:kj 212 h' a.wt q c.ew c.quo S')(st:Step (Fp 5) h S' h'):aQ h' g a c V {s with wait:=q} (mK Fp 5 S'):=by
 have o:∀k,k≠5->∀i,Fp k i->¬Fp 5 i:=λk b=>p.sep.off b;refine⟨p.sep.step st A.lt,?_,?_,?_,?_,?_,?_,?_,?_,?_,?_,?_,?_,?_,p.BR st,p.can⟩
 ·rw[au δ];exact p.tree.only st.only (o 0 δ)
 ·rw[au δ];exact p.D9.only st.only (o 1 δ)
 ·rw[au δ];exact p.ij.only st.only (o 2 δ)
 ·exact p.bk.only st.only (o 3 δ _ (by rw[p.f3]))
 ·rw[au δ];exact p.f3
 ·rw[au δ];exact p.kids.only st.only (o 4 δ)
 ·rw[bF];exact A
 ·rw[au δ];exact p.who.only st.only (o 6 δ)
 ·exact p.jL.only st.only (o 7 δ _ (by rw[p.f7]))
 ·rw[au δ];exact p.f7
 ·exact p.var.only st.only (o 8 δ _ (by rw[p.f8]))
 ·rw[au δ];exact p.f8
 ·exact TV.bX st.only p.vals λi d e=>p.off 5 i e d
theorem aQ.DX(p:aQ h g a c V s Fp){P:List (Int×Int)}{gone:Int}(q:Tu h' a.wh P c.pe c.bD c.dec gone S')(st:Step (Fp 6) h S' h'):aQ h' g a c V {s with sc:=P,gone:=gone} (mK Fp 6 S'):=by
 have o:∀k,k≠6->∀i,Fp k i->¬Fp 6 i:=λk b=>p.sep.off b;refine⟨p.sep.step st q.lt,?_,?_,?_,?_,?_,?_,?_,?_,?_,?_,?_,?_,?_,p.BR st,p.can⟩
 ·rw[au δ];exact p.tree.only st.only (o 0 δ)
 ·rw[au δ];exact p.D9.only st.only (o 1 δ)
 ·rw[au δ];exact p.ij.only st.only (o 2 δ)
 ·exact p.bk.only st.only (o 3 δ _ (by rw[p.f3]))
 ·rw[au δ];exact p.f3
 ·rw[au δ];exact p.kids.only st.only (o 4 δ)
 ·rw[au δ];exact p.wait.only st.only (o 5 δ)
 ·rw[bF];exact q
 ·exact p.jL.only st.only (o 7 δ _ (by rw[p.f7]))
 ·rw[au δ];exact p.f7
 ·exact p.var.only st.only (o 8 δ _ (by rw[p.f8]))
 ·rw[au δ];exact p.f8
 ·exact TV.bX st.only p.vals λi d e=>p.off 6 i e d
end
end Gate
namespace Gate
open Board (Vd Cf Vt jI av uo)
open Pool (It)
theorem GK{h h':aa}{F:Nat->Nat->Prop}{j:Nat}{S':Nat->Prop}{v:Sl}(off:∀k i,F k i->¬In v i)(q:∀i,In v i->i<h.size)(st:Step (F j) h S' h'):∀k i,mK F j S' k i->¬In v i:=λk i a b=>by
 by_cases e:k=j
 ·rw[e,bF]at a;rcases st.new i a with c|c
  ·exact off j i c b
  ·have:=q i b;omega
 ·rw[au e]at a;exact off k i a b
section
variable{R:Rq}{h h':aa}{g:Nat}{a:Ad}{c:Cf}{V:List Vd}{s:St}{Fp:Nat->Nat->Prop}
theorem kX.ext{b:Nat}{L:List Nd}{most:Int}{S:Nat->Prop}(p:kX h b L most S)(x:Ext h h'):kX h' b L most S:=p.only (Q:=λ_=>False) (.an x) λ_ _ a=>a
theorem dY.ext{w tb:Nat}{L:List Nd}{own:Nat->Int}{S:Nat->Prop}(p:dY h w tb L own S)(x:Ext h h'):dY h' w tb L own S:=p.only (Q:=λ_=>False) (.an x) λ_ _ a=>a
theorem Cu.ext{b n:Nat}{t:Tb}{S:Nat->Prop}(p:Cu h b t n S)(x:Ext h h'):Cu h' b t n S:=p.only (Q:=λ_=>False) (.an x) λ_ _ a=>a
structure jh(h:aa)(g:Nat)(a:Ad)(c:Cf)(V:List Vd)(s:St)(Fp:Nat->Nat->Prop):Prop where
 sep:Sep h Fp
 tree:kX h a.tr s.N c.no (Fp 0)
 ij:Cu h a.ta s.tb V.length (Fp 2)
 bk:Var 164 h a.bk (EX c a)
 f3:Fp 3=(·=a.bk)
 kids:kj 172 h a.kd s.kids c.eu c.quo (Fp 4)
 wait:kj 212 h a.wt s.wait c.ew c.quo (Fp 5)
 who:Tu h a.wh s.sc c.pe c.bD c.dec s.gone (Fp 6)
 jL:Clock.CI 217 h a.jL s.now (Clock.eD c.win)
 f7:Fp 7=(·=a.jL)
 var:Var 147 h g (MV c a s.left)
 f8:Fp 8=(·=g)
 vals:ak 2 h c.vals (jI V)
 off:∀k i,Fp k i->¬In c.vals i
 can:Can c V
theorem aQ.x(p:aQ h g a c V s Fp):jh h g a c V s Fp:=⟨p.sep,p.tree,p.ij,p.bk,p.f3,p.kids,p.wait,p.who,p.jL,p.f7,p.var,p.f8,p.vals,p.off,p.can⟩
theorem jh.b(p:jh h g a c V s Fp)(w:dY h a.we a.tr s.N (cZ (bJ V) s.tb s.N) (Fp 1)):aQ h g a c V s Fp:=⟨p.sep,p.tree,w,p.ij,p.bk,p.f3,p.kids,p.wait,p.who,p.jL,p.f7,p.var,p.f8,p.vals,p.off,p.can⟩
theorem jh.PC(p:jh h g a c V s Fp):∀i,In c.vals i->i<h.size:=λi⟨l,b,j⟩=>by
 have k:=p.can.len;obtain⟨v,d⟩:∃v,V[0]? =some v:=⟨_,ahV ω⟩;have e:=p.vals.get l b 0 v.tv (by rw[ah6,d];rfl);have f:ah h l.b (l.o+0*2) (.i v.cW):=e.1;have:=vn f;omega
theorem jh.ext(p:jh h g a c V s Fp)(f:Ext h h'):jh h' g a c V s Fp:=
 ⟨p.sep.ext f,p.tree.ext f,p.ij.ext f,p.bk.ext f,p.f3,p.kids.only (Q:=λ_=>False) (.an f) λ_ _ b=>b,p.wait.only (Q:=λ_=>False) (.an f) λ_ _ b=>b,p.who.only (Q:=λ_=>False) (.an f) λ_ _ b=>b,
  p.jL.ext f,p.f7,p.var.ext f,p.f8,p.vals.ext f,p.off,p.can⟩
theorem jh.aa1{S':Nat->Prop}(p:jh h g a c V s Fp)(st:Step (Fp 1) h S' h')(lt:∀i,S' i->i<h'.size):jh h' g a c V s (mK Fp 1 S'):=by
 have o:∀k,k≠1->∀i,Fp k i->¬Fp 1 i:=λk b=>p.sep.off b;refine⟨p.sep.step st lt,?_,?_,?_,?_,?_,?_,?_,?_,?_,?_,?_,?_,GK p.off p.PC st,p.can⟩
 ·rw[au δ];exact p.tree.only st.only (o 0 δ)
 ·rw[au δ];exact p.ij.only st.only (o 2 δ)
 ·exact p.bk.only st.only (o 3 δ _ (by rw[p.f3]))
 ·rw[au δ];exact p.f3
 ·rw[au δ];exact p.kids.only st.only (o 4 δ)
 ·rw[au δ];exact p.wait.only st.only (o 5 δ)
 ·rw[au δ];exact p.who.only st.only (o 6 δ)
 ·exact p.jL.only st.only (o 7 δ _ (by rw[p.f7]))
 ·rw[au δ];exact p.f7
 ·exact p.var.only st.only (o 8 δ _ (by rw[p.f8]))
 ·rw[au δ];exact p.f8
 ·exact TV.bX st.only p.vals λi d e=>p.off 1 i e d
theorem jh.IM{S':Nat->Prop}{N':List Nd}(p:jh h g a c V s Fp)(t:kX h' a.tr N' c.no S')(st:Step (Fp 0) h S' h'):jh h' g a c V {s with N:=N'} (mK Fp 0 S'):=by
 have o:∀k,k≠0->∀i,Fp k i->¬Fp 0 i:=λk b=>p.sep.off b;refine⟨p.sep.step st t.lt,?_,?_,?_,?_,?_,?_,?_,?_,?_,?_,?_,?_,GK p.off p.PC st,p.can⟩
 ·rw[bF];exact t
 ·rw[au δ];exact p.ij.only st.only (o 2 δ)
 ·exact p.bk.only st.only (o 3 δ _ (by rw[p.f3]))
 ·rw[au δ];exact p.f3
 ·rw[au δ];exact p.kids.only st.only (o 4 δ)
 ·rw[au δ];exact p.wait.only st.only (o 5 δ)
 ·rw[au δ];exact p.who.only st.only (o 6 δ)
 ·exact p.jL.only st.only (o 7 δ _ (by rw[p.f7]))
 ·rw[au δ];exact p.f7
 ·exact p.var.only st.only (o 8 δ _ (by rw[p.f8]))
 ·rw[au δ];exact p.f8
 ·exact TV.bX st.only p.vals λi d e=>p.off 0 i e d
theorem jh.DY{S':Nat->Prop}{t':Tb}(p:jh h g a c V s Fp)(t:Cu h' a.ta t' V.length S')(st:Step (Fp 2) h S' h'):jh h' g a c V {s with tb:=t'} (mK Fp 2 S'):=by
 have o:∀k,k≠2->∀i,Fp k i->¬Fp 2 i:=λk b=>p.sep.off b;refine⟨p.sep.step st t.lt,?_,?_,?_,?_,?_,?_,?_,?_,?_,?_,?_,?_,GK p.off p.PC st,p.can⟩
 ·rw[au δ];exact p.tree.only st.only (o 0 δ)
 ·rw[bF];exact t
 ·exact p.bk.only st.only (o 3 δ _ (by rw[p.f3]))
 ·rw[au δ];exact p.f3
 ·rw[au δ];exact p.kids.only st.only (o 4 δ)
 ·rw[au δ];exact p.wait.only st.only (o 5 δ)
 ·rw[au δ];exact p.who.only st.only (o 6 δ)
 ·exact p.jL.only st.only (o 7 δ _ (by rw[p.f7]))
 ·rw[au δ];exact p.f7
 ·exact p.var.only st.only (o 8 δ _ (by rw[p.f8]))
 ·rw[au δ];exact p.f8
 ·exact TV.bX st.only p.vals λi d e=>p.off 2 i e d
theorem jh.Yv{S':Nat->Prop}{k tb:Nat}{L:List Nd}{own:Nat->Int}(p:jh h g a c V s Fp)(q:k≠1)(w:dY h a.we tb L own (Fp 1))(st:Step (Fp k) h S' h'):dY h' a.we tb L own (mK Fp k S' 1):=by
 rw[au (λe=>q e.symm)];exact w.only st.only (p.sep.off (λe=>q e.symm))
theorem CB:(bJ V).length=V.length:=by simp[bJ]
theorem PD{t:Tb}{st:List Int}{who:Int}{r:Bs 32}(h:dU t who=none):oP t st who r=0:=by
 unfold oP;split
 ·rename_i a;unfold dU at h;rw[if_pos a]at h;unfold aK;rw[h];split<;>rfl
 ·rfl
theorem CC{B:Nat}{t:Tb}{S:Nat->Prop}(A:Var 164 h B (EX c a))(ij:Cu h a.ta t V.length S)(E:ak 2 h c.vals (jI V)){who:Int}{root:Bs 32}(G:∀h',Ext h h'->R (TV.i (oP t (bJ V) who root)).val h'):
 Cl 171 [.ptr (PT B),.i who,.bytes 32 root] h R:=by
 apply wX;delta pN aI aD c7 bV dw bu dO bK aT bh;refine af λQ v1 g T=>?_;obtain⟨r,U,W,X,u,Y⟩:=ij.ext g;refine⟨_,(A.ext g).ah rfl,EJ u λw y=>⟨_,_,_,_,rfl,?_⟩⟩;refine af λZ D F s3=>av (t:=(nZ t who).1.tv) D rfl rfl λf v4 f4 s4=>?_;have z:Ext w f:=ahG F f4 λi H=>aib (aic H);have p:=y.trans z;have j:=g.trans p;have q:∀(s:aa)(n:Int),Ext h s->oP t (bJ V) who root=n->R (TV.i n).val s:=λs n x e=>by rw[<-e];exact G s x
 cases d:dU t who with
 |none=>
  have:(nZ t who).2=false:=by rw[IF,d];rfl
  rw[this];exact ah1 (q f 0 j (PD d))
 |some v=>
  have I:(nZ t who).2=true:=by rw[IF,d];rfl
  have J:(nZ t who).1=v:=by unfold nZ;rw[d]
  rw[I];rw[J]at v4
  have k:0<=who/\who<V.length:=aiF λK=>by
   have:=H_ u.ok K;rw[d]at this;cases this
  have L:t.bR.getD who.toNat none=some v:=by
   unfold dU at d
   rwa [if_pos k.1]at d
  have m:oP t (bJ V) who root=if Dv t who=true then 0 else if v.target=root then kJ (bJ V) who.toNat else 0:=by
   unfold oP aK Dv;rw[if_pos k.1,L]
  refine ahO ⟨_,((A.ext g).ext p).ah rfl,OQ (u.ext p) ⟨_,rfl,?_⟩⟩;refine ahP (λb=>q f 0 j ?_) λb=>?_
  ·have b:AN t V.length who=false:=by simpa using b
   unfold AN at b;rw[show Qh V.length who=true from decide_eq_true k,aiq]at b;rw[m,if_pos (by simpa using b)]
  ·have b:AN t V.length who=true:=by simpa using b
   unfold AN at b;rw[show Qh V.length who=true from decide_eq_true k,aiq]at b;have M:¬Dv t who=true:=by simpa using b
   rw[if_neg M]at m;have N:Var 124 f w.size v.tv:=v4;refine⟨_,N.at.2.2,_,((v1.ext y).ext z).bytes,?_⟩;dsimp only;rw[show decide (v.target.l=root.l)=decide (v.target=root)from El _ _];refine ahP (λo=>q f 0 j ?_) λo=>?_
   ·have:¬v.target=root:=by simpa using o
    rw[m,if_neg this]
   ·have o:v.target=root:=by simpa using o
    rw[if_pos o]at m;have el:=E.len;rw[ahJ]at el;refine⟨_,((A.ext g).ext p).ah rfl,(E.ext j).read k.1 ω λl tv ha C O=>?_⟩;rw[ah6]at C;obtain⟨x,P,rfl⟩:=aiW.1 C;refine⟨x.cW,O.1,q f _ j ?_⟩;rw[m];unfold kJ bJ;rw[aij,ah6,P];rfl
theorem DA{q:Nat}{t:Tb}{S:Nat->Prop}(A:Var 164 h q (EX c a))(ij:Cu h a.ta t V.length S)(B:ak 2 h c.vals (jI V))(E:xV (bJ V))(H:V.length<1000){root:Bs 32}(G:∀h',Ext h h'->R (TV.i (nY t (bJ V) root)).val h'):
 Cl 297 [.ptr (PT q),.bytes 32 root] h R:=by
 apply Aj;delta dZ aI jN bV iP bK bN;refine af λl v1 g u=>⟨c.vals,(A.ext g).ah rfl,?_⟩;have el:=B.len;rw[ahJ]at el;have key:∀n,n<=V.length->0<=tot n (λj=>aK t (bJ V) j root)/\tot n (λj=>aK t (bJ V) j root)<4611686018427387904:=λn b=>UE E root (by rw[CB];exact b);refine⟨λσ m=>0<=σ.2/\σ.2<=V.length/\Ext l m/\σ.1=tot σ.2.toNat (λj=>aK t (bJ V) j root),λσ _=>((V.length:Int)-σ.2).toNat,⟨ahR 0,by dsimp only;omega,ahQ _,rfl⟩,?_⟩;rintro⟨n,i⟩ o ⟨k,p,f,b⟩;dsimp only at k p b⊢;have d:=g.trans f;refine ID (λr=>⟨_,(v1.ext f).bytes,?_⟩) λr=>?_
 ·refine CC (A.ext d) (ij.ext d) (B.ext d) λv s=>⟨_,rfl,?_⟩;have w:=key (i.toNat+1) ω
  have e:n+oP t (bJ V) i root=tot (i.toNat+1) (λj=>aK t (bJ V) j root):=by
   rw[jy,b];unfold oP;rw[if_pos k]
  dsimp only;rw[e,wrap_i64 (n:=i+1) ω ω,wrap_i64 (n:=tot (i.toNat+1) λj=>aK t (bJ V) j root) ω ω];exact⟨⟨ω,ω,f.trans s,by rw[show(i+1).toNat=i.toNat+1 by omega]⟩,ω⟩
 ·have:nY t (bJ V) root=n:=by
   rw[b,show i.toNat=V.length by omega];unfold nY tot;rw[CB]
  rw[<-this];exact G o d
theorem IN{q:List Dl}{D:Sl}{tr w:Nat}{L:List Nd}{most:Int}{own:Nat->Int}{H E:Nat->Prop}(I:kX h tr L most H)(J:dY h w tr L own E)(M:∀i,H i->¬E i)
 (pos:∀i,i<L.length->0<=own i)(U:tot L.length own<4611686018427387904)(e:ak 33 h D (q.map xS))(W:∀i,In D i->¬E i)(Z:q.length<1000)(ok:EB L q own)
 (hr:∀h' a,dY h' w tr L (laid L q own) a->Step E h a h'->R (TV.i 0).val h'):Cl 236 [.ptr (PT w),.slice D] h R:=by
 obtain⟨r,A,b,rfl⟩:=I;obtain⟨O,X,B,G,c,rfl⟩:=J;refine HS (own:=own) c b M (by simp) (by simp) (by simp) (by simp) (by rw[AK (by simp)]) (by rw[AK (by simp)]) pos U e W Z ok λh' O S B G p st=>hr h' _ ⟨O,S,B,G,p,rfl⟩ st
theorem Vr{L:List Nd}{x:Nd}{i:Nat}(h:i<L.length):dV (L++[x]) i=dV L i:=by
 unfold dV;rw[List.getElem?_append_left h]
theorem RF{x:Nd}{D:Sl}{q:List Dl}{tr w:Nat}{L:List Nd}{most:Int}{own:Nat->Int}{I E:Nat->Prop}(J:Cb L most)(M:kX h tr (L++[x]) most I)(U:dY h w tr L own E)(W:∀i,I i->¬E i)
 (H:own L.length=0)(pos:∀i,i<L.length+1->0<=own i)(ac:tot L.length own<4611686018427387904)(e:ak 33 h D (q.map xS))(Z:∀i,In D i->¬E i)(ab:q.length<1000)(ok:EB (L++[x]) q own)
 (hr:∀h' b,dY h' w tr (L++[x]) (laid (L++[x]) q own) b->Step E h b h'->R (TV.i 0).val h'):Cl 236 [.ptr (PT w),.slice D] h R:=by
 obtain⟨r,A,c,rfl⟩:=M;obtain⟨O,X,B,G,f,rfl⟩:=U;have up:=J.tree;have el:(L++[x]).length=L.length+1:=by simp
 have d:Up (L.length+1) (dV (L++[x])):=by rw[<-el];exact c.ok.tree
 have g:∀i,0<i->i<L.length->dV L i=dV (L++[x]) i:=λi _ a=>(Vr a).symm;refine HS (own:=own) f c W (by simp) (by simp) (by simp) (by simp) ?_ ?_ (by rw[el];exact pos) (by rw[el,jy,H];omega) e Z ab ok λh' O S B G p st=>hr h' _ ⟨O,S,B,G,p,rfl⟩ st
 ·rw[el];exact Ti (λ_ _=>rfl) H
 ·rw[el];refine Ti (λi a=>?_) ?_
  ·unfold jG;rw[el];exact(XG up d g H a).symm
  ·unfold jG;rw[el];exact XH d H
theorem Tz(h:aa)(x:Dl):ak 33 (h.push (row (ahI [aiH [.bytes 32 x.1,.i x.2]]) 314)) (ah0 (some (Vc.Loc.mk h.size 0)) 1 1) ([x].map xS):=
 (aii (T:=314) (sz:=33) h [xS x] λt a=>by rw[aiB.1 a];exact Ky x).elems
theorem EK{H:Nat}{L:List Nd}{own:Nat->Int}{I q:Nat->Prop}(J:Var 164 h H (EX c a))(M:kX h a.tr L c.no I)(B:dY h a.we a.tr L own q)(U:∀i,I i->¬q i)
 (pos:∀i,i<L.length->0<=own i)(W:tot L.length own<4611686018427387904){r:Bs 32}{n:Int}(O:-4611686018427387904<n/\n<4611686018427387904)(E:∀i,i<L.length->0<=oa L own r n i)(Z:tot L.length (oa L own r n)<4611686018427387904)
 (G:∀h' e,dY h' a.we a.tr L (oa L own r n) e->Step q h e h'->R (ahM []).val h'):Cl 173 [.ptr (PT H),.bytes 32 r,.i n] h R:=by
 apply Ak;delta Kq iR jg eX bV dI jS bu bK eE;have w:=B.lt;refine af λN v1 f P=>⟨_,(J.ext f).ah rfl,r,v1.bytes,?_⟩;obtain⟨Q,A,x,S⟩:=M.ext f;refine dx x λg j=>⟨_,rfl,ID (λb=>?_) λb=>?_⟩
 ·have d:=f.trans j;refine⟨_,(J.ext d).ah rfl,r,(v1.ext j).bytes,ahL _ _,?_⟩;have p:=Tz g (r,n);have s:=ahL g (row (ahI [aiH [.bytes 32 r,.i n]]) 314);generalize g.push (row (ahI [aiH [.bytes 32 r,.i n]]) 314)=T at p s⊢;have m:=d.trans s;have o:oa L own r n=laid L [(r,n)] own:=by unfold oa laid;rw[if_pos b];rfl
  obtain⟨k,y,V,t,X,Y,u⟩:=fB b
  have b1:oa L own r n k=own k+n:=by
   unfold oa bump;rw[if_pos b,if_pos ω]
  have b2:=E k u;have b3:=Ch L.length E k u
  have ok:EB L [(r,n)] own:=by
   refine⟨b,O.1,O.2,?_,?_,?_⟩
   ·simp only[t,aid];omega
   ·simp only[t,aid];omega
   ·unfold EB;rw[show bump own (place (r,n).fst L).toNat (r,n).snd=oa L own r n by unfold oa;rw[if_pos b]];exact⟨E,Z⟩
  refine IN (M.ext m) (B.ext m) U pos W p (λi⟨l,z,C⟩ D=>?_) (by simp) ok λF e v K=>⟨_,rfl,?_⟩
  ·cases z;have:=w i D;have:=d.size;simp only at C;omega
  ·rw[<-o]at v;exact G F e v (.cut m K)
 ·have d:=f.trans j;have o:oa L own r n=own:=by unfold oa;rw[if_neg b]
  rw[o]at G;exact G g q (B.ext d) (.an d)
theorem aQ.st(p:aQ h g a c V s Fp):xV (bJ V):=Q2 p.can
theorem aQ.tok(p:aQ h g a c V s Fp):Cb s.N c.no:=by obtain⟨r,A,b,d⟩:=p.tree;exact b.ok
theorem aQ.aev(p:aQ h g a c V s Fp):xU s.tb V.length:=by obtain⟨r,d,e,f,b,i⟩:=p.ij;exact b.ok
theorem jh.tok(p:jh h g a c V s Fp):Cb s.N c.no:=by obtain⟨r,A,b,d⟩:=p.tree;exact b.ok
theorem K6(p:aQ h g a c V s Fp){root parent:Bs 32}{slot:Int}
 (q:∀h' D,aQ h' g a c V {s with N:=iF s.N c.no root parent slot} D->Step (cO Fp) h (cO D) h'->R (TV.i (nQ s.N c.no root parent slot)).val h'):
 Cl 266 [.ptr (PT a.bk),.bytes 32 root,.bytes 32 parent,.i slot] h R:=by
 apply Al;delta Kq iR jg aD bV dw dI jS bu dO bK aT bh eE;refine af λh1 v1 E s1=>af λX Y j s2=>ahO ⟨_,(p.ext (E.trans j)).bk.ah rfl,root,(v1.ext j).bytes,parent,Y.bytes,?_⟩;have n:=E.trans j;have k:=p.ext n;have kl:=p.can.len;obtain⟨r,A,Z,hS⟩:=k.tree;refine Ot Z λo A' ab f=>⟨_,rfl,?_⟩;rw[<-hS]at f;obtain⟨ac,G⟩:∃S,S=kH a.tr r A':=⟨_,rfl⟩;rw[<-G]at f;have d:=k.x.IM (N':=iF s.N c.no root parent slot) ⟨r,A',ab,G⟩ f;have m:=k.x.Yv δ k.D9 f;obtain⟨H,I⟩:∃F,F=mK Fp 0 ac:=⟨_,rfl⟩;have t3:Step (cO Fp) X (cO H) o:=by rw[I];exact Step.all f
 have J:Var 52 o h.size (.bytes 32 root):=(v1.ext j).only f.only λu=>by have:=p.sep.lt 0 _ u;omega
 rw[<-I]at d m;refine ahP (λe=>?_) λe=>?_
 ·have e:nQ s.N c.no root parent slot≠0:=by simpa using e
  have v:iF s.N c.no root parent slot=s.N:=by unfold iF;rw[if_neg e]
  rw[v]at d q;exact q o H (d.b m) (.cut n t3)
 have e:nQ s.N c.no root parent slot=0:=by simpa using e
 have K:=p.tok;have v:iF s.N c.no root parent slot=s.N++[⟨root,slot,place parent s.N⟩]:=by unfold iF;rw[if_pos e]
 rw[e]at q;rw[v]at q d;obtain⟨x,L⟩:∃x:Nd,x=⟨root,slot,place parent s.N⟩:=⟨_,rfl⟩;rw[<-L]at d q;have M:x.root=root:=by rw[L]
 have O:Cb (s.N++[x]) c.no:=d.tok;refine⟨_,d.bk.ah rfl,root,J.bytes,root,J.bytes,DA d.bk d.ij d.vals p.st ω λw y=>⟨_,rfl,y,ahL _ _,?_⟩⟩;have P:=Tz w (root,nY s.tb (bJ V) root);have Q:=ahL w (row (ahI [aiH [.bytes 32 root,.i (nY s.tb (bJ V) root)]]) 314);generalize w.push (row (ahI [aiH [.bytes 32 root,.i (nY s.tb (bJ V) root)]]) 314)=h5 at P Q⊢;have z:=y.trans Q;have B:=d.ext z;have ad:=m.lt;have T:=Z6 (t:=s.tb) p.st O.nodup;rw[M]at T;refine RF K B.tree (m.ext z) (B.sep.off δ) (jB (ahW _)) (λi _=>sC p.st i) (wo p.st K.nodup) P (λi⟨l,hl,u⟩ hw=>?_) (by simp) T λh6 ae C U=>⟨_,rfl,?_⟩
 ·cases hl;have:=ad i hw;have:=y.size;simp only at u;omega
 have W:=OR (st:=bJ V) (t:=s.tb) O.nodup;rw[M]at W;rw[<-W]at C;exact q h6 _ ((B.aa1 U C.lt).b (by rw[bF];exact C)) (.cut n ((t3.trans (Step.an z)).trans (Step.all U)))
theorem K7{own:Nat->Int}{r:Bs 32}{n:Int}(p:jh h g a c V s Fp)(w:dY h a.we a.tr s.N own (Fp 1))(pos:∀i,i<s.N.length->0<=own i)(q:tot s.N.length own<4611686018427387904)
 (A:-4611686018427387904<n/\n<4611686018427387904)(B:∀i,i<s.N.length->0<=oa s.N own r n i)(E:tot s.N.length (oa s.N own r n)<4611686018427387904)
 (G:∀h' b,jh h' g a c V s b->dY h' a.we a.tr s.N (oa s.N own r n) (b 1)->Step (cO Fp) h (cO b) h'->R (ahM []).val h'):
 Cl 173 [.ptr (PT a.bk),.bytes 32 r,.i n] h R:=
 EK p.bk p.tree w (p.sep.off δ) pos q A B E λh' S' d st=>G h' _ (p.aa1 st d.lt) (by rw[bF];exact d) (Step.all st)
end
end Gate
namespace Gate
open Board (Vd Cf Vt jI av uo)
open Pool (It)
def ia(N:List Nd)(t:Tb)(v:Vt):Int×Tb:=match nodeAt N (place v.target N)with
 |none=>(6,t)
 |some x=>if v.slot<x.slot then(6,t)else cH t v
theorem Vs{L:List Nd}{own:Nat->Int}{r:Bs 32}:oa L own r 0=own:=by
 unfold oa;split
 ·funext k;unfold bump;split<;>omega
 ·rfl
theorem Vu{st:List Int}{t:Tb}{L:List Nd}(o:xV st)(q:(L.map Nd.root).Nodup){w:Nat}(A:w<st.length)(r:Bs 32):
 (∀i,i<L.length->0<=oa L (cZ st t L) r (-(aK t st w r)) i)/\tot L.length (oa L (cZ st t L) r (-(aK t st w r)))<4611686018427387904:=by
 have f:=kK (t:=t) o w r
 have e:∀i,i<L.length->0<=oa L (cZ st t L) r (-(aK t st w r)) i/\oa L (cZ st t L) r (-(aK t st w r)) i<=cZ st t L i:=λi a=>by
  have b:L[i]? =some L[i]:=ahV a;have d:=sC (t:=t) (L:=L) o i;rw[Mv q b];split
  ·rename_i h;have c:=UD (t:=t) o A b;rw[<-h]at c;omega
  ·omega
 have d:=wo (t:=t) o q;have c:=Mj L.length λi a=>(e i a).2;exact⟨λi a=>(e i a).1,ω⟩
section
variable{R:Rq}{h h':aa}{g:Nat}{a:Ad}{c:Cf}{V:List Vd}{s:St}{Fp:Nat->Nat->Prop}
theorem RG{T:TypeId}{b:Nat}{x:Vt}(v:Var T h b x.tv){K:Int->Int->Bs 32->Prop}(q:K x.who x.slot x.target):
 ∃(n:Int),∃(m:Int),∃(k:Bs 32),(ah h b 0 (.i n)/\ah h b 1 (.i m)/\ay h b 2 32 k)/\K n m k:=⟨_,_,_,v.at,q⟩
theorem RH(p:aQ h g a c V s Fp){v:Vt}
 (Z:∀h' ae,aQ h' g a c V {s with tb:=(ia s.N s.tb v).2} ae->Step (cO Fp) h (cO ae) h'->R (TV.i (ia s.N s.tb v).1).val h'):
 Cl 105 [.ptr (PT a.bk),v.tv] h R:=by
 apply yy (PT a.bk) v.who v.slot v.target;delta iR dZ jZ aD ud BH cV c7 dw bu dO bK aT bh eE;refine af λh1 v1 x1 s1=>ahO ?_;have v1:Var 124 h1 h.size v.tv:=v1;have p1:=p.ext x1;have D:=p.st;have K:=p.tok;have a6:=p.aev;have sl:(bJ V).length=V.length:=CB;intro J HJ
 have ac:∀(d:aa),ia s.N s.tb v=(6,s.tb)->Ext h d->R (TV.i 6).val d:=λd e x=>by
  rw[e]at Z;exact Z d Fp (p.ext x) (.an x)
 obtain⟨F,B⟩:∃F,F=dm s.N (place v.target s.N):=⟨_,rfl⟩
 have node:∀(d:aa)(q:Nat),Ext h1 d->Var 69 d q F.1.tv->J (some ⟨a.bk,0⟩,some ⟨a.tr,0⟩,some ⟨a.bk,0⟩,some ⟨a.tr,0⟩,v.target,place v.target s.N,F.2,some ⟨q,0⟩,F.2) d:=by
  intro z q y vq;have M:=x1.trans y;refine HJ _ z ?_;intro J1 al;dsimp only;refine ahP (λC=>ac z ?_ M) λC=>?_
  ·have C:F.2=false:=by simpa using C
   unfold ia;unfold dm at B;split at B
   ·rw[B]at C;cases C
   ·rename_i G;rw[G]
  have C:F.2=true:=by simpa using C
  have am:nodeAt s.N (place v.target s.N)=some F.1:=by
   unfold dm at B;split at B
   ·rename_i x hx;rw[hx,B]
   ·rw[B]at C;cases C
  have N:Var 124 z h.size v.tv:=ah8 (t:=v.tv) v1 y;refine⟨_,vq.at.2.1,v.slot,N.ah rfl,ID (λa7=>ac z ?_ M) λa8=>?_⟩
  ·unfold ia;rw[am];simp only[a7,if_true]
  have hT:ia s.N s.tb v=cH s.tb v:=by
   unfold ia;rw[am];simp only[a8,if_false]
  rw[hT]at Z;clear ac;refine al 0 z ?_;clear al J1;intro J2 a9;have p2:=p.ext M;obtain⟨j,ad⟩:∃j,j=nZ s.tb v.who:=⟨_,rfl⟩
  have old:∀(d:aa)(q:Nat),Ext z d->z.size<=q->Var 124 d q j.1.tv->J2 (some ⟨a.bk,0⟩,some ⟨a.ta,0⟩,v.who,j.2,some ⟨q,0⟩,j.2) d:=by
   intro H q l hq vo;have ao:=M.trans l;have O:=p.ext ao;have v4:Var 124 H h.size v.tv:=ah8 (t:=v.tv) N l;have a':h.size<=q:=by have:=M.size;omega
   refine a9 _ H ?_;dsimp only;refine⟨v.who,v4.ah rfl,_,vo.at.2.2,CC O.bk O.ij O.vals λu P=>⟨_,rfl,_,(O.bk.ext P).ah rfl,?_⟩⟩;have p5:=O.ext P;have ba:=ao.trans P;have f:Var 124 u h.size v.tv:=ah8 (t:=v.tv) v4 P;have ap:Var 124 u q j.1.tv:=ah8 (t:=j.1.tv) vo P;have bx:=f.lt;have b0:=ap.lt;obtain⟨tr,La,Ou,ps,ij,hS⟩:=p5.ij;refine RG (x:=v) f (Q5 ij λQ ar bb T=>⟨_,rfl,?_⟩);rw[<-hS]at T;obtain⟨aw,aE⟩:∃S,S=sV a.ta tr La Ou ar:=⟨_,rfl⟩;rw[<-aE]at T;have X6:=p5.x.DY (t':=(cH s.tb v).2) ⟨tr,La,Ou,ar,bb,aE⟩ T;have w6:=p5.x.Yv δ p5.D9 T;have t6:Step (cO Fp) u (cO (mK Fp 2 aw)) Q:=Step.all T;generalize mK Fp 2 aw=F6 at X6 w6 t6;have a0:∀{d:aa}{F':Nat->Nat->Prop}{b:Nat}{t:TV},Step (cO Fp) u (cO F') d->h.size<=b->Var 124 u b t->Var 124 d b t:=λst C vb=>vb.only st.only λ⟨k,hk⟩=>by have:=p.sep.lt k _ hk;omega
   have done:∀(d:aa)(F':Nat->Nat->Prop),jh d g a c V {s with tb:=(cH s.tb v).2} F'->Step (cO Fp) u (cO F') d->dY d a.we a.tr s.N (cZ (bJ V) (cH s.tb v).2 s.N) (F' 1)->R (TV.i (cH s.tb v).1).val d:=
    λd F' X st w=>Z d F' (X.b w) (.cut ba st)
   obtain⟨code,I⟩:∃k,k=(cH s.tb v).1:=⟨_,rfl⟩;rw[<-I]at done⊢;intro J3 a1;by_cases U:code=0\/code=2
   ·have bc:(cH s.tb v).1=0\/(cH s.tb v).1=2:=by rw[<-I];exact U
    obtain⟨a2,he,bd,bi⟩:=Q6 (st:=bJ V) a6 bc;have hw:v.who.toNat<(bJ V).length:=by rw[sl];omega
    have bj:oP s.tb (bJ V) v.who j.1.target=aK s.tb (bJ V) v.who.toNat j.1.target:=by unfold oP;rw[if_pos a2.1]
    rw[bj];have bk:=kK (t:=s.tb) D v.who.toNat j.1.target;have bl:=KI (t:=s.tb) D v.who.toNat j.1.target;obtain⟨l1,l2⟩:=Vu (t:=s.tb) D K.nodup hw j.1.target;obtain⟨ab,a3⟩:∃n,n=aK s.tb (bJ V) v.who.toNat j.1.target:=⟨_,rfl⟩
    have s1:∀r,aK s.tb (bJ V) v.who.toNat r=if j.1.target=r then ab else 0:=λr=>by
     have:=UC (st:=bJ V) (t:=s.tb) v.who.toNat r;rw[show((v.who.toNat:Nat):Int)=v.who by omega,<-ad]at this;rw[a3];exact this
    rw[<-a3]at bk bl l1 l2⊢;rw[show ahU .i64 (0-ab)=-ab by rw[wrap_i64 ω ω];omega]
    have first:=@K7 (λw d=>w=(ahM []).val/\J3 PUnit.unit d) Q g a c V {s with tb:=(cH s.tb v).2} F6 (cZ (bJ V) s.tb s.N) j.1.target (-ab) X6 w6 (λi _=>sC D i) (wo D K.nodup) ⟨ω,ω⟩ l1 l2 λh8 F8 W w8 bm=>⟨rfl,a1 _ h8 (by
     have t8:=t6.trans bm;by_cases c0:code=0
     ·refine ID (λ_=>?_) λG=>absurd c0 G;have v8:Var 124 h8 h.size v.tv:=a0 t8 (ahW _) f;refine⟨_,v8.at.2.2,v.who,v8.ah rfl,_,v8.at.2.2,CC W.bk W.ij W.vals λh9 x9=>⟨_,rfl,x9,?_⟩⟩;have e9:oP (cH s.tb v).2 (bJ V) v.who v.target=aK (cH s.tb v).2 (bJ V) v.who.toNat v.target:=by unfold oP;rw[if_pos a2.1]
      rw[e9];have m:=KH (L:=s.N) K.nodup hw he s1 (bd (by rw[<-I];exact c0));have n0:=kK (t:=(cH s.tb v).2) D v.who.toNat v.target;have n1:=KI (t:=(cH s.tb v).2) D v.who.toNat v.target;refine K7 (W.ext x9) (w8.ext x9) l1 l2 ⟨ω,n1⟩ (λi _=>by rw[<-m];exact sC D i) (by rw[<-m];exact wo D K.nodup) λbo bp br a4 bt=>⟨rfl,?_⟩;rw[<-m]at a4;exact done bo bp br ((t8.trans (Step.an x9)).trans bt) a4
     ·refine ID (λd=>absurd d c0) λ_=>?_;have c2:code=2:=U.resolve_left c0;have m:=KH (L:=s.N) (r1:=j.1.target) (b:=0) K.nodup hw he s1 (λr=>by rw[bi (by rw[<-I];exact c2) r];split<;>rfl);rw[Vs]at m;rw[<-m]at w8;exact done h8 F8 W t8 w8)⟩
    have a5:Var 124 Q q j.1.tv:=a0 t6 a' ap;rcases U with c0|c2
    ·exact ID (λ_=>⟨_,a5.at.2.2,first⟩) λG=>absurd c0 G
    ·exact ID (λd=>ω) λ_=>aie.2 ⟨λ_=>⟨_,a5.at.2.2,first⟩,λG=>absurd c2 G⟩
   ·have n0:¬code=0:=λh=>U (.inl h);have n2:¬code=2:=λh=>U (.inr h);have e:=OS (L:=s.N) (UF (st:=bJ V) (t:=s.tb) (v:=v) (by rw[<-I];exact n0) (by rw[<-I];exact n2));rw[<-e]at w6;exact ID (λd=>absurd d n0) λ_=>aie.2 ⟨λd=>absurd d n2,λ_=>a1 _ Q (ID (λd=>absurd d n0) λ_=>done Q F6 X6 t6 w6)⟩
  obtain⟨tr,La,Ou,ps,ij,hS⟩:=p2.ij;refine⟨_,p2.bk.ah rfl,v.who,N.ah rfl,EJ ij λh3 o=>⟨_,_,_,_,rfl,af λH v4 l s4=>⟨l,av (t:=(nZ s.tb v.who).1.tv) v4 rfl rfl λu f f5 s5=>?_⟩⟩,af λh3 v3 o s3=>⟨o,EJ (ij.ext o) λH l=>⟨_,_,_,_,rfl,av (t:=(nZ s.tb v.who).1.tv) (v3.ext l) rfl rfl λu f f5 s5=>?_⟩⟩⟩
  ·rw[<-ad]at f⊢;exact old u h3.size (o.trans (ahG l f5 λi E=>aib (aic E))) o.size f
  ·rw[<-ad]at f⊢;exact old u z.size (ahG (o.trans l) f5 λi E=>aib (aic E)) (ahW _) f
 obtain⟨r,A,Y,hS⟩:=p1.tree;refine⟨_,p1.bk.ah rfl,_,p1.bk.ah rfl,v.target,v1.at.2.2,dx Y λz y=>⟨_,rfl,y,?_⟩,af λz N y s2=>⟨y,dx (Y.ext y) λh3 o=>⟨_,rfl,o,cL ((Y.ext y).ext o) λH l=>⟨_,_,_,_,rfl,?_⟩⟩⟩⟩
 ·refine⟨cL (Y.ext y) λh3 o=>⟨_,_,_,_,rfl,af λH v4 l s4=>⟨l,av (t:=(dm s.N (place v.target s.N)).1.tv) v4 rfl rfl λu f f5 s5=>?_⟩⟩,af λh3 v3 o s3=>⟨o,cL ((Y.ext y).ext o) λH l=>⟨_,_,_,_,rfl,av (t:=(dm s.N (place v.target s.N)).1.tv) (v3.ext l) rfl rfl λu f f5 s5=>?_⟩⟩⟩
  ·rw[<-B]at f⊢;exact node u h3.size ((y.trans o).trans (ahG l f5 λi E=>aib (aic E))) f
  ·rw[<-B]at f⊢;exact node u z.size (y.trans (ahG (o.trans l) f5 λi E=>aib (aic E))) f
 ·refine av (t:=(dm s.N (place v.target s.N)).1.tv) ((N.ext o).ext l) rfl rfl λu f f5 s5=>?_;rw[<-B]at f⊢;exact node u h1.size (ahG ((y.trans o).trans l) f5 λi E=>aib (aic E)) f
end
end Gate
end Go.Proofs.YtennbinbffdimaaGreat

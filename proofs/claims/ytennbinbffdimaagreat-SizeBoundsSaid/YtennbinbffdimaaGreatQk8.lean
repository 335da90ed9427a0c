/- Texts that the proof needs, joined. -/
import Derived.Test.YtennbinbffdimaaGreatQk7
set_option maxRecDepth 100000
open Go.Vc.ag renaming cut->ajp,an->ajD
open Go.IntKind renaming wrap->ajq,bits->ajY
open Go.Vc.If renaming no->ajr,yes->aju,split->ajJ,dec->aka
open Go.Vc.Bs renaming zero->ajs,ext'->aj0
open Go.Vc.Sl renaming nil->ajt,mk->ajC
open List renaming length_map->ajv,length_take->ajz,length_drop->ajA,take_length->ajK,length_filter_le->ajO,length_append->ajP,length_cons->ajV,take_of_length_le->ajW,take_add_one->ajZ,append_nil->aj2,map_append->aj4,getD_eq_getElem?_getD->aj5,map_take->aj7,length_singleton->aj8,replicate->aj9,drop_eq_getElem_cons->akb,drop_zero->akc
open Go.Vc.TV renaming bg->ajw,bool->ajx,ptr->ajG,put->ajM,bytes->ajN,slice->ajQ,int->aj6,str->akg
open Int renaming le_refl->ajy,toNat_natCast->ajL,natCast_nonneg->ajR
open Go.Vc.Ext renaming refl->ajB,push->ajE
open Nat renaming le_trans->ajF,le_refl->ajI,zero_le->ajU,pow_le_pow_right->ajX,sub_zero->akd,sub_self->ake,pow_succ->akf
open Go.Vc.ak renaming cells->ajH
open UInt8 renaming toNat_inj->ajS,ofNat->aj1
open BitVec renaming ofInt->ajT,toNat->akh
open Go.Op renaming bytesLess->aj3
namespace Go.Proofs.YtennbinbffdimaaGreat
open Go Go.Vc
namespace Pool
section
variable{R:Rq}{h:af}{b:Nat}{A:Sl}{L:List It}{most quota:Int}
def Rk(x y:It):Int:=if bf x y=true then-1 else if bf y x=true then 1 else 0
theorem OP(x y:It):Go.Proofs.ltOf Rk x y=bf x y:=by
 unfold Go.Proofs.ltOf Rk;cases a:bf x y with
 |true=>simp
 |false=>
  cases b:bf y x<;>simp
theorem swo:Go.Sort.SWO (Go.Proofs.ltOf Rk) where
 irrefl x:=by rw[OP];exact rV x
 trans x y z h k:=by rw[OP]at*;exact EN h k
 ntrans x y z h k:=by rw[OP]at*;exact Bl h k
theorem J9{x y:It}(q:∀e,Ext h e->R (TV.i (Rk x y)).val e):jc Tryz.prog 255 (ak.vals [x.tv,y.tv]) h R:=by
 apply Ae x.slot x.root x.peer x.fr x.text y.slot y.root y.peer y.fr y.text;delta sE nj dX bA;refine aa λb v1 l n=>aa λc f g o=>?_;have i:=v1.ext g;have d:=l.trans g;refine rG (x:=x) i (rG (x:=y) f ?_);refine yK (x:=x) (y:=y) λm a=>⟨_,rfl,?_⟩;unfold Rk at q;cases b:bf x y with
 |true=>rw[b]at q;exact aju (q m (d.trans a))
 |false=>
  rw[b]at q;refine ajr (rG (x:=y) (f.ext a) (rG (x:=x) (i.ext a) ?_));refine yK (x:=y) (y:=x) λj k=>⟨_,rfl,?_⟩;cases c:bf y x with
  |true=>rw[c]at q;exact aju (q j ((d.trans a).trans k))
  |false=>rw[c]at q;exact ajr (q j ((d.trans a).trans k))
def Dv(h:af)(s:Sl):Prop:=∀l,s.a=some l->h.size<=l.b
theorem TF{s:Sl}(e:aj 67 h s (qw L))(q:L.length<1000)
 (B:∀b a,Vc.Own 242 67 b a (qw L)->Ext h b->Dv h a->R (ajQ a).val b):Cl 253 [.slice s] h R:=by
 apply jy;delta iA pR d_ kT gY fD;have g:=e.len;rw[ajv]at g;refine ajJ (λc=>?_) (λc=>?_)
 ·have:s.a=none:=by
   cases i:s.a with
   |none=>rfl
   |some l=>rw[Sl.mC i]at c;cases c
  have j:qw L=[]:=e.nil this;have:=B h ajt (by rw[j];exact Vc.Own.nil _ 67 h) (ajB _) (λl q=>by cases q);exact this
 ·have o:=Vc.Own.new (T:=242) (sz:=67) h [] (λt k=>by cases k);have d:=ajE h (row (ajH []) 242);refine oW (C:=ctx) (T:=242) (t:=ajC (some (Vc.Loc.mk h.size 0)) 0 0) ON OO (by rw[CE];decide) δ (by rw[CE];simp only;omega) o (e.ext d) (sM L) (wY L) λa m n p _ r=>?_;refine B m a (by simpa using n) (d.trans (p rfl)) λl q=>?_;rcases r l q with⟨v,f,u⟩|f
  ·cases f;have:h.size=l.b:=u;omega
  ·have:=d.size;omega
theorem agW:∀w,(isAgg (Tryz.sortIts_ren.t 24)).run Tryz.prog w=.ok true w:=λw=>by
 have a:∃c,Tryz.prog.underlying 242=some (.struct c):=by
  cases b:(ctx.ti 242).d with
  |none=>have:(ctx.ti 242).d.isSome=true:=κ
         rw[b]at this;cases this
  |some d=>
   have f:=bP.d b;have e:(match(ctx.ti 242).d with|some (.struct _)=>true|_=>false)=true:=κ;rw[b]at e;cases d<;>first|(exact⟨_,f⟩)|cases e
 obtain⟨c,a⟩:=a;have:=nQ (P:=Tryz.prog) (w:=w) a;exact this
theorem agX:∀w,(sizeOf (Tryz.sortIts_ren.t 24)).run Tryz.prog w=.ok 67 w:=λw=>by
 have:=EJ (C:=ctx) bP (t:=242) κ w;rw[ON]at this;exact this
theorem OQ{s:Sl}(o:Vc.Own 242 67 h s (qw L))(B:L.length<1000)
 (q:∀a L',L'.Perm L->L'.Pairwise (λx y=>bf y x=false)->Vc.Own 242 67 a s (qw L')->ag (In s) h a->R (ajw []).val a):Cl 254 [.slice s,.fn (.func 255) [] []] h R:=by
 refine Q3 (tv:=It.tv) (k:=67) (P:=Tryz.prog) Tryz.sortIts (T:=242) agW agX It.size It.plain swo (g:=255) (cb:=#[]) (bP.LI κ) (λa x y=>?_) o ω (λa L' c d e f=>?_)
 ·exact J9 (x:=x) (y:=y) λj i=>⟨rfl,i⟩
 ·refine q a L' c (d.imp λ{x y} b=>?_) e f;rw[OP]at b;exact b
structure PL(h:af)(b:Nat)(A:Sl)(S:List It)(most quota:Int):Prop where
 IS:YX S
 names:(S.map It.root).Nodup
 iz:S.length<800
 ex:∃L,HL h b A L most quota/\gv 0 L/\L.Perm S
def dV(b:Nat)(A:Sl)(i:Nat):Prop:=i=b\/In A i
structure Grown(b:Nat)(A:Sl)(h:af)(A':Sl)(h':af):Prop where
 only:ag (dV b A) h h'
 new:∀i,dV b A' i->dV b A i\/h.size<=i
theorem Grown.refl:Grown b A h A h:=⟨ag.refl _ _,λ_ a=>.inl a⟩
theorem Grown.an{q:af}(x:Ext h q):Grown b A h A q:=⟨ajD x,λ_ a=>.inl a⟩
theorem Grown.trans{A' q:Sl}{B E:af}(g:Grown b A h A' B)(k:Grown b A' B q E):Grown b A h q E:=by
 have d:=g.only.size;refine⟨⟨ajF d k.only.size,λi c e=>?_⟩,λi c=>?_⟩
 ·rw[k.only.same i (Nat.lt_of_lt_of_le c d) (λf=>?_),g.only.same i c e];rcases g.new i f with a|a
  ·exact e a
  ·omega
 ·rcases k.new i c with a|a
  ·exact g.new i a
  ·exact .inr (ajF d a)
variable{S:List It}
theorem PL.ext{q:af}(p:PL h b A S most quota)(x:Ext h q):PL q b A S most quota:=by
 obtain⟨a,c,d,L,e,f⟩:=p;exact⟨a,c,d,L,e.ext x,f⟩
theorem PL.only{q:af}{Q:Nat->Prop}(p:PL h b A S most quota)(o:ag Q h q)(B:∀i,dV b A i->¬Q i):PL q b A S most quota:=by
 obtain⟨a,c,d,L,e,f⟩:=p;exact⟨a,c,d,L,e.only o (B b (.inl rfl)) (λi g=>B i (.inr g)),f⟩
theorem PL.lt(p:PL h b A S most quota){i:Nat}(q:dV b A i):i<h.size:=by
 obtain⟨_,_,_,L,a,_⟩:=p;rcases q with rfl|⟨l,c,rfl⟩
 ·exact a.var.lt
 ·exact a.own.lt l c
theorem TG{L S:List It}(q:L.Perm S)(B:(S.map It.root).Nodup):(L.map It.root).Nodup:=(q.map _).nodup_iff.2 B
theorem aei{L:List It}(q:L.Pairwise λx y=>bf y x=false)(B:(L.map It.root).Nodup):YX L:=by
 unfold YX;have c:L.Pairwise λx y=>x.root≠y.root:=List.pairwise_map.1 B;refine(q.and c).imp λ{x y} b=>?_;rcases JE (x:=x) (y:=y) (λe=>b.2 e.2)with a|a
 ·exact a
 ·rw[b.1]at a;cases a
theorem BO(p:PL h b A S most quota)(q:∀a c,Vc.Own 242 67 a c (qw S)->Ext h a->Dv h c->R (ajQ c).val a):Cl 196 [.ptr (PT b)] h R:=by
 apply C_;delta aJ pR;obtain⟨k,m,v,L,H,w,d⟩:=p;refine ajr ⟨A,H.var.ah rfl,?_⟩;have f:=d.length_eq;refine TF H.own.elems H.iz λx g n o f1=>⟨g,rfl,?_⟩;refine OQ n H.iz λr L' s t u f2=>⟨rfl,?_⟩;have j:=s.trans d;have:L'=S:=JF (aei t (TG j m)) k j;subst this;refine q r g u (ajp o f2 λi⟨l,f,e⟩=>?_) f1;have:=f1 l f;omega
end
end Pool
namespace Pool
section
variable{R:Rq}{h:af}{b:Nat}{A:Sl}{L S:List It}{most quota:Int}
theorem OR{α:Type}{K:α->Prop}{x:α}(h:K x):Nn (some x) K:=h
def has(r:Bs 32)(S:List It):Bool:=S.any λx=>decide (x.root=r)
def cnt(k:Int)(S:List It):Nat:=S.countP λx=>decide (x.peer=k)
def cV(most quota:Int)(x:It)(S:List It):Int×It×List It:=
 if has x.root S=true then(9,It.zero,S)
 else if quota<=(cnt x.peer S:Int)then(11,It.zero,S)
 else if(S.length:Int)<most then(1,It.zero,dP x S)
 else match S.getLast? with
  |none=>(12,It.zero,S)
  |some y=>if bf x y=true then(2,y,dP x S.dropLast)else(12,It.zero,S)
structure M6(h:af)(f:One)(pred:It->Bool):Prop where
 ex:∃g first cap,f.v=.func (.func g) first cap/\NZ Tryz.prog g/\
  ∀h' x(R':Rq),Ext h h'->(∀h'',Ext h' h''->R' (ajx (pred x)).val h'')->bC Tryz.prog g (List.append (List.append first.toList (ak.vals [x.tv])) cap.toList) h' R'
theorem M6.ext{q:af}{f:One}{pred:It->Bool}(t:M6 h f pred)(x:Ext h q):M6 q f pred:=by
 obtain⟨g,first,cap,a,b,c⟩:=t.ex;exact⟨g,first,cap,a,b,λd y R' e=>c d y R' (x.trans e)⟩
theorem D2{s:Sl}{f:One}{pred:It->Bool}(e:aj 67 h s (qw L))(B:L.length<1000)(t:M6 h f pred)
 (q:∀b n,Ext h b->decide (0<=n)=L.any pred->R (TV.i n).val b):Cl 224 [.slice s,.one f] h R:=by
 apply iV;delta sE iZ Ww nj gI bK;have d:=e.len;rw[ajv]at d;refine⟨λs a=>0<=s.2/\s.2<=L.length/\Ext h a/\(L.take s.2.toNat).any pred=false,λs _=>(L.length-s.2).toNat,⟨ajy _,ajR _,ajB _,rfl⟩,?_⟩;rintro⟨u,i⟩ a ⟨j,v,x,k⟩;refine ID (λm=>?_) λm=>?_
 ·refine gE (e.ext x) j ω λl y _ w=>?_;obtain⟨g,first,cap,o,p,r⟩:=t.ex;refine⟨g,first,cap,o,p,r a y _ x λz c=>⟨_,rfl,?_⟩⟩;have A:(i+1).toNat=i.toNat+1:=ω;cases C:pred y with
  |true=>
   refine aju (q _ _ (x.trans c) ?_)
   grind
  |false=>
   rw[wrap_i64 ω ω];refine⟨⟨ω,ω,x.trans c,?_⟩,by grind⟩;simp_all [ajZ,List.any_append]
 ·have:i.toNat=L.length:=ω;rw[this,ajK]at k;refine q _ _ x ?_;simp_all
theorem uZ{s:Sl}{f:One}{pred:It->Bool}(e:aj 67 h s (qw L))(q:L.length<1000)(t:M6 h f pred)
 (B:∀a,Ext h a->R (ajx (L.any pred)).val a):Cl 164 [.slice s,.one f] h R:=by
 apply iC;refine D2 e q t λa n x b=>⟨n,rfl,?_⟩;simp_all
theorem WY{x:It}{T:TypeId}{c:Nat}{r:Bs 32}(v:Var T h c (.bytes 32 r))(q:∀a,Ext h a->R (ajx (decide (x.root=r))).val a):Cl 165 [x.tv,.ptr (PT c)] h R:=by
 apply Af x.slot x.root x.peer x.fr x.text;delta kU bz;refine aa λd v1 b f=>?_;refine⟨x.root,jF v1,r,(v.ext b).bytes,?_⟩;have:decide (x.root.1=r.1)=decide (x.root=r):=decide_eq_decide.2 ⟨λe=>aj0 e,λe=>by rw[e]⟩;simp_all
theorem Kj(p:PL h b A S most quota){r:Bs 32}(q:∀a,Ext h a->R (ajx (has r S)).val a):Cl 99 [.ptr (PT b),.bytes 32 r] h R:=by
 apply q9;refine aa λg v1 d i=>?_;obtain⟨j,k,l,L,H,m,n⟩:=p.ext d;refine aju ⟨A,H.var.ah rfl,?_⟩;refine uZ (f:=⟨(TV.fn (.func 165) [] [.ptr (PT h.size)]).val,rfl⟩) (pred:=λx=>decide (x.root=r)) H.own.elems H.iz ⟨165,#[],#[(ajG (PT h.size)).val],rfl,bP.LI κ,λa x R' c e=>?_⟩ λa c=>⟨_,rfl,?_⟩
 ·exact WY (v1.ext c) e
 ·have:L.any (λx=>decide (x.root=r))=has r S:=by
   grind [has,List.any_eq_true,decide,List.any_eq_false]
  rw[this];exact q a (d.trans c)
theorem OS{r:Bs 32}(q:∀a,Ext h a->R (ajx false).val a):Cl 99 [.ptr none,.bytes 32 r] h R:=by
 apply q9;refine aa λb v1 c d=>?_;exact ajr (q b c)
theorem GB(p:PL h b A S most quota)(q:R (TV.i (S.length:Int)).val h):Cl 152 [.ptr (PT b)] h R:=by
 apply C';obtain⟨c,d,e,L,H,f,a⟩:=p;refine ajr ⟨A,H.var.ah rfl,Ff ⟨_,rfl,?_⟩⟩;rw[<-H.len,a.length_eq];exact q
theorem ZY{i:Nat}{x:It}(k:Int)(q:S[i]? =some x):cnt k (S.take (i+1))=cnt k (S.take i)+if x.peer=k then 1 else 0:=by
 simp_all [ajZ,cnt,List.countP_append,List.countP_cons]
theorem IT(p:PL h b A S most quota){k:Int}(q:∀d,Ext h d->R (TV.i (cnt k S:Int)).val d):Cl 268 [.ptr (PT b),.i k] h R:=by
 apply D5;delta abT gI bK;have G:=p.iz;refine BO p λr t e u _=>⟨t,rfl,?_⟩;have v:=e.len;rw[ajv]at v;refine⟨λs f=>0<=s.2/\s.2<=S.length/\Ext r f/\s.1=cnt k (S.take s.2.toNat),λs _=>(S.length-s.2).toNat,⟨ajy _,ajR _,ajB _,rfl⟩,?_⟩;rintro⟨n,i⟩ f ⟨g,w,x,a⟩;simp only at g w a⊢;refine ID (λz=>?_) λz=>?_
 ·refine gE (e.elems.ext x) g ω λl y _ B=>?_;refine aa λH C D I=>?_;refine aH C rfl λJ E F K=>?_;have m:=ajp D F λj L=>ω;refine⟨y.peer,Ki E,?_⟩;have M:(i+1).toNat=i.toNat+1:=ω;have o:=ZY k B
  have N:cnt k (S.take i.toNat)<=S.length:=by
   grind [ajF,cnt,List.countP_le_length,ajz]
  rw[wrap_i64 ω ω];refine ID (λc=>?_) λc=>?_
  ·rw[if_pos c]at o;rw[wrap_i64 ω ω];exact⟨⟨ω,ω,x.trans m,by simp_all⟩,ω⟩
  ·rw[if_neg c]at o;exact⟨⟨ω,ω,x.trans m,by simp_all⟩,ω⟩
 ·have:i.toNat=S.length:=ω;rw[this,ajK]at a;rw[a];exact q _ (u.trans x)
theorem Fg{q:Int}(B:¬(1<=most/\most<=64/\1<=q/\q<=64)->R (ajG none).val h)
 (E:(1<=most/\most<=64/\1<=q/\q<=64)->∀a,PL a h.size ajt [] most q->Ext h a->a.size=h.size+1->R (ajG (PT h.size)).val a):Cl 145 [.i most,.i q] h R:=by
 apply Kh;refine ID (λb=>B ω) λb=>aka.2 ⟨λc=>B ω,λc=>ID (λd=>B ω) λd=>aka.2 ⟨λe=>B ω,λe=>?_⟩⟩;refine aa λb v1 f g=>E ω b ⟨List.Pairwise.nil,List.nodup_nil,δ,[],⟨v1,Vc.Own.nil _ 67 b,λ⟨l,j,_⟩=>(by cases j),δ⟩,λk _ m=>(by grind),List.Perm.refl _⟩ f g
theorem CF{r:Bs 32}(h:has r S=false):∀y∈S,r≠y.root:=λy a e=>by
 have:=List.any_eq_false.1 h y a;simp_all
theorem M7{x:It}(q:(S.map It.root).Nodup)(h:has x.root S=false):((dP x S).map It.root).Nodup:=by
 have a:=(dy x S).map It.root;rw[a.nodup_iff,List.map_cons,List.nodup_cons];refine⟨λb=>?_,q⟩;obtain⟨y,c,e⟩:=List.mem_map.1 b;exact CF h y c e.symm
theorem Kk{y:It}(B:YX S)(E:(S.map It.root).Nodup)(q:S.getLast? =some y){x:It}(G:has x.root S=false):
 YX S.dropLast/\(S.dropLast.map It.root).Nodup/\has x.root S.dropLast=false/\S.Perm (y::S.dropLast)/\S.dropLast.length+1=S.length:=by
 have a:S≠[]:=λe=>by simp_all
 have c:=List.dropLast_concat_getLast a;have d:=by rw[List.getLast?_eq_some_getLast a]at q;exact Option.some.inj q
 rw[d]at c;have b:=List.dropLast_sublist S;refine⟨B.sublist b,E.sublist (b.map _),?_,?_,?_⟩
 ·refine List.any_eq_false.2 λz f=>?_
  grind [CF]
 ·grind [List.perm_append_comm]
 grind
theorem ZZ{x:It}(q:gv 0 L):uo 0 (L.set 0 x) 0:=by
 have g:∀k,0<k->cm (L.set 0 x) k=cm L k:=λk a=>by
  unfold cm;rw[aj5,aj5,List.getElem?_set_ne ω]
 refine⟨λk a b d e=>?_,λk _ _ _ c=>absurd c δ⟩;rw[List.length_set]at b;rw[g k a,g _ ω];exact q k a b (ajU _)
theorem set_perm{x y:It}{S':List It}(E:0<L.length)(q:cm L 0=y)(B:L.Perm (y::S')):(L.set 0 x).Perm (x::S'):=by
 cases L with
 |nil=>grind
 |cons z a=>
  have:=q;subst this;exact(List.Perm.cons_inv B).cons x
theorem pN(p:PL h b A S most quota)(x:It)(hm:1<=most)(bc:most<=64)(bd:(S.length:Int)<=most)
 (hr:∀Q A',PL Q b A' (cV most quota x S).2.2 most quota->Grown b A h A' Q->R (ajw [.i (cV most quota x S).1,(cV most quota x S).2.1.tv]).val Q):
 Cl 212 [.ptr (PT b),x.tv] h R:=by
 apply Da (PT b) x.slot x.root x.peer x.fr x.text;refine aa λd v1 x1 s1=>aa λh2 T x2 s2=>?_;have U:=v1.ext x2;have ao:=x1.trans x2;have V:=p.ext ao;have aE:∀i,dV b A i->i<h.size:=λi a=>p.lt a
 have H:∀(o:af)(A':Sl)(v:Int)(S':List It),Var 242 o d.size It.zero.tv->PL o b A' S' most quota->Grown b A h A' o->(∀i,dV b A' i->i≠d.size)->cV most quota x S=(v,It.zero,S')->
  gT o d.size 0 67/\Bind (ajM o d.size 0 It.zero.tv) λh=>
   ∃(n:Int),∃(c:Bs 32),∃(n1:Int),∃(c1:Bs 32),∃(s:LU),(ah h d.size 0 (.i n)/\av h d.size 1 32 c/\ah h d.size 33 (.i n1)/\av h d.size 34 32 c1/\ah h d.size 66 (.string (ByteArray.mk (List.toArray s))))/\
    R (ajw [.i v,.agg [.i n,.bytes 32 c,.i n1,.bytes 32 c1,.str s]]).val h:=by
  intro o A' v S' v3 q I a0 he;refine aH v3 rfl λJ v4 W s4=>rG v4 ?_;have:=hr J A' (by rw[he];exact q.only W a0) ⟨⟨ajF I.only.size W.size,λi a X=>?_⟩,I.new⟩
  ·rw[he]at this;exact this
  ·rw[W.same i (by have:=I.only.size;omega) ω,I.only.same i a X]
 have B:∀i,dV b A i->i≠d.size:=λi a=>by grind
 refine ajr ⟨x.root,jF U,?_⟩;refine Kj V λo g=>⟨_,rfl,?_⟩;have ap:=ao.trans g;have q:=V.ext g;cases r:has x.root S with
 |true=>
  refine aju (H o A 9 S (T.ext g) q (.an ap) B ?_);unfold cV;rw[if_pos r]
 |false=>
  obtain⟨_,_,_,L3,H3,_,_⟩:=q;refine ajr ⟨x.peer,Ki (U.ext g),quota,H3.var.ah rfl,?_⟩;have q:=V.ext g;refine IT q λJ k=>⟨_,rfl,k,?_⟩;have K:=ap.trans k;have E:=q.ext k;refine ID (λL=>?_) λL=>?_
  ·refine H J A 11 S ((T.ext g).ext k) E (.an K) B ?_;unfold cV;rw[if_neg (by rw[r];decide),if_pos L]
  ·obtain⟨_,_,_,Y,H4,Z,M⟩:=E;refine⟨most,H4.var.ah rfl,?_⟩;have E:=q.ext k;refine GB E ⟨_,rfl,ajB _,?_⟩;have ab:=(U.ext g).ext k;have ac:=(T.ext g).ext k;have bi:=M.length_eq;refine ID (λa1=>?_) λa2=>?_
   ·refine rG ab ?_;refine TD H4 Z ω rfl x (u:=⟨.iface 242 x.tv.val,rfl⟩) rfl λC A5 L5 H5 a3 a4 o5 n5=>⟨rfl,?_⟩;have ad:L5.Perm (dP x S):=(a3.trans ((M.append_right [x]).trans (List.perm_append_comm.trans (List.Perm.refl _)))).trans (dy x S).symm;have p5:PL C b A5 (dP x S) most quota:=⟨F_ p.IS (CF r),M7 p.names r,by rw[(dy x S).length_eq,ajV];have:=p.iz;omega,L5,H5,a4,ad⟩;have bj:=K.size
    have ar:∀i,dV b A5 i->dV b A i\/J.size<=i:=λi a=>by
     rcases a with e|a
     ·exact .inl (.inl e)
     ·rcases n5 i a with f|f
      ·exact .inl (.inr f)
      ·exact .inr f
    have bk:=g.size;have bl:=k.size;refine H C A5 1 (dP x S) (ac.only o5 (λm=>B d.size m rfl)) p5 (Grown.trans (.an K) ⟨o5,ar⟩) (λi a=>?_) ?_
    ·rcases ar i a with f|f
     ·exact B i f
     ·omega
    ·unfold cV;rw[if_neg (by rw[r];decide),if_neg L,if_pos a1]
   ·have bm:(S.length:Int)=most:=ω;have ae:0<Y.length:=ω;have aw:=Wh Z M p.IS ae;have hA:=H4.len;refine rG (x:=x) ab ⟨A,H4.var.ah rfl,?_⟩;refine gE (i:=0) H4.own.elems δ ω λl y _ hy=>?_;have N:y=cm Y 0:=IQ hy;refine ux (x:=x) (y:=y) λC w=>⟨_,rfl,?_⟩;have al:=K.trans w;have p5:=E.ext w;have H5:=H4.ext w
    have F:cV most quota x S=if bf x y=true then(2,y,dP x S.dropLast)else(12,It.zero,S):=by
     unfold cV;rw[if_neg (by rw[r];decide),if_neg L,if_neg a2,aw,<-N]
    cases hb:bf x y with
    |false=>
     rw[hb]at F;exact aju (H C A 12 S (ac.ext w) p5 (.an al) B F)
    |true=>
     rw[hb,if_pos rfl]at F;refine ajr ⟨A,H5.var.ah rfl,?_⟩;refine gE (i:=0) H5.own.elems δ ω λl2 z _ a5=>?_;have a6:z=y:=(IQ a5).trans N.symm;subst a6;refine aa λh6 v6 x6 s6=>?_;refine aH v6 (t:=z.tv) rfl λh7 v7 o7 s7=>?_;have G:Ext C h7:=ajp x6 o7 λj hj=>ω;have D:=H5.ext G;refine⟨A,D.var.ah rfl,?_⟩;have a7:Var 242 h7 h.size x.tv:=(ab.ext w).ext G;refine rG (x:=x) a7 ?_;refine D.own.aH (i:=0) (t:=x.tv) δ (by simp;omega) rfl rfl λh8 o8 f8 s8=>?_;have H8:HL h8 b A (Y.set 0 x) most quota:=⟨D.var.only f8 D.apart,by rw[OM];exact o8,D.apart,by rw[List.length_set];exact D.iz⟩;refine OR ?_;refine WX H8 (by rw[List.length_set];exact ae) (ZZ Z) (v:=⟨.iface 299 (ajG (PT b)).val,rfl⟩) rfl λf L9 H9 a8 a9 o9=>⟨rfl,?_⟩;have O:∀i,In A i->i<h.size:=λi a=>aE i (.inr a);have bo:=al.size;have bp:=G.size;have br:=g.size;have bt:=k.size;have bx:=w.size;have v9:Var 242 f C.size z.tv:=(v7.only f8 (λm=>by have:=O _ m;omega)).only o9 (λm=>by have:=O _ m;omega);have a':Var 242 f d.size It.zero.tv:=(((ac.ext w).ext G).only f8 (λm=>by have:=O _ m;omega)).only o9 (λm=>by have:=O _ m;omega);refine rG (x:=z) v9 ?_;refine aH a' (t:=z.tv) rfl λba v10 am b0=>rG (x:=z) v10 ?_;have bb:S.getLast? =some z:=by rw[aw,<-N]
     obtain⟨d1,d2,d3,d4,d5⟩:=Kk p.IS p.names bb r;have ad:L9.Perm (dP x S.dropLast):=(a8.trans (set_perm ae N.symm (M.trans d4))).trans (dy x S.dropLast).symm;have p9:PL f b A (dP x S.dropLast) most quota:=⟨F_ d1 (CF d3),M7 d2 d3,by rw[(dy x _).length_eq,ajV];have:=p.iz;omega,L9,H9,a9,ad⟩;have P:Grown b A h A f:=Grown.trans (.an (al.trans G)) ⟨(f8.trans o9).mono λi a=>.inr a,λi a=>.inl a⟩;have:=hr ba A (by rw[F];exact p9.only am B) ⟨⟨ajF P.only.size am.size,λi a X=>?_⟩,P.new⟩
     ·rw[F]at this;exact this
     ·rw[am.same i (by have:=P.only.size;omega) ω,P.only.same i a X]
end
end Pool
namespace Pool
def name(n:Int):Bs 32:=((ajs 32).set 0 (aj1 (n%256).toNat)).set 31 (aj1 ((7*n)%256).toNat)
section
variable{R:Rq}{h:af}{b:Nat}{A:Sl}{L S:List It}{most quota:Int}
theorem wrap_u8(n:Int):ajq .u8 n=n%256:=by
 rfl
theorem kV{T:TypeId}{h:af}{b n i o:Nat}{x:Bs n}{K:af->Prop}(v:Var T h b (.bytes n x))(B:i<n)(E:o=i){c:Int}(H:0<=c)(q:c<256)
 (G:∀q,Var T q b (.bytes n (x.set i (aj1 c.toNat)))->ag (·=b) h q->q.size=h.size->K q):gT h b o 1/\Bind ((aj6 .u8 c).put h b o) K:=by
 subst E;have a:o+(aj6 .u8 c).size<=(ajN n x).cells.length:=by grind [TV.ai,TV.size]
 refine⟨v.gT (by grind [TV.size]),G _ ?_ (gV v a) (gW v a)⟩;have:=jJ v a;unfold Var;rw[this];simp only[TV.cells,TV.size,Bs.set,List.map_set]
 have e:(aj1 c.toNat).toNat=c:=by
  grind [UInt8.toNat_ofNat']
 rw[e,List.set_eq_take_append_cons_drop,if_pos (by rw[ajv,x.h];exact B)];simp
theorem uE:(ctx.ti 82).bytes=96:=κ
theorem OT:(ctx.ti 82).size=67:=κ
theorem IU:(ctx.ti 82).z.size=67:=κ
def aej(x y:It):Bool:=decide (x.slot=y.slot)&&(decide (x.root.1=y.root.1)&&(decide (x.peer=y.peer)&&(decide (x.fr.1=y.fr.1)&&(decide (x.text=y.text)&&true))))
theorem Z0{x y:It}:aej x y=true↔x=y:=by
 unfold aej;cases x;cases y;simp only[Bool.and_eq_true,decide_eq_true_eq,and_true,It.mk.injEq]
 grind [aj0]
instance:DecidableEq It:=λx y=>decidable_of_iff (aej x y=true) Z0
theorem adC{s:Sl}{x:It}{K:Sl->af->Prop}(o:Vc.Own 242 67 h s (qw L))(B:L.length<1000)
 (q:∀a b,Vc.Own 242 67 b a (qw (L++[x]))->ag (In s) h b->(∀l,a.a=some l->(∃c,s.a=some c/\c.b=l.b)\/h.size<=l.b)->K a b):
 ∃new,cn (h.push (row (ajH [x.tv]) 242)) (ajC (some (Vc.Loc.mk h.size 0)) 1 1) 67 new/\(∀v∈new,bU v=true)/\au ctx 242 s 1 new (h.push (row (ajH [x.tv]) 242)) K:=by
 have ol:=o.len;rw[ajv]at ol;refine cD ON OO (by rw[CE];decide) (by rw[CE];omega) o rfl rfl λa d e f4 b4=>q a d ?_ f4 b4;simp_all
theorem TH(pred:It->Bool)(q:S.length<800):(S.filter pred).length<800:=by
 grind
theorem HC{i:Nat}{x:It}(pred:It->Bool)(q:S[i]? =some x):(S.take (i+1)).filter pred=(S.take i).filter pred++if pred x=true then[x]else[]:=by
 rw[ajZ,q,List.filter_append];cases h:pred x<;>simp[h]
theorem GC(p:PL h b A S most quota){f:One}{pred:It->Bool}(t:M6 h f pred)
 (hr:∀F A' out,PL F b A' (S.filter λx=>!pred x) most quota->Vc.Own 242 67 F out (qw (S.filter pred))->Grown b A h A' F->Dv h out->(∀i,In out i->¬dV b A' i)->R (ajQ out).val F):
 Cl 168 [.ptr (PT b),.one f] h R:=by
 apply BP;delta wu sE Zh Ww pR dD bK;have ad:=p.iz;have aw:=p.lt (.inl rfl);refine BO p λr s1 Z J f1=>⟨s1,rfl,?_⟩;have ae:=Z.len;rw[ajv]at ae;have aE:=J.size
 refine⟨λs G=>0<=s.2.2/\s.2.2<=S.length/\Ext r G/\Vc.Own 242 67 G s.1 (qw ((S.take s.2.2.toNat).filter pred))/\Vc.Own 242 67 G s.2.1 (qw ((S.take s.2.2.toNat).filter λx=>!pred x))/\Dv r s.1/\Dv r s.2.1/\(∀i,In s.1 i->¬In s.2.1 i),λs _=>(S.length-s.2.2).toNat,
  ⟨ajy _,ajR _,ajB _,Vc.Own.nil _ 67 r,Vc.Own.nil _ 67 r,λl a=>(by cases a),λl a=>(by cases a),λi⟨l,a,_⟩=>(by cases a)⟩,?_⟩
 rintro⟨out,K,i⟩ G ⟨i0,i1,x,u,ro,w,k,m⟩;simp only at i0 i1 u ro w k m⊢;have hs:=x.size;refine ID (λM=>?_) λM=>?_
 ·refine gE (Z.elems.ext x) i0 ω λl y _ hy=>?_;refine aa λh2 N x2 s2=>?_;refine aH N rfl λO P B s3=>?_;have ab:=ajp x2 B λj d=>ω;refine rG P ?_;obtain⟨g,first,cap,t1,t2,t3⟩:=t.ex;refine⟨g,first,cap,t1,t2,t3 O y _ ((J.trans x).trans ab) λh4 Q=>⟨_,rfl,?_⟩⟩;have n:=ab.trans Q;have a0:=n.size;have T:(i+1).toNat=i.toNat+1:=ω;have C:=HC pred hy;have z:=HC (λx=>!pred x) hy;rw[wrap_i64 ω ω];have lo:((S.take i.toNat).filter pred).length<1000:=Nat.lt_of_le_of_lt (ajF (ajO _ _) (by grind:(S.take i.toNat).length<=799)) δ;have U:((S.take i.toNat).filter λx=>!pred x).length<1000:=Nat.lt_of_le_of_lt (ajF (ajO _ _) (by grind:(S.take i.toNat).length<=799)) δ;cases V:pred y with
  |true=>
   rw[V]at C z;simp only[Bool.not_true,Bool.false_eq_true,if_false,aj2]at C z;refine aju (rG (P.ext Q) ?_);refine adC (u.ext n) lo λs5 h5 o5 f5 D=>?_;have W:=ajp (x.trans n) f5 λj⟨l,a,e⟩=>by rw[<-e];exact w l a
   refine⟨⟨ω,ω,W,by simp_all,?_,λl a=>?_,k,λj⟨l,a,e⟩ d=>?_⟩,ω⟩
   ·rw[T,z];exact(ro.ext n).only f5 λl a c=>m _ c ⟨l,a,rfl⟩
   ·rcases D l a with⟨o,c,q⟩|c
    ·rw[<-q];exact w o c
    ·omega
   ·rcases D l a with⟨o,c,q⟩|c
    ·exact m j ⟨o,c,q.trans e⟩ d
    ·obtain⟨l2,X,e2⟩:=d;have:=ro.lt l2 X;omega
  |false=>
   rw[V]at C z;simp only[if_true,Bool.not_false,Bool.false_eq_true,if_false,aj2]at C z;refine ajr (rG (x:=y) (P.ext Q) ?_);refine adC (x:=y) (ro.ext n) U λs5 h5 o5 f5 D=>?_;have W:Ext r h5:=ajp (x.trans n) f5 λj⟨l,a,e⟩=>by rw[<-e];exact k l a
   refine⟨⟨ω,ω,W,?_,by rw[T,z];exact o5,w,λl a=>?_,λj d⟨l,a,e⟩=>?_⟩,Ω⟩
   ·rw[T,C];exact(u.ext n).only f5 λl a c=>m _ ⟨l,a,rfl⟩ c
   ·rcases D l a with⟨o,c,q⟩|c
    ·rw[<-q];exact k o c
    ·omega
   ·rcases D l a with⟨o,c,q⟩|c
    ·exact m j d ⟨o,c,q.trans e⟩
    ·obtain⟨l2,X,e2⟩:=d;have:=u.lt l2 X;omega
 ·have al:i.toNat=S.length:=ω;rw[al,ajK]at u ro;have E:=J.trans x;obtain⟨am,hn,hf,L,H,a1,V⟩:=p.ext E;refine OR ?_;have bne:∀l,K.a=some l->l.b≠b:=λl a=>by have:=k l a;omega
  have one:∀j,In out j->j≠b:=λj⟨l,a,e⟩=>by have:=w l a;omega
  refine aI (i:=0) (t0:=.slice A) H.var rfl rfl rfl rfl λh2 N I s2=>?_;refine OR ?_;have U:(S.filter λx=>!pred x).length<800:=TH _ ad;have H2:HL h2 b K (S.filter λx=>!pred x) most quota:=⟨N,ro.only I bne,λ⟨l,a,e⟩=>bne l a e,ω⟩;refine TE H2 (v:=⟨.iface 299 (ajG (PT b)).val,rfl⟩) rfl λO L3 H3 ao ap B=>⟨rfl,?_⟩;have ac:(S.filter λx=>!pred x).Sublist S:=List.filter_sublist;refine hr O K out ⟨am.sublist ac,hn.sublist (ac.map _),U,L3,H3,ap,ao⟩ ?_ ⟨?_,λi M=>?_⟩ (λl a=>by have:=w l a;omega) (λj d Y=>?_)
  ·exact(u.only I (λl a=>one l.b ⟨l,a,rfl⟩)).only B (λl a c=>m l.b ⟨l,a,rfl⟩ c)
  ·refine⟨by have:=E.size;have:=I.size;have:=B.size;omega,λj d ar=>?_⟩;rw[B.same j (by have:=E.size;omega) (λ⟨l,a,e⟩=>by have:=k l a;omega),I.same j (by have:=E.size;omega) (λe=>ar (.inl e)),E.same j d]
  ·rcases M with e|⟨l,a,e⟩
   ·exact .inl (.inl e)
   ·right;have:=k l a;omega
  ·rcases Y with e|Y
   ·exact one j d e
   ·exact m j d Y
end
end Pool
namespace Pool
theorem uF{C:Ctx}{T:TypeId}{sz:Nat}{h:af}{t s:Sl}{ts us:List TV}{K:Sl->af->Prop}(E:(C.ti T).size=sz)(G:(C.ti T).z.size=sz)(H:0<(C.ti T).bytes)(q:0<sz)
 (I:(t.len+s.len)*(C.ti T).bytes<=70368744177664)(B:aj sz h t ts)(J:∀u∈ts,u.size=sz)(Z:t.len=t.cap)(e:aj sz h s us)(O:∀u∈us,u.size=sz)(U:∀u∈us,u.plain=true)(ab:0<s.len)
 (W:∀t' a,Vc.Own T sz a t' (ts++us)->Ext h a->(∀l,t'.a=some l->h.size<=l.b)->K t' a):
 ∃new,cn h s sz new/\(∀v∈new,bU v=true)/\au C T t s.len new h K:=by
 refine⟨ajH us,e.cells O q,ak.mJ U,ajH ts,?_,I,H,λb=>ω,λb=>ω,λ_ c d=>?_⟩
 ·rw[E];exact B.cells J q
 ·have f:=e.len;have g:=B.len;refine W _ _ ⟨λx i=>?_,by simp_all,d,.inr ⟨_,cq (C.ti T).z (c-(t.len+s.len)),rfl,?_,?_⟩⟩ (ajE _ _) λl j=>?_
  ·grind
  ·rw[cO,ak.fT]
  ·rw[je,G]
  grind
theorem M8{h:af}{s:Sl}{ts:List TV}{i j:Nat}(e:aj 67 h s ts)(q:i<=j)(B:j<=s.len)(c:Nat)(E:j<=c):aj 67 h (ay (@ajC s.a s.len c s.HX) i j 67) ((ts.drop i).take (j-i)):=by
 have m:=e.len;refine⟨by grind [ay,ajA,ajz],λf=>?_,λl a k t b=>?_⟩
 ·have:ts=[]\/j-i=0:=by
   unfold ay at f;simp only at f;split at f
   ·omega
   ·left;cases d:s.a with
    |none=>exact e.nil d
    |some l=>simp_all
  grind
 ·unfold ay at a;simp only at a;rw[List.getElem?_take]at b;split at b
  ·rw[List.getElem?_drop]at b;split at a
   ·omega
   ·cases d:s.a with
    |none=>simp_all
    |some g=>
     rw[d]at a;simp only[Option.map_some,Option.some.injEq]at a;subst a;have:=e.get g d (i+k) t b
     grind
  grind
theorem Z1(x:It):∀(M:List It)(i:Nat),i<=M.length->(∀j y,j<i->M[j]? =some y->bf x y=false)->(i=M.length\/∃y,M[i]? =some y/\bf x y=true)->dP x M=M.take i++([x]++M.drop i)
 |[],i,b,_,_=>by
  have:=by simpa using b
  subst this;rfl
 |y::c,0,_,_,h=>by
  rcases h with h|⟨z,a,e⟩
  ·cases h
  ·injection a with a;subst a;rw[dP,if_pos e];rfl
 |y::c,i+1,b,d,h=>by
  have f:=d 0 y (Nat.succ_pos _) rfl
  have g:=Z1 x c i (by simp_all) (λj z k a=>d (j+1) z ω a) (by
   simp_all)
  rw[dP,if_neg (by rw[f];decide),g];rfl
theorem kF(x:It)(M:List It):(dP x M).length=M.length+1:=by rw[(dy x M).length_eq,ajV]
theorem Kl{x y:It}{M:List It}(q:M.getLast? =some y)(B:bf x y=true):dP x M=dP x M.dropLast++[y]:=by
 obtain⟨l,rfl⟩:=List.getLast?_eq_some_iff.1 q;rw[List.dropLast_concat];clear q
 induction l with
 |nil=>simp[dP,B]
 |cons z b a=>
  rw[List.cons_append,dP,dP];split
  ·rfl
  ·rw[a];rfl
structure RL(h:af)(m:Nat)(A:Sl)(M:List It)(most quota:Int):Prop where
 var:Var 74 h m (.agg [.slice A,.i most,.i quota])
 el:aj 67 h A (qw M)
 cap:A.len<=A.cap
 apart:∀l,A.a=some l->l.b≠m
 low:∀l,A.a=some l->l.b<h.size
 iz:M.length<900
section
variable{R:Rq}{h:af}{m:Nat}{A:Sl}{M:List It}{most quota:Int}
theorem RL.only{q:af}{Q:Nat->Prop}(r:RL h m A M most quota)(o:ag Q h q)(B:¬Q m)(E:∀l,A.a=some l->¬Q l.b):RL q m A M most quota:=
 ⟨r.var.only o B,r.el.only o E,r.cap,r.apart,λl a=>Nat.lt_of_lt_of_le (r.low l a) o.size,r.iz⟩
theorem RL.ext{q:af}(r:RL h m A M most quota)(x:Ext h q):RL q m A M most quota:=
 ⟨r.var.ext x,r.el.ext x,r.cap,r.apart,λl a=>Nat.lt_of_lt_of_le (r.low l a) x.size,r.iz⟩
theorem RL.len(r:RL h m A M most quota):M.length=A.len:=by have:=r.el.len;simp_all
theorem D6{a b:Bs 32}(q:∀j,Ext h j->R (ajx (aj3 a.l b.l)).val j):Cl 133 [.bytes 32 a,.bytes 32 b] h R:=by
 apply mP;refine aa λy v1 k z=>aa λo l g A=>?_;have m:=v1.ext g
 have iI:∀{h:af}{b:Nat}{x:Bs 32}{i:Nat},Var 52 h b (.bytes 32 x)->(c:i<32)->ah h b (0+i*1) (.int .u8 (x.l[i]'(by rw[x.h];exact c)).toNat):=by
  intro h b x i v c;have:=v.bytes i c;rw[Nat.mul_one]
  grind [List.getD,ah]
 refine⟨λs n=>0<=s.2/\s.2<=32/\n=o/\aj3 a.l b.l=aj3 (a.l.drop s.2.toNat) (b.l.drop s.2.toNat),λs _=>(32-s.2).toNat,⟨by simp,by simp,rfl,by simp⟩,?_⟩;rintro⟨x,i⟩ n ⟨e,p,rfl,d⟩;simp only at e p d⊢;have B:=a.h;have C:=b.h;refine ID (λc=>?_) λc=>?_
 ·have f:i.toNat<32:=ω;have r:a.l.drop i.toNat=a.l[i.toNat]::a.l.drop (i.toNat+1):=akb ω;have t:b.l.drop i.toNat=b.l[i.toNat]::b.l.drop (i.toNat+1):=akb ω;rw[r,t]at d;simp only[aj3]at d;refine⟨e,c,_,iI m f,e,c,_,iI l f,?_⟩;refine ajJ (λD=>?_) (λu=>?_)
  ·refine⟨e,c,_,iI m f,e,c,_,iI l f,?_⟩
   have w:(a.l[i.toNat]==b.l[i.toNat])=false:=by
    grind
   rw[w,Bool.false_and,Bool.or_false]at d
   have:aj3 a.l b.l=decide ((a.l[i.toNat]).toNat<((b.l[i.toNat]).toNat:Int)):=by
    rw[d];refine decide_eq_decide.2 ?_;rw[UInt8.lt_iff_toNat_lt];omega
   dsimp only;rw[<-this];exact q _ (k.trans g)
  ·have E:a.l[i.toNat]=b.l[i.toNat]:=by
    simp only[Bool.not_eq_false',decide_eq_true_eq]at u
    grind [ajS]
   grind [wrap_i64,UInt8.lt_irrefl]
 ·have F:i.toNat=32:=ω;rw[List.drop_eq_nil_of_le ω,List.drop_eq_nil_of_le ω]at d;rw[d]at q;exact q _ (k.trans g)
theorem Fh{x y:It}(q:∀a,Ext h a->R (ajx (bf x y)).val a):Cl 288 [x.tv,y.tv] h R:=by
 apply u_ x.slot x.root x.peer x.fr x.text y.slot y.root y.peer y.fr y.text;refine aa λl v1 e m=>aa λn b d o=>?_;have c:=v1.ext d;have f:=e.trans d;refine⟨x.slot,oz c,y.slot,oz b,ajJ (λg=>?_) λi=>?_⟩
 ·have p:=by simpa using g
  refine⟨x.slot,oz c,y.slot,oz b,?_⟩;simp_all [bf,decide]
 ·have j:=by simpa using i
  refine⟨x.root,jF (x:=x) c,y.root,jF (x:=y) b,D6 λa k=>⟨_,rfl,?_⟩⟩;have:=q a (f.trans k)
  rwa [show bf x y=aj3 x.root.l y.root.l by unfold bf;simp[j]]at this
theorem Z2(r:RL h m A M most quota){k:Int}(q:∀d,Ext h d->R (TV.i (cnt k M:Int)).val d):Cl 287 [.ptr (PT m),.i k] h R:=by
 apply tX;delta aJ abT gI bK;have B:=r.iz;have C:=r.len;refine⟨A,r.var.ah rfl,?_⟩;refine⟨λs a=>0<=s.2/\s.2<=M.length/\Ext h a/\s.1=cnt k (M.take s.2.toNat),λs _=>(M.length-s.2).toNat,⟨ajy _,ajR _,ajB _,rfl⟩,?_⟩;rintro⟨n,i⟩ a ⟨e,o,x,b⟩;simp only at e o b⊢
 have D:cnt k (M.take i.toNat)<=900:=by
  grind [List.countP_le_length,ajz,cnt,decide]
 refine ID (λp=>?_) λp=>?_
 ·refine gE (r.el.ext x) e ω λl y _ E=>?_;refine aa λF t u G=>?_;refine aH t rfl λH v w I=>?_;have f:=ajp u w λj J=>ω;refine⟨y.peer,Ki v,?_⟩;have K:(i+1).toNat=i.toNat+1:=ω;have L:M.take (i.toNat+1)=M.take i.toNat++[y]:=by grind [ajZ]
  have g:cnt k (M.take (i.toNat+1))=cnt k (M.take i.toNat)+if y.peer=k then 1 else 0:=by
   simp_all [cnt,List.countP_singleton,List.countP_append]
  rw[wrap_i64 ω ω];refine ID (λc=>?_) λc=>?_
  ·rw[wrap_i64 ω ω];rw[if_pos c]at g;exact⟨⟨ω,ω,x.trans f,by simp_all⟩,ω⟩
  ·rw[if_neg c]at g;exact⟨⟨ω,ω,x.trans f,by simp_all⟩,ω⟩
 ·have z:i.toNat=M.length:=ω;rw[z,ajK]at b;rw[b];exact q a x
theorem GD(r:RL h m A M most quota){k:Bs 32}(q:∀e,Ext h e->R (ajx (has k M)).val e):Cl 186 [.ptr (PT m),.bytes 32 k] h R:=by
 apply sN;delta kU aJ jM mq cr fE bz bJ bK lq;have F:=r.iz;have G:=r.len;refine aa λg v1 a H=>?_;refine⟨A,(r.var.ext a).ah rfl,?_⟩;refine⟨λs b=>0<=s.2/\s.2<=M.length/\Ext g b/\has k (M.take s.2.toNat)=false,λs _=>(M.length-s.2).toNat,⟨ajy _,ajR _,ajB _,rfl⟩,?_⟩;rintro⟨n,i⟩ b ⟨o,I,x,c⟩;refine ID (λp=>?_) λp=>?_
 ·refine gE (r.el.ext (a.trans x)) o ω λl y _ t=>?_;refine aa λJ u v K=>?_;refine aH u rfl λw z B L=>?_;have d:=ajp v B λj N=>ω;refine⟨y.root,jF z,k,((v1.ext x).ext d).bytes,?_⟩;have C:(i+1).toNat=i.toNat+1:=ω;refine ID (λf=>?_) λf=>?_
  ·have:has k M=true:=List.any_eq_true.2 ⟨y,List.mem_of_getElem? t,by simp[aj0 f]⟩;rw[this]at q;exact q w ((a.trans x).trans d)
  ·rw[wrap_i64 ω ω];have D:M.take (i.toNat+1)=M.take i.toNat++[y]:=by grind [ajZ]
   refine⟨⟨ω,ω,x.trans d,?_⟩,by grind⟩;rw[C,D];unfold has at c⊢
   grind
 ·have E:i.toNat=M.length:=ω;rw[E,ajK]at c;rw[c]at q;exact q b (a.trans x)
theorem CG{q:Int}(B:∀a b,RL a h.size ajt [] most q->Ext h a->b=decide (1<=most/\most<=64/\1<=q/\q<=64)->R (ajw [.ptr (PT h.size),.bool b]).val a):Cl 93 [.i most,.i q] h R:=by
 apply Ag;refine aa λd v1 e f=>?_;have r1:RL d h.size ajt [] most q:=⟨v1,aj.Bf 67 d,ajI _,(λl c=>by cases c),(λl c=>by cases c),δ⟩
 grind [aka,decide_eq_false]
end
end Pool
namespace Pool
section
variable{R:Rq}{h:af}{m:Nat}{A:Sl}{M:List It}{most quota:Int}
theorem OU(x:It):x.tv.size=It.zero.tv.size:=rfl
set_option maxHeartbeats 1000000 in
theorem bL(r:RL h m A M most quota)(x:It)(hm:1<=most)(cA:most<=64)(cB:(M.length:Int)<=most)
 (hr:∀h' A',RL h' m A' (cV most quota x M).2.2 most quota->ag (·=m) h h'->(∀l,A'.a=some l->(∃d,A.a=some d/\d.b=l.b)\/h.size<=l.b)->R (ajw [.i (cV most quota x M).1,(cV most quota x M).2.1.tv]).val h'):
 Cl 248 [.ptr (PT m),x.tv] h R:=by
 apply sO (PT m) x.slot x.root x.peer x.fr x.text;delta zO aF aJ Bt Zj gL iA Zg cu jX cE d_ bz gY H_ aN bJ bK aT bA fD;have cC:=r.var.lt;refine aa λq v1 x1 s1=>aa λh2 v2 x2 s2=>?_;have b1:=v1.ext x2;have b2:=x1.trans x2
 have W:∀(F:af)(A':Sl)(S':List It)(v:Int)(y:It),Var 82 F q.size It.zero.tv->RL F m A' S' most quota->ag (·=m) h F->(∀l,A'.a=some l->(∃d,A.a=some d/\d.b=l.b)\/h.size<=l.b)->(∀l,A'.a=some l->l.b≠q.size)->cV most quota x M=(v,y,S')->
  gT F q.size 0 67/\Bind (ajM F q.size 0 y.tv) λh=>
   ∃(n:Int),∃(c:Bs 32),∃(n1:Int),∃(c1:Bs 32),∃(s:LU),(ah h q.size 0 (.i n)/\av h q.size 1 32 c/\ah h q.size 33 (.i n1)/\av h q.size 34 32 c1/\ah h q.size 66 (.string (ByteArray.mk (List.toArray s))))/\
    R (ajw [.i v,.agg [.i n,.bytes 32 c,.i n1,.bytes 32 c1,.str s]]).val h:=by
  intro F A' S' v y vz rl o nw ne e;refine aH vz (OU y) λL v9 X b=>rG v9 ?_;have:=hr L A' (by rw[e];exact rl.only X ω ne) ⟨ajF o.size X.size,λi hi hn=>by rw[X.same i (by have:=o.size;omega) ω,o.same i hi hn]⟩ nw;rw[e]at this;exact this
 have cI:=r.low;have r2:=r.ext b2;refine⟨x.root,jF b1,GD r2 λN x3=>⟨_,rfl,?_⟩⟩;have b3:=b2.trans x3;have r3:=r2.ext x3;have b5:=b1.ext x3;have b6:=v2.ext x3;have a5:∀F,Ext h F->ag (·=m) h F:=λF e=>ajD e;have a6:∀l,A.a=some l->(∃d,A.a=some d/\d.b=l.b)\/h.size<=l.b:=λl g=>.inl ⟨l,g,rfl⟩;have a7:∀l,A.a=some l->l.b≠q.size:=λl g=>by grind
 cases Y:has x.root M with
 |true=>exact aju (W N A M 9 It.zero b6 r3 (a5 _ b3) a6 a7 (by unfold cV;rw[if_pos Y]))
 |false=>
 refine ajr ⟨x.peer,Ki (x:=x) b5,quota,r3.var.ah rfl,Z2 r3 λZ x4=>⟨_,rfl,x4,?_⟩⟩;have a8:=b3.trans x4;have r4:=r3.ext x4;have b7:=b5.ext x4;have a9:=b6.ext x4;refine ID (λD=>?_) λD=>?_
 ·exact W Z A M 11 It.zero a9 r4 (a5 _ a8) a6 a7 (by unfold cV;rw[if_neg (by rw[Y];decide),if_pos D])
 refine⟨A,r4.var.ah rfl,?_⟩;have g:=r.len;intro J hJ
 have key:∀h5,Ext Z h5->((M.length:Int)<most\/∃y,M.getLast? =some y/\bf x y=true)->J 0 h5:=by
  intro h5 x5 a';refine hJ _ _ ?_;clear hJ;refine⟨λi F=>0<=i/\i<=A.len/\Ext h5 F/\∀j y,j<i.toNat->M[j]? =some y->bf x y=false,λi _=>((A.len:Int)-i).toNat,⟨ajy 0,ω,ajB _,λj y hj=>absurd hj (by simp)⟩,?_⟩;rintro i V ⟨i0,i1,x6,hall⟩;have a3:=x5.trans x6;have r6:=r4.ext a3;have v16:=b7.ext a3
  have ca:∀D,Ext V D->(i.toNat=M.length\/∃y,M[i.toNat]? =some y/\bf x y=true)->∃(h0:RL D m A M most quota)(a4:Var 82 D h.size x.tv)(ao:Var 82 D q.size It.zero.tv),Ext h D/\dP x M=M.take i.toNat++([x]++M.drop i.toNat):=
   λD G cd=>⟨r6.ext G,v16.ext G,(a9.ext a3).ext G,(a8.trans a3).trans G,Z1 x M i.toNat ω hall cd⟩
  refine ID (λhi=>?_) λhi=>?_
  ·refine rG (x:=x) v16 ⟨A,r6.var.ah rfl,gE r6.el i0 ω λl y _ hy=>?_⟩;refine Fh (x:=x) (y:=y) λh7 x7=>⟨_,rfl,?_⟩;cases H:bf x y with
   |false=>
    refine aju ?_;rw[wrap_i64 (n:=i+1) ω ω];refine⟨⟨ω,ω,x6.trans x7,λj z hj u=>?_⟩,Ω⟩;by_cases ce:j<i.toNat
    ·exact hall j z ce u
    ·have:j=i.toNat:=ω;subst this;rw[hy]at u;injection u with u;subst u;exact H
   |true=>
    refine ajr ?_;obtain⟨w,a4,ao,G,ba⟩:=ca h7 x7 (.inr ⟨y,hy,H⟩);refine⟨A,w.var.ah rfl,i0,by have:=w.cap;omega,i0,ajy _,rG (x:=x) a4 ⟨A,w.var.ah rfl,i0,i1,ajE _ _,?_⟩⟩;have xp:=ajE h7 (row (ajH [x.tv]) 82);have op:=Vc.Own.new (T:=82) (sz:=67) h7 [x.tv] (λt ht=>by rw[List.mem_singleton.1 ht];rfl);have ap:=M8 (i:=i.toNat) (j:=A.len) (w.el.ext xp) ω (ajI _) A.cap w.cap;have ar:=M8 (i:=0) (j:=i.toNat) (w.el.ext xp) (ajU _) ω i.toNat (ajI _);rw[akc,akd,<-aj7]at ar;rw[<-List.map_drop,ajW (by rw[ajv,ajA];omega)]at ap;have bb:(h7.push (row (ajH [x.tv]) 82)).size=h7.size+1:=by simp
    have cf:=r.iz;refine oW (C:=ctx) (T:=82) (sz:=67) OT IU (by rw[uE];decide) δ (by rw[uE];simp only[ay];omega) op ap (sM _) (wY _) λs8 k o8 x8 _ b8=>⟨x8 rfl,?_⟩;have ab:=x8 rfl;have z8:h7.size+1<=k.size:=by have:=ab.size;rw[<-bb];exact this
    have bc:=o8.len;rw[ajP,ajv,ajA,aj8]at bc;refine uF (C:=ctx) (T:=82) (sz:=67) (ts:=qw (M.take i.toNat)) (us:=qw ([x]++M.drop i.toNat)) OT IU (by rw[uE];decide) δ (by rw[uE];simp only[ay];omega) (ar.ext ab) (sM _) (by simp[ay]) o8.elems (sM _) (wY _) ω λb L X x9 b9=>?_;have ac:Vc.Own 82 67 L b (qw (dP x M)):=by rw[ba];simpa[qw]using X
    have O:Ext h7 L:=(xp.trans ab).trans x9;have bd:=G.trans O;have r9:=w.ext O;have ch:=O.size;refine aI (i:=0) (t:=.slice b) (t0:=.slice A) r9.var rfl rfl rfl rfl λp v10(ad:ag (·=m) L p) ci=>?_;have P:Var 74 p m (.agg [.slice b,.i most,.i quota]):=v10;have bi:=ac.lt;have m0:∀l,b.a=some l->l.b≠m:=λl g=>by have:=b9 l g;have:=G.size;omega
    have ae:RL p m b (dP x M) most quota:=⟨P,ac.elems.only ad m0,ac.cap,m0,λl g=>by have:=bi l g;omega,by rw[kF];omega⟩;have aw:ag (·=m) h p:=(ajD bd).trans ad;have aE:∀l,b.a=some l->(∃d,A.a=some d/\d.b=l.b)\/h.size<=l.b:=λl g=>.inr (by have:=b9 l g;have:=G.size;omega);have a0:∀l,b.a=some l->l.b≠q.size:=λl g=>by have:=b9 l g;have:=ao.lt;omega
    have a1:Var 82 p q.size It.zero.tv:=(ao.ext O).only ad ω;refine⟨most,P.ah rfl,ID (λbj=>?_) λbk=>?_⟩
    ·exact W p b (dP x M) 1 It.zero a1 ae aw aE a0 (by unfold cV;rw[if_neg (by rw[Y];decide),if_neg D,if_pos (by rw[g];exact bj)])
    ·obtain⟨y,hy,H⟩:∃y,M.getLast? =some y/\bf x y=true:=by
      rcases a' with h|h
      ·omega
      ·exact h
     have K:=Kl hy H;have cj:=kF x M
     have Q:(dP x M.dropLast).length=M.length:=by
      have:=congrArg List.length K;rw[ajP,aj8]at this;omega
     refine⟨b,P.ah rfl,?_⟩;refine gE (i:=(A.len:Int)) ae.el ω ω λl z _ u=>?_
     have bl:z=y:=by
      rw[K,ajL,<-g,<-Q,List.getElem?_append_right (ajI _),ake]at u;injection u with u;exact u.symm
     subst bl;refine aa λcl v11 bm cp=>aH (t0:=It.zero.tv) (t:=z.tv) v11 (OU z) λa2 bo bp cs=>?_;have al:Ext p a2:=ajp bm bp λj hj=>ω;have E:=ae.ext al;have ct:=E.cap;have cw:=E.len;refine⟨b,E.var.ah rfl,ω,ω,ω,ajy _,?_⟩;have am:=M8 (i:=0) (j:=A.len) E.el (ajU _) ω A.len (ajI _);rw[akc,akd,<-aj7,K,<-g,<-Q,List.take_left]at am;rw[Q,g]at am;refine aI (i:=0) (t:=.slice (ay (@ajC b.a b.len A.len b.HX) 0 A.len 67)) (t0:=.slice b) E.var rfl rfl rfl rfl λI br(S:ag (·=m) a2 I) cx=>?_
     have U:∀l,(ay (@ajC b.a b.len A.len b.HX) 0 A.len 67).a=some l->∃d,b.a=some d/\d.b=l.b:=λl f=>by
      unfold ay at f;simp only at f;split at f
      ·exact⟨l,f,rfl⟩
      ·cases hs:b.a with
       |none=>rw[hs]at f;simp at f
       |some l0=>
        rw[hs]at f;simp only[Option.map_some,Option.some.injEq]at f;subst f;exact⟨l0,rfl,rfl⟩
     have m1:∀l,(ay (@ajC b.a b.len A.len b.HX) 0 A.len 67).a=some l->l.b≠m:=λl f=>by
      obtain⟨d,k,B⟩:=U l f;rw[<-B];exact m0 d k
     have bt:RL I m (ay (@ajC b.a b.len A.len b.HX) 0 A.len 67) (dP x M.dropLast) most quota:=⟨br,am.only S m1,by simp[ay],m1,λl f=>by
      obtain⟨d,k,B⟩:=U l f;have:=E.low d k;omega,by rw[Q];omega⟩
     have cy:m<p.size:=P.lt;have bx:Var 82 I p.size z.tv:=bo.only S ω;have b0:Var 82 I q.size It.zero.tv:=(a1.ext al).only S ω;refine rG (x:=z) bx (W I _ (dP x M.dropLast) 2 z b0 bt (aw.trans ((ajD al).trans S)) (λl f=>?_) (λl f=>?_) ?_)
     ·obtain⟨d,k,B⟩:=U l f;rcases aE d k with⟨l3,N,Z⟩|N
      ·exact .inl ⟨l3,N,by rw[Z,B]⟩
      ·exact .inr (by rw[<-B];exact N)
     ·obtain⟨d,k,B⟩:=U l f;rw[<-B];exact a0 d k
     ·unfold cV;rw[if_neg (by rw[Y];decide),if_neg D,if_neg (by rw[g];exact bk),hy];simp[H]
  ·obtain⟨w,a4,ao,G,ba⟩:=ca V (ajB _) (.inl ω);refine⟨A,w.var.ah rfl,i0,by have:=w.cap;omega,i0,ajy _,rG (x:=x) a4 ⟨A,w.var.ah rfl,i0,i1,ajE _ _,?_⟩⟩;have xp:=ajE V (row (ajH [x.tv]) 82);have op:=Vc.Own.new (T:=82) (sz:=67) V [x.tv] (λt ht=>by rw[List.mem_singleton.1 ht];rfl);have ap:=M8 (i:=i.toNat) (j:=A.len) (w.el.ext xp) ω (ajI _) A.cap w.cap;have ar:=M8 (i:=0) (j:=i.toNat) (w.el.ext xp) (ajU _) ω i.toNat (ajI _);rw[akc,akd,<-aj7]at ar;rw[<-List.map_drop,ajW (by rw[ajv,ajA];omega)]at ap;have bb:(V.push (row (ajH [x.tv]) 82)).size=V.size+1:=by simp
   have cf:=r.iz;refine oW (C:=ctx) (T:=82) (sz:=67) OT IU (by rw[uE];decide) δ (by rw[uE];simp only[ay];omega) op ap (sM _) (wY _) λs8 k o8 x8 _ b8=>⟨x8 rfl,?_⟩;have ab:=x8 rfl;have z8:V.size+1<=k.size:=by have:=ab.size;rw[<-bb];exact this
   have bc:=o8.len;rw[ajP,ajv,ajA,aj8]at bc;refine uF (C:=ctx) (T:=82) (sz:=67) (ts:=qw (M.take i.toNat)) (us:=qw ([x]++M.drop i.toNat)) OT IU (by rw[uE];decide) δ (by rw[uE];simp only[ay];omega) (ar.ext ab) (sM _) (by simp[ay]) o8.elems (sM _) (wY _) ω λb L X x9 b9=>?_;have ac:Vc.Own 82 67 L b (qw (dP x M)):=by rw[ba];simpa[qw]using X
   have O:Ext V L:=(xp.trans ab).trans x9;have bd:=G.trans O;have r9:=w.ext O;have ch:=O.size;refine aI (i:=0) (t:=.slice b) (t0:=.slice A) r9.var rfl rfl rfl rfl λp v10(ad:ag (·=m) L p) ci=>?_;have P:Var 74 p m (.agg [.slice b,.i most,.i quota]):=v10;have bi:=ac.lt;have m0:∀l,b.a=some l->l.b≠m:=λl g=>by have:=b9 l g;have:=G.size;omega
   have ae:RL p m b (dP x M) most quota:=⟨P,ac.elems.only ad m0,ac.cap,m0,λl g=>by have:=bi l g;omega,by rw[kF];omega⟩;have aw:ag (·=m) h p:=(ajD bd).trans ad;have aE:∀l,b.a=some l->(∃d,A.a=some d/\d.b=l.b)\/h.size<=l.b:=λl g=>.inr (by have:=b9 l g;have:=G.size;omega);have a0:∀l,b.a=some l->l.b≠q.size:=λl g=>by have:=b9 l g;have:=ao.lt;omega
   have a1:Var 82 p q.size It.zero.tv:=(ao.ext O).only ad ω;refine⟨most,P.ah rfl,ID (λbj=>?_) λbk=>?_⟩
   ·exact W p b (dP x M) 1 It.zero a1 ae aw aE a0 (by unfold cV;rw[if_neg (by rw[Y];decide),if_neg D,if_pos (by rw[g];exact bj)])
   ·obtain⟨y,hy,H⟩:∃y,M.getLast? =some y/\bf x y=true:=by
     rcases a' with h|h
     ·omega
     ·exact h
    have K:=Kl hy H;have cj:=kF x M
    have Q:(dP x M.dropLast).length=M.length:=by
     have:=congrArg List.length K;rw[ajP,aj8]at this;omega
    refine⟨b,P.ah rfl,?_⟩;refine gE (i:=(A.len:Int)) ae.el ω ω λl z _ u=>?_
    have bl:z=y:=by
     rw[K,ajL,<-g,<-Q,List.getElem?_append_right (ajI _),ake]at u;injection u with u;exact u.symm
    subst bl;refine aa λcl v11 bm cp=>aH (t0:=It.zero.tv) (t:=z.tv) v11 (OU z) λa2 bo bp cs=>?_;have al:Ext p a2:=ajp bm bp λj hj=>ω;have E:=ae.ext al;have ct:=E.cap;have cw:=E.len;refine⟨b,E.var.ah rfl,ω,ω,ω,ajy _,?_⟩;have am:=M8 (i:=0) (j:=A.len) E.el (ajU _) ω A.len (ajI _);rw[akc,akd,<-aj7,K,<-g,<-Q,List.take_left]at am;rw[Q,g]at am;refine aI (i:=0) (t:=.slice (ay (@ajC b.a b.len A.len b.HX) 0 A.len 67)) (t0:=.slice b) E.var rfl rfl rfl rfl λI br(S:ag (·=m) a2 I) cx=>?_
    have U:∀l,(ay (@ajC b.a b.len A.len b.HX) 0 A.len 67).a=some l->∃d,b.a=some d/\d.b=l.b:=λl f=>by
     unfold ay at f;simp only at f;split at f
     ·exact⟨l,f,rfl⟩
     ·cases hs:b.a with
      |none=>rw[hs]at f;simp at f
      |some l0=>
       rw[hs]at f;simp only[Option.map_some,Option.some.injEq]at f;subst f;exact⟨l0,rfl,rfl⟩
    have m1:∀l,(ay (@ajC b.a b.len A.len b.HX) 0 A.len 67).a=some l->l.b≠m:=λl f=>by
     obtain⟨d,k,B⟩:=U l f;rw[<-B];exact m0 d k
    have bt:RL I m (ay (@ajC b.a b.len A.len b.HX) 0 A.len 67) (dP x M.dropLast) most quota:=⟨br,am.only S m1,by simp[ay],m1,λl f=>by
     obtain⟨d,k,B⟩:=U l f;have:=E.low d k;omega,by rw[Q];omega⟩
    have cy:m<p.size:=P.lt;have bx:Var 82 I p.size z.tv:=bo.only S ω;have b0:Var 82 I q.size It.zero.tv:=(a1.ext al).only S ω;refine rG (x:=z) bx (W I _ (dP x M.dropLast) 2 z b0 bt (aw.trans ((ajD al).trans S)) (λl f=>?_) (λl f=>?_) ?_)
    ·obtain⟨d,k,B⟩:=U l f;rcases aE d k with⟨l3,N,Z⟩|N
     ·exact .inl ⟨l3,N,by rw[Z,B]⟩
     ·exact .inr (by rw[<-B];exact N)
    ·obtain⟨d,k,B⟩:=U l f;rw[<-B];exact a0 d k
    ·unfold cV;rw[if_neg (by rw[Y];decide),if_neg D,if_neg (by rw[g];exact bk),hy];simp[H]
 refine⟨most,r4.var.ah rfl,ID (λcJ=>?_) λa'=>key Z (ajB _) (.inl ω)⟩;have cK:(M.length:Int)=most:=ω;refine rG (x:=x) b7 ⟨A,r4.var.ah rfl,?_⟩;rw[wrap_i64 (n:=(A.len:Int)-1) ω (by have:=r.iz;omega)];refine gE r4.el ω ω λl y _ hy=>Fh (x:=x) (y:=y) λh5 x5=>⟨_,rfl,?_⟩
 have K:M.getLast? =some y:=by
  rw[List.getLast?_eq_getElem?,<-hy];congr 1;omega
 cases H:bf x y with
 |true=>exact ajr (key h5 x5 (.inr ⟨y,K,H⟩))
 |false=>
  refine aju (W h5 A M 12 It.zero (a9.ext x5) (r4.ext x5) (a5 _ (a8.trans x5)) a6 a7 ?_);unfold cV;rw[if_neg (by rw[Y];decide),if_neg D,if_neg ω,K];simp[H]
end
end Pool
namespace Board
def num:LU->Nat
 |[]=>0
 |c::s=>c.toNat+256*num s
theorem BQ:∀s:LU,num s<256^s.length
 |[]=>δ
 |c::s=>by
  have h:=BQ s;have a:=c.toNat_lt;rw[num,ajV,akf];omega
theorem Rl:∀(s:LU)(c:UInt8),num (s++[c])=num s+256^s.length*c.toNat
 |[],c=>by simp[num]
 |a::s,c=>by
  rw[List.cons_append,num,Rl s c,num,ajV,akf,Nat.mul_add,<-Nat.mul_assoc,Nat.mul_comm 256 (256^s.length)];omega
theorem VB{s:LU}(h:s.length<=8):num s<18446744073709551616:=by
 have a:=BQ s;have b:256^s.length<=256^8:=ajX δ h;have c:256^8=18446744073709551616:=δ;omega
def sP(c:UInt8)(k:Nat):Bool:=decide (c.toNat/2^k%2=1)
def uG(c:UInt8):List Bool:=(List.range 8).map (sP c)
def bitsOf(s:LU):List Bool:=s.flatMap uG
theorem mT(c:UInt8):(uG c).length=8:=by simp[uG]
theorem jD:∀s:LU,(bitsOf s).length=8*s.length
 |[]=>rfl
 |c::s=>by
  show(uG c++bitsOf s).length=_;rw[ajP,mT,jD s,ajV];omega
theorem D7:∀(s:LU)(i:Nat),i<8*s.length->(bitsOf s)[i]? =some (sP (s.getD (i/8) 0) (i%8))
 |[],i,h=>by simp at h
 |c::s,i,h=>by
  show(uG c++bitsOf s)[i]? =_;by_cases d:i<8
  ·rw[List.getElem?_append_left (by rw[mT];exact d)];have a:i/8=0:=ω;have b:i%8=i:=ω;rw[a,b];simp[uG,d]
  ·rw[List.getElem?_append_right (by rw[mT];omega),mT,D7 s (i-8) (by rw[ajV]at h;omega)];have a:i/8=(i-8)/8+1:=ω;have b:(i-8)%8=i%8:=ω;rw[a,b];rfl
theorem Rm(s:LU)(c:UInt8):bitsOf (s++[c])=bitsOf s++uG c:=by
 unfold bitsOf;rw[List.flatMap_append];simp
def yL(c:UInt8):Nat:=c.toNat.log2
theorem GF:∀n:Fin 256,n.val≠0->n.val.log2<8/\n.val/2^n.val.log2%2=1/\∀k:Fin 8,n.val.log2<k.val->n.val/2^k.val%2=0:=by decide+kernel
theorem GG{c:UInt8}(h:c≠0):yL c<8:=by
 have a:c.toNat≠0:=λe=>h (ajS.1 e);exact(GF ⟨c.toNat,c.toNat_lt⟩ a).1
theorem Km{c:UInt8}(h:c≠0):sP c (yL c)=true:=by
 have a:c.toNat≠0:=λe=>h (ajS.1 e);exact decide_eq_true (GF ⟨c.toNat,c.toNat_lt⟩ a).2.1
theorem WZ{c:UInt8}(h:c≠0){k:Nat}(q:yL c<k)(A:k<8):sP c k=false:=by
 have a:c.toNat≠0:=λe=>h (ajS.1 e);refine decide_eq_false λe=>?_;have:=(GF ⟨c.toNat,c.toNat_lt⟩ a).2.2 ⟨k,A⟩ q;rw[this]at e;cases e
theorem Z3(k:Nat):sP 0 k=false:=by
 refine decide_eq_false λe=>?_;have:(0:UInt8).toNat=0:=rfl;rw[this,Nat.zero_div]at e;cases e
def sQ(s:LU):Nat:=8*(s.length-1)+yL (s.getLastD 0)
def BR(s:LU)(most:Nat):Option (List Bool):=
 if s=[]\/s.getLastD 0=0 then none else if most<sQ s then none else some ((bitsOf s).take (sQ s))
structure Dm where
 kind:Int
 slot:Int
 target:Bs 32
 ax:Int
 body:Int
 row:List Bool
 tag:Bs 16
def Dm.ms(d:Dm)(b:Sl):Ms:=⟨d.kind,d.slot,d.target,d.ax,d.body,b,d.tag⟩
def Dm.zero:Dm:=⟨0,0,ajs 32,0,0,[],ajs 16⟩
def Rn(d:Dm):Option Dm:=if dU (d.ms ajt) d.row=true then some d else none
def dF(s:LU):Option Dm:=
 if s.length<53 then none
 else if s.getD 0 0=1 then
  if s.length=63 then Rn ⟨1,(num ((s.drop 1).take 4):Nat),fU 32 ((s.drop 5).take 32),(num ((s.drop 37).take 2):Nat),(num ((s.drop 39).take 8):Nat),[],fU 16 (s.drop 47)⟩else none
 else if s.getD 0 0=2 then
  if s.length=55 then Rn ⟨2,(num ((s.drop 1).take 4):Nat),fU 32 ((s.drop 5).take 32),(num ((s.drop 37).take 2):Nat),0,[],fU 16 (s.drop 39)⟩else none
 else if s.getD 0 0=3 then
  match BR ((s.drop 37).take (s.length-53)) 16 with
  |none=>none
  |some row=>Rn ⟨3,(num ((s.drop 1).take 4):Nat),fU 32 ((s.drop 5).take 32),0,0,row,fU 16 (s.drop (s.length-16))⟩
 else none
theorem Fj{d e:Dm}(h:Rn d=some e):e=d/\dU (d.ms ajt) d.row=true:=by
 unfold Rn at h;split at h
 ·rename_i a;exact⟨(Option.some.inj h).symm,a⟩
 ·cases h
theorem pX{s:LU}{d:Dm}(h:dF s=some d):dU (d.ms ajt) d.row=true:=by
 unfold dF at h;split at h
 ·cases h
 split at h
 ·split at h
  ·obtain⟨rfl,a⟩:=Fj h;exact a
  ·cases h
 split at h
 ·split at h
  ·obtain⟨rfl,a⟩:=Fj h;exact a
  ·cases h
 split at h
 ·split at h
  ·cases h
  ·obtain⟨rfl,a⟩:=Fj h;exact a
 ·cases h
end Board
namespace Board
section
variable{R:Rq}{h:af}{b:Nat}{r:LU}{sh:Bool}
def ja(r:LU)(sh:Bool)(n:Int):LU×LU×Bool:=
 if sh=true\/n<0\/(r.length:Int)<n then([],[],true)else(r.take n.toNat,r.drop n.toNat,sh)
theorem IV{n:Int}:(ja r sh n).1.length<=n.toNat:=by
 unfold ja
 grind
theorem TJ{n:Nat}(h:n<=r.length):ja r false (n:Int)=(r.take n,r.drop n,false):=by
 simp_all [ja,if_neg]
theorem OV{n:Int}(h:sh=true\/n<0\/(r.length:Int)<n):ja r sh n=([],[],true):=if_pos h
def Rd(h:af)(b:Nat)(r:LU)(sh:Bool):Prop:=Var 355 h b (.agg [.str r,.bool sh])
theorem uH{n:Int}(v:Rd h b r sh)(q:∀a,Rd a b (ja r sh n).2.1 (ja r sh n).2.2->ag (·=b) h a->R (akg (ja r sh n).1).val a):
 Cl 228 [.ptr (PT b),.i n] h R:=by
 apply Ah;delta Br dz;have v:=v;intro u k l e
 have f:(sh=true\/n<0\/r.length<n)->l true h:=by
  intro g;rw[OV g]at q;refine e true h (aju (aju ?_));refine aI (i:=1) v rfl rfl rfl rfl λw v1 f1 x=>?_;refine aI (i:=0) v1 rfl rfl rfl rfl λc d f2 m=>?_;exact q c d (f1.trans f2)
 refine ajr ⟨sh,v.ah rfl,?_⟩;refine ajJ (λg=>f (.inl ω)) λo=>ID (λj=>f (.inr (.inl j))) λj=>⟨r,v.ah rfl,?_⟩;have o:=ω;by_cases p:r.length<n
 ·simp_all
 dsimp only;rw[decide_eq_false p];have s:ja r sh n=(r.take n.toNat,r.drop n.toNat,sh):=if_neg (by simp_all);rw[s]at q;refine e false h (ajr (k _ h ⟨r,v.ah rfl,ω,ω,r,v.ah rfl,ω,ω,?_⟩));have t:List.take (r.length-n.toNat) (r.drop n.toNat)=r.drop n.toNat:=ajW (by simp_all);rw[t];refine aI (i:=0) v rfl rfl rfl rfl λc d f2 m=>?_;exact q c d f2
theorem TK(A B:Nat)(q:B<2^8)(E:A*2^8+B<18446744073709551616):((akh (ajT 64 ((A*2^8:Nat):Int)|||ajT 64 (B:Int)):Nat):Int)=((A*2^8+B:Nat):Int):=by
 rw[BitVec.ofInt_natCast,BitVec.ofInt_natCast,BitVec.toNat_or,BitVec.toNat_ofNat,BitVec.toNat_ofNat,Nat.mod_eq_of_lt ω,Nat.mod_eq_of_lt ω];have:=Nat.shiftLeft_add_eq_or_of_lt q A;simp_all [Nat.shiftLeft_eq]
theorem agY(A:Nat)(c:UInt8)(q:A<72057594037927936):
 ajq .u64 (↑(akh (ajT (ajY .u64) (ajq .u64 ((A:Int)*2^min (Int.toNat 8) (ajY .u64)))|||ajT (ajY .u64) (ajq .u64 (c.toNat:Int)))):Int)=((c.toNat+256*A:Nat):Int):=by
 have d:=c.toNat_lt
 have a:ajq .u64 (A*2^min (Int.toNat 8) (ajY .u64))=(A*2^8:Nat):=by
  show ajq .u64 (A*256)=_
  grind [bW]
 have b:ajq .u64 c.toNat=c.toNat:=bW ω ω;rw[a,b];show ajq .u64 (↑(akh (ajT 64 ((A*2^8:Nat):Int)|||ajT 64 (c.toNat:Int))):Int)=_;rw[TK A c.toNat ω ω,bW ω ω];omega
theorem sR{w:Int}(v:Rd h b r sh)(A:w<=8)(q:∀c,Rd c b (ja r sh w).2.1 (ja r sh w).2.2->ag (·=b) h c->R (aj6 .u64 (num (ja r sh w).1:Nat)).val c):
 Cl 227 [.ptr (PT b),.i w] h R:=by
 apply BS;delta dQ aF cu dz aT;intro u l;refine ID (λd=>ω) λ_=>l w h ?_;refine uH v λd v1 f1=>⟨_,rfl,?_⟩;have m:(ja r sh w).1.length<=8:=ajF IV ω;have f:=q d v1 f1;generalize(ja r sh w).1=s at m f;refine⟨λσ g=>-1<=σ.2/\σ.2<s.length/\g=d/\σ.1=(num (s.drop (σ.2+1).toNat):Nat),λσ _=>(σ.2+1).toNat,⟨?_,?_,rfl,?_⟩,?_⟩
 ·grind [ajq,wrap_i64]
 ·grind [ajq,wrap_i64]
 ·grind [ajq,wrap_i64,num,List.drop_of_length_le]
 rintro⟨a,i⟩ g ⟨o,j,rfl,e⟩;dsimp only at o j e⊢;refine ID (λk=>⟨δ,k,j,?_⟩) λk=>?_
 ·have x:=BQ (s.drop (i+1).toNat);have p:(s.drop (i+1).toNat).length<=7:=by grind
  have y:256^(s.drop (i+1).toNat).length<=256^7:=ajX δ p;have z:256^7=72057594037927936:=δ
  have t:s.drop i.toNat=s.getD i.toNat 0::s.drop (i+1).toNat:=by
   rw[akb ω,aj5,List.getElem?_eq_getElem ω,show(i+1).toNat=i.toNat+1 by omega];rfl
  rw[e,agY _ _ ω,wrap_i64 (n:=i-1) ω ω];refine⟨⟨Ω,Ω,rfl,?_⟩,Ω⟩
  try dsimp only
  rw[show(i-1+1).toNat=i.toNat by omega,t,num]
 ·have:(i+1).toNat=0:=ω;rw[e,this];exact f
theorem W3{s:LU}(q:∀a,Rd a h.size s false->Ext h a->a.size=h.size+1->R (ajG (PT h.size)).val a):Cl 226 [.str s] h R:=by
 apply LX;exact aa λb v1 c d=>q b v1 c d
theorem W4(v:Rd h b r sh)(q:R (TV.i (r.length:Int)).val h):Cl 230 [.ptr (PT b)] h R:=by
 have v:=v;apply BT;exact ajr ⟨r,v.ah rfl,q⟩
theorem W5(v:Rd h b r sh)(q:R (ajx (!sh&&decide (r=[]))).val h):Cl 231 [.ptr (PT b)] h R:=by
 have v:=v;apply Db;refine aju ⟨sh,v.ah rfl,?_⟩;cases sh with
 |true=>exact ajr q
 |false=>exact aju ⟨r,v.ah rfl,q⟩
def afN:LU:=(List.range 256).map λi=>if i=0 then 0 else aj1 (Nat.log2 i+1)
theorem TL{x:Int}(H:0<=x/\x<256/\R (TV.i (ajq .i64 ((afN.getD x.toNat 0).toNat:Int))).val h):Cl 278 [.int .u8 x] h R:=vi Tryz.func278 H
theorem Z4:∀n:Fin 256,n.val≠0->ajq .i64 ((afN.getD n.val 0).toNat:Int)=((n.val.log2+1:Nat):Int):=by decide+kernel
theorem W6{c:UInt8}(q:c≠0)(A:R (TV.i ((yL c+1:Nat):Int)).val h):Cl 278 [.int .u8 (c.toNat:Int)] h R:=by
 apply TL;have a:=c.toNat_lt;have b:=λe=>q (ajS.1 e);refine⟨ajR _,ω,?_⟩;rw[ajL,Z4 ⟨c.toNat,a⟩ b];exact A
theorem Z5:∀c:Fin 256,∀k:Fin 8,decide (ajq .u8 (↑(akh (ajT (ajY .u8) (Int.fdiv ((c.val:Nat):Int) ((2:Int)^min (Int.toNat ((k.val:Nat):Int)) (ajY .u8)))&&&ajT (ajY .u8) 1)):Int)=1)=decide (c.val/2^k.val%2=1):=by decide+kernel
theorem Kn{s:LU}(_h:s≠[]):s.getD (s.length-1) 0=s.getLastD 0:=by
 grind
def BU(l:List Bool)(n i:Nat):List Bool:=l.take i++aj9 (n-i) false
theorem W7{l:List Bool}{n i:Nat}{x:Bool}(q:l[i]? =some x)(A:i<n):(BU l n i).set i x=BU l n (i+1):=by
 have b:=(List.getElem?_eq_some_iff.1 q).1;unfold BU
 have a:aj9 (n-i) false=false::aj9 (n-(i+1)) false:=by
  rw[show n-i=(n-(i+1))+1 by omega,List.replicate_succ]
 rw[List.set_append_right _ _ (by grind),ajz,Nat.min_eq_left ω,ake,a,ajZ,q,List.append_assoc];rfl
theorem W8{s:LU}(q:s.length<100000)(A:BR s 16=none->R (ajw [.slice ajt,.bool false]).val h)
 (B:∀row k t,BR s 16=some row->Vc.Own 4 1 k t (aY row)->Ext h k->(∀l,t.a=some l->h.size<=l.b)->R (ajw [.slice t,.bool true]).val k):
 Cl 229 [.str s,.i 16] h R:=by
 apply Fk;delta MI aF QC cE dD uQ dz fD;intro z d;refine ID (λa=>?_) λa=>?_
 ·refine A ?_;have:s=[]:=a;unfold BR;rw[if_pos (.inl this)]
 have a:=a;have O:=List.length_pos_iff.2 a;have r:ajq .i64 (s.length-1)=(s.length-1:Nat):=by grind [wrap_i64]
 rw[r];rw[r]at d;refine⟨ω,ω,?_⟩;rw[ajL,Kn a];rw[ajL,Kn a]at d;refine ID (λb=>?_) λb=>d _ _ ?_
 ·refine A ?_;have:s.getLastD 0=0:=ajS.1 (by show _=0;omega);unfold BR;rw[if_pos (.inr this)]
 clear d z;have b:s.getLastD 0≠0:=λe=>b (by rw[e];rfl);have u:=GG b;refine⟨ω,ω,W6 b ⟨_,rfl,?_⟩⟩
 have c:BR s 16=if 16<sQ s then none else some ((bitsOf s).take (sQ s)):=by
  unfold BR;rw[if_neg (by rintro(m|m);exact a m;exact b m)]
 have C:ajq .i64 (ajq .i64 (ajq .i64 (8*((s.length-1:Nat):Int))+((yL (s.getLastD 0)+1:Nat):Int))-1)=(sQ s:Int):=by
  unfold sQ;rw[wrap_i64 (n:=8*((s.length-1:Nat):Int)) ω ω,wrap_i64 (n:=8*((s.length-1:Nat):Int)+((yL (s.getLastD 0)+1:Nat):Int)) ω ω,wrap_i64 ω ω];omega
 dsimp only;rw[C];have D:sQ s<8*s.length:=by unfold sQ;omega
 refine ID (λv=>A (by rw[c,if_pos ω])) λv=>?_;rw[if_neg ω]at c;generalize sQ s=n at c v D;have P:(bitsOf s).length=8*s.length:=jD s;obtain⟨row,o⟩:∃row,row=(bitsOf s).take n:=⟨_,rfl⟩;have Q:row.length=n:=by rw[o,ajz];omega
 rw[<-o]at c;refine⟨ω,ω,by show(1:Int)*(n:Int)<=_;omega,ω,?_⟩;simp only[ajL];have ob:=Vc.Own.new (T:=4) (sz:=1) h (aj9 n (ajx false)) (λt u=>by rw[List.eq_of_mem_replicate u];rfl);rw[List.length_replicate,<-gR]at ob;have E:aj9 n (ajx false)=aY (BU row n 0):=by unfold BU;simp[aY]
 rw[E]at ob;have F:=ajE h (Vc.row (cq (ajx false) n) 4);refine⟨λi f=>0<=i/\i<=n/\Ext h f/\Vc.Own 4 1 f ⟨some ⟨h.size,0⟩,n,n⟩ (aY (BU row n i.toNat)),λi _=>((n:Int)-i).toNat,⟨ajy 0,ω,F,ob⟩,?_⟩;rintro i f ⟨g,S,w,p⟩;have G:=D7 s i.toNat;refine ID (λx=>?_) λx=>?_
 ·have d8:Int.tdiv i 8=((i.toNat/8:Nat):Int):=by rw[Int.tdiv_eq_ediv_of_nonneg g];omega
  have H:Int.tmod i 8=((i.toNat%8:Nat):Int):=by rw[Int.tmod_eq_emod_of_nonneg g];omega
  have I:ajq .i64 (Int.tdiv i 8)=((i.toNat/8:Nat):Int):=by rw[d8,wrap_i64 ω ω]
  rw[I,H];refine⟨δ,ω,ω,δ,ω,g,x,?_⟩;have J:row[i.toNat]? =some (sP (s.getD (i.toNat/8) 0) (i.toNat%8)):=by rw[o,List.getElem?_take,if_pos ω,G ω]
  have y:=Z5 ⟨(s.getD (i.toNat/8) 0).toNat,UInt8.toNat_lt _⟩ ⟨i.toNat%8,Nat.mod_lt _ δ⟩;rw[ajL];dsimp only at y;rw[y];refine(Vc.Own.aH (n:=1) (t:=ajx (sP (s.getD (i.toNat/8) 0) (i.toNat%8))) p g (by unfold BU;rw[ajv,ajP,ajz,List.length_replicate];omega) rfl rfl λU K f2 V=>?_).2.2;rw[wrap_i64 (n:=i+1) ω ω];refine⟨⟨ω,ω,ajp w f2 λj⟨l,q,L⟩=>by obtain rfl:=Option.some.inj q;rw[<-L];exact ajI _,?_⟩,Ω⟩;rw[show(i+1).toNat=i.toNat+1 by omega,<-W7 J ω];have:aY ((BU row n i.toNat).set i.toNat (sP (s.getD (i.toNat/8) 0) (i.toNat%8)))=(aY (BU row n i.toNat)).set i.toNat (ajx (sP (s.getD (i.toNat/8) 0) (i.toNat%8))):=List.map_set;rw[this];exact K
 ·have M:i.toNat=n:=ω;have N:BU row n i.toNat=row:=by unfold BU;rw[M,ake,ajW ω];simp
  rw[N]at p;exact B row f _ c p w λl q=>by obtain rfl:=Option.some.inj q;exact ajI _
end
end Board
namespace Board
theorem yM{r:LU}{sh:Bool}{n:Int}(h:(ja r sh n).2.2=false):sh=false/\0<=n/\((ja r sh n).2.1.length:Int)+n=r.length:=by
 unfold ja at h⊢
 grind
theorem Z6{r:LU}{sh:Bool}{n:Int}(h:(ja r sh n).2.2=true):ja r sh n=([],[],true):=by
 unfold ja at h⊢
 grind
theorem oA{s:LU}{a n:Nat}(h:a+n<=s.length):ja (s.drop a) false (n:Int)=((s.drop a).take n,s.drop (a+n),false):=by
 grind [ajA,TJ,List.drop_drop]
theorem W9(n:Int):ja [] true n=([],[],true):=if_pos (.inl rfl)
theorem acp{s:LU}(h:0<s.length):num (s.take 1)=(s.getD 0 0).toNat:=by
 cases s<;>simp_all [num]
theorem Z7{d:Dm}(h:¬(d.kind=1\/d.kind=2\/d.kind=3)):Rn d=none:=by
 unfold Rn;split
 ·rename_i a;exact absurd (lY a) h
 ·rfl
theorem wZ{s:LU}(h:s.length<53):dF s=none:=by
 unfold dF;simp_all
section
variable{s:LU}
theorem Fm(B:37<=s.length)(A:s.getD 0 0=1):dF s=if s.length=63 then Rn ⟨1,(num ((s.drop 1).take 4):Nat),fU 32 ((s.drop 5).take 32),(num ((s.drop 37).take 2):Nat),(num ((s.drop 39).take 8):Nat),[],fU 16 (s.drop 47)⟩else none:=by
 unfold dF;by_cases a:s.length<53
 ·rw[if_pos a,if_neg ω]
 ·rw[if_neg a,if_pos A]
theorem Fo(B:37<=s.length)(A:s.getD 0 0=2):dF s=if s.length=55 then Rn ⟨2,(num ((s.drop 1).take 4):Nat),fU 32 ((s.drop 5).take 32),(num ((s.drop 37).take 2):Nat),0,[],fU 16 (s.drop 39)⟩else none:=by
 unfold dF;by_cases a:s.length<53
 ·rw[if_pos a,if_neg ω]
 ·rw[if_neg a,if_neg (by rw[A];decide),if_pos A]
theorem w_(A:53<=s.length)(B:s.getD 0 0=3):dF s=match BR ((s.drop 37).take (s.length-53)) 16 with
 |none=>none
 |some row=>Rn ⟨3,(num ((s.drop 1).take 4):Nat),fU 32 ((s.drop 5).take 32),0,0,row,fU 16 (s.drop (s.length-16))⟩:=by
 unfold dF
 grind
theorem GH(A:s.getD 0 0≠1)(B:s.getD 0 0≠2)(E:s.getD 0 0≠3):dF s=none:=by
 unfold dF;by_cases a:s.length<53
 ·rw[if_pos a]
 ·rw[if_neg a,if_neg A,if_neg B,if_neg E]
end
section
variable{R:Rq}{h:af}
structure DS(h hh:af)(q mb:Nat)(r:LU)(sh:Bool)(m:Ms):Prop where
 rd:Rd hh q r sh
 msg:Var 58 hh mb m.tv
 LW:Var 58 hh h.size bh.tv
 only:ag (λi=>h.size<=i) h hh
 q0:h.size<q
 m0:q<mb
section
variable{hh:af}{q mb:Nat}{r:LU}{sh:Bool}{m:Ms}
theorem DS.ext(d:DS h hh q mb r sh m):Ext h hh:=ajp (ajB h) d.only λ_ a=>a
theorem DS.more{A:af}(d:DS h hh q mb r sh m)(x:Ext hh A):DS h A q mb r sh m:=⟨Var.ext d.rd x,d.msg.ext x,d.LW.ext x,d.only.trans (ajD x),d.q0,d.m0⟩
theorem DS.read{A:af}{B:LU}{E:Bool}(d:DS h hh q mb r sh m)(v:Rd A q B E)(f:ag (·=q) hh A):DS h A q mb B E m:=
 ⟨v,d.msg.only f (by have:=d.m0;omega),d.LW.only f (by have:=d.q0;omega),d.only.trans (f.mono λi a=>by have:=d.q0;omega),d.q0,d.m0⟩
theorem DS.write{A:af}{B:Ms}(d:DS h hh q mb r sh m)(v:Var 58 A mb B.tv)(f:ag (·=mb) hh A):DS h A q mb r sh B:=
 ⟨Var.only d.rd f (by have:=d.m0;omega),v,d.LW.only f (by have:=d.m0;have:=d.q0;omega),d.only.trans (f.mono λi a=>by have:=d.q0;have:=d.m0;omega),d.q0,d.m0⟩
end
set_option maxHeartbeats 1000000 in
theorem j_{s:LU}(hs:s.length<100000)(hn:dF s=none->∀E,Ext h E->R (ajw [bh.tv,.bool false]).val E)
 (hy:∀d E b,dF s=some d->aj 1 E b (aY d.row)->Ext h E->(∀l,b.a=some l->h.size<=l.b/\l.b<E.size)->R (ajw [(d.ms b).tv,.bool true]).val E):Cl 169 [.str s] h R:=by
 apply Fl;delta Zo jt fk EY Wu gj aN Td LN bA fD;refine aa λo v1 x1 s1=>W3 λh2 r2 x2 s2=>⟨_,rfl,?_⟩;have v1:=v1;refine sR r2 δ λh3 r3 f3=>⟨_,rfl,sR r3 δ λU r4 f4=>⟨_,rfl,?_⟩⟩;obtain⟨K,hK⟩:∃K,K=ajq .i64 (num (ja s false 1).1:Nat):=⟨_,rfl⟩;obtain⟨S,hS⟩:∃S,S=ajq .i64 (num (ja (ja s false 1).2.1 (ja s false 1).2.2 4).1:Nat):=⟨_,rfl⟩;rw[<-hK,<-hS];have bo:=(f3.trans f4).size;refine aa λh5 v5 x5 s5=>aq (t0:=bh.tv) v5 (t:=(Ms.mk K S (ajs 32) 0 0 ajt (ajs 16)).tv) cv fR λh6 v6 f6 s6=>?_;have ab:=ajp x5 f6 λi hi=>ω
 have d6:DS h h6 o.size U.size _ _ (Ms.mk K S (ajs 32) 0 0 ajt (ajs 16)):=⟨Var.ext r4 ab,v6,(((v1.ext x2).only f3 ω).only f4 ω).ext ab,
  (((ajD (x1.trans x2)).trans ((f3.trans f4).mono λi hi=>ω)).trans (ajD ab)),ω,ω⟩
 refine uH d6.rd λh7 r7 f7=>⟨_,rfl,(λhx=>by cases hx),λl f=>?_⟩;obtain rfl:Vc.Loc.mk U.size 2=l:=Option.some.inj f;have d7:=d6.read r7 f7;obtain⟨A,O⟩:∃A,A=ja (ja (ja s false 1).2.1 (ja s false 1).2.2 4).2.1 (ja (ja s false 1).2.1 (ja s false 1).2.2 4).2.2 32:=⟨_,rfl⟩;rw[<-O]at d7⊢;refine JC (i:=2) d7.msg rfl rfl (by rw[O];exact IV) λh8 v8 f8 s8=>?_;have d8:DS h h8 o.size U.size A.2.1 A.2.2 (Ms.mk K S (fU 32 A.1) 0 0 ajt (ajs 16)):=d7.write v8 f8;generalize o.size=q at*;generalize U.size=mb at*
 have no:∀hh r sh m,DS h hh q mb r sh m->dF s=none->gT hh h.size 0 53/\Bind (ajM hh h.size 0 bh.tv) λC=>
  ∃(n:Int),∃(ao:Int),∃(b_:Bs 32),∃(ap:Int),∃(ar:Int),∃(s:Sl),∃(aw:Bs 16),(ah C h.size 0 (.i n)/\ah C h.size 1 (.i ao)/\av C h.size 2 32 b_/\ah C h.size 34 (.i ap)/\ah C h.size 35 (.int .u64 ar)/\ah C h.size 36 (bu s)/\av C h.size 37 16 aw)/\
   R (ajw [.agg [.i n,.i ao,.bytes 32 b_,.i ap,.int .u64 ar,.slice s,.bytes 16 aw],.bool false]).val C:=by
  intro hh r sh m d hd;refine aq d.LW cv fR λG v9 f9 s9=>bB v9 ?_;exact hn hd G (ajp d.ext f9 λi hi=>ω)
 intro J HJ
 have V:∀hh r sh m row,DS h hh q mb r sh m->m.tag=ajs 16->aj 1 hh m.bits (aY row)->row.length<100000->(∀l,m.bits.a=some l->l.b≠q/\l.b≠mb/\l.b≠h.size/\h.size<=l.b/\l.b<hh.size)->(sh=true\/r.length≠16->dF s=none)->
  (sh=false->r.length=16->dF s=Rn ⟨m.kind,m.slot,m.target,m.ax,m.body,row,fU 16 r⟩)->J false hh:=by
  intro hh r sh m row d hz e aE W j hg;refine HJ false hh ?_;refine uH d.rd λG F f9=>⟨_,rfl,(λhx=>by cases hx),λl f=>?_⟩;obtain rfl:Vc.Loc.mk mb 37=l:=Option.some.inj f;have d9:=d.read F f9;refine JC (i:=6) d9.msg (by rw[hz];rfl) rfl IV λX v10 f10 bp=>?_;have d10:DS h X q mb _ _ {m with tag:=fU 16 (ja r sh 16).1}:=d9.write v10 f10;refine W5 d10.rd ⟨_,rfl,?_⟩;have a0:=(e.only f9 λl f=>(W l f).1).only f10 λl f=>(W l f).2.1;by_cases hc:sh=true\/r.length≠16
  ·have ac:(!(ja r sh 16).2.2&&decide ((ja r sh 16).2.1=[]))=false:=by
    cases k:(ja r sh 16).2.2 with
    |true=>rfl
    |false=>
     obtain⟨a1,_,a2⟩:=yM k
     grind
   rw[ac];exact aju (no X _ _ _ d10 (j hc))
  ·have k:sh=false:=by simp_all
   have P:=Classical.byContradiction λh=>hc (.inr h);have a9:ja r sh 16=(r.take 16,r.drop 16,false):=by grind [TJ]
   have ad:=hg k P;rw[a9]at d10⊢;rw[ajW (by omega:r.length<=16)]at d10;have ac:(!false&&decide (r.drop 16=[]))=true:=by simp_all
   rw[ac];refine ajr (bB d10.msg ?_);refine Kf a0 aE λy ae=>⟨_,rfl,?_⟩;have d11:=d10.more ae;unfold Rn at ad;have a':dU {m with tag:=fU 16 r} row=dU ((Dm.mk m.kind m.slot m.target m.ax m.body row (fU 16 r)).ms ajt) row:=rfl;rw[a'];cases br:dU ((Dm.mk m.kind m.slot m.target m.ax m.body row (fU 16 r)).ms ajt) row with
   |false=>
    refine aju (no y _ _ _ d11 ?_);simp_all
   |true=>
    refine ajr (bB d11.msg ?_);refine aq d11.LW cv fR λQ al f12 ba=>bB al ?_;have hd:dF s=some (Dm.mk m.kind m.slot m.target m.ax m.body row (fU 16 r)):=by simp_all
    have bb:=ajp d11.ext f12 λi hi=>ω;have bc:=(a0.ext ae).only f12 λl f=>(W l f).2.2.1
    exact hy _ Q m.bits hd bc bb λl f=>by
     have g:=W l f;have H:=f9.size;have Y:=ae.size;omega
 have bd:=no
 have v:37<=s.length->A=((s.drop 5).take 32,s.drop 37,false)/\K=((s.getD 0 0).toNat:Int)/\S=((num ((s.drop 1).take 4):Nat):Int):=by
  intro f;have z:ja s false 1=(s.take 1,s.drop 1,false):=TJ (n:=1) ω;have Z:ja (s.drop 1) false 4=((s.drop 1).take 4,s.drop 5,false):=oA (a:=1) (n:=4) ω;have e3:ja (s.drop 5) false 32=((s.drop 5).take 32,s.drop 37,false):=oA (a:=5) (n:=32) ω;refine⟨by rw[O,z,Z,e3],?_,?_⟩
  ·rw[hK,z];dsimp only;have:=(s.getD 0 0).toNat_lt;rw[acp ω,wrap_i64 ω ω]
  ·rw[hS,z];dsimp only;rw[Z];dsimp only;have a1:=BQ ((s.drop 1).take 4);have bi:((s.drop 1).take 4).length<=4:=by rw[ajz];omega
   have a2:256^((s.drop 1).take 4).length<=256^4:=ajX δ bi;have bt:256^4=4294967296:=δ;rw[wrap_i64 ω ω]
 have am:¬37<=s.length->A=([],[],true):=by
  intro f;cases k:A.2.2 with
  |true=>rw[O]at k⊢;exact Z6 k
  |false=>
   exfalso;rw[O]at k;obtain⟨H,_,g2⟩:=yM k;obtain⟨Y,_,g4⟩:=yM H;obtain⟨D,_,g6⟩:=yM Y;omega
 have a3:A.2.2=false->37<=s.length/\A.2.1=s.drop 37:=by
  intro k;by_cases f:37<=s.length
  ·exact⟨f,by rw[(v f).1]⟩
  ·rw[am f]at k;cases k
 have w2:∀(l:LU),l.length<=2->ajq .i64 ((num l:Nat):Int)=((num l:Nat):Int):=by
  intro l f;have a1:=BQ l;have a2:256^l.length<=256^2:=ajX δ f;rw[wrap_i64 ω ω]
 have I:∀c:UInt8,37<=s.length->K=(c.toNat:Int)->s.getD 0 0=c:=by
  intro c f hk;have:=(v f).2.1;exact ajS.1 ω
 refine⟨K,d8.msg.ah rfl,ID (λk1=>?_) λk1=>aka.2 ⟨λL=>?_,λL=>ID (λM=>?_) λM=>?_⟩⟩
 ·refine sR d8.rd δ λG F f9=>⟨_,rfl,?_⟩;have d9:=d8.read F f9;refine sR d9.rd δ λX bj f10=>⟨_,rfl,?_⟩;have d10:=d9.read bj f10;refine aI (i:=3) (t:=.i (ajq .i64 ((num (ja A.2.1 A.2.2 2).1:Nat):Int))) (t0:=.i 0) d10.msg rfl rfl rfl rfl λy v11 f11 a4=>?_;refine aI (i:=4) (t:=.int .u64 ((num (ja (ja A.2.1 A.2.2 2).2.1 (ja A.2.1 A.2.2 2).2.2 8).1:Nat):Int)) (t0:=.int .u64 0) v11 rfl rfl rfl rfl λQ al f12 ba=>?_;have d12:DS h Q q mb _ _ (Ms.mk K S (fU 32 A.1) (ajq .i64 ((num (ja A.2.1 A.2.2 2).1:Nat):Int)) ((num (ja (ja A.2.1 A.2.2 2).2.1 (ja A.2.1 A.2.2 2).2.2 8).1:Nat):Int) ajt (ajs 16)):=d10.write al (f11.trans f12)
  have x:s.length=63->ja A.2.1 A.2.2 2=((s.drop 37).take 2,s.drop 39,false)/\ja (ja A.2.1 A.2.2 2).2.1 (ja A.2.1 A.2.2 2).2.2 8=((s.drop 39).take 8,s.drop 47,false):=by
   intro f;have p:=(v ω).1;have z:ja (s.drop 37) false 2=((s.drop 37).take 2,s.drop 39,false):=oA (a:=37) (n:=2) ω;have Z:ja (s.drop 39) false 8=((s.drop 39).take 8,s.drop 47,false):=oA (a:=39) (n:=8) ω;rw[p];dsimp only;rw[z];exact⟨rfl,Z⟩
  refine V Q _ _ _ [] d12 rfl (aj.Bf 1 Q) δ (λl f=>by cases f) (λj=>?_) λk P=>?_
  ·by_cases f:37<=s.length
   ·rw[Fm f (I 1 f k1)];by_cases u:s.length=63
    ·exfalso;rw[(x u).2]at j;rcases j with j|j
     ·cases j
     ·apply j;dsimp only;rw[ajA];omega
    ·rw[if_neg u]
   ·exact wZ ω
  ·obtain⟨H,_,g2⟩:=yM k;obtain⟨Y,_,g4⟩:=yM H;obtain⟨D,g6⟩:=a3 Y;have g7:A.2.1.length=s.length-37:=by rw[g6,ajA]
   have u:s.length=63:=ω;obtain⟨p,_,T⟩:=v D;rw[Fm D (I 1 D k1),if_pos u,(x u).2,(x u).1,p,T,k1];dsimp only;rw[w2 _ (by rw[ajz];omega)]
 ·refine sR d8.rd δ λG F f9=>⟨_,rfl,?_⟩;have d9:=d8.read F f9;refine aI (i:=3) (t:=.i (ajq .i64 ((num (ja A.2.1 A.2.2 2).1:Nat):Int))) (t0:=.i 0) d9.msg rfl rfl rfl rfl λy v11 f11 a4=>?_;have d12:DS h y q mb _ _ (Ms.mk K S (fU 32 A.1) (ajq .i64 ((num (ja A.2.1 A.2.2 2).1:Nat):Int)) 0 ajt (ajs 16)):=d9.write v11 f11
  have x:s.length=55->ja A.2.1 A.2.2 2=((s.drop 37).take 2,s.drop 39,false):=by
   intro f;have p:=(v ω).1;have z:ja (s.drop 37) false 2=((s.drop 37).take 2,s.drop 39,false):=oA (a:=37) (n:=2) ω;rw[p];exact z
  refine V y _ _ _ [] d12 rfl (aj.Bf 1 y) δ (λl f=>by cases f) (λj=>?_) λk P=>?_
  ·by_cases f:37<=s.length
   ·rw[Fo f (I 2 f L)];by_cases u:s.length=55
    ·exfalso;rw[x u]at j;rcases j with j|j
     ·cases j
     ·apply j;dsimp only;rw[ajA];omega
    ·rw[if_neg u]
   ·exact wZ ω
  ·obtain⟨H,_,g2⟩:=yM k;obtain⟨D,g6⟩:=a3 H;have g7:A.2.1.length=s.length-37:=by rw[g6,ajA]
   have u:s.length=55:=ω;obtain⟨p,_,T⟩:=v D;rw[Fo D (I 2 D L),if_pos u,x u,p,T,L];dsimp only;rw[w2 _ (by rw[ajz];omega)]
 ·refine W4 d8.rd ⟨_,rfl,uH d8.rd λG F f9=>⟨_,rfl,?_⟩⟩;have d9:=d8.read F f9
  have bx:A.2.1.length<=s.length:=by
   by_cases f:37<=s.length
   ·rw[(v f).1];dsimp only;rw[ajA];omega
   ·rw[am f];exact ajU _
  rw[wrap_i64 ω ω]at d9⊢;obtain⟨B,hB⟩:∃B,B=ja A.2.1 A.2.2 ((A.2.1.length:Int)-16):=⟨_,rfl⟩;rw[<-hB]at d9⊢
  have x:53<=s.length->B=((s.drop 37).take (s.length-53),s.drop (s.length-16),false):=by
   intro f;have p:=(v ω).1;rw[hB,p];dsimp only;have z:(((s.drop 37).length:Nat):Int)-16=((s.length-53:Nat):Int):=by rw[ajA];omega
   rw[z,oA (a:=37) (n:=s.length-53) ω,show 37+(s.length-53)=s.length-16 by omega]
  have short:¬53<=s.length->B.1=[]:=by
   intro f;by_cases a5:37<=s.length
   ·have p:=(v a5).1;rw[hB,p];dsimp only;rw[OV (.inr (.inl (by rw[ajA];omega)))]
   ·rw[hB,am a5];dsimp only;rw[W9]
  have bk:B.1.length<100000:=by
   by_cases f:53<=s.length
   ·rw[x f];dsimp only;rw[ajz,ajA];omega
   ·rw[short f];decide
  have b0:=d9.msg.lt;refine W8 bk (λN=>⟨_,_,rfl,aju (bd G _ _ _ d9 ?_)⟩) λrow X t w a6 bl a7=>⟨_,_,rfl,ajr ?_⟩
  ·by_cases f:53<=s.length
   ·rw[w_ f (I 3 ω M)];rw[x f]at N;dsimp only at N;rw[N]
   ·exact wZ ω
  ·have d10:=d9.more bl;refine aI (i:=5) (t:=.slice t) (t0:=.slice ajt) d10.msg rfl rfl rfl rfl λy v11 f11 a4=>?_;have d11:DS h y q mb _ _ (Ms.mk K S (fU 32 A.1) 0 0 t (ajs 16)):=d10.write v11 f11
   have a8:53<=s.length:=by
    apply Classical.byContradiction;intro f;rw[short f]at w;cases w
   have bm:=x a8;obtain⟨p,_,T⟩:=v ω;have hq:=d9.m0;have b1:=d9.q0
   have aE:row.length<=16:=by
    unfold BR at w;split at w
    ·cases w
    ·split at w
     ·cases w
     ·rw[<-Option.some.inj w,ajz];omega
   rw[bm]at w d11;dsimp only at w
   have ad:dF s=Rn ⟨3,((num ((s.drop 1).take 4):Nat):Int),fU 32 ((s.drop 5).take 32),0,0,row,fU 16 (s.drop (s.length-16))⟩:=by
    rw[w_ a8 (I 3 ω M),w]
   refine V y _ _ _ row d11 rfl (a6.elems.only f11 λl f=>by have:=a7 l f;omega) ω (λl f=>by have:=a7 l f;have:=a6.lt l f;have:=f11.size;omega) (λj=>?_) λk P=>?_
   ·exfalso;rcases j with j|j
    ·cases j
    ·apply j;dsimp only;rw[ajA];omega
   ·rw[ad,p,T,M]
 ·refine V h8 _ _ _ [] d8 rfl (aj.Bf 1 h8) δ (λl f=>by cases f) (λj=>?_) λk P=>?_
  all_goals
   have N:dF s=none:=by
    by_cases f:37<=s.length
    ·have hk:=(v f).2.1;refine GH (λo=>k1 ?_) (λo=>L ?_) (λo=>M ?_)<;>rw[hk,o]<;>rfl
    ·exact wZ ω
  ·exact N
  ·rw[N,Z7];rintro(o|o|o)
   ·exact k1 o
   ·exact L o
   ·exact M o
end
end Board
namespace Board
def bw(m:Ms)(row:List Bool):Bs 32:=mz (dA m row++m.tag.l)
def yO(m:Ms)(row:List Bool):LU:=dA m row++m.tag.l
theorem oD(m:Ms)(row:List Bool):(yO m row).length<=76+row.length:=by
 unfold yO;have:=ov m row;rw[ajP,m.tag.h];omega
section
variable{R:Rq}{h:af}{b:Nat}
theorem W_{o n c:Nat}{x:Bs n}(a:av h b o n x):kG h ⟨some ⟨b,o⟩,n,c⟩ x.l:=by
 refine⟨x.h,.inr ⟨⟨b,o⟩,rfl,λj d=>?_⟩⟩;have:=a j (by rw[<-x.h];exact d);simp_all
theorem jk{m:Ms}{row:List Bool}(e:aj 1 h m.bits (aY row))(q:row.length<500)(A:∀a,Ext h a->R (ajN 32 (bw m row)).val a):Cl 208 [m.tv] h R:=by
 apply Im m.kind m.slot m.target m.ax m.body m.bits m.tag;refine aa λr v1 j s=>aa λu k b v=>?_;have v1:=Var.ext v1 b;have c:=j.trans b;refine bB v1 ⟨m.tag.l,W_ v1.at.2.2.2.2.2.2,?_⟩;refine Kg (e.ext c) q λl d=>⟨_,rfl,d,?_⟩;have w:=ov m row;have f:[dA m row,m.tag.l].flatten=dA m row++m.tag.l:=by simp
 refine pT (og l [dA m row,m.tag.l]) (by rw[f,ajP,m.tag.h];omega) (by simp_all) λx n=>⟨_,rfl,?_⟩;have g:=d.trans ((ajE _ _).trans n);rw[f];refine aq (k.ext g) (t:=.bytes 32 (bw m row)) rfl wI λo p f5 y=>⟨_,p.bytes,?_⟩;exact A o (ajp (c.trans g) f5 λi z=>ω)
theorem jE{m:Ms}{row:List Bool}(e:aj 1 h m.bits (aY row))(A:row.length<500)(q:m.kind=1\/m.kind=2\/m.kind=3)(B:j9 m)(E:∀d,Ext h d->R (akg (yO m row)).val d):
 Cl 90 [m.tv] h R:=by
 apply xk m.kind m.slot m.target m.ax m.body m.bits m.tag;refine aa λn v1 g C=>?_;have v1:=v1;have D:=ov m row
 have o:∀(b:af)(s:Sl)(K:Sl->Rq),Ext n b->Row (λi=>h.size<i) b s []->(∀j d,ag (λi=>h.size<i) b d->K j (akg m.tag.l).val d)->
  ∃(new:List Value),cn b (ay (ajC (some (Vc.Loc.mk h.size 37)) 16 16) 0 16 1) 1 new/\(∀(v:Value),v∈new->bU v=true)/\au ctx 5 s (ay (ajC (some (Vc.Loc.mk h.size 37)) 16 16) 0 16 1).len new b λp u=>Cl 159 [ajQ p] u (K p):=by
  intro b s K a r q;have F:ay (ajC (some (Vc.Loc.mk h.size 37)) 16 16) 0 16 1=⟨some ⟨h.size,37⟩,16,16⟩:=rfl;refine⟨m.tag.l.map λc=>Value.int .u8 c.toNat,by rw[<-rW];exact(uD (v1.ext a).at.2.2.2.2.2.2).cells (By _) δ,sJ m.tag.l,?_⟩;refine yG m.tag.h.symm r (by rw[m.tag.h];decide) λw x y f3 G=>?_;apply mS;exact⟨_,y.str,q w x (r.cut f3)⟩
 refine bB v1 ⟨pg (e.ext g) A q B λt f=>⟨_,rfl,ajE _ _,?_⟩,ajE _ _,pg (e.ext (g.trans (ajE _ _))) A q B λt f=>⟨_,rfl,?_⟩⟩
 ·have H:=f.size;have a:=f.trans (ajE t (Vc.row (ajH []) 5));refine o _ _ (λ_=>_) a (wW ω) λj k l=>⟨_,rfl,by rw[m.tag.h];omega,E k (ajp (g.trans a) l λi z=>ω)⟩
 ·have a:=(ajE n (Vc.row (ajH []) 5)).trans f;refine o _ _ (λ_=>_) a ((wW ω).ext f) λj k l=>⟨_,rfl,by rw[m.tag.h];omega,E k (ajp (g.trans a) l λi z=>ω)⟩
theorem cW{m:Ms}{row:List Bool}(e:aj 1 h m.bits (aY row))(q:row.length<500)(A:m.kind=1\/m.kind=2\/m.kind=3)(B:j9 m)(E:∀a,Ext h a->R (ajN 32 (bw m row)).val a):
 Cl 91 [m.tv] h R:=by
 apply yN m.kind m.slot m.target m.ax m.body m.bits m.tag;refine aa λo v1 f p=>aa λr g b s=>?_;have v1:=Var.ext v1 b;have c:=f.trans b;have t:=oD m row;refine bB v1 (jE (e.ext c) q A B λu j=>⟨_,rfl,lI ω λv k=>⟨_,rfl,?_⟩⟩);have d:=j.trans k;refine aq (g.ext d) rfl wI λl n f5 w=>⟨_,n.bytes,?_⟩;exact E l (ajp (c.trans d) f5 λi x=>ω)
def RdD(h:af)(b:Nat)(s:LU)(at_:Nat)(sh:Bool):Prop:=Var 317 h b (.agg [.str s,.i (at_:Int),.bool sh])
def Ro(s:LU)(at_:Nat)(sh:Bool)(n:Int):Nat:=if sh=true\/n<0\/((s.length-at_:Nat):Int)<n then s.length else at_+n.toNat
theorem ael{s:LU}{at_:Nat}{sh:Bool}{n:Int}(h:at_<=s.length):Ro s at_ sh n<=s.length:=by
 grind [Ro]
theorem HD{s:LU}{at_:Nat}{sh:Bool}{n:Int}(v:RdD h b s at_ sh)(E:at_<=s.length)(G:s.length<100000)(A:n<100000)
 (q:∀e,RdD e b s (Ro s at_ sh n) (ja (s.drop at_) sh n).2.2->ag (·=b) h e->R (akg (ja (s.drop at_) sh n).1).val e):Cl 239 [.ptr (PT b),.i n] h R:=by
 apply oB;delta zP Br dz;have v:=v;have m:(s.drop at_).length=s.length-at_:=ajA;intro C u w o
 have f:(sh=true\/n<0\/(s.drop at_).length<n)->w true h:=by
  intro d;rw[OV d]at q;have g:Ro s at_ sh n=s.length:=by unfold Ro;rw[if_pos (by rw[<-m];exact d)]
  rw[g]at q;refine o true h (aju ?_);refine aI (i:=2) v rfl rfl rfl rfl λc v1 f1 D=>⟨s,v1.ah rfl,?_⟩;refine aI (i:=1) (t0:=.i (at_:Int)) v1 rfl rfl rfl rfl λj a f2 x=>?_;exact q j a (f1.trans f2)
 refine⟨sh,v.ah rfl,?_⟩;refine ajJ (λd=>f (.inl (by simpa using d))) λk=>ID (λA=>f (.inr (.inl A))) λy=>⟨s,v.ah rfl,(at_:Int),v.ah rfl,?_⟩;have k:sh=false:=by simpa using k
 dsimp only;rw[wrap_i64 ω ω];by_cases p:((s.length:Int)-(at_:Int))<n
 ·rw[decide_eq_true p];exact f (.inr (.inr ω))
 rw[decide_eq_false p];have r:¬(sh=true\/n<0\/((s.drop at_).length:Int)<n):=by rw[k];rintro(c|c|c)<;>first|cases c|exact y c|omega
 have z:ja (s.drop at_) sh n=((s.drop at_).take n.toNat,(s.drop at_).drop n.toNat,sh):=if_neg r;have g:Ro s at_ sh n=at_+n.toNat:=by unfold Ro;rw[if_neg (by rw[<-m];exact r)]
 rw[z,g]at q;refine o false h (ajr (u _ h ⟨(at_:Int),v.ah rfl,?_⟩));have B:ajq .i64 ((at_:Int)+n)=((at_+n.toNat:Nat):Int):=by rw[wrap_i64 ω ω];omega
 dsimp only;rw[B];refine aI (i:=1) (t:=.i ((at_+n.toNat:Nat):Int)) (t0:=.i (at_:Int)) v rfl rfl rfl rfl λj a f2 x=>?_;have l:ajq .i64 (((at_+n.toNat:Nat):Int)-n)=(at_:Int):=by rw[wrap_i64 ω ω];omega
 refine⟨s,a.ah rfl,_,a.ah rfl,_,a.ah rfl,ω,ω,by rw[l];omega,by rw[l];omega,?_⟩;rw[l,ajL,ajL,Nat.add_sub_cancel_left];exact q j a f2
theorem oE{s:LU}{at_:Nat}{sh:Bool}{w:Int}(v:RdD h b s at_ sh)(q:at_<=s.length)(A:s.length<100000)(I:w<=8)
 (B:∀g,RdD g b s (Ro s at_ sh w) (ja (s.drop at_) sh w).2.2->ag (λi=>i=b\/h.size<=i) h g->R (aj6 .u64 (num (ja (s.drop at_) sh w).1:Nat)).val g):
 Cl 237 [.ptr (PT b),.i w] h R:=by
 apply pY;delta cu dz aT;intro J x;refine ID (λe=>ω) λ_=>x w h ?_;refine HD v q A ω λe v1 f1=>⟨_,rfl,λc y=>?_⟩;have z:(ja (s.drop at_) sh w).1.length<=8:=ajF IV ω;have j:=ajE e (DG (ja (s.drop at_) sh w).1 c 5);have k:=B _ (Var.ext v1 j) (((f1.mono λi d=>.inl d)).trans (ajD j))
 have l:∀i:Nat,(d:i<(ja (s.drop at_) sh w).1.length)->ah (e.push (DG (ja (s.drop at_) sh w).1 c 5)) e.size (0+i*1) (.int .u8 ((ja (s.drop at_) sh w).1.getD i 0).toNat):=by
  intro i d;unfold ah ng;rw[cO];simp only[DG,Nat.zero_add,Nat.mul_one,List.getElem?_toArray]
  grind
 generalize(ja (s.drop at_) sh w).1=t at z k l j;refine⟨λσ m=>0<=σ.2.2/\σ.2.2<=t.length/\m=e.push (DG t c 5)/\σ.1=(num (t.take σ.2.2.toNat):Nat)/\σ.2.1=ajq .u64 (256^σ.2.2.toNat:Nat),λσ _=>(t.length-σ.2.2).toNat,⟨ajy 0,by simp_all,rfl,rfl,δ⟩,?_⟩;rintro⟨a,u,i⟩ m ⟨o,C,rfl,q,f⟩;dsimp only at o C q f⊢;refine ID (λd=>⟨o,d,_,l i.toNat ω,?_⟩) λd=>?_
 ·have D:i.toNat<=7:=ω;have E:256^i.toNat<=256^7:=ajX δ D;have cm:t[i.toNat]? =some (t.getD i.toNat 0):=by simp_all
  have K:=aU cm;have p:=Rl (t.take i.toNat) (t.getD i.toNat 0);rw[ajz,Nat.min_eq_left ω]at p;have L:=VB (s:=t.take i.toNat++[t.getD i.toNat 0]) (by grind);have y:=(t.getD i.toNat 0).toNat_lt;obtain⟨P,r⟩:∃P,P=256^i.toNat:=⟨_,rfl⟩;rw[<-r]at p f E;have F:ajq .u64 P=P:=bW ω ω;rw[F]at f;have G:ajq .u64 (t.getD i.toNat 0).toNat=(t.getD i.toNat 0).toNat:=bW ω ω;have H:u*(t.getD i.toNat 0).toNat=(P*(t.getD i.toNat 0).toNat:Nat):=by simp_all
  dsimp only;rw[G,H,bW (n:=(P*(t.getD i.toNat 0).toNat:Nat)) ω ω,q,bW ω ω,wrap_i64 ω ω];refine⟨⟨ω,ω,rfl,?_,?_⟩,ω⟩
  ·grind
  ·rw[show(i+1).toNat=i.toNat+1 by omega,akf,<-r,f];rfl
 ·have:i.toNat=t.length:=ω;rw[q,this,ajK];exact k
theorem Xa{s:LU}{at_:Nat}{sh:Bool}(v:RdD h b s at_ sh)(A:at_<=s.length)(q:R (ajx (!sh&&decide (s.drop at_=[]))).val h):Cl 240 [.ptr (PT b)] h R:=by
 have v:=v;apply qI;refine⟨sh,v.ah rfl,?_⟩;cases sh with
 |true=>exact ajr q
 |false=>
  refine aju ⟨_,v.ah rfl,_,v.ah rfl,?_⟩
  have:decide (at_=(s.length:Int))=decide (s.drop at_=[]):=by
   apply decide_eq_decide.2
   grind [List.drop_eq_nil_iff]
  simp_all
end
end Board
namespace Board
theorem Xb{c:UInt8}{k:Nat}(A:k<8)(B:sP c k=true)(E:∀j,k<j->j<8->sP c j=false):c≠0/\yL c=k:=by
 have a:c≠0:=by
  rintro rfl;simp_all [Z3]
 grind [yL,Nat.lt_trichotomy,GG,WZ,Km]
theorem M9{c:UInt8}(A:∀j,j<8->sP c j=false):c=0:=by
 apply Classical.byContradiction;intro h;have a:=Km h;simp_all [GG]
theorem TM{c:UInt8}{k:Nat}(h:k<8):(uG c).take (k+1)=(uG c).take k++[sP c k]:=by
 simp_all [aU,uG]
section
variable{R:Rq}{h:af}
set_option maxHeartbeats 1000000 in
theorem Rp{s:LU}(hs:s.length<1000)(E:BR s 16=none->∀e t,Ext h e->R (ajw [.slice t,.bool false]).val e)
 (Z:∀row e t,BR s 16=some row->aj 1 e t (aY row)->Ext h e->(∀l,t.a=some l->h.size<=l.b/\l.b<e.size)->R (ajw [.slice t,.bool true]).val e):
 Cl 238 [.str s,.i 16] h R:=by
 apply Ai;delta aF mu dD eW uQ dz
 refine⟨λσ hh=>0<=σ.2/\σ.2<=s.length/\Vc.Own 4 1 hh σ.1 (aY (bitsOf (s.take σ.2.toNat)))/\(∀l,σ.1.a=some l->h.size<=l.b)/\Ext h hh,λσ _=>(s.length-σ.2).toNat,
  ⟨ajy 0,ω,Vc.Own.nil _ _ _,(λl D=>by cases D),ajB _⟩,?_⟩
 rintro⟨t,i⟩ m ⟨O,X,f,F,g⟩;dsimp only at O X f F g⊢;refine ID (λP=>⟨O,P,?_⟩) λP=>?_
 ·have G:=(s.getD i.toNat 0).toNat_lt;have cm:s[i.toNat]? =some (s.getD i.toNat 0):=by simp_all
  have S:bitsOf (s.take (i.toNat+1))=bitsOf (s.take i.toNat)++uG (s.getD i.toNat 0):=by rw[aU cm,Rm]
  generalize s.getD i.toNat 0=c at G S;rw[wrap_i64 ω ω]
  refine⟨λσ hh=>0<=σ.2.2/\σ.2.2<=8/\Vc.Own 4 1 hh σ.1 (aY (bitsOf (s.take i.toNat)++(uG c).take σ.2.2.toNat))/\(∀l,σ.1.a=some l->h.size<=l.b)/\Ext h hh/\σ.2.1=(c.toNat/2^σ.2.2.toNat:Nat),λσ _=>(8-σ.2.2).toNat,
   ⟨ajy 0,by simp_all,by simp_all,F,g,by simp⟩,?_⟩
  rintro⟨t2,u,k⟩ h2 ⟨Y,k1,o,T,r,H⟩;dsimp only at Y k1 o T r H⊢;refine ID (λhk=>⟨δ,?_⟩) λhk=>?_
  ·have ab:decide (Int.tmod u 2=1)=sP c k.toNat:=by
    rw[H,Int.tmod_eq_emod_of_nonneg (ajR _)];apply decide_eq_decide.2;omega
   have ol:=o.len;rw[ajv,ajP,jD,ajz,ajz]at ol;rw[ab];refine cD sz4 zz4 δ (by rw[b4];omega) o rfl rfl λt3 h3 o3 f3 b3=>⟨δ,?_⟩;have z2:=r.size
   have v:Int.tdiv u 2=(c.toNat/2^(k.toNat+1):Nat):=by
    rw[H,Int.tdiv_eq_ediv_of_nonneg (ajR _),akf,<-Nat.div_div_eq_div_mul];omega
   have ac:c.toNat/2^(k.toNat+1)<=c.toNat:=Nat.div_le_self _ _;have a1:(k+1).toNat=k.toNat+1:=ω;obtain⟨Q,hQ⟩:∃Q,Q=c.toNat/2^(k.toNat+1):=⟨_,rfl⟩;rw[<-hQ]at v ac;rw[v,wrap_i64 (n:=Q) ω ω,wrap_i64 ω ω];refine⟨⟨ω,ω,?_,λp hp=>?_,ajp r f3 λj⟨p,hp,w⟩=>by simp_all,by simp_all⟩,ω⟩
   ·simp_all [List.append_assoc,TM,aY]
   grind
  ·have ad:k.toNat=8:=ω;have ae:(uG c).take 8=uG c:=ajW (by rw[mT];exact ajI 8);rw[ad,ae,<-S]at o;rw[wrap_i64 (n:=i+1) ω ω];refine⟨⟨Ω,Ω,?_,T,r⟩,Ω⟩
   try dsimp only
   rw[show(i+1).toNat=i.toNat+1 by omega];exact o
 ·have al:i.toNat=s.length:=ω;rw[al,ajK]at f;have ol:=f.len;rw[ajv,jD]at ol;have y:=D7 s;have am:ajq .i64 ((t.len:Int)-1)=(t.len:Int)-1:=wrap_i64 ω ω;have ao:ajq .i64 ((t.len:Int)-8)=(t.len:Int)-8:=wrap_i64 ω ω;rw[am,ao]
  refine⟨λσ hh=>-1<=σ.2.2/\σ.2.2<t.len/\(t.len:Int)-9<=σ.2.2/\hh=m/\∀j:Nat,σ.2.2<j->j<t.len->(bitsOf s)[j]? =some false,λσ _=>(σ.2.2+1).toNat,
   ⟨Ω,Ω,Ω,rfl,λj z I=>by dsimp only at z;omega⟩,?_⟩
  rintro⟨t0,b0,n⟩ hh ⟨n0,n1,n2,rfl,q⟩;dsimp only at n0 n1 n2 q⊢;intro J HJ
  have A:∀(L:Nat),s.length=L+1->s.getLastD 0=s.getD L 0:=by
   intro L b;have:=Kn (s:=s) (by intro B;rw[B]at b;simp at b);rw[<-this,b];rfl
  refine ID (λhn0=>ID (λap=>HJ _ _ ?_) λap=>?_) λhn0=>?_
  ·refine kD f.elems hn0 (by rw[jD];omega) λx K=>?_;have U:=y n.toNat ω;rw[U]at K;refine ajJ (λM=>⟨hn0,by have:=f.cap;omega,?_⟩) λM=>?_
   ·obtain⟨L,b⟩:∃L,s.length=L+1:=⟨s.length-1,ω⟩;have v:n.toNat/8=L:=ω
    have ar:sP (s.getLastD 0) (n.toNat%8)=true:=by
     rw[A L b,<-v,Option.some.inj K];exact M
    obtain⟨G,aw⟩:=Xb (Nat.mod_lt _ δ) ar λj z I=>by
     have d:=q (8*L+j) ω ω;rw[y _ ω,show(8*L+j)/8=L by omega,show(8*L+j)%8=j by omega,<-A L b]at d;exact Option.some.inj d
    have aE:sQ s=n.toNat:=by unfold sQ;rw[aw];omega
    have C:BR s 16=if 16<n.toNat then none else some ((bitsOf s).take n.toNat):=by
     unfold BR;rw[if_neg (by rintro(m|m);rw[m]at b;simp at b;exact G m),aE]
    by_cases V:n<=16
    ·rw[decide_eq_true V];rw[if_neg ω]at C;refine Z _ hh _ C ?_ g λl D=>(λW=>⟨F l W,f.lt l W⟩) ?_
     ·have:=SY (n:=n.toNat) f.elems (by rw[ajv,jD];omega);rw[<-aj7]at this;exact this
     ·have ha:(ay t 0 n.toNat 1).a=t.a:=by
       unfold ay;cases t.a with
       |none=>simp
       |some l=>simp
      rw[<-ha];exact D
    ·rw[decide_eq_false V];rw[if_pos ω]at C;exact E C hh _ g
   ·rw[wrap_i64 (n:=n-1) ω ω];have a0:x=false:=by simpa using M
    refine⟨⟨Ω,Ω,Ω,rfl,λj z I=>?_⟩,Ω⟩
    try dsimp only at z
    by_cases w:j=n.toNat
    ·rw[w,U,K,a0]
    ·exact q j ω I
  ·obtain⟨L,b⟩:∃L,s.length=L+1:=⟨s.length-1,ω⟩;refine E ?_ hh _ g
   have N:s.getLastD 0=0:=M9 λj w=>by
    have d:=q (8*L+j) ω ω;rw[y _ ω,show(8*L+j)/8=L by omega,show(8*L+j)%8=j by omega,<-A L b]at d;exact Option.some.inj d
   unfold BR;rw[if_pos (.inr N)]
  ·refine E ?_ hh _ g;by_cases B:s=[]
   ·unfold BR;rw[if_pos (.inl B)]
   ·obtain⟨L,b⟩:∃L,s.length=L+1:=⟨s.length-1,by have:=List.length_pos_iff.2 B;omega⟩
    have N:s.getLastD 0=0:=M9 λj w=>by
     have d:=q (8*L+j) ω ω;rw[y _ ω,show(8*L+j)/8=L by omega,show(8*L+j)%8=j by omega,<-A L b]at d;exact Option.some.inj d
    unfold BR;rw[if_pos (.inr N)]
structure DD(h hh:af)(q mb:Nat)(s:LU)(at_:Nat)(sh:Bool)(m:Ms):Prop where
 rd:RdD hh q s at_ sh
 msg:Var 58 hh mb m.tv
 LW:Var 58 hh h.size bh.tv
 only:ag (λi=>h.size<=i) h hh
 q0:h.size<q
 m0:q<mb
section
variable{hh:af}{q mb:Nat}{s:LU}{at_:Nat}{sh:Bool}{m:Ms}
theorem DD.ext(d:DD h hh q mb s at_ sh m):Ext h hh:=ajp (ajB h) d.only λ_ a=>a
theorem DD.more{A:af}(d:DD h hh q mb s at_ sh m)(x:Ext hh A):DD h A q mb s at_ sh m:=⟨Var.ext d.rd x,d.msg.ext x,d.LW.ext x,d.only.trans (ajD x),d.q0,d.m0⟩
theorem DD.read{A:af}{B:Nat}{E:Bool}(d:DD h hh q mb s at_ sh m)(v:RdD A q s B E)(f:ag (λi=>i=q\/hh.size<=i) hh A):DD h A q mb s B E m:=
 ⟨v,d.msg.only f (by have:=d.m0;have:=d.msg.lt;omega),d.LW.only f (by have:=d.q0;have:=d.LW.lt;omega),d.only.trans (f.mono λi a=>by have:=d.q0;have:=d.msg.lt;have:=d.LW.lt;omega),d.q0,d.m0⟩
theorem DD.write{A:af}{B:Ms}(d:DD h hh q mb s at_ sh m)(v:Var 58 A mb B.tv)(f:ag (·=mb) hh A):DD h A q mb s at_ sh B:=
 ⟨Var.only d.rd f (by have:=d.m0;omega),v,d.LW.only f (by have:=d.m0;have:=d.q0;omega),d.only.trans (f.mono λi a=>by have:=d.q0;have:=d.m0;omega),d.q0,d.m0⟩
end
theorem D8{s:LU}{a n:Nat}(h:a+n<=s.length):Ro s a false (n:Int)=a+n:=by
 unfold Ro
 grind
theorem w16{l:LU}(A:l.length<=2):ajq .i64 ((num l:Nat):Int)=((num l:Nat):Int):=by
 have a:=BQ l;have b:256^l.length<=256^2:=ajX δ A
 grind [wrap_i64]
theorem w32{l:LU}(A:l.length<=4):ajq .i64 ((num l:Nat):Int)=((num l:Nat):Int):=by
 have a:=BQ l;have b:256^l.length<=256^4:=ajX δ A
 grind [wrap_i64]
theorem aem{s:LU}{a:Nat}(h:a<s.length):num ((s.drop a).take 1)=(s.getD a 0).toNat:=by
 rw[akb h,List.take_succ_cons,List.take_zero,num,num,aj5,List.getElem?_eq_getElem h];simp
theorem M_(c:UInt8):ajq .u8 ((c.toNat:Nat):Int)=(c.toNat:Int):=by
 have:=c.toNat_lt;rw[wrap_u8];omega
theorem OW{c:UInt8}(k:UInt8):((c.toNat:Nat):Int)=(k.toNat:Int)↔c=k:=⟨λh=>ajS.1 ω,λh=>by rw[h]⟩
theorem aen{s:LU}(h:s.length=53):dF s=none:=by
 by_cases a:s.getD 0 0=1
 ·rw[Fm ω a,if_neg ω]
 ·by_cases b:s.getD 0 0=2
  ·rw[Fo ω b,if_neg ω]
  ·by_cases c:s.getD 0 0=3
   ·rw[w_ ω c,h];rfl
   simp_all [GH]
theorem Na(n:Nat):fU n []=ajs n:=by
 apply aj0;simp[fU,ajs]
set_option maxHeartbeats 2000000 in
theorem gF{s:LU}(hs:s.length<1000)(hn:dF s=none->∀f,Ext h f->R (ajw [bh.tv,.bool false]).val f)
 (hy:∀d f b,dF s=some d->aj 1 f b (aY d.row)->Ext h f->(∀l,b.a=some l->h.size<=l.b/\l.b<f.size)->R (ajw [(d.ms b).tv,.bool true]).val f):Cl 175 [.str s] h R:=by
 apply ve;delta aF jt EY dx eY cE fW dz Td LN aT bA fD;refine aa λY v1 x1 s1=>?_;have v1:Var 58 Y h.size bh.tv:=v1;refine ID (λbd=>?_) λbd=>?_
 ·refine aq (t:=bh.tv) v1 cv fR λy Z f9 s9=>bB Z (hn ?_ y (ajp x1 f9 λi p=>ω))
  grind [aen,wZ]
 refine aa λh2 v2 x2 s2=>aa λh3 v3 x3 s3=>?_;have v3:=v3;have d3:DD h h3 Y.size h2.size s 0 false bh:=⟨Var.ext v2 x3,v3,(v1.ext x2).ext x3,ajD ((x1.trans x2).trans x3),ω,ω⟩;refine oE d3.rd (ajU _) ω δ λh4 r4 f4=>⟨_,rfl,?_⟩;have u:ja (s.drop 0) false 1=((s.drop 0).take 1,s.drop 1,false):=oA (n:=1) ω;have F:Ro s 0 false 1=1:=D8 (n:=1) ω;rw[F,u]at r4;rw[u];have d4:=d3.read r4 f4;dsimp only;rw[aem ω];have b8:=(s.getD 0 0).toNat_lt;have bi:ajq .i64 ((s.getD 0 0).toNat:Nat)=(s.getD 0 0).toNat:=by grind [wrap_i64]
 rw[bi];generalize Y.size=q at*;generalize h2.size=mb at*;refine aI (i:=0) d4.msg rfl rfl rfl rfl λh5 v5 f5 s5=>?_;have d5:DD h h5 q mb s 1 false (Ms.mk (s.getD 0 0).toNat 0 (ajs 32) 0 0 ajt (ajs 16)):=d4.write v5 f5;obtain⟨K,O⟩:∃K:Int,K=(s.getD 0 0).toNat:=⟨_,rfl⟩;rw[<-O]at d5;refine oE d5.rd ω ω δ λh6 r6 f6=>⟨_,rfl,?_⟩;have e2:ja (s.drop 1) false 4=((s.drop 1).take 4,s.drop 5,false):=oA (n:=4) ω;have a2:Ro s 1 false 4=5:=D8 (n:=4) ω;rw[a2,e2]at r6;rw[e2];have d6:=d5.read r6 f6;dsimp only;rw[w32 (by grind)];obtain⟨S,Q⟩:∃S:Int,S=(num ((s.drop 1).take 4):Nat):=⟨_,rfl⟩;rw[<-Q];refine aI (i:=1) d6.msg rfl rfl rfl rfl λh7 v7 f7 s7=>?_;have d7:DD h h7 q mb s 5 false (Ms.mk K S (ajs 32) 0 0 ajt (ajs 16)):=d6.write v7 f7;refine⟨λi hh=>0<=i/\i<=32/\DD h hh q mb s (5+i.toNat) false (Ms.mk K S (fU 32 ((s.drop 5).take i.toNat)) 0 0 ajt (ajs 16)),λi _=>(32-i).toNat,⟨ajy 0,δ,?_⟩,?_⟩
 ·have:fU 32 ((s.drop 5).take (0:Int).toNat)=ajs 32:=Na 32;rw[this];exact d7
 rintro i h8 ⟨i0,i1,d8⟩;refine ID (λp=>?_) λp=>?_
 ·refine oE d8.rd ω ω δ λy w f9=>⟨_,rfl,i0,p,?_⟩;have U:ja (s.drop (5+i.toNat)) false 1=((s.drop (5+i.toNat)).take 1,s.drop (5+i.toNat+1),false):=oA (n:=1) ω;have a3:Ro s (5+i.toNat) false 1=5+i.toNat+1:=D8 (n:=1) ω;rw[a3,U]at w;rw[U];have d9:=d8.read w f9;have V:=(s.getD (5+i.toNat) 0).toNat_lt;have cm:(s.drop 5)[i.toNat]? =some (s.getD (5+i.toNat) 0):=by grind
  rw[aem ω,M_];refine JD (i:=2) (o:=2) (k:=i.toNat) d9.msg rfl rfl ω ω ω ω λz v10 f10 ar=>?_;rw[ajL,UInt8.ofNat_toNat,Mu cm ω]at v10;rw[wrap_i64 ω ω];refine⟨⟨ω,ω,?_⟩,by grind⟩;rw[show(i+1).toNat=i.toNat+1 by omega];exact d9.write v10 f10
 have bj:i.toNat=32:=ω;rw[bj]at d8;obtain⟨T,W⟩:∃T,T=fU 32 ((s.drop 5).take 32):=⟨_,rfl⟩;rw[<-W]at d8;have d8:=d8
 have no:∀hh a sh m,DD h hh q mb s a sh m->dF s=none->gT hh h.size 0 53/\Bind (ajM hh h.size 0 bh.tv) λE=>
  ∃(n:Int),∃(aw:Int),∃(b_:Bs 32),∃(aE:Int),∃(a0:Int),∃(s:Sl),∃(a1:Bs 16),(ah E h.size 0 (.i n)/\ah E h.size 1 (.i aw)/\av E h.size 2 32 b_/\ah E h.size 34 (.i aE)/\ah E h.size 35 (.int .u64 a0)/\ah E h.size 36 (bu s)/\av E h.size 37 16 a1)/\
   R (ajw [.agg [.i n,.i aw,.bytes 32 b_,.i aE,.int .u64 a0,.slice s,.bytes 16 a1],.bool false]).val E:=by
  intro hh a sh m d hd;refine aq (t:=bh.tv) d.LW cv fR λy Z f9 s9=>bB Z ?_;exact hn hd y (ajp d.ext f9 λi p=>ω)
 have ab:K=1↔s.getD 0 0=1:=by rw[O];exact OW 1
 have ac:K=2↔s.getD 0 0=2:=by rw[O];exact OW 2
 have ad:K=3↔s.getD 0 0=3:=by rw[O];exact OW 3
 have wr:∀n:Nat,n<=s.length->ajq .i64 ((s.length:Int)-(n:Int))=(s.length:Int)-(n:Int):=λn h=>wrap_i64 ω ω;have bk:ajq .i64 ((s.length:Int)-37)=(s.length:Int)-37:=wrap_i64 ω ω;have bl:ajq .i64 ((s.length:Int)-37-16)=(s.length:Int)-53:=by rw[wrap_i64 ω ω];omega
 have bm:ajq .i64 ((s.length:Int)-53-2)=(s.length:Int)-55:=by rw[wrap_i64 ω ω];omega
 have bo:ajq .i64 ((s.length:Int)-55-8)=(s.length:Int)-63:=by rw[wrap_i64 ω ω];omega
 rw[bk,bl,bm];intro J1 HJ1;obtain⟨M,hM⟩:∃M:Int,M=((num ((s.drop 37).take 2):Nat):Int):=⟨_,rfl⟩;obtain⟨B,hB⟩:∃B:Int,B=((num ((s.drop 39).take 8):Nat):Int):=⟨_,rfl⟩
 have ae:∀hh a mem r,DD h hh q mb s a false (Ms.mk K S T mem 0 ajt (ajs 16))->((K=1\/K=2)/\a=39/\mem=M/\r=(s.length:Int)-55)\/(K≠1/\K≠2/\a=37/\mem=0/\r=(s.length:Int)-53)->J1 r hh:=by
  intro hh a mem r d c;refine HJ1 r hh ?_;intro J2 HJ2
  have a4:∀hh a mem H r,DD h hh q mb s a false (Ms.mk K S T mem H ajt (ajs 16))->(K=1/\a=47/\mem=M/\H=B/\r=(s.length:Int)-63)\/(K=2/\a=39/\mem=M/\H=0/\r=(s.length:Int)-55)\/(K≠1/\K≠2/\a=37/\mem=0/\H=0/\r=(s.length:Int)-53)->J2 r hh:=by
   intro hh a mem H r d c;refine HJ2 r hh ?_;intro J3 a5
   have a6:∀hh a m row r,DD h hh q mb s a false m->m.tag=ajs 16->aj 1 hh m.bits (aY row)->row.length<100000->(∀l,m.bits.a=some l->l.b<hh.size/\l.b≠q/\l.b≠mb/\l.b≠h.size/\h.size<=l.b)->a<=s.length->(r=0->a+16=s.length)->(r≠0->dF s=none)->
    (r=0->dF s=Rn ⟨m.kind,m.slot,m.target,m.ax,m.body,row,fU 16 (s.drop a)⟩)->J3 (false,r) hh:=by
    intro hh a m row r d hz e a7 al ha a8 bp br;refine a5 _ hh ?_;refine⟨λi f=>0<=i/\i<=16/\ag (λi=>i=q\/i=mb\/hh.size<=i) hh f/\∃j sh t,j<=s.length/\DD h f q mb s j sh {m with tag:=t}/\(r=0->j=a+i.toNat/\sh=false/\t=fU 16 ((s.drop a).take i.toNat)),λi _=>((16:Int)-i).toNat,⟨ajy 0,δ,ag.refl _ _,a,false,m.tag,ha,d,λ_=>⟨rfl,rfl,by rw[hz];exact(Na 16).symm⟩⟩,?_⟩;rintro i y ⟨i0,i1,f9,j,sh,t,am,d9,hg⟩;refine ID (λp=>?_) λp=>?_
    ·refine oE d9.rd am ω δ λz bt f10=>⟨_,rfl,i0,p,?_⟩;have d10:=d9.read bt f10;have a9:=aS ((num (ja (s.drop j) sh 1).1:Nat):Int);refine JD (i:=6) (o:=37) (k:=i.toNat) d10.msg rfl rfl ω ω a9.1 a9.2 λI v11 f11 bx=>?_;rw[wrap_i64 (n:=i+1) ω ω];have d11:DD h I q mb s _ _ {m with tag:=t.set i.toNat (aj1 (ajq .u8 ((num (ja (s.drop j) sh 1).1:Nat):Int)).toNat)}:=d10.write v11 f11;have z9:=f9.size;refine⟨⟨ω,ω,(f9.trans (f10.mono λi p=>ω)).trans (f11.mono λi p=>ω),_,_,_,ael am,d11,λA=>?_⟩,Ω⟩;obtain⟨C,g2,J⟩:=hg A;have:=a8 A;have U:ja (s.drop j) false 1=((s.drop j).take 1,s.drop (j+1),false):=oA (n:=1) ω;have a3:Ro s j false 1=j+1:=D8 (n:=1) ω;have cm:(s.drop a)[i.toNat]? =some (s.getD j 0):=by rw[List.getElem?_drop,C,aj5,List.getElem?_eq_getElem ω];rfl
     rw[g2,a3,U,J];dsimp only;rw[aem ω,M_,ajL,UInt8.ofNat_toNat,Mu cm ω,show(i+1).toNat=i.toNat+1 by omega];exact⟨ω,rfl,rfl⟩
    ·have b0:i.toNat=16:=ω;rw[b0]at hg;dsimp only;refine ajJ (λV=>no y _ _ _ d9 (bp (by simpa using V))) λV=>?_;have A:r=0:=by simpa using V
     obtain⟨C,g2,J⟩:=hg A;have b9:=a8 A;have L:=br A;refine Xa d9.rd am ⟨_,rfl,?_⟩;have b1:(!sh&&decide (s.drop j=[]))=true:=by rw[g2,List.drop_of_length_le ω];rfl
     rw[b1];rw[ajW (by rw[ajA];omega)]at J;subst J;have e9:aj 1 y m.bits (aY row):=e.only f9 λl x=>by have:=al l x;omega
     refine ajr (bB d9.msg ?_);refine yJ (m:={m with tag:=fU 16 (s.drop a)}) (row:=row) e9 a7 λI ao=>⟨_,rfl,?_⟩;have d11:=d9.more ao;unfold Rn at L;have b2:dU {m with tag:=fU 16 (s.drop a)} row=dU ((Dm.mk m.kind m.slot m.target m.ax m.body row (fU 16 (s.drop a))).ms ajt) row:=rfl;rw[b2];cases a':dU ((Dm.mk m.kind m.slot m.target m.ax m.body row (fU 16 (s.drop a))).ms ajt) row with
     |false=>
      refine aju (no I _ _ _ d11 ?_);rw[L,if_neg];show¬dU _ row=true;rw[a'];decide
     |true=>
      refine ajr (bB d11.msg ?_);refine aq d11.LW (t:=({m with tag:=fU 16 (s.drop a)}:Ms).tv) cv fR λba b3 f12 ca=>bB b3 ?_;have hd:dF s=some (Dm.mk m.kind m.slot m.target m.ax m.body row (fU 16 (s.drop a))):=by rw[L];exact if_pos a'
      have b5:Ext h ba:=ajp d11.ext f12 λi p=>ω
      exact hy _ ba m.bits hd ((e9.ext ao).only f12 λl x=>(al l x).2.2.2.1) b5 λl x=>by
       have g:=al l x;have C:=f9.size;have J:=ao.size;have g4:=f12.size;exact⟨g.2.2.2.2,ω⟩
   clear a5;refine⟨K,d.msg.ah rfl,ID (λN=>?_) λN=>?_⟩
   ·have c:a=37/\mem=0/\H=0/\r=(s.length:Int)-53:=by
     rcases c with c|c|c
     ·omega
     ·omega
     ·exact c.2.2
    obtain⟨rfl,rfl,rfl,rfl⟩:=c;refine HD d.rd ω ω ω λy w f9=>⟨_,rfl,?_⟩;have e0:(s.length:Int)-53=((s.length-53:Nat):Int):=ω
    have u:ja (s.drop 37) false ((s.length:Int)-53)=((s.drop 37).take (s.length-53),s.drop (s.length-16),false):=by
     rw[e0,oA ω,show 37+(s.length-53)=s.length-16 by omega]
    have F:Ro s 37 false ((s.length:Int)-53)=s.length-16:=by rw[e0,D8 ω];omega
    rw[u,F]at w;rw[u];have d9:=d.read w (f9.mono λi p=>.inl p);have cd:=d9.msg.lt;have hq:=d9.m0;have ce:=d9.q0;dsimp only;refine Rp (by rw[ajz,ajA];omega) (λb6 z t ap=>⟨_,_,rfl,aju (no z _ _ _ (d9.more ap) ?_)⟩) λrow z t G b7 ap bb=>⟨_,_,rfl,ajr ?_⟩
    ·rw[w_ ω (ad.1 N),b6]
    ·have d10:=d9.more ap;refine aI (i:=5) (t:=.slice t) (t0:=.slice ajt) d10.msg rfl rfl rfl rfl λI v11 f11 bx=>?_;have d11:DD h I q mb s (s.length-16) false (Ms.mk K S T 0 0 t (ajs 16)):=d10.write v11 f11
     have a7:row.length<=16:=by
      unfold BR at G;split at G
      ·cases G
      ·split at G
       ·cases G
       ·rw[<-Option.some.inj G,ajz];omega
     have L:dF s=Rn ⟨3,((num ((s.drop 1).take 4):Nat):Int),fU 32 ((s.drop 5).take 32),0,0,row,fU 16 (s.drop (s.length-16))⟩:=by
      rw[w_ ω (ad.1 N),G]
     refine a6 I _ _ row 0 d11 rfl (b7.only f11 λl x=>by have:=bb l x;omega) ω (λl x=>by have:=bb l x;have:=f11.size;omega) ω (λ_=>ω) (λh=>absurd rfl h) λ_=>?_;rw[L,Q,W,N]
   ·refine a6 hh a _ [] r d rfl (aj.Bf 1 hh) δ (λl x=>by cases x) ω (λA=>ω) (λA=>?_) λA=>?_
    ·rcases c with c|c|c
     ·rw[Fm ω (ab.1 c.1),if_neg ω]
     ·rw[Fo ω (ac.1 c.1),if_neg ω]
     ·exact GH (λh=>c.1 (ab.2 h)) (λh=>c.2.1 (ac.2 h)) (λh=>N (ad.2 h))
    ·rcases c with c|c|c
     ·obtain⟨C,rfl,rfl,rfl,g5⟩:=c;rw[Fm ω (ab.1 C),if_pos ω,Q,W,hM,hB,C]
     ·obtain⟨C,rfl,rfl,rfl,g5⟩:=c;rw[Fo ω (ac.1 C),if_pos ω,Q,W,hM,C]
     ·omega
  clear HJ2;refine⟨K,d.msg.ah rfl,ID (λD=>?_) λD=>?_⟩
  ·have c:a=39/\mem=M/\r=(s.length:Int)-55:=by
    rcases c with c|c
    ·exact c.2
    ·exact absurd D c.1
   obtain⟨rfl,rfl,rfl⟩:=c;refine oE d.rd ω ω δ λy w f9=>⟨_,rfl,?_⟩;have u:ja (s.drop 39) false 8=((s.drop 39).take 8,s.drop 47,false):=oA (a:=39) (n:=8) ω;have F:Ro s 39 false 8=47:=D8 (a:=39) (n:=8) ω;rw[F,u]at w;rw[u];have d9:=d.read w f9;dsimp only;rw[<-hB,bo];refine aI (i:=4) (t:=.int .u64 B) (t0:=.int .u64 0) d9.msg rfl rfl rfl rfl λz v10 f10 ar=>?_;have d10:DD h z q mb s 47 false (Ms.mk K S T mem B ajt (ajs 16)):=d9.write v10 f10;exact a4 z 47 mem B _ d10 (.inl ⟨D,rfl,rfl,rfl,rfl⟩)
  ·refine a4 hh a mem 0 r d ?_;rcases c with c|c
   ·rcases c.1 with g|g
    ·exact absurd g D
    ·exact .inr (.inl ⟨g,c.2.1,c.2.2.1,rfl,c.2.2.2⟩)
   ·exact .inr (.inr ⟨c.1,c.2.1,c.2.2.1,c.2.2.2.1,rfl,c.2.2.2.2⟩)
 clear HJ1
 have bc:∀(P:Int->af->Prop),(∀f,DD h f q mb s 39 false (Ms.mk K S T M 0 ajt (ajs 16))->P ((s.length:Int)-55) f)->K=1\/K=2->
  Cl 237 [ajG (some (Vc.Loc.mk q 0)),TV.i 2] h8 λ(v:Value)(h:af)=>∃(n:Int),v=TV.val (aj6 .u64 n)/\gT h mb 34 1/\Bind (ajM h mb 34 (TV.i (ajq .i64 n))) λ(h:af)=>P ((s.length:Int)-55) h:=by
  intro P hP hk;refine oE d8.rd ω ω δ λy w f9=>⟨_,rfl,?_⟩;have u:ja (s.drop 37) false 2=((s.drop 37).take 2,s.drop 39,false):=oA (a:=37) (n:=2) ω;have F:Ro s 37 false 2=39:=D8 (a:=37) (n:=2) ω;rw[F,u]at w;rw[u];have d9:=d8.read w f9;dsimp only;rw[w16 (by rw[ajz];omega),<-hM];refine aI (i:=3) (t:=.i M) (t0:=.i 0) d9.msg rfl rfl rfl rfl λz v10 f10 ar=>?_;exact hP z (d9.write v10 f10)
 refine⟨K,d8.msg.ah rfl,ID (λD=>?_) λD=>⟨K,d8.msg.ah rfl,ID (λX=>?_) λX=>?_⟩⟩
 ·exact bc J1 (λf d'=>ae f 39 M _ d' (.inl ⟨.inl D,rfl,rfl,rfl⟩)) (.inl D)
 ·exact bc J1 (λf d'=>ae f 39 M _ d' (.inl ⟨.inr X,rfl,rfl,rfl⟩)) (.inr X)
 ·exact ae h8 37 0 _ d8 (.inr ⟨D,X,rfl,rfl,rfl⟩)
end
end Board
namespace Pool
open Board (Dm Ms dF bw bh bB aq fR cv j_ gF jk cW j9 wI aY pX)
def bq(d:Dm)(peer:Int)(text:LU):It:=⟨d.slot,bw (d.ms ajt) d.row,peer,d.target,text⟩
def dY(want:Int->Bool)(most quota peer:Int)(text:LU)(S:List It):Int×Bs 32×List It:=
 match dF text with
 |none=>(5,ajs 32,S)
 |some d=>if want d.kind=true then((cV most quota (bq d peer text) S).1,(cV most quota (bq d peer text) S).2.1.root,(cV most quota (bq d peer text) S).2.2)else(5,ajs 32,S)
theorem CH{want:Int->Bool}{most quota peer:Int}{text:LU}{S:List It}(h:dF text=none):dY want most quota peer text S=(5,ajs 32,S):=by
 unfold dY;rw[h]
theorem IW{want:Int->Bool}{most quota peer:Int}{text:LU}{S:List It}{d:Dm}(h:dF text=some d)(q:want d.kind=false):dY want most quota peer text S=(5,ajs 32,S):=by
 unfold dY;rw[h];simp only;rw[if_neg (by rw[q];decide)]
theorem Fs{want:Int->Bool}{most quota peer:Int}{text:LU}{S:List It}{d:Dm}(h:dF text=some d)(q:want d.kind=true):
 dY want most quota peer text S=((cV most quota (bq d peer text) S).1,(cV most quota (bq d peer text) S).2.1.root,(cV most quota (bq d peer text) S).2.2):=by
 unfold dY;rw[h];simp only;rw[if_pos q]
theorem oF{text:LU}{d:Dm}(h:dF text=some d):d.row.length<500:=by
 have a:=pX h;unfold Board.dU at a
 grind
section
variable{R:Rq}{h:af}{o b:Nat}{A:Sl}{S:List It}{most quota:Int}{T:TypeId}
structure WL(T:TypeId)(h:af)(o b:Nat)(A:Sl)(S:List It)(most quota:Int):Prop where
 var:Var T h o (.agg [.ptr (PT b)])
 pl:PL h b A S most quota
 apart:¬dV b A o
theorem WL.ext{q:af}(w:WL T h o b A S most quota)(x:Ext h q):WL T q o b A S most quota:=⟨w.var.ext x,w.pl.ext x,w.apart⟩
theorem WL.only{q:af}{Q:Nat->Prop}(w:WL T h o b A S most quota)(f:ag Q h q)(B:¬Q o)(E:∀i,dV b A i->¬Q i):WL T q o b A S most quota:=⟨w.var.only f B,w.pl.only f E,w.apart⟩
theorem WL.grown{q:af}{A':Sl}{S':List It}(w:WL T h o b A S most quota)(p:PL q b A' S' most quota)(g:Grown b A h A' q):WL T q o b A' S' most quota:=
 ⟨w.var.only g.only w.apart,p,λc=>by
  rcases g.new o c with a|a
  ·exact w.apart a
  ·have:=w.var.lt;omega⟩
def Z8(most quota:Int):Prop:=1<=most/\most<=64/\1<=quota/\quota<=64
theorem Xc{q:Int}(B:¬Z8 most q->R (ajG none).val h)(E:Z8 most q->∀a,WL 172 a (h.size+1) h.size ajt [] most q->Ext h a->a.size=h.size+2->R (ajG (some ⟨h.size+1,0⟩)).val a):
 Cl 76 [.i most,.i q] h R:=by
 apply Fq;delta nH tL fW aT fD;refine Fg (λf=>⟨_,rfl,aju (B f)⟩) λg m b j c=>⟨_,rfl,ajr (aa λk d e n=>?_)⟩;rw[c]at d;have:=E g k ⟨d,b.ext e,λl=>by have:=b.lt l;omega⟩ (j.trans e) ω;rw[c];exact this
theorem Xd{q:Int}(B:¬Z8 most q->R (ajG none).val h)(E:Z8 most q->∀a,WL 212 a (h.size+1) h.size ajt [] most q->Ext h a->a.size=h.size+2->R (ajG (some ⟨h.size+1,0⟩)).val a):
 Cl 77 [.i most,.i q] h R:=by
 apply Io;delta nH tL fW aT fD;refine Fg (λf=>⟨_,rfl,aju (B f)⟩) λg m b j c=>⟨_,rfl,ajr (aa λk d e n=>?_)⟩;rw[c]at d;have:=E g k ⟨d,b.ext e,λl=>by have:=b.lt l;omega⟩ (j.trans e) ω;rw[c];exact this
theorem Xe(w:WL 172 h o b A S most quota){r:Bs 32}(q:∀c,Ext h c->R (ajx (has r S)).val c):Cl 37 [.ptr (PT o),.bytes 32 r] h R:=by
 apply tY;refine aa λf v1 a g=>aju ⟨_,(w.var.ext a).ah rfl,r,v1.bytes,Kj (w.pl.ext a) λd e=>⟨_,rfl,q d (a.trans e)⟩⟩
theorem Xf(w:WL 212 h o b A S most quota){r:Bs 32}(q:∀c,Ext h c->R (ajx (has r S)).val c):Cl 371 [.ptr (PT o),.bytes 32 r] h R:=by
 apply Aj;refine aa λf v1 a g=>aju ⟨_,(w.var.ext a).ah rfl,r,v1.bytes,Kj (w.pl.ext a) λd e=>⟨_,rfl,q d (a.trans e)⟩⟩
theorem Xg(w:WL 172 h o b A S most quota)(q:R (TV.i (S.length:Int)).val h):Cl 83 [.ptr (PT o)] h R:=by
 apply tZ;exact ajr ⟨_,w.var.ah rfl,GB w.pl ⟨_,rfl,q⟩⟩
theorem Nb(w:WL 212 h o b A S most quota)(q:R (TV.i (S.length:Int)).val h):Cl 84 [.ptr (PT o)] h R:=by
 apply Ak;exact ajr ⟨_,w.var.ah rfl,GB w.pl ⟨_,rfl,q⟩⟩
theorem Xh(w:WL 172 h o b A S most quota){peer:Int}{text:LU}(G:1<=most)(H:most<=64)(I:(S.length:Int)<=most)(ht:text.length<1000)
 (hr:∀F A',WL 172 F o b A' (dY (λk=>decide (k=1)) most quota peer text S).2.2 most quota->Grown b A h A' F->R (ajw [.i (dY (λk=>decide (k=1)) most quota peer text S).1,.bytes 32 (dY (λk=>decide (k=1)) most quota peer text S).2.1]).val F):
 Cl 209 [.ptr (PT o),.i peer,.str text] h R:=by
 apply t_;delta eG jY Hr Hq cQ dx abR EU bz aN eU bJ bA fD;refine aa λh1 v1 T s1=>?_
 have al:∀r,Ext h1 r->dY (λk=>decide (k=1)) most quota peer text S=(5,ajs 32,S)->
  gT r h.size 0 32/\Bind (ajM r h.size 0 (ajN 32 (ajs 32))) λU=>∃(b:Bs 32),av U h.size 0 32 b/\R (ajw [.i 5,.bytes 32 b]).val U:=by
  intro r V he;refine aq (v1.ext V) rfl rfl λs z f5 W=>⟨_,z.bytes,?_⟩;rw[he]at hr;have e:=ajp (T.trans V) f5 λi c=>ω;exact hr s A (w.ext e) (.an e)
 refine j_ ω (λam X D=>?_) λd X bs Y e2 D _=>?_
 ·refine⟨_,_,_,_,_,_,_,_,rfl,aa λh3 K L s3=>aq (t0:=bh.tv) K cv fR λu v4 f4 s4=>?_⟩;have E:=ajp L f4 λi c=>ω;intro J Z;exact ajr (aju (al u (D.trans E) (CH am)))
 refine⟨_,_,_,_,_,_,_,_,rfl,aa λh3 K L s3=>aq (t0:=bh.tv) K cv fR λu v4 f4 s4=>?_⟩;have E:=ajp L f4 λi c=>ω;have ab:=D.trans E;have l:=T.trans ab;intro J Z;have z2:=D.size;refine ajr (ajr ⟨d.kind,v4.ah rfl,ajJ (λhk=>?_) λhk=>?_⟩)
 ·grind [IW,decide_eq_false]
 have ao:decide (d.kind=1)=true:=by simp_all
 refine Z 0 u ?_;intro J2 ap;have ac:=Fs (most:=most) (quota:=quota) (peer:=peer) (S:=S) (want:=λk=>decide (k=1)) Y ao
 have M:∀(r:af)(q:Nat)(A':Sl)(a:OL×OL×Int×Bs 32×Int×Bs 32×LU×Int×OL×Int),a.2.2.2.2.2.2.2.2=(some ⟨q,0⟩,(cV most quota (bq d peer text) S).1)->
  Var 242 r q (cV most quota (bq d peer text) S).2.1.tv->PL r b A' (cV most quota (bq d peer text) S).2.2 most quota->Grown b A u A' r->J2 a r:=by
  intro r q A' a ha vq p g;refine ap a r ?_;dsimp only;rw[ha];refine⟨_,jF vq,?_⟩;have ar:=(v1.ext ab).only g.only λv=>by have:=w.pl.lt v;omega
  refine aq ar rfl wI λs z f5 W=>⟨_,z.bytes,?_⟩
  have g5:Grown b A h A' s:=⟨⟨by have:=l.size;have:=g.only.size;omega,λi c B=>by
   rw[f5.same i (by have:=l.size;have:=g.only.size;omega) ω,g.only.same i (by have:=l.size;omega) B,l.same i c]⟩,λi c=>by
   rcases g.new i c with f|f
   ·exact .inl f
   ·exact .inr (by have:=l.size;omega)⟩
  have p5:PL s b A' (cV most quota (bq d peer text) S).2.2 most quota:=p.only f5 λi c v=>by
   rcases g.new i c with f|f
   ·have:=w.pl.lt f;omega
   ·have:=l.size;omega
  have:=hr s A' (by rw[ac];exact w.grown p5 g5) g5;rw[ac]at this;exact this
 have ad:=oF Y;have e4:=e2.ext E;have v4:Var 58 u X.size (d.ms bs).tv:=v4;refine⟨_,(w.var.ext l).ah rfl,d.slot,v4.ah rfl,bB v4 ⟨d.target,v4.at.2.2.1,⟨?_,?_⟩⟩⟩
 ·refine jk (m:=d.ms bs) e4 ad λs e=>⟨_,rfl,e,⟨?_,?_⟩⟩
  ·refine pN (x:=bq d peer text) ((w.pl.ext l).ext e) G H I λN A' p6 g6=>⟨_,_,_,_,_,_,rfl,?_⟩;refine aa λh7 v7 x7 s7=>⟨x7,aq (t0:=It.zero.tv) v7 (t:=(cV most quota (bq d peer text) S).2.1.tv) (It.size _).symm rfl λy C f8 s8=>?_⟩;have ae:Ext N y:=ajp x7 f8 λi c=>ω;exact M y _ A' _ rfl C (p6.ext ae) ((Grown.an e).trans (g6.trans (.an ae)))
  ·refine aa λN v6 j s6=>⟨j,?_⟩;refine pN (x:=bq d peer text) (((w.pl.ext l).ext e).ext j) G H I λh7 A' O n=>⟨_,_,_,_,_,_,rfl,?_⟩
   have P:∀i,dV b A' i->i≠s.size:=λi c=>by
    rcases n.new i c with f|f
    ·have:=w.pl.lt f;have:=l.size;have:=e.size;omega
    ·omega
   have Q:¬dV b A s.size:=λv=>by have:=w.pl.lt v;have:=l.size;have:=e.size;omega
   refine aq (t0:=It.zero.tv) (v6.only n.only Q) (t:=(cV most quota (bq d peer text) S).2.1.tv) (It.size _).symm rfl λy C f8 s8=>?_;refine M y _ A' _ rfl C (O.only f8 P) ((Grown.an e).trans ⟨⟨by have:=j.size;have:=n.only.size;omega,λi c B=>?_⟩,λi c=>?_⟩)
   ·have:=j.size;have:=n.only.size;rw[f8.same i ω ω,n.only.same i ω B,j.same i c]
   ·rcases n.new i c with f|f
    ·exact .inl f
    ·have:=j.size;exact .inr ω
 ·refine aa λs z e W=>⟨e,?_⟩;refine jk (m:=d.ms bs) (e4.ext e) ad λN j=>⟨_,rfl,j,?_⟩;refine pN (x:=bq d peer text) (((w.pl.ext l).ext e).ext j) G H I λh7 A' O n=>⟨_,_,_,_,_,_,rfl,?_⟩
  have P:∀i,dV b A' i->i≠u.size:=λi c=>by
   rcases n.new i c with f|f
   ·have:=w.pl.lt f;have:=l.size;omega
   ·have:=j.size;omega
  have Q:¬dV b A u.size:=λv=>by have:=w.pl.lt v;have:=l.size;omega
  refine aq (t0:=It.zero.tv) ((z.ext j).only n.only Q) (t:=(cV most quota (bq d peer text) S).2.1.tv) (It.size _).symm rfl λy C f8 s8=>?_;refine M y _ A' _ rfl C (O.only f8 P) ⟨⟨by have:=e.size;have:=j.size;have:=n.only.size;omega,λi c B=>?_⟩,λi c=>?_⟩
  ·have:=e.size;have:=j.size;have:=n.only.size;rw[f8.same i ω ω,n.only.same i ω B,j.same i ω,e.same i c]
  ·rcases n.new i c with f|f
   ·exact .inl f
   ·have:=e.size;have:=j.size;exact .inr ω
theorem Xi(w:WL 212 h o b A S most quota){peer:Int}{text:LU}(G:1<=most)(H:most<=64)(I:(S.length:Int)<=most)(ht:text.length<1000)
 (hr:∀F A',WL 212 F o b A' (dY (λk=>!decide (k=1)) most quota peer text S).2.2 most quota->Grown b A h A' F->R (ajw [.i (dY (λk=>!decide (k=1)) most quota peer text S).1,.bytes 32 (dY (λk=>!decide (k=1)) most quota peer text S).2.1]).val F):
 Cl 150 [.ptr (PT o),.i peer,.str text] h R:=by
 apply Al;delta eG jY Hr Hq cQ dx abR EU bz aN eU bJ bA fD;refine aa λh1 v1 T s1=>?_
 have al:∀r,Ext h1 r->dY (λk=>!decide (k=1)) most quota peer text S=(5,ajs 32,S)->
  gT r h.size 0 32/\Bind (ajM r h.size 0 (ajN 32 (ajs 32))) λU=>∃(b:Bs 32),av U h.size 0 32 b/\R (ajw [.i 5,.bytes 32 b]).val U:=by
  intro r V he;refine aq (v1.ext V) rfl rfl λs z f5 W=>⟨_,z.bytes,?_⟩;rw[he]at hr;have e:=ajp (T.trans V) f5 λi c=>ω;exact hr s A (w.ext e) (.an e)
 refine j_ ω (λam X D=>?_) λd X bs Y e2 D _=>?_
 ·refine⟨_,_,_,_,_,_,_,_,rfl,aa λh3 K L s3=>aq (t0:=bh.tv) K cv fR λu v4 f4 s4=>?_⟩;have E:=ajp L f4 λi c=>ω;intro J Z;exact ajr (aju (al u (D.trans E) (CH am)))
 refine⟨_,_,_,_,_,_,_,_,rfl,aa λh3 K L s3=>aq (t0:=bh.tv) K cv fR λu v4 f4 s4=>?_⟩;have E:=ajp L f4 λi c=>ω;have ab:=D.trans E;have l:=T.trans ab;intro J Z;have z2:=D.size;refine ajr (ajr ⟨d.kind,v4.ah rfl,ID (λhk=>?_) λhk=>?_⟩)
 ·grind [IW,decide_eq_true]
 have ao:(!decide (d.kind=1))=true:=by simp_all
 refine Z 0 u ?_;intro J2 ap;have ac:=Fs (most:=most) (quota:=quota) (peer:=peer) (S:=S) (want:=λk=>!decide (k=1)) Y ao
 have M:∀(r:af)(q:Nat)(A':Sl)(a:OL×OL×Int×Bs 32×Int×Bs 32×LU×Int×OL×Int),a.2.2.2.2.2.2.2.2=(some ⟨q,0⟩,(cV most quota (bq d peer text) S).1)->
  Var 242 r q (cV most quota (bq d peer text) S).2.1.tv->PL r b A' (cV most quota (bq d peer text) S).2.2 most quota->Grown b A u A' r->J2 a r:=by
  intro r q A' a ha vq p g;refine ap a r ?_;dsimp only;rw[ha];refine⟨_,jF vq,?_⟩;have ar:=(v1.ext ab).only g.only λv=>by have:=w.pl.lt v;omega
  refine aq ar rfl wI λs z f5 W=>⟨_,z.bytes,?_⟩
  have g5:Grown b A h A' s:=⟨⟨by have:=l.size;have:=g.only.size;omega,λi c B=>by
   rw[f5.same i (by have:=l.size;have:=g.only.size;omega) ω,g.only.same i (by have:=l.size;omega) B,l.same i c]⟩,λi c=>by
   rcases g.new i c with f|f
   ·exact .inl f
   ·exact .inr (by have:=l.size;omega)⟩
  have p5:PL s b A' (cV most quota (bq d peer text) S).2.2 most quota:=p.only f5 λi c v=>by
   rcases g.new i c with f|f
   ·have:=w.pl.lt f;omega
   ·have:=l.size;omega
  have:=hr s A' (by rw[ac];exact w.grown p5 g5) g5;rw[ac]at this;exact this
 have ad:=oF Y;have e4:=e2.ext E;have v4:Var 58 u X.size (d.ms bs).tv:=v4;refine⟨_,(w.var.ext l).ah rfl,d.slot,v4.ah rfl,bB v4 ⟨d.target,v4.at.2.2.1,⟨?_,?_⟩⟩⟩
 ·refine jk (m:=d.ms bs) e4 ad λs e=>⟨_,rfl,e,⟨?_,?_⟩⟩
  ·refine pN (x:=bq d peer text) ((w.pl.ext l).ext e) G H I λN A' p6 g6=>⟨_,_,_,_,_,_,rfl,?_⟩;refine aa λh7 v7 x7 s7=>⟨x7,aq (t0:=It.zero.tv) v7 (t:=(cV most quota (bq d peer text) S).2.1.tv) (It.size _).symm rfl λy C f8 s8=>?_⟩;have ae:Ext N y:=ajp x7 f8 λi c=>ω;exact M y _ A' _ rfl C (p6.ext ae) ((Grown.an e).trans (g6.trans (.an ae)))
  ·refine aa λN v6 j s6=>⟨j,?_⟩;refine pN (x:=bq d peer text) (((w.pl.ext l).ext e).ext j) G H I λh7 A' O n=>⟨_,_,_,_,_,_,rfl,?_⟩
   have P:∀i,dV b A' i->i≠s.size:=λi c=>by
    rcases n.new i c with f|f
    ·have:=w.pl.lt f;have:=l.size;have:=e.size;omega
    ·omega
   have Q:¬dV b A s.size:=λv=>by have:=w.pl.lt v;have:=l.size;have:=e.size;omega
   refine aq (t0:=It.zero.tv) (v6.only n.only Q) (t:=(cV most quota (bq d peer text) S).2.1.tv) (It.size _).symm rfl λy C f8 s8=>?_;refine M y _ A' _ rfl C (O.only f8 P) ((Grown.an e).trans ⟨⟨by have:=j.size;have:=n.only.size;omega,λi c B=>?_⟩,λi c=>?_⟩)
   ·have:=j.size;have:=n.only.size;rw[f8.same i ω ω,n.only.same i ω B,j.same i c]
   ·rcases n.new i c with f|f
    ·exact .inl f
    ·have:=j.size;exact .inr ω
 ·refine aa λs z e W=>⟨e,?_⟩;refine jk (m:=d.ms bs) (e4.ext e) ad λN j=>⟨_,rfl,j,?_⟩;refine pN (x:=bq d peer text) (((w.pl.ext l).ext e).ext j) G H I λh7 A' O n=>⟨_,_,_,_,_,_,rfl,?_⟩
  have P:∀i,dV b A' i->i≠u.size:=λi c=>by
   rcases n.new i c with f|f
   ·have:=w.pl.lt f;have:=l.size;omega
   ·have:=j.size;omega
  have Q:¬dV b A u.size:=λv=>by have:=w.pl.lt v;have:=l.size;omega
  refine aq (t0:=It.zero.tv) ((z.ext j).only n.only Q) (t:=(cV most quota (bq d peer text) S).2.1.tv) (It.size _).symm rfl λy C f8 s8=>?_;refine M y _ A' _ rfl C (O.only f8 P) ⟨⟨by have:=e.size;have:=j.size;have:=n.only.size;omega,λi c B=>?_⟩,λi c=>?_⟩
  ·have:=e.size;have:=j.size;have:=n.only.size;rw[f8.same i ω ω,n.only.same i ω B,j.same i ω,e.same i c]
  ·rcases n.new i c with f|f
   ·exact .inl f
   ·have:=e.size;have:=j.size;exact .inr ω
end
end Pool
namespace Pool
open Board (Dm Ms dF bw bh bB aq fR cv j_ wI aY aU)
def lK(text:LU):Dm:=(dF text).getD Dm.zero
theorem rY{text:LU}{d:Dm}(h:dF text=some d):lK text=d:=by simp_all [lK]
theorem Nc{text:LU}(h:dF text=none):lK text=Dm.zero:=by simp_all [lK]
theorem Ft{R:Rq}{h:af}{s:LU}(B:s.length<100000)(q:∀a b ok,aj 1 a b (aY (lK s).row)->Ext h a->(∀l,b.a=some l->h.size<=l.b/\l.b<a.size)->R (ajw [((lK s).ms b).tv,.bool ok]).val a):
 Cl 169 [.str s] h R:=by
 refine j_ B (λc a x=>?_) λd a b f e x g=>?_
 ·have:=q a ajt false;rw[Nc c]at this;exact this (aj.Bf 1 a) x λl i=>by cases i
 ·have:=q a b true;rw[rY f]at this;exact this e x g
structure Bk where
 r:Bs 32
 d:Dm
 b:Sl
def Bk.ms(k:Bk):Ms:=k.d.ms k.b
def Bk.Xj(k:Bk):TV:=k.ms.tv
def Bk.Yn(k:Bk):TV:=.agg [.bytes 32 k.r,k.ms.tv]
def Bk.of(k:Bk):Bs 32×Dm:=(k.r,k.d)
theorem Bk.Z9(k:Bk):k.Xj.size=53:=cv.symm
theorem Rs(m:Ms):m.tv.plain=true:=by rfl
theorem Bk.Z_(k:Bk):k.Xj.plain=true:=Rs _
theorem Bk.aaa(k:Bk):k.Yn.size=85:=by
 rfl
theorem Bk.aeo(k:Bk):k.Yn.plain=true:=by
 rfl
def Kept(n:Nat)(q:af)(t:Sl)(bs:List Bk):Prop:=∀k∈bs,aj 1 q k.b (aY k.d.row)/\∀l,k.b.a=some l->n<=l.b/\l.b<q.size/\¬In t l.b
theorem Kept.nil(n:Nat)(q:af)(t:Sl):Kept n q t []:=λk a=>by cases a
theorem Kept.ext{n:Nat}{q B:af}{t:Sl}{bs:List Bk}(K:Kept n q t bs)(x:Ext q B):Kept n B t bs:=λk a=>
 ⟨(K k a).1.ext x,λl b=>⟨((K k a).2 l b).1,by have:=((K k a).2 l b).2.1;have:=x.size;omega,((K k a).2 l b).2.2⟩⟩
theorem Kept.step{n T sz:Nat}{q B E:af}{t t':Sl}{ts:List TV}{bs:List Bk}{k:Bk}(K:Kept n q t bs)(o:Vc.Own T sz q t ts)(x:Ext q B)(H:n<=q.size)(e:aj 1 B k.b (aY k.d.row))
 (I:∀l,k.b.a=some l->q.size<=l.b/\l.b<B.size)(f:ag (In t) B E)(G:∀l,t'.a=some l->(∃c,t.a=some c/\c.b=l.b)\/B.size<=l.b):Kept n E t' (bs++[k]):=by
 have r:∀i,In t i->i<q.size:=λi⟨l,a,h⟩=>by have:=o.lt l a;omega
 have s:∀i,In t' i->In t i\/B.size<=i:=λi⟨l,a,h⟩=>by
  rcases G l a with⟨c,b,u⟩|b
  ·exact .inl ⟨c,b,ω⟩
  omega
 have v:=x.size;have w:=f.size;intro m j;rcases List.mem_append.1 j with b|b
 ·obtain⟨p,d⟩:=K m b;refine⟨(p.ext x).only f λl a=>(d l a).2.2,λl a=>⟨(d l a).1,by grind,λg=>?_⟩⟩
  grind
 ·rw[List.mem_singleton.1 b];refine⟨e.only f λl a g=>by grind,λl a=>⟨by grind,by grind,λg=>?_⟩⟩
  grind
section
variable{R:Rq}{h:af}{o b:Nat}{A:Sl}{S L:List It}{most quota:Int}{T:TypeId}
theorem VC:(ctx.ti 342).bytes=136:=κ
theorem aep:(ctx.ti 342).size=85:=κ
theorem acq:(ctx.ti 342).z.size=85:=κ
theorem IX:(ctx.ti 58).bytes=104:=κ
theorem aab:(ctx.ti 58).size=53:=κ
theorem VD:(ctx.ti 58).z.size=53:=κ
theorem pq:(ctx.ti 52).bytes=32:=κ
theorem GI:(ctx.ti 52).size=32:=κ
theorem CJ:(ctx.ti 52).z.size=32:=κ
theorem eM{x:Bs 32}:(ajN 32 x).size=32:=by rfl
theorem Dw{x:Bs 32}:(ajN 32 x).plain=true:=by rfl
theorem Ru{s:Sl}(e:aj 67 h s (qw L))(q:L.length<1000)(B:∀x∈L,x.text.length<1000)
 (E:∀a t(bs:List Bk),bs.map Bk.of=L.map (λx=>(x.root,lK x.text))->Vc.Own 342 85 a t (bs.map Bk.Yn)->Kept h.size a t bs->Ext h a->Dv h t->R (ajQ t).val a):Cl 298 [.slice s] h R:=by
 apply BV;delta jY sD eY jr dD eW bK;have el:=e.len;rw[ajv]at el
 refine⟨λσ g=>0<=σ.2/\σ.2<=L.length/\Ext h g/\Dv h σ.1/\∃bs:List Bk,bs.map Bk.of=(L.take σ.2.toNat).map (λx=>(x.root,lK x.text))/\Vc.Own 342 85 g σ.1 (bs.map Bk.Yn)/\Kept h.size g σ.1 bs,λσ _=>(L.length-σ.2).toNat,
  ⟨ajy 0,ω,ajB _,(λl q=>by cases q),[],rfl,Vc.Own.nil _ _ _,Kept.nil _ _ _⟩,?_⟩
 rintro⟨t,i⟩ z ⟨A,V,b,m,bs,c,d,r⟩;have C:=b.size;refine ID (λn=>?_) λn=>?_
 ·refine gE (e.ext b) A ω λl x _ u=>?_;refine aa λW D F X=>aH D rfl λY v4 f4 Z=>?_;have G:=ajp F f4 λi n=>ω;have ab:=B x (List.mem_of_getElem? u);refine⟨x.text,OK v4,Ft ω λh5 I ok J v ac=>⟨_,_,_,_,_,_,_,_,rfl,?_⟩⟩;refine aa λh6 v6 K s6=>aq (t0:=bh.tv) v6 cv fR λh7 M f7 s7=>?_;have o:=ajp K f7 λi n=>ω;have f:=G.trans (v.trans o);refine⟨x.root,jF ((v4.ext v).ext o),bB M ?_⟩;have N:=d.len;rw[ajv,<-ajv,c,ajv,ajz]at N;obtain⟨k,p⟩:∃k,k=Bk.mk x.root (lK x.text) I:=⟨_,rfl⟩;refine cD aep acq (by rw[VC];decide) (by rw[VC];omega) (d.ext f) k.aaa k.aeo ?_|>λH=>by rw[p]at H;exact H
  intro t8 h8 O f8 w;rw[wrap_i64 ω ω];have P:=Kept.step (k:=k) r d f C (by rw[p];exact J.ext o) (λl q=>by grind) f8 w;have Q:=ajp (b.trans f) f8 λj⟨l,q,hj⟩=>by have:=m l q;omega
  have S:(i+1).toNat=i.toNat+1:=ω;refine⟨⟨Ω,Ω,Q,λl q=>?_,bs++[k],?_,?_,P⟩,Ω⟩
  ·rcases w l q with⟨T,y,ad⟩|y
   ·have:=m T y;omega
   ·have:=f.size;omega
  ·try dsimp only
   rw[S,aU u,aj4,aj4,c,p];rfl
  ·rw[aj4];exact O
 ·have U:i.toNat=L.length:=ω;rw[U,ajK]at c;exact E z t bs c d r b m
theorem aac{x:It}{c:Nat}{r:Bs 32}{T:TypeId}(v:Var T h c (.bytes 32 r))(q:∀a,Ext h a->R (ajx (decide (x.fr=r))).val a):Cl 299 [x.tv,.ptr (PT c)] h R:=by
 apply sS x.slot x.root x.peer x.fr x.text;delta kU bz;refine aa λd v1 b f=>⟨x.fr,aeg v1,r,(v.ext b).bytes,?_⟩;have:decide (x.fr.1=r.1)=decide (x.fr=r):=decide_eq_decide.2 ⟨λe=>aj0 e,λe=>by rw[e]⟩;simp_all
theorem TN{x:It}{c:Nat}{n:Int}{T:TypeId}(v:Var T h c (.i n))(q:∀a,Ext h a->R (ajx (decide (x.slot<=n))).val a):Cl 179 [x.tv,.ptr (PT c)] h R:=by
 apply qJ x.slot x.root x.peer x.fr x.text;exact aa λd v1 b e=>⟨x.slot,oz v1,n,(v.ext b).ah rfl,q d b⟩
theorem TO{x:It}{c:Nat}{n:Int}{T:TypeId}(v:Var T h c (.i n))(q:∀a,Ext h a->R (ajx (decide (x.slot<n))).val a):Cl 167 [x.tv,.ptr (PT c)] h R:=by
 apply vf x.slot x.root x.peer x.fr x.text;exact aa λd v1 b e=>⟨x.slot,oz v1,n,(v.ext b).ah rfl,q d b⟩
structure Out(h h':af)(o b:Nat)(A':Sl)(t:Sl)(bs:List Bk):Prop where
 ex:∃n,h.size<=n/\(∀i,dV b A' i->i<n)/\(∀l,t.a=some l->n<=l.b)/\Kept n h' t bs
theorem aad(w:WL 172 h o b A S most quota)(q:∀x∈S,x.text.length<1000){r:Bs 32}
 (B:∀a A' t(bs:List Bk),WL 172 a o b A' (S.filter λx=>!decide (x.fr=r)) most quota->Grown b A h A' a->bs.map Bk.of=(S.filter λx=>decide (x.fr=r)).map (λx=>(x.root,lK x.text))->Vc.Own 342 85 a t (bs.map Bk.Yn)->Out h a o b A' t bs->R (ajQ t).val a):
 Cl 267 [.ptr (PT o),.bytes 32 r] h R:=by
 apply vj;delta wD pR cr fW bJ fD;have D:=w.pl.iz;refine aa λE v1 c F=>ajr ⟨_,(w.var.ext c).ah rfl,?_⟩;refine GC (f:=⟨(TV.fn (.func 299) [] [.ptr (PT h.size)]).val,rfl⟩) (pred:=λx=>decide (x.fr=r)) (w.pl.ext c) ⟨299,#[],#[(ajG (PT h.size)).val],rfl,bP.LI κ,λa x R' l m=>aac (x:=x) (v1.ext l) m⟩ λn A' out d p e G H=>⟨_,rfl,?_⟩;have I:(S.filter λx=>decide (x.fr=r)).length<=S.length:=ajO ..;refine Ru p.elems ω (λx s=>q x ((List.mem_filter.1 s).1)) λg t bs u v y j z=>⟨_,rfl,?_⟩;have k:Grown b A h A' g:=(Grown.an c).trans (e.trans (.an j));have:=e.only.size;have:=c.size;exact B g A' t bs (w.grown (d.ext j) k) k u v ⟨n.size,ω,λi C=>d.lt C,z,y⟩
theorem TP(w:WL 172 h o b A S most quota){n:Int}
 (q:∀a A',WL 172 a o b A' (S.filter λx=>!decide (x.slot<=n)) most quota->Grown b A h A' a->R (TV.i ((S.filter λx=>decide (x.slot<=n)).length:Int)).val a):
 Cl 117 [.ptr (PT o),.i n] h R:=by
 apply sU;delta nG wD aD fW dX bK aT bA fD;refine aa λp v1 c r=>ajr ⟨_,(w.var.ext c).ah rfl,?_⟩;refine GC (f:=⟨(TV.fn (.func 179) [] [.ptr (PT h.size)]).val,rfl⟩) (w.pl.ext c) ⟨179,#[],#[(ajG (PT h.size)).val],rfl,bP.LI κ,λa x R' e g=>TN (v1.ext e) g⟩ λj A' out k l m s t=>⟨_,rfl,?_⟩;have ol:=l.len;rw[ajv]at ol;dsimp only;rw[<-ol];have d:=(Grown.an c).trans m;exact q j A' (w.grown k d) d
abbrev rts(L:List (Bs 32)):List TV:=L.map (ajN 32)
theorem TQ(w:WL 212 h o b A S most quota)(O:∀x∈S,x.text.length<1000){n:Int}
 (B:∀c A' t(bs:List Bk),WL 212 c o b A' (S.filter λx=>!decide (x.slot<n)) most quota->Grown b A h A' c->bs.map Bk.of=(S.filter λx=>decide (x.slot<n)).map (λx=>(x.root,lK x.text))->Vc.Own 58 53 c t (bs.map Bk.Xj)->Out h c o b A' t bs->R (ajQ t).val c):
 Cl 103 [.ptr (PT o),.i n] h R:=by
 apply yP;delta wD jY sD eY pR jr fW dD eW bK aT fD;have al:=w.pl.iz;refine aa λh1 v1 u s1=>ajr ⟨_,(w.var.ext u).ah rfl,?_⟩;refine GC (f:=⟨(TV.fn (.func 167) [] [.ptr (PT h.size)]).val,rfl⟩) (w.pl.ext u) ⟨167,#[],#[(ajG (PT h.size)).val],rfl,bP.LI κ,λc x R' P Q=>TO (v1.ext P) Q⟩ λd A' out z C T am ao=>⟨_,rfl,?_⟩;have U:(S.filter λx=>decide (x.slot<n)).length<=S.length:=ajO ..;have D:∀x∈S.filter (λx=>decide (x.slot<n)),x.text.length<1000:=λx m=>O x ((List.mem_filter.1 m).1);have E:=(Grown.an u).trans T;have V:=E.only.size;generalize hL:S.filter (λx=>decide (x.slot<n))=L at C U D B;have F:=C.elems;have el:=F.len;rw[ajv]at el
 refine⟨λσ v=>0<=σ.2/\σ.2<=L.length/\Ext d v/\Dv d σ.1/\∃bs:List Bk,bs.map Bk.of=(L.take σ.2.toNat).map (λx=>(x.root,lK x.text))/\Vc.Own 58 53 v σ.1 (bs.map Bk.Xj)/\Kept d.size v σ.1 bs,λσ _=>(L.length-σ.2).toNat,
  ⟨ajy 0,ω,ajB _,(λl a=>by cases a),[],rfl,Vc.Own.nil _ _ _,Kept.nil _ _ _⟩,?_⟩
 rintro⟨t,i⟩ G ⟨W,i1,e,y,bs,p,q,I⟩;have X:=e.size;refine ID (λg=>?_) λg=>?_
 ·refine gE (F.ext e) W ω λl x _ m=>?_;refine aa λh4 v4 Y s4=>aH v4 rfl λh5 Z f5 s5=>?_;have ab:=ajp Y f5 λi g=>ω;have ap:=D x (List.mem_of_getElem? m);refine⟨x.text,OK Z,Ft ω λh6 bb ok e6 x6 ac=>⟨_,_,_,_,_,_,_,_,rfl,?_⟩⟩;refine aa λh7 v7 x7 s7=>aq (t0:=bh.tv) v7 cv fR λh8 v8 f8 s8=>?_;have J:=ajp x7 f8 λi g=>ω;have r:=ab.trans (x6.trans J);refine bB v8 ?_;have tl:=q.len;rw[ajv,<-ajv,p,ajv,ajz]at tl;obtain⟨k,s⟩:∃k,k=Bk.mk x.root (lK x.text) bb:=⟨_,rfl⟩;refine cD aab VD (by rw[IX];decide) (by rw[IX];omega) (q.ext r) k.Z9 k.Z_ ?_|>λH=>by rw[s]at H;exact H
  intro t9 h9 o9 f9 K;rw[wrap_i64 ω ω];have K9:=Kept.step (k:=k) I q r X (by rw[s];exact e6.ext J) (λl a=>by rw[s]at a;have:=ac l a;omega) f9 K;have x9:Ext d h9:=ajp (e.trans r) f9 λj⟨l,a,hj⟩=>by have:=y l a;omega
  have ad:(i+1).toNat=i.toNat+1:=ω;refine⟨⟨Ω,Ω,x9,λl a=>?_,bs++[k],?_,?_,K9⟩,Ω⟩
  ·rcases K l a with⟨l',M,ar⟩|M
   ·have:=y l' M;omega
   ·have:=r.size;omega
  ·try dsimp only
   rw[ad,aU m,aj4,aj4,p,s];rfl
  ·rw[aj4];exact o9
 ·have ae:i.toNat=L.length:=ω;rw[ae,ajK]at p;have N:Grown b A h A' G:=E.trans (.an e);exact B G A' t bs (w.grown (z.ext e) N) N p q ⟨d.size,V,λi g=>z.lt g,y,I⟩
end
end Pool
namespace Pool
open Board (Dm Ms dF bw bh bB aq fR cv gF cW j9 wI aY aU pX)
theorem Ko{d e:Dm}(h:Board.Rn d=some e)(q:0<=d.body/\d.body<18446744073709551616):0<=e.body/\e.body<18446744073709551616:=by
 obtain⟨rfl,_⟩:=Board.Fj h;exact q
theorem Kq{s:LU}{d:Dm}(h:dF s=some d)(b:Sl):j9 (d.ms b):=by
 have a:(0:Int)<=0/\(0:Int)<18446744073709551616:=δ;unfold dF at h;split at h
 ·cases h
 split at h
 ·split at h
  ·have:=Board.VB (s:=(s.drop 39).take 8) (by simp_all);exact Ko h ⟨by simp_all,by grind⟩
  grind
 split at h
 ·split at h
  ·exact Ko h a
  grind
 split at h
 ·split at h
  ·cases h
  ·exact Ko h a
 grind
section
variable{R:Rq}{h:af}{m:Nat}{A:Sl}{M L:List It}{most quota:Int}
theorem Ip{s:LU}(B:s.length<1000)(q:∀a b ok,aj 1 a b (aY (lK s).row)->Ext h a->(∀l,b.a=some l->h.size<=l.b/\l.b<a.size)->R (ajw [((lK s).ms b).tv,.bool ok]).val a):
 Cl 175 [.str s] h R:=by
 refine gF B (λc a x=>?_) λd a b f e x g=>?_
 ·have:=q a ajt false;rw[Nc c]at this;exact this (aj.Bf 1 a) x λl i=>by cases i
 ·have:=q a b true;rw[rY f]at this;exact this e x g
structure fq(m:Nat)(A:Sl)(h:af)(A':Sl)(h':af):Prop where
 only:ag (·=m) h h'
 new:∀l,A'.a=some l->(∃l',A.a=some l'/\l'.b=l.b)\/h.size<=l.b
theorem fq.an{q:af}(x:Ext h q):fq m A h A q:=⟨ajD x,λl a=>.inl ⟨l,a,rfl⟩⟩
theorem fq.trans{A' B:Sl}{E q:af}(g:fq m A h A' E)(k:fq m A' E B q):fq m A h B q:=by
 refine⟨g.only.trans k.only,λl b=>?_⟩;have:=g.only.size;rcases k.new l b with⟨c,a,q⟩|a
 ·rcases g.new c a with⟨l2,d,e⟩|d<;>simp_all
 omega
theorem OX(r:RL h m A M most quota){peer:Int}{text:LU}(hm:1<=most)(O:most<=64)(U:(M.length:Int)<=most)(ht:text.length<1000)
 (W:∀K A',RL K m A' (dY (λk=>decide (k=1)) most quota peer text M).2.2 most quota->fq m A h A' K->R (ajw [.i (dY (λk=>decide (k=1)) most quota peer text M).1,.bytes 32 (dY (λk=>decide (k=1)) most quota peer text M).2.1]).val K):
 Cl 188 [.ptr (PT m),.i peer,.str text] h R:=by
 apply Am;delta eG jY Hr Hq cQ abS dx EU bz aN eU bJ bA fD;have a1:=r.var.lt;refine aa λh1 v1 T s1=>?_
 have ap:∀n,Ext h1 n->dY (λk=>decide (k=1)) most quota peer text M=(5,ajs 32,M)->
  gT n h.size 0 32/\Bind (ajM n h.size 0 (ajN 32 (ajs 32))) λV=>∃(b:Bs 32),av V h.size 0 32 b/\R (ajw [.i 5,.bytes 32 b]).val V:=by
  intro n X he;refine aq (v1.ext X) rfl rfl λu z f5 Y=>⟨_,z.bytes,?_⟩;rw[he]at W;have f:=ajp (T.trans X) f5 λi o=>ω;exact W u A (r.ext f) (.an f)
 refine gF ω (λar Z F=>?_) λd Z bs G e2 F _=>?_
 ·refine⟨_,_,_,_,_,_,_,_,rfl,aa λh3 L N s3=>aq (t0:=bh.tv) L cv fR λy v4 f4 s4=>?_⟩;have H:=ajp N f4 λi o=>ω;intro J HJ;exact aju (ap y (F.trans H) (CH ar))
 refine⟨_,_,_,_,_,_,_,_,rfl,aa λh3 L N s3=>aq (t0:=bh.tv) L cv fR λy v4 f4 s4=>?_⟩;have H:=ajp N f4 λi o=>ω;have ab:=F.trans H;have I:=T.trans ab;intro J HJ;have z2:=F.size;refine ajr ⟨d.kind,v4.ah rfl,ajJ (λhk=>?_) λhk=>?_⟩
 ·grind [IW,decide_eq_false]
 have aw:decide (d.kind=1)=true:=by simp_all
 refine HJ 0 y ?_;intro J2 aE;have ac:=Fs (most:=most) (quota:=quota) (peer:=peer) (S:=M) (want:=λk=>decide (k=1)) G aw
 have P:∀(n:af)(q:Nat)(A':Sl)(a:OL×Int×Bs 32×Int×Bs 32×LU×Int×OL×Int),a.2.2.2.2.2.2.2=(some ⟨q,0⟩,(cV most quota (bq d peer text) M).1)->
  Var 82 n q (cV most quota (bq d peer text) M).2.1.tv->RL n m A' (cV most quota (bq d peer text) M).2.2 most quota->fq m A y A' n->J2 a n:=by
  intro n q A' a ha vq p g;refine aE a n ?_;dsimp only;rw[ha];refine⟨_,jF vq,?_⟩;have a0:=(v1.ext ab).only g.only ω;refine aq a0 rfl wI λu z f5 Y=>⟨_,z.bytes,?_⟩;have new:∀l,A'.a=some l->(∃v,A.a=some v/\v.b=l.b)\/y.size<=l.b:=g.new
  have g5:fq m A h A' u:=⟨⟨by have:=g.only.size;omega,λi o B=>by
   rw[f5.same i (by have:=g.only.size;omega) ω,g.only.same i ω B,I.same i o]⟩,λl c=>by
   rcases new l c with e|e
   ·exact .inl e
   ·exact .inr ω⟩
  have C:∀l,A'.a=some l->l.b≠h.size:=λl c=>by
   rcases new l c with⟨v,e,ad⟩|e
   ·have:=r.low v e;omega
   ·omega
  have p5:RL u m A' (cV most quota (bq d peer text) M).2.2 most quota:=⟨p.var.only f5 ω,p.el.only f5 C,p.cap,p.apart,λl c=>by have:=p.low l c;omega,p.iz⟩;have:=W u A' (by rw[ac];exact p5) g5;rw[ac]at this;exact this
 have ae:=oF G;have al:=Board.lY (pX G);have am:=Kq G bs;have e4:=e2.ext H;have v4:Var 58 y Z.size (d.ms bs).tv:=v4;refine⟨d.slot,v4.ah rfl,bB v4 ⟨d.target,v4.at.2.2.1,⟨?_,?_⟩⟩⟩
 ·refine cW (m:=d.ms bs) e4 ae al am λu f=>⟨_,rfl,f,⟨?_,?_⟩⟩
  ·refine bL (x:=bq d peer text) ((r.ext I).ext f) hm O U λQ A' p6 f6 n6=>⟨_,_,_,_,_,_,rfl,?_⟩;refine aa λh7 v7 x7 s7=>⟨x7,aq (t0:=It.zero.tv) v7 (t:=(cV most quota (bq d peer text) M).2.1.tv) (It.size _).symm rfl λw D f8 s8=>?_⟩;have ao:Ext Q w:=ajp x7 f8 λi o=>ω;exact P w _ A' _ rfl D (p6.ext ao) ((fq.an f).trans (fq.trans ⟨f6,n6⟩ (.an ao)))
  ·refine aa λQ v6 s s6=>⟨s,?_⟩;refine bL (x:=bq d peer text) (((r.ext I).ext f).ext s) hm O U λh7 A' j f7 E=>⟨_,_,_,_,_,_,rfl,?_⟩;have z5:=f.size
   have C:∀l,A'.a=some l->l.b≠u.size:=λl c=>by
    rcases E l c with⟨v,e,ad⟩|e
    ·have:=r.low v e;omega
    ·omega
   refine aq (t0:=It.zero.tv) (v6.only f7 ω) (t:=(cV most quota (bq d peer text) M).2.1.tv) (It.size _).symm rfl λw D f8 s8=>?_;have p8:RL w m A' (cV most quota (bq d peer text) M).2.2 most quota:=⟨j.var.only f8 ω,j.el.only f8 C,j.cap,j.apart,λl c=>by have:=j.low l c;omega,j.iz⟩;refine P w _ A' _ rfl D p8 ((fq.an f).trans ⟨⟨by have:=f7.size;omega,λi o B=>?_⟩,λl c=>?_⟩)
   ·have:=f7.size;rw[f8.same i ω ω,f7.same i ω B,s.same i o]
   ·rcases E l c with e|e
    ·exact .inl e
    ·exact .inr ω
 ·refine aa λu z f Y=>⟨f,?_⟩;refine cW (m:=d.ms bs) (e4.ext f) ae al am λQ s=>⟨_,rfl,s,?_⟩;have z6:=s.size;refine bL (x:=bq d peer text) (((r.ext I).ext f).ext s) hm O U λh7 A' j f7 E=>⟨_,_,_,_,_,_,rfl,?_⟩
  have C:∀l,A'.a=some l->l.b≠y.size:=λl c=>by
   rcases E l c with⟨v,e,ad⟩|e
   ·have:=r.low v e;omega
   ·omega
  refine aq (t0:=It.zero.tv) ((z.ext s).only f7 ω) (t:=(cV most quota (bq d peer text) M).2.1.tv) (It.size _).symm rfl λw D f8 s8=>?_;have p8:RL w m A' (cV most quota (bq d peer text) M).2.2 most quota:=⟨j.var.only f8 ω,j.el.only f8 C,j.cap,j.apart,λl c=>by have:=j.low l c;omega,j.iz⟩;refine P w _ A' _ rfl D p8 ⟨⟨by have:=f7.size;omega,λi o B=>?_⟩,λl c=>?_⟩
  ·have:=f7.size;rw[f8.same i ω ω,f7.same i ω B,s.same i ω,f.same i o]
  ·rcases E l c with e|e
   ·exact .inl e
   ·exact .inr ω
theorem OY(r:RL h m A M most quota){peer:Int}{text:LU}(hm:1<=most)(O:most<=64)(U:(M.length:Int)<=most)(ht:text.length<1000)
 (W:∀K A',RL K m A' (dY (λk=>!decide (k=1)) most quota peer text M).2.2 most quota->fq m A h A' K->R (ajw [.i (dY (λk=>!decide (k=1)) most quota peer text M).1,.bytes 32 (dY (λk=>!decide (k=1)) most quota peer text M).2.1]).val K):
 Cl 187 [.ptr (PT m),.i peer,.str text] h R:=by
 apply An;delta eG jY Hr Hq cQ abS dx EU bz aN eU bJ bA fD;have a1:=r.var.lt;refine aa λh1 v1 T s1=>?_
 have ap:∀n,Ext h1 n->dY (λk=>!decide (k=1)) most quota peer text M=(5,ajs 32,M)->
  gT n h.size 0 32/\Bind (ajM n h.size 0 (ajN 32 (ajs 32))) λV=>∃(b:Bs 32),av V h.size 0 32 b/\R (ajw [.i 5,.bytes 32 b]).val V:=by
  intro n X he;refine aq (v1.ext X) rfl rfl λu z f5 Y=>⟨_,z.bytes,?_⟩;rw[he]at W;have f:=ajp (T.trans X) f5 λi o=>ω;exact W u A (r.ext f) (.an f)
 refine gF ω (λar Z F=>?_) λd Z bs G e2 F _=>?_
 ·refine⟨_,_,_,_,_,_,_,_,rfl,aa λh3 L N s3=>aq (t0:=bh.tv) L cv fR λy v4 f4 s4=>?_⟩;have H:=ajp N f4 λi o=>ω;intro J HJ;exact aju (ap y (F.trans H) (CH ar))
 refine⟨_,_,_,_,_,_,_,_,rfl,aa λh3 L N s3=>aq (t0:=bh.tv) L cv fR λy v4 f4 s4=>?_⟩;have H:=ajp N f4 λi o=>ω;have ab:=F.trans H;have I:=T.trans ab;intro J HJ;have z2:=F.size;refine ajr ⟨d.kind,v4.ah rfl,ajJ (λhk=>?_) λhk=>?_⟩
 ·grind [IW]
 have aw:(!decide (d.kind=1))=true:=by simp_all
 refine HJ 0 y ?_;intro J2 aE;have ac:=Fs (most:=most) (quota:=quota) (peer:=peer) (S:=M) (want:=λk=>!decide (k=1)) G aw
 have P:∀(n:af)(q:Nat)(A':Sl)(a:OL×Int×Bs 32×Int×Bs 32×LU×Int×OL×Int),a.2.2.2.2.2.2.2=(some ⟨q,0⟩,(cV most quota (bq d peer text) M).1)->
  Var 82 n q (cV most quota (bq d peer text) M).2.1.tv->RL n m A' (cV most quota (bq d peer text) M).2.2 most quota->fq m A y A' n->J2 a n:=by
  intro n q A' a ha vq p g;refine aE a n ?_;dsimp only;rw[ha];refine⟨_,jF vq,?_⟩;have a0:=(v1.ext ab).only g.only ω;refine aq a0 rfl wI λu z f5 Y=>⟨_,z.bytes,?_⟩;have new:∀l,A'.a=some l->(∃v,A.a=some v/\v.b=l.b)\/y.size<=l.b:=g.new
  have g5:fq m A h A' u:=⟨⟨by have:=g.only.size;omega,λi o B=>by
   rw[f5.same i (by have:=g.only.size;omega) ω,g.only.same i ω B,I.same i o]⟩,λl c=>by
   rcases new l c with e|e
   ·exact .inl e
   ·exact .inr ω⟩
  have C:∀l,A'.a=some l->l.b≠h.size:=λl c=>by
   rcases new l c with⟨v,e,ad⟩|e
   ·have:=r.low v e;omega
   ·omega
  have p5:RL u m A' (cV most quota (bq d peer text) M).2.2 most quota:=⟨p.var.only f5 ω,p.el.only f5 C,p.cap,p.apart,λl c=>by have:=p.low l c;omega,p.iz⟩;have:=W u A' (by rw[ac];exact p5) g5;rw[ac]at this;exact this
 have ae:=oF G;have al:=Board.lY (pX G);have am:=Kq G bs;have e4:=e2.ext H;have v4:Var 58 y Z.size (d.ms bs).tv:=v4;refine⟨d.slot,v4.ah rfl,bB v4 ⟨d.target,v4.at.2.2.1,⟨?_,?_⟩⟩⟩
 ·refine cW (m:=d.ms bs) e4 ae al am λu f=>⟨_,rfl,f,⟨?_,?_⟩⟩
  ·refine bL (x:=bq d peer text) ((r.ext I).ext f) hm O U λQ A' p6 f6 n6=>⟨_,_,_,_,_,_,rfl,?_⟩;refine aa λh7 v7 x7 s7=>⟨x7,aq (t0:=It.zero.tv) v7 (t:=(cV most quota (bq d peer text) M).2.1.tv) (It.size _).symm rfl λw D f8 s8=>?_⟩;have ao:Ext Q w:=ajp x7 f8 λi o=>ω;exact P w _ A' _ rfl D (p6.ext ao) ((fq.an f).trans (fq.trans ⟨f6,n6⟩ (.an ao)))
  ·refine aa λQ v6 s s6=>⟨s,?_⟩;refine bL (x:=bq d peer text) (((r.ext I).ext f).ext s) hm O U λh7 A' j f7 E=>⟨_,_,_,_,_,_,rfl,?_⟩;have z5:=f.size
   have C:∀l,A'.a=some l->l.b≠u.size:=λl c=>by
    rcases E l c with⟨v,e,ad⟩|e
    ·have:=r.low v e;omega
    ·omega
   refine aq (t0:=It.zero.tv) (v6.only f7 ω) (t:=(cV most quota (bq d peer text) M).2.1.tv) (It.size _).symm rfl λw D f8 s8=>?_;have p8:RL w m A' (cV most quota (bq d peer text) M).2.2 most quota:=⟨j.var.only f8 ω,j.el.only f8 C,j.cap,j.apart,λl c=>by have:=j.low l c;omega,j.iz⟩;refine P w _ A' _ rfl D p8 ((fq.an f).trans ⟨⟨by have:=f7.size;omega,λi o B=>?_⟩,λl c=>?_⟩)
   ·have:=f7.size;rw[f8.same i ω ω,f7.same i ω B,s.same i o]
   ·rcases E l c with e|e
    ·exact .inl e
    ·exact .inr ω
 ·refine aa λu z f Y=>⟨f,?_⟩;refine cW (m:=d.ms bs) (e4.ext f) ae al am λQ s=>⟨_,rfl,s,?_⟩;have z6:=s.size;refine bL (x:=bq d peer text) (((r.ext I).ext f).ext s) hm O U λh7 A' j f7 E=>⟨_,_,_,_,_,_,rfl,?_⟩
  have C:∀l,A'.a=some l->l.b≠y.size:=λl c=>by
   rcases E l c with⟨v,e,ad⟩|e
   ·have:=r.low v e;omega
   ·omega
  refine aq (t0:=It.zero.tv) ((z.ext s).only f7 ω) (t:=(cV most quota (bq d peer text) M).2.1.tv) (It.size _).symm rfl λw D f8 s8=>?_;have p8:RL w m A' (cV most quota (bq d peer text) M).2.2 most quota:=⟨j.var.only f8 ω,j.el.only f8 C,j.cap,j.apart,λl c=>by have:=j.low l c;omega,j.iz⟩;refine P w _ A' _ rfl D p8 ⟨⟨by have:=f7.size;omega,λi o B=>?_⟩,λl c=>?_⟩
  ·have:=f7.size;rw[f8.same i ω ω,f7.same i ω B,s.same i ω,f.same i o]
  ·rcases E l c with e|e
   ·exact .inl e
   ·exact .inr ω
theorem E8:(ctx.ti 82).bytes=96:=κ
theorem OB:(ctx.ti 82).size=67:=κ
theorem OC:(ctx.ti 82).z.size=67:=κ
theorem lZ{i:Nat}{x:It}(pred:It->Bool)(q:L[i]? =some x):(L.take (i+1)).filter pred=(L.take i).filter pred++if pred x=true then[x]else[]:=by
 rw[aU q]
 grind
theorem VE{s:Sl}{x:It}{K:Sl->af->Prop}(o:Vc.Own 82 67 h s (qw L))(B:L.length<1000)
 (q:∀a b,Vc.Own 82 67 b a (qw (L++[x]))->ag (In s) h b->(∀l,a.a=some l->(∃c,s.a=some c/\c.b=l.b)\/h.size<=l.b)->K a b):
 ∃new,cn (h.push (Vc.row (ajH [x.tv]) 82)) (ajC (some (Vc.Loc.mk h.size 0)) 1 1) 67 new/\(∀v∈new,bU v=true)/\au ctx 82 s 1 new (h.push (Vc.row (ajH [x.tv]) 82)) K:=by
 have d:=o.len;rw[ajv]at d;refine cD OB OC (by rw[E8];decide) (by rw[E8];omega) o (It.size x) (It.plain x) λa b f e b'=>q a b ?_ e b';simp_all
theorem Kr(r:RL h m A M most quota){t:Sl}(o:Vc.Own 82 67 h t (qw L))(q:L.length<900)(B:∀l,t.a=some l->l.b≠m){K:af->Prop}
 (E:∀a,RL a m t L most quota->ag (·=m) h a->K a):gT h m 0 1/\Bind (ajM h m 0 (ajQ t)) K:=by
 refine aI (i:=0) r.var rfl rfl rfl rfl λa c b d=>E a ⟨c,o.elems.only b B,o.cap,B,λl q=>by have:=o.lt l q;omega,q⟩ b
theorem lI(r:RL h m A M most quota){k:Bs 32}(W:∀D A' t,RL D m A' (M.filter λx=>!decide (x.fr=k)) most quota->fq m A h A' D->Vc.Own 82 67 D t (qw (M.filter λx=>decide (x.fr=k)))->(∀l,t.a=some l->h.size<=l.b)->R (ajQ t).val D):
 Cl 250 [.ptr (PT m),.bytes 32 k] h R:=by
 apply BW;delta kU aJ wu cr dD bz bJ bK;have ac:=r.iz;have hm:=r.var.lt;refine aa λJ v1 p s1=>⟨A,(r.var.ext p).ah rfl,?_⟩;have r1:=r.ext p;have el:=r1.el.len;rw[ajv]at el
 refine⟨λσ K=>0<=σ.2.2/\σ.2.2<=M.length/\Ext J K/\(∀l,σ.1.a=some l->J.size<=l.b)/\(∀l,σ.2.1.a=some l->J.size<=l.b)/\(∀i,In σ.1 i->¬In σ.2.1 i)/\Vc.Own 82 67 K σ.1 (qw ((M.take σ.2.2.toNat).filter λx=>decide (x.fr=k)))/\Vc.Own 82 67 K σ.2.1 (qw ((M.take σ.2.2.toNat).filter λx=>!decide (x.fr=k))),
  λσ _=>(M.length-σ.2.2).toNat,⟨ajy 0,by simp_all,ajB _,(λl a=>by cases a),(λl a=>by cases a),(λi⟨l,a,_⟩=>by cases a),Vc.Own.nil _ _ _,Vc.Own.nil _ _ _⟩,?_⟩
 rintro⟨t,u,i⟩ h2 ⟨S,V,g,v,w,ap,y,z⟩;dsimp only at S V g v w ap y z⊢;have z2:=g.size;refine ID (λd=>?_) λd=>?_
 ·refine gE (r1.el.ext g) S ω λl x _ b=>?_;refine aa λT X Y s3=>aH X rfl λE v4 f4 s4=>?_;have f:=ajp Y f4 λi d=>ω;refine⟨x.fr,aeg v4,k,((v1.ext g).ext f).bytes,?_⟩;have Z:decide (x.fr.1=k.1)=decide (x.fr=k):=decide_eq_decide.2 ⟨λe=>aj0 e,λe=>by rw[e]⟩;dsimp only;rw[Z];have F:(i+1).toNat=i.toNat+1:=ω;have G:=lZ (λx=>decide (x.fr=k)) b;have H:=lZ (λx=>!decide (x.fr=k)) b;have ad:((M.take i.toNat).filter λx=>decide (x.fr=k)).length<=M.length:=ajF (ajO ..) (by simp_all);have ae:((M.take i.toNat).filter λx=>!decide (x.fr=k)).length<=M.length:=ajF (ajO ..) (by simp_all);have U:∀{s:Sl}{L:List It},Vc.Own 82 67 E s (qw L)->∀i,In s i->i<E.size:=λo i⟨l,a,d⟩=>by have:=o.lt l a;omega
  refine ajJ (λI=>?_) λI=>?_
  ·rw[if_pos I]at G;rw[if_neg (by simp_all),aj2]at H;refine rG v4 (VE (y.ext f) ω λN h8 O f8 B=>?_);rw[wrap_i64 ω ω]
   have P:∀i,In N i->In t i\/E.size<=i:=λi⟨l,a,d⟩=>by
    rcases B l a with⟨q,c,Q⟩|c
    ·exact .inl ⟨q,c,ω⟩
    omega
   refine⟨⟨Ω,Ω,ajp (g.trans f) f8 λj⟨l,a,hj⟩=>by have:=v l a;omega,λl a=>?_,w,λi d b=>?_,?_,?_⟩,Ω⟩
   ·rcases B l a with⟨q,c,Q⟩|c
    ·have:=v q c;omega
    ·omega
   ·rcases P i d with C|C
    ·exact ap i C b
    ·have:=U (z.ext f) i b;omega
   ·try dsimp only
    rw[F,G];exact O
   ·try dsimp only
    rw[F,H];exact(z.ext f).only f8 λl a b=>ap _ b ⟨l,a,rfl⟩
  ·rw[if_neg (by rw[I];decide),aj2]at G;rw[if_pos (by rw[I];rfl)]at H;refine rG v4 (VE (z.ext f) ω λN h8 O f8 B=>?_);rw[wrap_i64 (n:=i+1) ω ω]
   have P:∀i,In N i->In u i\/E.size<=i:=λi⟨l,a,d⟩=>by
    rcases B l a with⟨q,c,Q⟩|c
    ·exact .inl ⟨q,c,ω⟩
    ·exact .inr ω
   refine⟨⟨Ω,Ω,ajp (g.trans f) f8 λj⟨l,a,hj⟩=>by have:=w l a;omega,v,λl a=>?_,λi d b=>?_,?_,?_⟩,Ω⟩
   ·rcases B l a with⟨q,c,Q⟩|c
    ·have:=w q c;omega
    ·omega
   ·rcases P i b with C|C
    ·exact ap i d C
    ·have:=U (y.ext f) i d;omega
   ·try dsimp only
    rw[F,G];exact(y.ext f).only f8 λl a b=>ap _ ⟨l,a,rfl⟩ b
   ·try dsimp only
    rw[F,H];exact O
 ·have ab:i.toNat=M.length:=ω;rw[ab,ajK]at y z;have al:(M.filter λx=>!decide (x.fr=k)).length<=M.length:=ajO ..;refine Kr (r1.ext g) z ω (λl a=>by have:=w l a;have:=p.size;omega) λT r3 f3=>?_;refine W T u t r3 ⟨(ajD (p.trans g)).trans f3,λl a=>.inr (by have:=w l a;have:=p.size;omega)⟩ (y.only f3 λl a=>by have:=v l a;have:=p.size;omega) λl a=>by have:=v l a;have:=p.size;omega
theorem OZ(r:RL h m A M most quota){n:Int}(B:∀k A',RL k m A' (M.filter λx=>!decide (x.slot<=n)) most quota->fq m A h A' k->R (TV.i ((M.filter λx=>decide (x.slot<=n)).length:Int)).val k):
 Cl 119 [.ptr (PT m),.i n] h R:=by
 apply yQ;delta aJ dD bK;have J:=r.iz;have K:=r.var.lt;refine⟨A,r.var.ah rfl,?_⟩;have el:=r.el.len;rw[ajv]at el
 refine⟨λσ q=>0<=σ.2.2/\σ.2.2<=M.length/\Ext h q/\(∀l,σ.1.a=some l->h.size<=l.b)/\σ.2.1=(((M.take σ.2.2.toNat).filter λx=>decide (x.slot<=n)).length:Nat)/\Vc.Own 82 67 q σ.1 (qw ((M.take σ.2.2.toNat).filter λx=>!decide (x.slot<=n))),
  λσ _=>(M.length-σ.2.2).toNat,⟨ajy 0,by simp_all,ajB _,(λl a=>by cases a),rfl,Vc.Own.nil _ _ _⟩,?_⟩
 rintro⟨u,c,i⟩ L ⟨s,z,b,e,f,d⟩;dsimp only at s z b e f d⊢;have N:=b.size;refine ID (λt=>?_) λt=>?_
 ·refine gE (r.el.ext b) s ω λl x _ v=>?_;refine aa λw C D O=>aH C rfl λP v4 f4 Q=>?_;have g:=ajp D f4 λi t=>ω;have y:(i+1).toNat=i.toNat+1:=ω;have o:=lZ (λx=>decide (x.slot<=n)) v;have p:=lZ (λx=>!decide (x.slot<=n)) v;have S:((M.take i.toNat).filter λx=>decide (x.slot<=n)).length<=M.length:=ajF (ajO ..) (by simp_all);have T:((M.take i.toNat).filter λx=>!decide (x.slot<=n)).length<=M.length:=ajF (ajO ..) (by simp_all);refine⟨x.slot,oz v4,ID (λE=>?_) λE=>?_⟩
  ·rw[if_neg (by grind),aj2]at o;rw[if_pos (by grind)]at p;refine rG v4 (VE (d.ext g) ω λU V W f8 F=>?_);rw[wrap_i64 ω ω];refine⟨⟨ω,ω,ajp (b.trans g) f8 λj⟨l,a,X⟩=>by simp_all,λl a=>?_,?_,?_⟩,ω⟩
   ·rcases F l a with⟨Y,G,Z⟩|G<;>grind
   ·simp_all
   simp_all
  ·rw[if_pos (by grind)]at o;rw[if_neg (by simp;omega),aj2]at p;rw[wrap_i64 (n:=i+1) ω ω,wrap_i64 (n:=c+1) ω ω];refine⟨⟨Ω,Ω,b.trans g,e,?_,?_⟩,Ω⟩
   ·try dsimp only
    rw[y,o,f,ajP,aj8];omega
   ·try dsimp only
    rw[y,p];exact d.ext g
 ·have H:i.toNat=M.length:=ω;rw[H,ajK]at f d;have ab:(M.filter λx=>!decide (x.slot<=n)).length<=M.length:=ajO ..;refine Kr (r.ext b) d ω (λl a=>by have:=e l a;omega) λw I f3=>?_;rw[f];exact B w u I ⟨(ajD b).trans f3,λl a=>.inr (e l a)⟩
end
end Pool
end Go.Proofs.YtennbinbffdimaaGreat

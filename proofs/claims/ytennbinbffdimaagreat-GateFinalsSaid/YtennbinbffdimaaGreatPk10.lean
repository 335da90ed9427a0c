/- Texts that the proof needs, joined. -/
import Derived.Test.YtennbinbffdimaaGreatPk9
set_option maxRecDepth 100000
open Go.Vc.ag renaming cut->alo,an->alP
open Go.Vc.ak renaming cells->alp
open Go.Vc.Sl renaming nil->alq,mk->alJ
open Go.Vc.TV renaming ptr->alr,bg->alA,agg->alI,str->alN,bytes->alO,bool->alQ,put->alT
open Nat renaming le_refl->als,le_of_eq->alw,le_trans->alW
open Go.Vc.Bs renaming zero->alu
open Go.Vc.If renaming split->alv,no->alD,yes->alR
open List renaming getElem?_map->alx,length_map->aly,getElem?_eq_getElem->alG,getD_eq_getElem?_getD->alH,mem_cons->alK,length_cons->alL,mem_map->alM,mem_of_getElem?->alV,take_of_length_le->alX,map_set->alY,append_assoc->alZ
open Eq renaming symm->alz
open Go.Vc.Ext renaming push->alB,refl->alC
open Int renaming le_refl->alE
open Go.Vc.Var renaming ext->alF
open Go.IntKind renaming wrap->alS
open Option renaming map_eq_some_iff->alU
namespace Go.Proofs.YtennbinbffdimaaGreat
open Go Go.Vc
namespace Gate
open Board (Vd Cf jx)
open Pool (It WL dV)
open Peers (Pe)
structure Ad where
 tr:Nat
 we:Nat
 ta:Nat
 bk:Nat
 kd:Nat
 wt:Nat
 wh:Nat
 kz:Nat
def GM(c:Cf)(a:Ad):TV:=.agg [c.tv,.ptr (PT a.tr),.ptr (PT a.we),.ptr (PT a.ta)]
def O9(c:Cf)(a:Ad)(left:Int):TV:=.agg [c.tv,.ptr (PT a.kz),.agg [.ptr (PT a.bk),.ptr (PT a.kd),.ptr (PT a.wt),.ptr (PT a.wh)],.i left]
structure aR(h:af)(g:Nat)(a:Ad)(c:Cf)(V:List Vd)(s:St)(Fp:Nat->Nat->Prop):Prop where
 sep:Sep h Fp
 tree:l9 h a.tr s.N c.no (Fp 0)
 FP:eZ h a.we a.tr s.N (bZ (aL V) s.tb s.N) (Fp 1)
 gH:Eb h a.ta s.tb V.length (Fp 2)
 bk:Var 164 h a.bk (GM c a)
 f3:Fp 3=(·=a.bk)
 kids:k9 172 h a.kd s.kids c.eV c.quo (Fp 4)
 wait:k9 212 h a.wt s.wait c.eH c.quo (Fp 5)
 who:VH h a.wh s.sc c.pe c.bH c.dec s.gone (Fp 6)
 kz:Clock.CI 217 h a.kz s.now (Clock.fB c.win)
 f7:Fp 7=(·=a.kz)
 var:Var 147 h g (O9 c a s.left)
 f8:Fp 8=(·=g)
 vals:aj 2 h c.vals (jx V)
 off:∀k i,Fp k i->¬In c.vals i
 can:Can c V
section
variable{R:Rq}{h h':af}{g:Nat}{a:Ad}{c:Cf}{V:List Vd}{s:St}{Fp:Nat->Nat->Prop}
theorem TV.ck{S:Nat->Prop}{h h':af}(e:ag S h h'){s:Sl}{sz:Nat}{ts:List TV}(q:aj sz h s ts)(A:∀i,In s i->¬S i):aj sz h' s ts:=
 ⟨q.len,q.nil,λl a i t b=>TV.UU e (A l.b ⟨l,a,rfl⟩) (q.get l a i t b)⟩
theorem aR.only{Q:Nat->Prop}(p:aR h g a c V s Fp)(f:ag Q h h')(q:∀k i,Fp k i->¬Q i)(A:∀i,In c.vals i->¬Q i):aR h' g a c V s Fp:=
 ⟨⟨p.sep.qx,λj i b=>by have:=p.sep.lt j i b;have:=f.size;omega⟩,p.tree.only f (q 0),p.FP.only f (q 1),p.gH.only f (q 2),p.bk.only f (q 3 _ (by rw[p.f3])),p.f3,p.kids.only f (q 4),p.wait.only f (q 5),p.who.only f (q 6),
   p.kz.only f (q 7 _ (by rw[p.f7])),p.f7,p.var.only f (q 8 _ (by rw[p.f8])),p.f8,TV.ck f p.vals A,p.off,p.can⟩
theorem aR.ext(p:aR h g a c V s Fp)(x:Ext h h'):aR h' g a c V s Fp:=p.only (Q:=λ_=>False) (.an x) (λ_ _ _ b=>b) λ_ _ b=>b
theorem Nk(e:aj 2 h c.vals (jx V))(k:Can c V)
 (M:∀h' tr we b d g j y z C,Var 164 h' d (.agg [c.tv,.ptr (PT tr),.ptr (PT we),.ptr (PT b)])->l9 h' tr (iq c V).N c.no y->eZ h' we tr (iq c V).N (λ_=>0) z->Eb h' b (iQ V.length c.ep) V.length C->
  Ext h h'->(∀i,y i->h.size<=i/\i<g)->(∀i,z i->g<=i/\i<j)->(∀i,C i->j<=i/\i<d)->h.size<=g->g<=j->j<=d->d<h'.size->R (alr (PT d)).val h'):
 Cl 75 [c.tv] h R:=by
 apply Iv c.vals c.ep c.aQ c.no c.eV c.eH c.quo c.pe c.iy c.win c.bH c.dec;delta nH nG nE fH uR tL fW aN bJ bK aT bA fD;have el:V.length=c.vals.len:=by have:=e.len;rwa [aly]at this
 have kl:=k.len;have keys:=wS k;refine aa λh1 v1 o s1=>?_;refine⟨c.vals,c.ep,c.aQ,c.no,c.eV,c.eH,c.quo,c.pe,c.iy,c.win,c.bH,c.dec,v1.at,?_⟩;refine KE (e.ext o) ω λK p=>⟨_,rfl,?_⟩;rw[mR.2 k];have q:Var 24 K h.size c.tv:=v1.ext p;have D:=o.trans p;refine alD ⟨c.vals,c.ep,c.aQ,c.no,c.eV,c.eH,c.quo,c.pe,c.iy,c.win,c.bH,c.dec,q.at,c.no,q.ah rfl,?_⟩;refine T1 (e.ext D) ω (λv L=>(keys v L).2) λh3 l=>⟨_,rfl,l,?_⟩;have P:=D.trans l;have z1:=o.size;have z2:=p.size;have z3:=l.size;refine Fw (λs=>absurd ⟨k.no.1,k.no.2,δ,δ⟩ s) λ_ E tr r A t u Q=>⟨_,_,rfl,?_⟩;have v4:Var 24 E h.size c.tv:=q.ext (l.trans u);refine⟨c.vals,c.ep,c.aQ,c.no,c.eV,c.eH,c.quo,c.pe,c.iy,c.win,c.bH,c.dec,v4.at,c.vals,v4.ah rfl,c.ep,v4.ah rfl,?_⟩;refine MQ t λT w O S B G U m W=>⟨_,rfl,m,?_⟩;rw[<-el];refine Xn (λs=>absurd ⟨ω,ω,k.ep.1,k.ep.2⟩ s) λ_ X b F H I J x f Y=>⟨_,rfl,f,?_⟩;refine aa λZ v7 n s7=>?_;rw[show((V.length:Int)).toNat=V.length by omega]at x;have z4:=u.size;have z5:=m.size;have z6:=f.size
 refine M Z tr w b X.size E.size T.size (lH tr r A) (iN w O S B G) (uY b F H I J) v7 ⟨r,A,t.ext ((m.trans f).trans n),rfl⟩ ⟨O,S,B,G,WP.ext U (f.trans n),rfl⟩ ⟨F,H,I,J,x.ext n,rfl⟩
  ((((P.trans u).trans m).trans f).trans n) (λi a=>⟨by have:=Q i a;omega,t.lt a⟩) (λi a=>W i a) (λi a=>⟨Y i a,x.lt a⟩) ω z5 z6 ω
end
end Gate
namespace Gate
open Board (Vd Cf jx)
open Pool (It WL dV)
open Peers (Pe)
structure KH(lo:Nat)(h:af)(c:Cf)(V:List Vd)(a:Ad)(m1 m2:Nat)(S0 S1 S2:Nat->Prop):Prop where
 var:Var 164 h a.bk (GM c a)
 tree:l9 h a.tr (iq c V).N c.no S0
 FP:eZ h a.we a.tr (iq c V).N (λ_=>0) S1
 gH:Eb h a.ta (iQ V.length c.ep) V.length S2
 r0:∀i,S0 i->lo<=i/\i<m1
 r1:∀i,S1 i->m1<=i/\i<m2
 r2:∀i,S2 i->m2<=i/\i<a.bk
 l0:lo<=m1
 l1:m1<=m2
 l2:m2<=a.bk
section
variable{R:Rq}{h h':af}{g lo m1 m2:Nat}{a:Ad}{c:Cf}{V:List Vd}{s:St}{S0 S1 S2 S4 S5 S6:Nat->Prop}
theorem KH.ext(p:KH lo h c V a m1 m2 S0 S1 S2)(x:Ext h h'):KH lo h' c V a m1 m2 S0 S1 S2:=
 ⟨p.var.ext x,p.tree.only (.an x) (λ_ _ b=>b),p.FP.only (.an x) (λ_ _ b=>b),p.gH.only (.an x) (λ_ _ b=>b),p.r0,p.r1,p.r2,p.l0,p.l1,p.l2⟩
theorem k9.ext{T:TypeId}{o:Nat}{q:List It}{most quota:Int}{S:Nat->Prop}(p:k9 T h o q most quota S)(x:Ext h h'):k9 T h' o q most quota S:=p.only (.an x) λ_ _ a=>a
theorem VH.ext{b:Nat}{P:List (Int×Int)}{most q A gone:Int}{S:Nat->Prop}(p:VH h b P most q A gone S)(x:Ext h h'):VH h' b P most q A gone S:=p.only (.an x) λ_ _ a=>a
theorem RM{b i:Nat}(q:dV b alq i):i=b:=by
 rcases q with a|a
 ·exact a
 ·exact(q8 a).elim
def Two(n:Nat)(S:Nat->Prop):Prop:=∀i,S i->n<=i/\i<n+2
theorem adE{n q:Int}(k:1<=n/\n<=64)(A:1<=q/\q<=64)(B:∀h' S,k9 172 h' (h.size+1) [] n q S->Two h.size S->Ext h h'->h'.size=h.size+2->R (alr (some ⟨h.size+1,0⟩)).val h'):Cl 76 [.i n,.i q] h R:=
 Pool.Xc (λb=>absurd ⟨k.1,k.2,A.1,A.2⟩ b) λ_ h' w x z=>B h' _ ⟨_,_,w,rfl⟩ (λi c=>by
  rcases c with a|a
  ·omega
  ·have:=RM a;omega) x z
theorem adF{n q:Int}(k:1<=n/\n<=64)(A:1<=q/\q<=64)(B:∀h' S,k9 212 h' (h.size+1) [] n q S->Two h.size S->Ext h h'->h'.size=h.size+2->R (alr (some ⟨h.size+1,0⟩)).val h'):Cl 77 [.i n,.i q] h R:=
 Pool.Xd (λb=>absurd ⟨k.1,k.2,A.1,A.2⟩ b) λ_ h' w x z=>B h' _ ⟨_,_,w,rfl⟩ (λi c=>by
  rcases c with a|a
  ·omega
  ·have:=RM a;omega) x z
theorem adG{n b d:Int}(k:Peers.Valid n b d)(q:∀h' S,VH h' (h.size+1) [] n b d 0 S->Two h.size S->Ext h h'->R (alr (some ⟨h.size+1,0⟩)).val h'):Cl 78 [.i n,.i b,.i d] h R:=
 Peers.Fw (λ_ h' x p=>q h' _ ⟨_,p,rfl⟩ (λi c=>ω) x) λa=>absurd k a
structure acA(lo:Nat)(h:af)(c:Cf)(V:List Vd)(a:Ad)(m1 m2 k4 k5 k6:Nat)(S0 S1 S2 S4 S5 S6:Nat->Prop):Prop where
 b:KH lo h c V a m1 m2 S0 S1 S2
 kids:k9 172 h a.kd [] c.eV c.quo S4
 wait:k9 212 h a.wt [] c.eH c.quo S5
 who:VH h a.wh [] c.pe c.bH c.dec 0 S6
 r4:Two k4 S4
 r5:Two k5 S5
 r6:Two k6 S6
 l4:a.bk<k4
 l5:k4+2<=k5
 l6:k5+2<=k6
def partsOf(S0 S1 S2 S4 S5 S6:Nat->Prop)(a:Ad)(g:Nat):Nat->Nat->Prop
 |0=>S0
 |1=>S1
 |2=>S2
 |3=>(·=a.bk)
 |4=>S4
 |5=>S5
 |6=>S6
 |7=>(·=a.kz)
 |8=>(·=g)
 |_=>λ_=>False
theorem acA.gate{A B q:Nat}(p:acA lo h c V a m1 m2 A B q S0 S1 S2 S4 S5 S6)(H:q+2<=a.kz)(I:a.kz<g)
 (E:Clock.CI 217 h a.kz 0 (Clock.fB c.win))(var:Var 147 h g (O9 c a 0))(vals:aj 2 h c.vals (jx V))(off:∀i,In c.vals i->i<lo)(can:Can c V):
 aR h g a c V (iq c V) (partsOf S0 S1 S2 S4 S5 S6 a g):=by
 have l:=var.lt;have d:=p.b.l0;have e:=p.b.l1;have f:=p.b.l2;have m:=p.l4;have n:=p.l5;have o:=p.l6;refine⟨?_,p.b.tree,?_,p.b.gH,p.b.var,rfl,p.kids,p.wait,p.who,E,rfl,var,rfl,vals,?_,can⟩
 ·refine Sep.made (lo:=λ|0=>lo|1=>m1|2=>m2|3=>a.bk|4=>A|5=>B|6=>q|7=>a.kz|8=>g|_=>g+1) ?_ ?_ ?_
  ·intro j i b
   match j,b with
   |0,b=>exact p.b.r0 i b
   |1,b=>exact p.b.r1 i b
   |2,b=>exact p.b.r2 i b
   |3,b=>have b:i=a.bk:=b;show a.bk<=i/\i<A;omega
   |4,b=>have:=p.r4 i b;show A<=i/\i<B;omega
   |5,b=>have:=p.r5 i b;show B<=i/\i<q;omega
   |6,b=>have:=p.r6 i b;show q<=i/\i<a.kz;omega
   |7,b=>have b:i=a.kz:=b;show a.kz<=i/\i<g;omega
   |8,b=>have b:i=g:=b;show g<=i/\i<g+1;omega
   |_+9,b=>exact b.elim
  ·intro j
   match j with
   |0=>exact d
   |1=>exact e
   |2=>exact f
   |3=>show a.bk<=A;omega
   |4=>show A<=B;omega
   |5=>show B<=q;omega
   |6=>show q<=a.kz;omega
   |7=>show a.kz<=g;omega
   |8=>show g<=g+1;omega
   |_+9=>exact als _
  ·intro j
   match j with
   |0=>show lo<=_;omega
   |1=>show m1<=_;omega
   |2=>show m2<=_;omega
   |3=>show a.bk<=_;omega
   |4=>show A<=_;omega
   |5=>show B<=_;omega
   |6=>show q<=_;omega
   |7=>show a.kz<=_;omega
   |8=>show g<=_;omega
   |_+9=>show g+1<=_;omega
 ·show eZ h a.we a.tr (iq c V).N (bZ (aL V) (iQ V.length c.ep) (iq c V).N) S1;rw[WK];exact p.b.FP
 ·intro j i b k;have:=off i k
  match j,b with
  |0,b=>have:=p.b.r0 i b;omega
  |1,b=>have:=p.b.r1 i b;omega
  |2,b=>have:=p.b.r2 i b;omega
  |3,b=>have b:i=a.bk:=b;omega
  |4,b=>have:=p.r4 i b;omega
  |5,b=>have:=p.r5 i b;omega
  |6,b=>have:=p.r6 i b;omega
  |7,b=>have b:i=a.kz:=b;omega
  |8,b=>have b:i=g:=b;omega
  |_+9,b=>exact b.elim
end
end Gate
namespace Gate
open Board (Vd Cf jx aq)
open Pool (It WL dV)
open Peers (Pe)
theorem RN:(ctx.ti 137).bytes=24:=κ
theorem acB:(ctx.ti 137).size=2:=κ
theorem aan:(ctx.ti 137).z.size=2:=κ
def aao(a:Ad):TV:=.agg [.ptr (PT a.bk),.ptr (PT a.kd),.ptr (PT a.wt),.ptr (PT a.wh)]
section
variable{R:Rq}{h h':af}{g lo m1 m2:Nat}{a:Ad}{c:Cf}{V:List Vd}{s:St}{S0 S1 S2 S4 S5 S6:Nat->Prop}
theorem KH.only{Q:Nat->Prop}(p:KH lo h c V a m1 m2 S0 S1 S2)(f:ag Q h h')(q:∀i,lo<=i->i<=a.bk->¬Q i):KH lo h' c V a m1 m2 S0 S1 S2:=
 have l0:=p.l0;have l1:=p.l1;have l2:=p.l2
 ⟨p.var.only f (q _ ω (als _)),p.tree.only f (λi b=>by have:=p.r0 i b;grind),p.FP.only f (λi b=>by have:=p.r1 i b;grind),p.gH.only f (λi b=>by have:=p.r2 i b;grind),p.r0,p.r1,p.r2,l0,l1,l2⟩
theorem aap(k:Can c V):Peers.Valid c.pe c.bH c.dec:=⟨k.pe.1,k.pe.2,k.bH.1,k.bH.2,k.dec.1,k.dec.2⟩
theorem Nl(e:aj 2 h c.vals (jx V))(hl:c.vals.len<100000)(a7:uz c V=false->∀h',Ext h h'->R (alA [.ptr none,.i 1]).val h')
 (hr:Can c V->∀h' g a s Fp,aR h' g a {c with vals:=s} V (iq c V) Fp->Ext h h'->(∀k i,Fp k i->h.size<=i)->(∀i,In s i->h.size<=i)->R (alA [.ptr (PT g),.i 0]).val h'):
 Cl 19 [c.tv] h R:=by
 apply KG c.vals c.ep c.aQ c.no c.eV c.eH c.quo c.pe c.iy c.win c.bH c.dec;refine aa λQ v1 x1 s1=>?_;refine⟨c.vals,c.ep,c.aQ,c.no,c.eV,c.eH,c.quo,c.pe,c.iy,c.win,c.bH,c.dec,v1.at,?_⟩;refine KE (e.ext x1) hl λS x2=>⟨_,rfl,?_⟩;have v2:=v1.ext x2;have ac:=x1.trans x2;refine alv (λhb=>?_) λhb=>?_
 ·simp_all
 have k:=mR.1 (by simpa using hb);have z2:=x2.size;have on:=Vc.Own.new (T:=137) (sz:=2) S [] (λt ht=>by cases ht);have Y:=alB S (row (alp []) 137);refine⟨c.vals,(v2.ext Y).ah rfl,?_⟩;refine oW acB aan (by simp[RN]) δ (by grind [RN]) on ((e.ext ac).ext Y) (λu hu=>by obtain⟨v,_,rfl⟩:=alM.1 hu;rfl) (λu hu=>by obtain⟨v,_,rfl⟩:=alM.1 hu;rfl) λD h3 o3 ao f3 b3=>?_;have x3:=ao rfl;have v3:Var 24 h3 h.size c.tv:=(v2.ext Y).ext x3;have ap:=(ac.trans Y).trans x3;rw[List.nil_append]at o3;have ar:∀i,In D i->i<h3.size:=λi d=>o3.g_ i d
 have ad:∀i,In D i->h.size+1<=i:=λi⟨l,hl,d⟩=>by
  rcases b3 l hl with⟨l',Q,aw⟩|Q
  ·cases Q;simp only at aw;omega
  ·have h9:S.size+1<=l.b:=by simpa using Q
   omega
 refine aI (i:=0) (t:=.slice D) (t0:=.slice c.vals) v3 rfl rfl rfl rfl λw v4 f4 z4=>?_;have ae:Ext h w:=alo ap f4 λi d=>ω;have e4:aj 2 w D (jx V):=TV.ck f4 o3.elems λi d=>by have:=ad i d;omega
 have v4:Var 24 w h.size {c with vals:=D}.tv:=v4;have k':Can {c with vals:=D} V:=⟨k.tot,k.len,k.ep,k.aQ,k.no,k.eV,k.eH,k.quo,k.pe,k.iy,k.win,k.bH,k.dec⟩;intro Z HJ;refine⟨D,c.ep,c.aQ,c.no,c.eV,c.eH,c.quo,c.pe,c.iy,c.win,c.bH,c.dec,v4.at,c.eV,v4.ah rfl,c.quo,v4.ah rfl,c.eH,v4.ah rfl,c.quo,v4.ah rfl,c.pe,v4.ah rfl,c.bH,v4.ah rfl,c.dec,v4.ah rfl,?_⟩;have a8:h.size<=w.size:=ae.size
 have al:∀(b:af)(lo q tr we m f C wt U m1 m2 z G k6:Nat)(S0 S1 S2 S4 S5 S6:Nat->Prop),Ext w b->w.size<=lo->Var 143 b q (aao ⟨tr,we,m,f,C,wt,U,0⟩)->
  acA lo b {c with vals:=D} V ⟨tr,we,m,f,C,wt,U,0⟩ m1 m2 z G k6 S0 S1 S2 S4 S5 S6->k6+2<=b.size->
  Z (some ⟨f,0⟩,c.eV,c.quo,some ⟨C,0⟩,c.eH,c.quo,some ⟨wt,0⟩,c.pe,c.bH,c.dec,some ⟨U,0⟩,some ⟨q,0⟩) b:=by
  intro b lo q tr we m f C wt U m1 m2 z G k6 S0 S1 S2 S4 S5 S6 J P K p aE;have vh:Var 24 b h.size {c with vals:=D}.tv:=v4.ext J;refine HJ _ b ⟨D,c.ep,c.aQ,c.no,c.eV,c.eH,c.quo,c.pe,c.iy,c.win,c.bH,c.dec,vh.at,c.win,vh.ah rfl,_,_,_,_,K.at,?_⟩;refine Clock.Fg λo a0 A z5=>⟨_,rfl,A,aa λx v6 n s6=>?_⟩;have M:=A.trans n
  have L:acA lo x {c with vals:=D} V ⟨tr,we,m,f,C,wt,U,b.size⟩ m1 m2 z G k6 S0 S1 S2 S4 S5 S6:=
   ⟨⟨p.b.var.ext M,(p.b.ext M).tree,(p.b.ext M).FP,(p.b.ext M).gH,p.b.r0,p.b.r1,p.b.r2,p.b.l0,p.b.l1,p.b.l2⟩,p.kids.ext M,p.wait.ext M,p.who.ext M,p.r4,p.r5,p.r6,p.l4,p.l5,p.l6⟩
  have gate:=L.gate (g:=o.size) aE (by show b.size<o.size;omega) (a0.ext n) v6 ((e4.ext J).ext M) (λi d=>by have:=ar i d;omega) k';refine hr k x o.size _ D _ gate ((ae.trans J).trans M) (λj i d=>?_) λi d=>by have:=ad i d;omega
  have:=gate.sep.lt j i d;have a9:=J.size
  match j,d with
  |0,d=>have:=p.b.r0 i d;omega
  |1,d=>have:=p.b.r1 i d;have:=p.b.l0;omega
  |2,d=>have:=p.b.r2 i d;have:=p.b.l0;have:=p.b.l1;omega
  |3,d=>have d:i=f:=d;have:=p.b.l0;have:=p.b.l1;have:=p.b.l2;simp only at this;omega
  |4,d=>have:=p.r4 i d;have:=p.b.l0;have:=p.b.l1;have:=p.b.l2;have:=p.l4;simp only at*;omega
  |5,d=>have:=p.r5 i d;have:=p.b.l0;have:=p.b.l1;have:=p.b.l2;have:=p.l4;have:=p.l5;simp only at*;omega
  |6,d=>have:=p.r6 i d;have:=p.b.l0;have:=p.b.l1;have:=p.b.l2;have:=p.l4;have:=p.l5;have:=p.l6;simp only at*;omega
  |7,d=>have d:i=b.size:=d;omega
  |8,d=>have d:i=o.size:=d;omega
  |_+9,d=>exact d.elim
 have kc:1<=c.eV/\c.eV<=64:=k.eV;have vp:=aap k
 have t78:∀(b:af)(lo q tr we m f C wt m1 m2 z G:Nat)(S0 S1 S2 S4 S5:Nat->Prop),Ext w b->w.size<=lo->w.size<=q->(q<lo\/f<q)->(q<z\/z+2<=q)->(q<G\/G+2<=q)->Var 143 b q (.agg [.ptr none,.ptr none,.ptr none,.ptr none])->
  KH lo b {c with vals:=D} V ⟨tr,we,m,f,0,0,0,0⟩ m1 m2 S0 S1 S2->k9 172 b C [] c.eV c.quo S4->k9 212 b wt [] c.eH c.quo S5->Two z S4->Two G S5->f<z->z+2<=G->G+2<=b.size->
  Cl 78 [.i c.pe,.i c.bH,.i c.dec] b λv E=>∃(H:OL),v=(alr H).val/\gT E q 0 4/\Bind (alT E q 0 (.agg [.ptr (PT f),.ptr (PT C),.ptr (PT wt),.ptr H])) λF=>Z (some ⟨f,0⟩,c.eV,c.quo,some ⟨C,0⟩,c.eH,c.quo,some ⟨wt,0⟩,c.pe,c.bH,c.dec,H,some ⟨q,0⟩) F:=by
  intro b lo q tr we m f C wt m1 m2 z G S0 S1 S2 S4 S5 J P hq c1 c2 c3 K W pk pw r4 r5 l4 l5 l6;have ql:=K.lt;refine adG vp λE S6 L N B=>⟨_,rfl,?_⟩;have z7:=B.size;refine aq (t:=aao ⟨tr,we,m,f,C,wt,b.size+1,0⟩) (K.ext B) rfl rfl λF v8 f8 z8=>?_;refine al F lo q tr we m f C wt (b.size+1) m1 m2 z G b.size S0 S1 S2 S4 S5 S6 (alo (J.trans B) f8 λi d=>?_) P v8 ?_ ?_
  ·omega
  ·have y:=(W.ext B).only f8 λi Q S=>by simp only at S;omega
   refine⟨⟨y.var,y.tree,y.FP,y.gH,y.r0,y.r1,y.r2,y.l0,y.l1,y.l2⟩,(pk.ext B).only f8 λi d=>by have:=r4 i d;omega,(pw.ext B).only f8 λi d=>by have:=r5 i d;omega,L.only f8 λi d=>by have:=N i d;omega,r4,r5,N,l4,l5,l6⟩
  ·obtain⟨r,pp,_⟩:=L;have:=pp.var.lt;omega
 have t77:∀(b:af)(lo q tr we m f C m1 m2 z:Nat)(S0 S1 S2 S4:Nat->Prop),Ext w b->w.size<=lo->w.size<=q->(q<lo\/f<q)->(q<z\/z+2<=q)->Var 143 b q (.agg [.ptr none,.ptr none,.ptr none,.ptr none])->
  KH lo b {c with vals:=D} V ⟨tr,we,m,f,0,0,0,0⟩ m1 m2 S0 S1 S2->k9 172 b C [] c.eV c.quo S4->Two z S4->f<z->z+2<=b.size->
  Cl 77 [.i c.eH,.i c.quo] b λv x=>∃(p2:OL),v=(alr p2).val/\Ext b x/\
   Cl 78 [.i c.pe,.i c.bH,.i c.dec] x λv E=>∃(H:OL),v=(alr H).val/\gT E q 0 4/\Bind (alT E q 0 (.agg [.ptr (PT f),.ptr (PT C),.ptr p2,.ptr H])) λF=>Z (some ⟨f,0⟩,c.eV,c.quo,some ⟨C,0⟩,c.eH,c.quo,p2,c.pe,c.bH,c.dec,H,some ⟨q,0⟩) F:=by
  intro b lo q tr we m f C m1 m2 z S0 S1 S2 S4 J P hq c1 c2 K W pk r4 l4 l5;have ql:=K.lt;refine adF k.eH k.quo λx S5 L N n z6=>⟨_,rfl,n,?_⟩;exact t78 x lo q tr we m f C (b.size+1) m1 m2 z b.size S0 S1 S2 S4 S5 (J.trans n) P hq c1 c2 ω (K.ext n) (W.ext n) (pk.ext n) L r4 N l4 ω ω
 have t76:∀(b:af)(lo q tr we m f m1 m2:Nat)(S0 S1 S2:Nat->Prop),Ext w b->w.size<=lo->w.size<=q->(q<lo\/f<q)->Var 143 b q (.agg [.ptr none,.ptr none,.ptr none,.ptr none])->
  KH lo b {c with vals:=D} V ⟨tr,we,m,f,0,0,0,0⟩ m1 m2 S0 S1 S2->f<b.size->
  Cl 76 [.i c.eV,.i c.quo] b λv o=>∃(p1:OL),v=(alr p1).val/\Ext b o/\
  Cl 77 [.i c.eH,.i c.quo] o λv x=>∃(p2:OL),v=(alr p2).val/\Ext o x/\
   Cl 78 [.i c.pe,.i c.bH,.i c.dec] x λv E=>∃(H:OL),v=(alr H).val/\gT E q 0 4/\Bind (alT E q 0 (.agg [.ptr (PT f),.ptr p1,.ptr p2,.ptr H])) λF=>Z (some ⟨f,0⟩,c.eV,c.quo,p1,c.eH,c.quo,p2,c.pe,c.bH,c.dec,H,some ⟨q,0⟩) F:=by
  intro b lo q tr we m f m1 m2 S0 S1 S2 J P hq c1 K W O;have ql:=K.lt;refine adE k.eV k.quo λo S4 p5 r5 A z5=>⟨_,rfl,A,?_⟩;exact t77 o lo q tr we m f (b.size+1) m1 m2 b.size S0 S1 S2 S4 (J.trans A) P hq c1 ω (K.ext A) (W.ext A) p5 r5 O ω
 refine⟨?_,?_⟩
 ·refine Nk e4 k' λo tr we m f m1 m2 S0 S1 S2 v5 a1 a2 a3 A r0 r1 r2 l0 l1 l2 O=>⟨_,rfl,A,⟨?_,?_⟩⟩
  all_goals have ab:KH w.size o {c with vals:=D} V ⟨tr,we,m,f,0,0,0,0⟩ m1 m2 S0 S1 S2:=⟨v5,a1,a2,a3,r0,r1,r2,l0,l1,l2⟩
  all_goals have z5:=A.size
  ·refine adE k.eV k.quo λx S4 L N n z6=>⟨_,rfl,n,⟨?_,?_⟩⟩
   ·refine adF k.eH k.quo λE S5 p7 r7 B z7=>⟨_,rfl,B,⟨?_,?_⟩⟩
    ·refine adG vp λF S6 p8 r8 I=>⟨_,rfl,aa λh9 v9 x9 s9=>⟨x9,?_⟩⟩;have z8:=I.size;refine aq (t:=aao ⟨tr,we,m,f,o.size+1,x.size+1,E.size+1,0⟩) v9 rfl rfl λam v10 f10 a'=>?_;have X:Ext F am:=alo x9 f10 λi d=>ω;have y:=((((ab.ext n).ext B).ext I).ext X);obtain⟨r,pp,hS⟩:=p8;have ba:=pp.var.lt;refine al am w.size F.size tr we m f (o.size+1) (x.size+1) (E.size+1) m1 m2 o.size x.size E.size S0 S1 S2 S4 S5 S6 ((((A.trans n).trans B).trans I).trans X) (als _) v10 ?_ ω;exact⟨⟨y.var,y.tree,y.FP,y.gH,y.r0,y.r1,y.r2,y.l0,y.l1,y.l2⟩,((L.ext B).ext I).ext X,(p7.ext I).ext X,VH.ext ⟨r,pp,hS⟩ X,N,r7,r8,O,ω,ω⟩
    ·refine aa λF v8 I s8=>⟨I,?_⟩;exact t78 F w.size E.size tr we m f (o.size+1) (x.size+1) m1 m2 o.size x.size S0 S1 S2 S4 S5 (((A.trans n).trans B).trans I) (als _) ω ω ω ω v8 (((ab.ext n).ext B).ext I) ((L.ext B).ext I) (p7.ext I) N r7 O ω ω
   ·refine aa λE v7 B s7=>⟨B,?_⟩;exact t77 E w.size x.size tr we m f (o.size+1) m1 m2 o.size S0 S1 S2 S4 ((A.trans n).trans B) (als _) ω ω ω v7 ((ab.ext n).ext B) (L.ext B) N O ω
  ·refine aa λx v6 n s6=>⟨n,?_⟩;exact t76 x w.size o.size tr we m f m1 m2 S0 S1 S2 (A.trans n) (als _) ω ω v6 (ab.ext n) ω
 ·refine aa λo v5 A s5=>⟨A,?_⟩;refine Nk (e4.ext A) k' λx tr we m f m1 m2 S0 S1 S2 v6 a4 a5 a6 n r0 r1 r2 l0 l1 l2 O=>⟨_,rfl,n,?_⟩;exact t76 x o.size w.size tr we m f m1 m2 S0 S1 S2 (A.trans n) A.size (als _) ω (v5.ext n) ⟨v6,a4,a5,a6,r0,r1,r2,l0,l1,l2⟩ O
end
end Gate
namespace Gate
open Board (Vd Cf jx aq)
open Pool (It WL dV)
open Peers (Pe)
structure Pt where
 n:Int
 o:Int
 e:Int
 p:Int
 v:Int
 m:Int
def Pt.zero:Pt:=⟨0,0,0,0,0,0⟩
section
variable{R:Rq}{h h':af}{g:Nat}{a:Ad}{c:Cf}{V:List Vd}{s:St}{Fp:Nat->Nat->Prop}{x y:Pt}
theorem KI(t:Tb)(i:Int):(kI t i).2=(eB t i).isSome:=by
 unfold kI;cases eB t i<;>rfl
theorem aR.book(p:aR h g a c V s Fp){K:Rq}(q:K (alr (PT a.bk)).val h):Cl 32 [.ptr (PT g)] h K:=by
 apply qi;delta C1;exact alD ⟨_,p.var.ah rfl,q⟩
theorem aR.agZ(p:aR h g a c V s Fp){K:Rq}(q:K (alr (PT a.kd)).val h):Cl 36 [.ptr (PT g)] h K:=by
 apply mc;delta C1;exact alD ⟨_,p.var.ah rfl,q⟩
theorem aR.early(p:aR h g a c V s Fp){K:Rq}(q:K (alr (PT a.wt)).val h):Cl 51 [.ptr (PT g)] h K:=by
 apply nL;delta C1;exact alD ⟨_,p.var.ah rfl,q⟩
theorem aR.aaq(p:aR h g a c V s Fp){K:Rq}(q:K (alr (PT a.wh)).val h):Cl 52 [.ptr (PT g)] h K:=by
 apply nM;delta C1;exact alD ⟨_,p.var.ah rfl,q⟩
theorem aR.Dy(p:aR h g a c V s Fp){K:Rq}(q:K (alr (PT a.tr)).val h):Cl 33 [.ptr (PT a.bk)] h K:=by
 apply As;delta C1;exact alD ⟨_,p.bk.ah rfl,q⟩
theorem aR.aew(p:aR h g a c V s Fp){K:Rq}(q:K (alr (PT a.ta)).val h):Cl 69 [.ptr (PT a.bk)] h K:=by
 apply zc;delta C1;exact alD ⟨_,p.bk.ah rfl,q⟩
end
end Gate
namespace Gate
open Board (Vd Cf jx aq wI)
open Pool (It WL dV)
open Peers (Pe)
section
variable{R:Rq}{h h':af}{g:Nat}{a:Ad}{c:Cf}{V:List Vd}{s:St}{Fp:Nat->Nat->Prop}
def bT(s:St):Nd:=(c8 s.N 0).1
theorem Ef(p:aR h g a c V s Fp)(q:∀h',Ext h h'->R (alA [.bytes 32 (bT s).root,.i (bT s).slot]).val h'):Cl 116 [.ptr (PT g)] h R:=by
 apply Au;delta cQ uR bz eU bJ aT bA;refine aa λz v1 k B=>?_;have e:=p.ext k;obtain⟨r,A,u,C⟩:=e.tree;refine⟨_,e.var.ah rfl,e.Dy ⟨_,rfl,dg u λb f=>⟨_,_,_,_,rfl,?_⟩⟩⟩;refine aa λD v w E=>aq (t:=(bT s).tv) v rfl rfl λj v4 f4 F=>?_;have l:Ext b j:=alo w f4 λi d=>alw (alz d);have G:=f.size;have m:Var 69 (Vc.keeps (·=b.size) j) b.size (bT s).tv:=v4.keeps (S:=(·=b.size)) rfl;refine⟨Vc.keeps (·=b.size) j,jT,(bT s).root,m.at.1,(bT s).slot,m.at.2.1,?_⟩;refine aH ((v1.ext f).ext l) (t:=.bytes 32 (bT s).root) wI λn x f5 H=>?_;have y:Ext h n:=alo ((k.trans f).trans l) f5 λi d=>alw (alz d);exact⟨vV f5 (λi d o=>by have d:i=b.size:=d;have o:i=h.size:=o;omega),_,x.bytes,q n y⟩
def fK(c:Cf)(s:St)(kind slot:Int):Bool:=if kind=1 then Clock.vt s.now (bT s).slot slot else Clock.zS s.now (Clock.fB c.win) slot
theorem T2{m:Board.Ms}(p:aR h g a c V s Fp)(n0:0<=s.now)(A:s.now<=1073741824)(q:∀h',Ext h h'->R (alQ (fK c s m.kind m.slot)).val h'):Cl 205 [.ptr (PT g),m.tv] h R:=by
 apply Av (PT g) m.kind m.slot m.target m.ax m.body m.bits m.tag;delta dK iM i_ cu aN eU bJ aT;refine aa λr v1 d C=>?_;have b:=p.ext d;have l:=Clock.CP c.win;refine⟨m.kind,v1.at.1,alv (λe=>?_) λe=>?_⟩
 ·have f:m.kind≠1:=by simpa using e
  have j:fK c s m.kind m.slot=Clock.zS s.now (Clock.fB c.win) m.slot:=if_neg f;rw[j]at q;exact⟨_,b.var.ah rfl,m.slot,v1.at.2.1,Clock.XC b.kz n0 A l.1 l.2 ⟨_,rfl,q r d⟩⟩
 ·have f:m.kind=1:=by simpa using e
  have j:fK c s m.kind m.slot=Clock.vt s.now (bT s).slot m.slot:=if_pos f;rw[j]at q;refine Ef b λu v=>⟨_,_,rfl,aa λD w x E=>aH w (t:=.bytes 32 (bT s).root) wI λn v4 f4 F=>?_⟩;have y:Ext u n:=alo x f4 λi z=>alw (alz z);have k:=v.trans y;have o:=b.ext k;have B:=v1.ext k;exact⟨_,o.var.ah rfl,m.slot,B.at.2.1,Clock.sI o.kz ⟨_,rfl,q n (d.trans k)⟩⟩
def iu(v:Int):Int:=if v=4\/v=5 then 4 else if v=6\/v=9 then 1 else if v=7\/v=10 then 3 else if v=8 then 5 else 0
theorem RO{v:Int}(A:R (TV.i (iu v)).val h):Cl 82 [.i v] h R:=by
 apply FA;delta dX bA;have go:∀n:Int,iu v=n->R (TV.i n).val h:=λn g=>by rw[<-g];exact A
 intro s o;refine ID (λe=>o _ h ?_) λe=>o _ h ?_
 ·rw[decide_eq_true e];exact alR (go 4 (if_pos (.inl e)))
 ·refine ID (λj=>go 4 (if_pos (.inr j))) λj=>?_;intro t p;have a:¬(v=4\/v=5):=λb=>b.elim e j;refine ID (λc=>p _ h ?_) λc=>p _ h ?_
  ·rw[decide_eq_true c];exact alR (go 1 (by unfold iu;rw[if_neg a,if_pos (.inl c)]))
  ·refine ID (λk=>go 1 (by unfold iu;rw[if_neg a,if_pos (.inr k)])) λk=>?_;have d:¬(v=6\/v=9):=λb=>b.elim c k;refine ID (λf=>?_) λf=>?_
   ·have r:=go 3 (by unfold iu;rw[if_neg a,if_neg d,if_pos (.inl f)]);exact ID (λ_=>r) λg=>absurd f g
   ·refine ID (λl=>go 3 (by unfold iu;rw[if_neg a,if_neg d,if_pos (.inr l)])) λl=>?_;have q:¬(v=7\/v=10):=λb=>b.elim f l;exact ID (λm=>go 5 (by unfold iu;rw[if_neg a,if_neg d,if_neg q,if_pos m])) λm=>go 0 (by unfold iu;rw[if_neg a,if_neg d,if_neg q,if_neg m])
end
end Gate
namespace Gate
open Board (Vd Cf jx aq wI)
open Pool (It WL dV has jC)
open Peers (Pe)
section
variable{R:Rq}{h h':af}{g:Nat}{a:Ad}{c:Cf}{V:List Vd}{s:St}{Fp:Nat->Nat->Prop}
theorem afO{l:Go.Vc.Loc}:gq Tryz.prog h 84 (alr (some l)).val "Len" 83 (alr (some l)).val:=Bi bP (e:=172) κ κ jC κ
theorem afP{l:Go.Vc.Loc}:gq Tryz.prog h 84 (alr (some l)).val "Has" 37 (alr (some l)).val:=Bi bP (e:=172) κ κ jC κ
theorem e_len{l:Go.Vc.Loc}:gq Tryz.prog h 97 (alr (some l)).val "Len" 84 (alr (some l)).val:=Bi bP (e:=212) κ κ jC κ
theorem afQ{l:Go.Vc.Loc}:gq Tryz.prog h 97 (alr (some l)).val "Has" 371 (alr (some l)).val:=Bi bP (e:=212) κ κ jC κ
theorem OS(r:Bs 32):has r []=false:=rfl
def iD(s:St)(kind:Int)(r:Bs 32):Bool:=if kind=1 then decide (0<=place r s.N)||has r s.kids else has r s.wait
theorem T3{m:Board.Ms}{r:Bs 32}(p:aR h g a c V s Fp)(q:∀h',Ext h h'->R (alQ (iD s m.kind r)).val h'):Cl 207 [.ptr (PT g),m.tv,.bytes 32 r] h R:=by
 apply Aw (PT g) m.kind m.slot m.target m.ax m.body m.bits m.tag;delta eG Zn dK js iM aO dx cr fE bz aN bJ aT lq;refine aa λF v1 D G=>aa λi j v H=>?_;have b:=D.trans v;have p2:=p.ext b;have k:=v1.ext v;obtain⟨I,A,E,J⟩:=p2.tree;obtain⟨K,L,w,M⟩:=p2.kids;obtain⟨N,O,x,P⟩:=p2.wait;have y:∀{z:List It},¬((0:Int)<(z.length:Int))->z=[]:=λf=>List.eq_nil_of_length_eq_zero ω;refine⟨_,p2.var.ah rfl,?_⟩;intro Q B;refine⟨m.kind,k.at.1,ID (λe=>?_) λe=>?_⟩
 ·refine⟨_,p2.var.ah rfl,B _ i ?_⟩;have l:iD s m.kind r=(decide (0<=place r s.N)||has r s.kids):=if_pos e;rw[l]at q;refine⟨m.kind,k.at.1,ID (λ_=>?_) λf=>absurd e f⟩;refine⟨_,p2.var.ah rfl,r,j.bytes,p2.Dy ⟨_,rfl,alC _,dM E λC d=>⟨_,rfl,?_⟩⟩⟩;refine ID (λn=>?_) λn=>?_
  ·have:=q C (b.trans d);rw[decide_eq_true n,Bool.true_or]at this;exact this
  ·rw[decide_eq_false n,Bool.false_or]at q;refine⟨_,_,_,_,rfl,afO,Pool.Xg (w.ext d) ⟨_,rfl,?_⟩⟩;refine ID (λ_=>⟨r,(j.ext d).bytes,_,_,_,_,rfl,afP,Pool.Xe (w.ext d) λo t=>⟨_,rfl,q o ((b.trans d).trans t)⟩⟩) λu=>?_;have:=q C (b.trans d);rw[y u,OS]at this;exact this
 ·have l:iD s m.kind r=has r s.wait:=if_neg e;rw[l]at q;refine B _ i ⟨m.kind,k.at.1,ID (λf=>absurd f e) λ_=>?_⟩;refine⟨_,_,_,_,rfl,e_len,Pool.Nb x ⟨_,rfl,?_⟩⟩;refine ID (λ_=>⟨r,j.bytes,_,_,_,_,rfl,afQ,Pool.Xf x λo t=>⟨_,rfl,q o (b.trans t)⟩⟩) λu=>?_;have:=q i b;rw[y u,OS]at this;exact this
end
end Gate
namespace Board
noncomputable def Ay(slot:Int)(n:Nat):List Int:=(sorted slot n).map ij.who
theorem GN(slot:Int)(n:Nat):(Ay slot n).Perm ((List.range n).map λ(i:Nat)=>(i:Int)):=by
 have:=(sorted_perm slot n).map ij.who;unfold Tu at this;rw[List.map_map]at this;exact this
theorem T5(slot:Int)(n:Nat):(Ay slot n).Nodup:=by
 rw[(GN slot n).nodup_iff];exact List.Pairwise.map _ (λa b(h:a≠b)=>ω) List.nodup_range
theorem aar{slot:Int}{n:Nat}{x:Int}(h:x∈Ay slot n):0<=x/\x<n:=by
 have:=(GN slot n).mem_iff.1 h;obtain⟨i,a,rfl⟩:=alM.1 this;have:=List.mem_range.1 a;omega
theorem RP(slot:Int)(n:Nat):(Ay slot n).length=n:=by rw[(GN slot n).length_eq];simp
theorem aas{n:Nat}{aQ slot:Int}(q:0<=slot)(A:slot<=1073741824):mem n aQ slot=(Ay slot n).take (min (max aQ 0) (n:Int)).toNat:=by
 unfold mem Ay;rw[if_neg ω,List.map_take]
theorem VI{n:Nat}{aQ slot:Int}(h:slot<0\/1073741824<slot):mem n aQ slot=[]:=by
 unfold mem;rw[if_pos h]
theorem VJ:∀(l:List Int)(k x:Int),x∉l->idx l x k=-1
 |[],_,_,_=>rfl
 |y::q,k,x,h=>by
  rw[idx,if_neg (λe=>h (by rw[e];exact List.mem_cons_self ..)),VJ q _ x (λa=>h (List.mem_cons_of_mem _ a))]
section
variable{R:Rq}{h:af}{c:Cf}
theorem td{b:Nat}(v:Var 24 h b c.tv){K:Sl->Int->Int->Int->Int->Int->Int->Int->Int->Int->Int->Int->Prop}(W:K c.vals c.ep c.aQ c.no c.eV c.eH c.quo c.pe c.iy c.win c.bH c.dec):
 ∃(s:Sl),∃(n q A B E H I J M O U:Int),(ah h b 0 (bu s)/\ah h b 1 (.i n)/\ah h b 2 (.i q)/\ah h b 3 (.i A)/\ah h b 4 (.i B)/\ah h b 5 (.i E)/\ah h b 6 (.i H)/\ah h b 7 (.i I)/\
  ah h b 8 (.i J)/\ah h b 9 (.i M)/\ah h b 10 (.i O)/\ah h b 11 (.i U))/\K s n q A B E H I J M O U:=
 ⟨c.vals,c.ep,c.aQ,c.no,c.eV,c.eH,c.quo,c.pe,c.iy,c.win,c.bH,c.dec,v.at,W⟩
end
end Board
namespace Board
section
variable{R:Rq}{h:af}
def xv(c x:Int):Int:=alS .u8 ((BitVec.ofInt (IntKind.bits .u8) c^^^BitVec.ofInt (IntKind.bits .u8) x).toNat:Int)
def xb(c:UInt8)(x:Int):UInt8:=UInt8.ofNat (xv (c.toNat:Int) x).toNat
def Iw(key:LU):Bs 64:=⟨(key++List.replicate 64 0).take 64,by simp⟩
def iR(key:LU)(x:Int):LU:=(List.range 64).map λi=>xb (fc (Iw key) i) x
theorem HM(key:LU)(x:Int):(iR key x).length=64:=by rfl
theorem KK{key:LU}{x:Int}(q:key.length<=64)(A:∀g,Ext h g->R (alN (iR key x)).val g):Cl 328 [.str key,.int .u8 x] h R:=by
 apply L6;delta aF gZ Th cE Wu gj fD;refine aa λa v1 r z=>⟨?_,?_⟩
 ·intro s;cases s
 rintro l t;obtain rfl:l=⟨h.size,0⟩:=(Option.some.inj t).symm;have u:Nat.min key.length (ay (alJ (some (Vc.Loc.mk h.size 0)) 64 64) 0 64 1).len=key.length:=Nat.min_eq_left q;rw[u,List.take_length];have B:(alO 64 (alu 64)).cells.length=64:=by rfl
 have j:=jo (key.map λc=>Value.int .u8 c.toNat) a h.size 0 _ 407 v1 (by simp_all);refine⟨v1.gT (by show 0+key.length<=64;omega),?_⟩
 have k:Var 407 (tI a h.size 0 (key.map λc=>Value.int .u8 c.toNat)) h.size (.bytes 64 (Iw key)):=by
  unfold Var;rw[j.1];congr 2;simp only[TV.cells,Iw,alu,List.take_zero,List.map_take,List.map_append,List.map_replicate];rw[List.take_append,alX (by simp_all),List.take_replicate,List.drop_replicate];simp_all
 have m:Ext h (tI a h.size 0 (key.map λc=>Value.int .u8 c.toNat)):=by
  refine⟨ω,λb d=>?_⟩;rw[j.2.2 b ω];exact r.same b d
 generalize(tI a h.size 0 (key.map λc=>Value.int .u8 c.toNat))=v at k m⊢;refine⟨λi n=>0<=i/\i<=64/\ag (·=h.size) v n/\Var 407 n h.size (.bytes 64 (kX (λi=>xb (fc (Iw key) i) x) (Iw key) i.toNat)),λi _=>(64-i).toNat,⟨alE 0,δ,ag.refl _ _,k⟩,?_⟩;rintro i w ⟨o,C,f3,e⟩;refine ID (λf=>?_) λf=>?_
 ·have d:=iI e (i:=i.toNat) ω;rw[lX _ _ _ _ ω,if_neg ω]at d;have p:0<=xv (fc (Iw key) i.toNat).toNat x/\xv (fc (Iw key) i.toNat).toNat x<256:=aS _;refine⟨o,f,_,d,o,f,?_⟩;refine kV e (i:=i.toNat) ω ω p.1 p.2 λD v4 f4 E=>?_;rw[wrap_i64 ω ω];refine⟨⟨ω,ω,f3.trans f4,?_⟩,by grind⟩;rw[show(i+1).toNat=i.toNat+1 by omega];exact v4
 ·have y:i.toNat=64:=ω;rw[y]at e;refine⟨_,yp e,?_⟩;rw[ack];exact A w (alo m f3 λi f=>ω)
def No(r:Bs 32):Bs 16:=⟨r.l.take 16,by rw[List.length_take,r.h];rfl⟩
def qO(key s:LU):Bs 32:=mz (iR key 54++s)
def GO(key s:LU):Bs 16:=No (mz (iR key 92++(qO key s).l))
theorem RQ{T:TypeId}{b:Nat}{x:Bs 32}(v:Var T h b (.bytes 32 x)):av h b 0 16 (No x):=by
 intro j a;have:=v.bytes j ω;rw[this];simp only[No,alH,List.getElem?_take,if_pos a]
theorem T6{key:LU}{s:Sl}{ts:List (LU)}(A:key.length<=64)(e:aj 1 h s (ts.map alN))(H:ts.flatten.length<100000)(ac:ts.length<10000)
 (Z:∀f,Ext h f->R (alO 16 (GO key ts.flatten)).val f):Cl 293 [.str key,.slice s] h R:=by
 apply O_;delta dQ jN aF JQ gZ JO cQ i_ QD iA LQ rD d_ dz gY gj eU bJ fD;refine aa λy v1 F X=>?_;intro G v;refine ID (λad=>ω) λ_=>v key y ?_;refine KK A λz I=>⟨_,rfl,?_⟩;have J:=alB z (row (alp [alN (iR key 54)]) 9);have Y:=((e.ext F).ext I).ext J;refine⟨_,Y.cells (λu p=>by obtain⟨t,_,rfl⟩:=alM.1 p;rfl) δ,ak.mJ (λu p=>by obtain⟨t,_,rfl⟩:=alM.1 p;rfl),?_⟩
 have o2:=Vc.Own.new (T:=9) z [alN (iR key 54)] (λt K=>by
  simp only[alK,List.not_mem_nil,or_false]at K;subst K;rfl)
 have L:=e.len;rw[aly]at L;rw[<-L,show ts.length=(ts.map alN).length from(aly _).symm];refine JX adz ZT (by rw[OI];decide) δ (by rw[OI,aly];show(1+_)*16<=_;omega) o2 (λu p=>by obtain⟨t,_,rfl⟩:=alM.1 p;rfl) λs3 M o3 f3 b3=>?_
 have x3:Ext z M:=alo J f3 λi k=>by
  obtain⟨l,H,rfl⟩:=k;obtain rfl:=Option.some.inj H;exact als _
 have e3:aj 1 M s3 ((iR key 54::ts).map alN):=o3.elems;refine pT (ts:=iR key 54::ts) e3 ?_ (by rw[alL];omega) λh4 x4=>⟨qO key ts.flatten,rfl,?_⟩
 ·rw[List.flatten_cons,List.length_append,HM];omega
 refine aa λh5 v5 x5 s5=>aH v5 (t:=.bytes 32 (qO key ts.flatten)) wI λo v6 f6 s6=>?_;have x6:Ext h4 o:=alo x5 f6 λi k=>ω;have IJ:Ext y o:=((I.trans x3).trans x4).trans x6;intro G v;have ae:y.size=h.size+1:=X;have N:[iR key 92,(qO key ts.flatten).l].flatten=iR key 92++(qO key ts.flatten).l:=by simp
 have w:[iR key 92,(qO key ts.flatten).l].flatten.length<700000:=by
  rw[N,List.length_append,HM,(qO key ts.flatten).h];decide
 have x:∀(O P:LU)(Q:Sl)(S:LU)(U:Sl)(V:Bs 32)(f:af)(b:Nat),Ext o f->o.size<=b->Var 52 f b (.bytes 32 (mz [iR key 92,(qO key ts.flatten).l].flatten))->G (O,P,Q,S,U,V,some ⟨b,0⟩) f:=by
  intro O P Q S U V f b W hb hv;refine v _ f ⟨δ,δ,als 16,?_⟩;rw[show(ay (alJ (some (Vc.Loc.mk b 0)) 32 32) 0 (Int.toNat 16) 1).a=some ⟨b,0⟩from rfl];refine⟨No (mz [iR key 92,(qO key ts.flatten).l].flatten),RQ hv,?_⟩;have ab:Var 56 f h.size (.bytes 16 (alu 16)):=v1.ext (IJ.trans W);refine aH ab (t:=.bytes 16 (No (mz [iR key 92,(qO key ts.flatten).l].flatten))) wI λm B f7 s7=>⟨_,B.bytes,?_⟩;have:=Z m (alo ((F.trans IJ).trans W) f7 λi k=>ω);rw[N];exact this
 clear v;refine⟨(qO key ts.flatten).l,yp v6,?_,?_⟩
 ·refine KK A λm g=>⟨_,rfl,g,⟨?_,?_⟩,?_⟩
  ·refine pT (ts:=[iR key 92,(qO key ts.flatten).l]) (og (T:=9) m [iR key 92,(qO key ts.flatten).l]) w (by simp) λd c=>⟨_,rfl,?_⟩;refine aa λq v9 j s9=>⟨j,aH v9 (t:=.bytes 32 (mz [iR key 92,(qO key ts.flatten).l].flatten)) wI λC v10 f10 D=>?_⟩;have n:Ext o d:=(g.trans (alB m _)).trans c;exact x _ _ _ _ _ _ _ d.size (alo (n.trans j) f10 λi k=>by have:=n.size;omega) n.size v10
  ·refine aa λd E c s8=>⟨c,?_⟩;refine pT (ts:=[iR key 92,(qO key ts.flatten).l]) ((og (T:=9) m [iR key 92,(qO key ts.flatten).l]).ext c) w (by simp) λq j=>⟨_,rfl,?_⟩;refine aH (E.ext j) (t:=.bytes 32 (mz [iR key 92,(qO key ts.flatten).l].flatten)) wI λC v10 f10 D=>?_;have n:Ext o (m.push (row (alp ([iR key 92,(qO key ts.flatten).l].map alN)) 9)):=g.trans (alB m _);exact x _ _ _ _ _ _ _ _ (alo ((n.trans c).trans j) f10 λi k=>by have:=n.size;rw[k];exact this) n.size v10
  ·refine aa λd E c s8=>⟨c,?_⟩;refine pT (ts:=[iR key 92,(qO key ts.flatten).l]) (og (T:=9) d [iR key 92,(qO key ts.flatten).l]) w (by simp) λq j=>⟨_,rfl,?_⟩;have r:Ext d q:=(alB d _).trans j;refine aH (E.ext r) (t:=.bytes 32 (mz [iR key 92,(qO key ts.flatten).l].flatten)) wI λC v10 f10 D=>?_;exact x _ _ _ _ _ _ _ _ (alo ((g.trans c).trans r) f10 λi k=>by have:=g.size;omega) g.size v10
 ·refine aa λm B g s7=>⟨g,?_⟩;refine KK A λd c=>⟨_,rfl,c,?_⟩;refine pT (ts:=[iR key 92,(qO key ts.flatten).l]) (og (T:=9) d [iR key 92,(qO key ts.flatten).l]) w (by simp) λq j=>⟨_,rfl,?_⟩;have r:Ext d q:=(alB d _).trans j;refine aH ((B.ext c).ext r) (t:=.bytes 32 (mz [iR key 92,(qO key ts.flatten).l].flatten)) wI λC v10 f10 D=>?_;exact x _ _ _ _ _ _ _ _ (alo ((g.trans c).trans r) f10 λi k=>ω) (als _) v10
def IJ(a t:Bs 16):Bs 16:=kX (λj=>xb (fc a j) ((fc t j).toNat:Int)) a 16
def fI:List (Bs 16)->Bs 16->Bs 16
 |[],a=>a
 |t::ts,a=>fI ts (IJ a t)
theorem Eg:∀(ts:List (Bs 16))(t a:Bs 16),fI (ts++[t]) a=IJ (fI ts a) t
 |[],_,_=>rfl
 |u::ts,t,a=>by show fI (ts++[t]) _=_;rw[Eg ts t];rfl
abbrev tags(l:List (Bs 16)):List TV:=l.map (alO 16)
theorem XG{s:Sl}{ts:List (Bs 16)}(e:aj 16 h s (tags ts))(U:ts.length<1000000)(A:∀m,Ext h m->R (alO 16 (fI ts (alu 16))).val m):Cl 295 [.slice s] h R:=by
 apply KJ;delta aF gL QD rD Th cE bK;have w:=e.len;rw[aly]at w;refine aa λc v1 o P=>aa λx y f Q=>?_;refine⟨λi a=>0<=i/\i<=ts.length/\ag (·=c.size) x a/\Var 56 a c.size (.bytes 16 (fI (ts.take i.toNat) (alu 16))),λi _=>(ts.length-i).toNat,⟨alE 0,ω,ag.refl _ _,y⟩,?_⟩;rintro i z ⟨B,S,f3,g⟩;have C:=e.ext (alo (o.trans f) f3 λi b=>ω);refine ID (λb=>?_) λb=>?_
 ·refine C.read B ω λl t T p D=>?_;rw[alx]at p;obtain⟨t',E,rfl⟩:=alU.1 p;refine⟨t',D,?_⟩;refine aa λq v4 F G=>aH v4 wI λH I f5 V=>?_;have r:=alo F f5 λi b=>ω;have W:=f3.size;refine⟨λj a=>0<=j/\j<=16/\ag (·=c.size) H a/\Var 56 a c.size (.bytes 16 (kX (λj=>xb (fc (fI (ts.take i.toNat) (alu 16)) j) (fc t' j).toNat) (fI (ts.take i.toNat) (alu 16)) j.toNat)),λj _=>(16-j).toNat,⟨alE 0,δ,ag.refl _ _,g.ext r⟩,?_⟩;rintro j X ⟨k,j1,f6,v6⟩;have J:=I.only f6 ω;refine ID (λd=>?_) λd=>?_
  ·have u:=iI v6 (i:=j.toNat) ω;rw[lX _ _ _ _ ω,if_neg ω]at u;have K:=iI J (i:=j.toNat) ω;have v:0<=xv (fc (fI (ts.take i.toNat) (alu 16)) j.toNat).toNat (fc t' j.toNat).toNat/\xv (fc (fI (ts.take i.toNat) (alu 16)) j.toNat).toNat (fc t' j.toNat).toNat<256:=aS _;refine⟨k,d,_,u,k,d,_,K,k,d,?_⟩;refine kV v6 (i:=j.toNat) ω ω v.1 v.2 λY L f7 Z=>?_;rw[wrap_i64 ω ω];refine⟨⟨ω,ω,f6.trans f7,?_⟩,by grind⟩;rw[show(j+1).toNat=j.toNat+1 by omega];exact L
  ·have M:j.toNat=16:=ω;rw[M]at v6;rw[wrap_i64 (n:=i+1) ω ω];refine⟨⟨ω,ω,(f3.trans ((alP r).mono (λ_ h=>h))).trans f6,?_⟩,by dsimp only;omega⟩;rw[show(i+1).toNat=i.toNat+1 by omega,aU E,Eg];exact v6
 ·have N:ts.take i.toNat=ts:=alX ω;rw[N]at g;have O:Var 56 z h.size (.bytes 16 (alu 16)):=(v1.ext f).only f3 ω;refine⟨_,g.bytes,aH O (t:=.bytes 16 (fI ts (alu 16))) wI λq v4 f4 G=>⟨_,v4.bytes,?_⟩⟩;refine A q (alo (alo (o.trans f) f3 λi b=>ω) f4 λi b=>ω)
end
end Board
namespace Board
section
variable{R:Rq}{h:af}
def B8(m:Ms)(who:Int):Ms:=if m.kind=3 then⟨2,m.slot,m.target,who,0,alq,alu 16⟩else m
def Eh(m:Ms)(row:List Bool):List Bool:=if m.kind=3 then[]else row
theorem aat{m:Ms}{who:Int}(q:∀f,Ext h f->R (B8 m who).tv.val f):Cl 294 [m.tv,.i who] h R:=by
 apply KL m.kind m.slot m.target m.ax m.body m.bits m.tag who;delta dK eY bz aN;refine aa λn v1 g w=>aa λj a b x=>?_;have l:Var 58 j h.size m.tv:=v1.ext b;have a:Var 58 j n.size bh.tv:=a;have o:=l.at;obtain⟨p,r,s,y,z,A,B⟩:=o;refine⟨_,p,ID (λk=>⟨_,r,_,s,?_⟩) λk=>bB l ?_⟩
 ·have c:B8 m who=⟨2,m.slot,m.target,who,0,alq,alu 16⟩:=if_pos k;refine aq a (t:=(Ms.mk 2 m.slot m.target who 0 alq (alu 16)).tv) cv fR λd e f3 u=>?_;refine bB (m:=Ms.mk 2 m.slot m.target who 0 alq (alu 16)) e ?_;have:=q d (alo (g.trans b) f3 λi v=>ω);rw[c]at this;exact this
 ·have c:B8 m who=m:=if_neg k;refine aq a (t:=m.tv) cv fR λd e f3 u=>?_;refine bB e ?_;have:=q d (alo (g.trans b) f3 λi v=>ω);rw[c]at this;exact this
noncomputable def a_(n:Nat)(aQ:Int)(m:Ms)(row:List Bool):List Int×Bool:=
 if dU m row=false then([],false)
 else if m.kind=3 then(if mem n aQ m.slot=[]\/row.length≠(mem n aQ m.slot).length then([],false)else(pk (mem n aQ m.slot) row,true))
 else if m.kind=1/\uy (mem n aQ m.slot)≠m.ax then([],false)
 else if idx (mem n aQ m.slot) m.ax 0<0 then([],false)else([m.ax],true)
theorem RR(h:af):aj 1 h alq (ints []):=aj.Bf 1 h
theorem RS(h:af)(x:Int):aj 1 (h.push (Vc.row (alp [TV.i x]) 3)) ⟨some ⟨h.size,0⟩,1,1⟩ (ints [x]):=
 (Vc.Own.new (T:=3) (sz:=1) h [TV.i x] (λt a=>by
  simp only[alK,List.not_mem_nil,or_false]at a;subst a;rfl)).elems
theorem Ei{c:Cf}{m:Ms}{row:List Bool}(A:c.vals.len<900)(e:aj 1 h m.bits (aY row))(M:row.length<100000)
 (B:∀f G,aj 1 f G (ints (a_ c.vals.len c.aQ m row).1)->Ext h f->R (alA [.slice G,.bool (a_ c.vals.len c.aQ m row).2]).val f):Cl 170 [c.tv,m.tv] h R:=by
 apply De c.vals c.ep c.aQ c.no c.eV c.eH c.quo c.pe c.iy c.win c.bH c.dec m.kind m.slot m.target m.ax m.body m.bits m.tag;delta dK Zk U7 eY nY Wv d_ uQ aN aT fD;refine aa λq v1 L X=>aa λN r H Y=>?_;have v1:Var 24 q h.size c.tv:=v1;have r:Var 58 N q.size m.tv:=r;have I:=L.trans H;refine bB r (Kf (e.ext I) M λo y=>⟨_,rfl,?_⟩);have j:=I.trans y;have s:Var 24 o h.size c.tv:=(v1.ext H).ext y;have O:Var 58 o q.size m.tv:=r.ext y;have P:=O.at;obtain⟨J,t,Z,u,a4,Q,a6⟩:=P
 have w:∀f,Ext h f->a_ c.vals.len c.aQ m row=([],false)->R (alA [.slice alq,.bool false]).val f:=λf x g=>by
  have:=B f alq (by rw[g];exact RR f) x;rw[g]at this;exact this
 refine alv (λb=>w o j ?_) λb=>⟨_,J,ID (λl=>?_) λl=>⟨_,J,?_⟩⟩
 ·unfold a_;rw[if_pos (by simpa using b)]
 ·have b:¬dU m row=false:=by simpa using b
  refine td s ⟨_,t,_,Q,?_⟩;refine Gv (c:=c) A (e.ext j) (λd a z=>⟨_,_,rfl,w d (j.trans a) ?_⟩) λd S T a U V=>⟨_,_,rfl,?_⟩
  ·unfold a_;rw[if_neg b,if_pos l,if_pos z]
  ·have g:a_ c.vals.len c.aQ m row=(pk (mem c.vals.len c.aQ m.slot) row,true):=by
    unfold a_;rw[if_neg b,if_pos l,if_neg (λk=>k.elim U (λk=>k V))]
   have:=B d S (by rw[g];exact T.elems) (j.trans a);rw[g]at this;exact this
 ·have b:¬dU m row=false:=by simpa using b
  have last:∀d,Ext o d->(¬(m.kind=1/\uy (mem c.vals.len c.aQ m.slot)≠m.ax))->Cl 235 [c.tv,.i m.slot,.i m.ax] d λv h=>∃(n:Int),v=TV.val (TV.i n)/\If (decide (n<0)) (R (TV.val (alA [TV.slice alq,alQ false])) h) (∃(n:Int),ah h q.size 34 (.i n)/\R (TV.val (alA [TV.slice (alJ (some (Vc.Loc.mk h.size 0)) 1 1),alQ true])) (h.push (Vc.row (alp [TV.i n]) 3))):=by
   intro d a K;refine Tv (c:=c) A λC D=>⟨_,rfl,ID (λE=>w C ((j.trans a).trans D) ?_) λE=>⟨m.ax,mI D (mI a u),?_⟩⟩
   ·unfold a_;rw[if_neg b,if_neg l,if_neg K,if_pos E]
   ·have g:a_ c.vals.len c.aQ m row=([m.ax],true):=by
     unfold a_;rw[if_neg b,if_neg l,if_neg K,if_neg E]
    have:=B _ ⟨some ⟨C.size,0⟩,1,1⟩ (by rw[g];exact RS C m.ax) (((j.trans a).trans D).trans (alB _ _));rw[g]at this;exact this
  refine ID (λF=>?_) λF=>?_
  ·refine td s ⟨_,t,_,u,?_⟩;refine LS (c:=c) A λd a=>⟨_,rfl,a,?_⟩;have W:=s.ext a;refine alv (λp=>alv (λp=>w d (j.trans a) ?_) λz=>absurd p (by rw[z];decide)) λp=>?_
   ·unfold a_;rw[if_neg b,if_neg l,if_pos ⟨F,by simpa using p⟩]
   ·refine td W ⟨_,mI a t,_,mI a u,?_⟩;exact last d a λk=>k.2 (by simpa using p)
  ·refine td s ⟨_,t,_,u,?_⟩;exact last o (alC _) λk=>F k.1
theorem T7:∀(l:List Int)(row:List Bool)(x:Int),x∈pk l row->x∈l
 |[],_,x,h=>by simp[pk]at h
 |_::_,[],x,h=>by simp[pk]at h
 |y::l,b::row,x,h=>by
  unfold pk at h;split at h
  ·rcases alK.1 h with q|q
   ·exact alK.2 (.inl q)
   ·exact alK.2 (.inr (T7 l row x q))
  ·exact alK.2 (.inr (T7 l row x h))
theorem mem_range{n:Nat}{aQ slot x:Int}(h:x∈mem n aQ slot):0<=x/\x<n:=by
 by_cases a:slot<0\/1073741824<slot
 ·rw[VI a]at h;cases h
 ·rw[aas ω ω]at h;exact aar (List.mem_of_mem_take h)
theorem GP{n:Nat}{aQ:Int}{m:Ms}{row:List Bool}{x:Int}(h:x∈(a_ n aQ m row).1):x∈mem n aQ m.slot:=by
 unfold a_ at h;split at h
 ·cases h
 ·split at h
  ·split at h
   ·cases h
   ·exact T7 _ _ _ h
  ·split at h
   ·cases h
   ·split at h
    ·cases h
    ·rename_i a;simp only[List.mem_singleton]at h;subst h;apply Classical.byContradiction;intro b;rw[VJ _ _ _ b]at a;exact a δ
theorem si{n:Nat}{aQ:Int}{m:Ms}{row:List Bool}:(a_ n aQ m row).1.length<=n+1:=by
 have c:∀(l:List Int)(row:List Bool),(pk l row).length<=l.length:=by
  intro l
  induction l with
  |nil=>intro row;simp[pk]
  |cons y l a=>
   intro row;cases row with
   |nil=>simp[pk]
   |cons b row=>
    unfold pk;split
    ·simp[a row]
    ·have:=a row;simp;omega
 unfold a_;split
 ·simp
 ·split
  ·split
   ·simp
   ·have:=c (mem n aQ m.slot) row;have:=sK n aQ m.slot;show(pk _ _).length<=_;omega
  ·split
   ·simp
   ·split<;>simp
end
end Board
namespace Board
section
variable{R:Rq}{h:af}
def FB(L:List Vd)(i:Int):LU:=(L.getD i.toNat ⟨0,[]⟩).key
def ud(L:List Vd)(m:Ms)(row:List Bool)(i:Int):Bs 16:=GO (FB L i) (dA (B8 m i) (Eh m row))
noncomputable def mB(n:Nat)(aQ:Int)(L:List Vd)(m:Ms)(row:List Bool):Bs 16×Bool:=
 if(a_ n aQ m row).2=true then(fI ((a_ n aQ m row).1.map (ud L m row)) (alu 16),true)else(alu 16,false)
theorem I1:(ctx.ti 56).bytes=16:=κ
theorem aau:(ctx.ti 56).size=16:=κ
theorem VK:(ctx.ti 56).z.size=16:=κ
theorem XH{m:Ms}{row:List Bool}{q:af}(e:aj 1 q m.bits (aY row))(who:Int):aj 1 q (B8 m who).bits (aY (Eh m row)):=by
 unfold B8 Eh;split
 ·exact aj.Bf 1 q
 ·exact e
theorem aav(m:Ms)(row:List Bool):(Eh m row).length<=row.length:=by
 unfold Eh;split<;>simp
theorem aaw{c:Cf}{m:Ms}{row:List Bool}{L:List Vd}(hv:c.vals.len<900)(H:aj 2 h c.vals (jx L))(ab:∀v∈L,v.key.length<=64)(e:aj 1 h m.bits (aY row))(hl:row.length<500)
 (I:∀J,Ext h J->R (alA [.bytes 16 (mB c.vals.len c.aQ L m row).1,.bool (mB c.vals.len c.aQ L m row).2]).val J):Cl 264 [c.tv,m.tv] h R:=by
 apply KM c.vals c.ep c.aQ c.no c.eV c.eH c.quo c.pe c.iy c.win c.bH c.dec m.kind m.slot m.target m.ax m.body m.bits m.tag;delta gz jN dK JO QF eY rD jr dD d_ eW bK aT fD;have lv:L.length=c.vals.len:=by have:=H.len;rwa [aly]at this
 refine aa λh1 v1 z s1=>aa λh2 k o s2=>aa λK v3 A s3=>?_;have v1:Var 24 K h.size c.tv:=(alF (t:=c.tv) v1 o).ext A;have k:Var 58 K h1.size m.tv:=alF (t:=m.tv) k A;have M:=(z.trans o).trans A;refine td v1 (bB k (Ei hv (e.ext M) ω λB N D q=>⟨_,_,rfl,?_⟩));have r:=M.trans q;have w1:=v1.ext q;have w2:=k.ext q;have O:=v3.ext q;refine alv (λd=>?_) λd=>?_
 ·have s:mB c.vals.len c.aQ L m row=(alu 16,false):=by
   unfold mB;rw[if_neg (by simpa using d)]
  refine aq O (t:=.bytes 16 (alu 16)) rfl rfl λu v5 f5 s5=>⟨_,v5.bytes,?_⟩;have:=I u (alo r f5 λi P=>by have:=z.size;have:=o.size;omega);rw[s]at this;exact this
 ·have d:(a_ c.vals.len c.aQ m row).2=true:=by simpa using d
  have s:mB c.vals.len c.aQ L m row=(fI ((a_ c.vals.len c.aQ m row).1.map (ud L m row)) (alu 16),true):=by
   unfold mB;rw[if_pos d]
  have Q:∀x∈(a_ c.vals.len c.aQ m row).1,0<=x/\x<c.vals.len:=λx w=>mem_range (GP w);have ac:=si (n:=c.vals.len) (aQ:=c.aQ) (m:=m) (row:=row);generalize(a_ c.vals.len c.aQ m row).1=l at D s Q ac;have el:=iP D
  refine⟨λσ S=>0<=σ.2/\σ.2<=N.len/\Vc.Own 56 16 S σ.1 (tags ((l.take σ.2.toNat).map (ud L m row)))/\(∀p,σ.1.a=some p->B.size<=p.b)/\Ext B S,λσ _=>((N.len:Int)-σ.2).toNat,
   ⟨alE 0,Ω,Vc.Own.nil _ _ _,(λp f=>by cases f),alC _⟩,?_⟩
  rintro⟨t,i⟩ u ⟨U,i1,y,E,a⟩;dsimp only at U i1 y E a⊢;refine ID (λP=>?_) λP=>?_
  ·refine gB (D.ext a) U ω λx w=>?_;have ad:=Q x (alV w);refine⟨c.vals,(w1.ext a).at.1,?_⟩;refine((H.ext r).ext a).read ad.1 ω λaE tv a0 V ae=>?_;rw[alx]at V;obtain⟨g,W,rfl⟩:=alU.1 V;have al:FB L x=g.key:=by unfold FB;rw[alH,W];rfl
   have am:=ab g (alV W);refine⟨g.key,ae.2,bB (w2.ext a) ?_⟩;have e5:aj 1 u m.bits (aY row):=(e.ext r).ext a;refine aat (m:=m) (who:=x) λh6 b=>⟨_,_,_,_,_,_,_,rfl,b,?_⟩;have a1:=aav m row;refine Kg (m:=B8 m x) (XH (e5.ext b) x) ω λF X=>⟨_,rfl,X,alB _ _,?_⟩;have a2:=ov (B8 m x) (Eh m row);refine T6 (ts:=[dA (B8 m x) (Eh m row)]) am (og (T:=9) F [dA (B8 m x) (Eh m row)]) (by simp only[List.flatten_cons,List.flatten_nil,List.append_nil];omega) (by simp) λh8 x8=>⟨_,rfl,?_⟩;have ao:[dA (B8 m x) (Eh m row)].flatten=dA (B8 m x) (Eh m row):=by simp
   rw[ao];have G:Ext u h8:=((b.trans X).trans (alB _ _)).trans x8;have Y:=y.ext G;have tl:=Y.len;rw[aly,aly,List.length_take]at tl;have ap:GO g.key (dA (B8 m x) (Eh m row))=ud L m row x:=by unfold ud;rw[al]
   refine cD (C:=ctx) (T:=56) (sz:=16) (x:=.bytes 16 (GO g.key (dA (B8 m x) (Eh m row)))) aau VK (by rw[I1];decide) (by rw[I1];omega) Y rfl rfl λs9 h9 o9 f9 b9=>?_;rw[wrap_i64 (n:=i+1) ω ω];have x9:Ext B h9:=alo (a.trans G) f9 λj⟨p,f,hj⟩=>by have:=E p f;omega
   have z8:=(a.trans G).size;refine⟨⟨ω,ω,?_,λp f=>?_,x9⟩,Ω⟩
   ·rw[show(i+1).toNat=i.toNat+1 by omega,aU w,List.map_append,List.map_cons,List.map_nil,<-ap];simpa[tags]using o9
   ·rcases b9 p f with⟨p',Z,a3⟩|Z
    ·have:=E p' Z;omega
    ·omega
  ·have ar:l.take i.toNat=l:=alX ω;rw[ar]at y;refine XG y.elems (by rw[aly];omega) λh6 b=>⟨_,rfl,?_⟩;have aw:=(r.trans a).trans b;refine aq ((O.ext a).ext b) (t:=.bytes 16 (fI (l.map (ud L m row)) (alu 16))) rfl rfl λF v7 f7 s7=>⟨_,v7.bytes,?_⟩;have:=I F (alo aw f7 λj hj=>by have:=z.size;have:=o.size;omega);rw[s]at this;exact this
noncomputable def kj(n:Nat)(aQ:Int)(L:List Vd)(m:Ms)(row:List Bool):Bool:=(mB n aQ L m row).2&&decide ((mB n aQ L m row).1.l=m.tag.l)
theorem T8{c:Cf}{m:Ms}{row:List Bool}{L:List Vd}(q:c.vals.len<900)(A:aj 2 h c.vals (jx L))(B:∀v∈L,v.key.length<=64)(e:aj 1 h m.bits (aY row))(E:row.length<500)
 (H:∀g,Ext h g->R (alQ (kj c.vals.len c.aQ L m row)).val g):Cl 206 [c.tv,m.tv] h R:=by
 apply GQ c.vals c.ep c.aQ c.no c.eV c.eH c.quo c.pe c.iy c.win c.bH c.dec m.kind m.slot m.target m.ax m.body m.bits m.tag;delta dK U5 aO eY rD lq;refine aa λp v1 r z=>aa λj b k C=>?_;have v1:Var 24 j h.size c.tv:=alF (t:=c.tv) v1 k;have b:Var 58 j p.size m.tv:=b;have d:=r.trans k;refine td v1 (bB b (aaw q (A.ext d) B (e.ext d) E λs l=>⟨_,_,rfl,?_⟩));refine aa λD v4 u F=>aq v4 (t:=.bytes 16 (mB c.vals.len c.aQ L m row).1) rfl rfl λn w f5 G=>?_;have o:Ext s n:=alo u f5 λi I=>ω;have x:=(d.trans l).trans o;have a:=H n x;unfold kj at a;refine alv (λf=>?_) λf=>?_
 ·rw[f,Bool.true_and]at a;have y:=(b.ext l).ext o;exact⟨_,w.bytes,m.tag,y.at.2.2.2.2.2.2,a⟩
 ·rw[f,Bool.false_and]at a;exact a
noncomputable def mX(n:Nat)(aQ:Int)(L:List Vd)(m:Ms)(row:List Bool):Ms×Bool:=
 if(mB n aQ L m row).2=true then({m with tag:=(mB n aQ L m row).1},true)else(bh,false)
theorem Vt.size(v:Vt):v.tv.size=34:=by simp only[Vt.tv,TV.size,ak.size]
theorem Vt.plain(v:Vt):v.tv.plain=true:=by simp only[Vt.tv,TV.plain,ak.plain,Bool.and_self]
noncomputable def jG(n:Nat)(aQ:Int)(m:Ms)(row:List Bool):List Vt:=
 if(a_ n aQ m row).2=false\/m.kind=1 then[]else(a_ n aQ m row).1.map λi=>⟨i,m.slot,m.target⟩
theorem FC:(ctx.ti 124).bytes=48:=κ
theorem aax:(ctx.ti 124).size=34:=κ
theorem VL:(ctx.ti 124).z.size=34:=κ
theorem RU{c:Cf}{m:Ms}{row:List Bool}(M:c.vals.len<900)(e:aj 1 h m.bits (aY row))(hl:row.length<500)
 (A:∀s u,aj 34 s u (Et (jG c.vals.len c.aQ m row))->Ext h s->(∀p,u.a=some p->h.size<=p.b)->R (TV.slice u).val s):Cl 104 [c.tv,m.tv] h R:=by
 apply GR c.vals c.ep c.aQ c.no c.eV c.eH c.quo c.pe c.iy c.win c.bH c.dec m.kind m.slot m.target m.ax m.body m.bits m.tag;delta dK U6 sD dx eY pR jr dD eW aN bK;refine aa λK v1 L s1=>aa λy o z s2=>?_;have v1:Var 24 y h.size c.tv:=alF (t:=c.tv) v1 z;have o:Var 58 y K.size m.tv:=o;have B:=L.trans z;refine td v1 (bB o (Ei M (e.ext B) ω λf D v E=>⟨_,_,rfl,?_⟩));have q:=B.trans E;have F:=o.ext E;intro J N;refine alv (λg=>?_) λg=>⟨_,F.at.1,ID (λw=>?_) λw=>N _ _ ?_⟩
 ·have b:jG c.vals.len c.aQ m row=[]:=if_pos (.inl (by simpa using g));exact A f alq (by rw[b];exact aj.Bf _ _) q (λp a=>by cases a)
 ·have b:jG c.vals.len c.aQ m row=[]:=if_pos (.inr w);exact A f alq (by rw[b];exact aj.Bf _ _) q (λp a=>by cases a)
 ·have g:(a_ c.vals.len c.aQ m row).2=true:=by simpa using g
  have b:jG c.vals.len c.aQ m row=(a_ c.vals.len c.aQ m row).1.map λi=>⟨i,m.slot,m.target⟩:=if_neg (by rw[g];rintro(h|h);cases h;exact w h);have O:=si (n:=c.vals.len) (aQ:=c.aQ) (m:=m) (row:=row);generalize(a_ c.vals.len c.aQ m row).1=l at v b O;have el:=iP v
  refine⟨λσ G=>0<=σ.2/\σ.2<=D.len/\Vc.Own 124 34 G σ.1 (Et ((l.take σ.2.toNat).map λi=>⟨i,m.slot,m.target⟩))/\(∀p,σ.1.a=some p->f.size<=p.b)/\Ext f G,λσ _=>((D.len:Int)-σ.2).toNat,
   ⟨alE 0,Ω,Vc.Own.nil _ _ _,(λp a=>by cases a),alC _⟩,?_⟩
  rintro⟨t,i⟩ P ⟨H,Q,k,r,d⟩;dsimp only at H Q k r d⊢;refine ID (λS=>?_) λS=>?_
  ·refine gB (v.ext d) H ω λx U=>?_;have I:=F.ext d;refine⟨_,I.at.2.1,_,I.at.2.2.1,?_⟩;have V:=k.len;rw[aly,aly,List.length_take]at V;refine cD (C:=ctx) (T:=124) (sz:=34) (x:=Vt.tv ⟨x,m.slot,m.target⟩) aax VL (by rw[FC];decide) (by rw[FC];omega) k (Vt.size _) (Vt.plain _) λs9 W X f9 Y=>?_;rw[wrap_i64 (n:=i+1) ω ω];have Z:Ext f W:=alo d f9 λj⟨p,a,hj⟩=>by have:=r p a;omega
   have z5:=d.size;refine⟨⟨ω,ω,?_,λp a=>?_,Z⟩,Ω⟩
   ·rw[show(i+1).toNat=i.toNat+1 by omega,aU U,List.map_append];simpa[Et]using X
   ·rcases Y p a with⟨p',h1',ac⟩|h1'
    ·have:=r p' h1';omega
    ·omega
  ·have ab:l.take i.toNat=l:=alX ω;rw[ab]at k;exact A P t (by rw[b];exact k.elems) (q.trans d) λp a=>alW q.size (r p a)
end
end Board
namespace Gate
open Board (Vd Cf Ms Dm jx aq aY bh dF bw a_ kj bB fR cv j_ jk)
open Pool (It WL dV has jC oF)
open Peers (Pe)
section
variable{R:Rq}{h h':af}{g:Nat}{a:Ad}{c:Cf}{V:List Vd}{s:St}{Fp:Nat->Nat->Prop}
noncomputable def dw(c:Cf)(V:List Vd)(s:St)(m:Ms)(row:List Bool):Int:=
 if fK c s m.kind m.slot=false then 6 else if(a_ V.length c.aQ m row).2=false then 7 else if kj V.length c.aQ V m row=false then 8 else if iD s m.kind (bw m row)=true then 9 else 0
theorem RV(p:aR h g a c V s Fp)(n0:0<=s.now)(n1:s.now<=1073741824){text:LU}(ht:text.length<1000)
 (ae:dF text=none->∀h',Ext h h'->R (alA [bh.tv,.i 5]).val h')
 (hr:∀d,dF text=some d->∀h' b,aj 1 h' b (aY d.row)->Ext h h'->R (alA [(d.ms b).tv,.i (dw c V s (d.ms b) d.row)]).val h'):
 Cl 148 [.ptr (PT g),.str text] h R:=by
 apply Az;delta jY eY Tf bJ bA;refine aa λT v1 K s1=>?_;have v1:Var 58 T h.size bh.tv:=v1
 have out:∀(m:Ms)(e:af)(q:Nat)(n:Int),Ext T e->Var 58 e q m.tv->(∀h',Ext h h'->Ext e h'\/ag (·=h.size) e h'->R (alA [m.tv,.i n]).val h')->
  gT e h.size 0 53/\Bind (alT e h.size 0 m.tv) λf=>∃(U:Int),∃(W:Int),∃(X:Bs 32),∃(Y:Int),∃(Z:Int),∃(s:Sl),∃(ab:Bs 16),(ah f h.size 0 (.i U)/\ah f h.size 1 (.i W)/\av f h.size 2 32 X/\ah f h.size 34 (.i Y)/\ah f h.size 35 (.int .u64 Z)/\ah f h.size 36 (bu s)/\av f h.size 37 16 ab)/\
   R (alA [.agg [.i U,.i W,.bytes 32 X,.i Y,.int .u64 Z,.slice s,.bytes 16 ab],.i n]).val f:=by
  intro m e q n xx vm hk;refine aq (t0:=bh.tv) (v1.ext xx) (t:=m.tv) cv fR λf z f5 s5=>bB (m:=m) z ?_;exact hk f (alo (K.trans xx) f5 λi x=>alw (alz x)) (.inr f5)
 refine j_ ω (λal E M=>?_) λd E bs hd F M nw=>?_
 ·refine⟨_,_,_,_,_,_,_,_,rfl,aa λh3 N O s3=>aq (t0:=bh.tv) N (t:=bh.tv) cv fR λr v4 f4 s4=>?_⟩;have u:Ext E r:=alo O f4 λi x=>alw (alz x);exact alR (bB (m:=bh) v4 (out bh r _ 5 (M.trans u) v4 λf o _=>ae al f o))
 refine⟨_,_,_,_,_,_,_,_,rfl,aa λh3 N O s3=>aq (t0:=bh.tv) N (t:=(d.ms bs).tv) cv fR λr v4 f4 s4=>?_⟩;have u:Ext E r:=alo O f4 λi x=>alw (alz x);have v4:Var 58 r E.size (d.ms bs).tv:=v4;have y:=M.trans u;have ac:=oF hd;have k:=p.can;have kl:=k.len;have keys:=wS k;have el:V.length=c.vals.len:=by have:=p.vals.len;rwa [aly]at this
 have z1:=K.size
 have A:∀(n:Int)(e:af),dw c V s (d.ms bs) d.row=n->Ext r e->∀h',Ext h h'->Ext e h'\/ag (·=h.size) e h'->R (alA [(d.ms bs).tv,.i n]).val h':=by
  intro n e hn P h' x' am;rw[<-hn];have eh:=F.ext (u.trans P);refine hr d hd h' bs ?_ x';rcases am with Q|Q
  ·exact eh.ext Q
  ·refine TV.ck Q eh λi⟨l,hl,x⟩ hq=>?_;have:=(nw l hl).1;have hq:i=h.size:=hq;omega
 have B:∀{e},Ext r e->aR e g a c V s Fp:=λP=>p.ext (K.trans (y.trans P));refine alD (bB (m:=d.ms bs) v4 (T2 (m:=d.ms bs) (B (alC _)) n0 n1 λf o=>⟨_,rfl,?_⟩));have z:=v4.ext o;refine alv (λj=>bB (m:=d.ms bs) z (out _ f _ 6 (y.trans o) z (A 6 f (if_pos (by simpa using j)) o))) λj=>?_;have G:¬fK c s (d.ms bs).kind (d.ms bs).slot=false:=by simpa using j
 refine⟨c.vals,c.ep,c.aQ,c.no,c.eV,c.eH,c.quo,c.pe,c.iy,c.win,c.bH,c.dec,(B o).var.at.1,bB (m:=d.ms bs) z ?_⟩;refine Board.Ei (c:=c) ω (F.ext (u.trans o)) ω λh6 s6 _ x6=>⟨_,_,rfl,?_⟩;have w:=o.trans x6;have v6:=v4.ext w;rw[<-el];refine alv (λj=>bB (m:=d.ms bs) v6 (out _ h6 _ 7 (y.trans w) v6 (A 7 h6 ?_ w))) λj=>?_
 ·unfold dw;rw[if_neg G,if_pos (by simpa using j)]
 have S:¬(a_ V.length c.aQ (d.ms bs) d.row).2=false:=by simpa using j
 refine⟨c.vals,c.ep,c.aQ,c.no,c.eV,c.eH,c.quo,c.pe,c.iy,c.win,c.bH,c.dec,(B w).var.at.1,bB (m:=d.ms bs) v6 ?_⟩;refine Board.T8 (c:=c) (L:=V) ω (B w).vals (λv hv=>by have:=keys v hv;omega) (F.ext (u.trans w)) ac λh7 x7=>⟨_,rfl,?_⟩;have C:=w.trans x7;have H:=v4.ext C;rw[<-el];refine alv (λj=>bB (m:=d.ms bs) H (out _ h7 _ 8 (y.trans C) H (A 8 h7 ?_ C))) λj=>?_
 ·unfold dw;rw[if_neg G,if_neg S,if_pos (by simpa using j)]
 have a3:¬kj V.length c.aQ V (d.ms bs) d.row=false:=by simpa using j
 refine bB (m:=d.ms bs) H (bB (m:=d.ms bs) H (jk (m:=d.ms bs) (F.ext (u.trans C)) ac λh8 x8=>⟨_,rfl,x8,?_⟩));have ad:=C.trans x8;refine T3 (m:=d.ms bs) (B ad) λI x9=>⟨_,rfl,?_⟩;have D:=ad.trans x9;have J:=v4.ext D;refine alv (λj=>bB (m:=d.ms bs) J (out _ I _ 9 (y.trans D) J (A 9 I ?_ D))) λj=>bB (m:=d.ms bs) J (out _ I _ 0 (y.trans D) J (A 0 I ?_ D))
 ·unfold dw;rw[if_neg G,if_neg S,if_neg a3,if_pos j]
 ·unfold dw;rw[if_neg G,if_neg S,if_neg a3,if_neg (by rw[j];decide)]
end
end Gate
namespace Gate
open Board (Vd Cf jx)
open Pool (It WL dV)
open Peers (Pe)
section
variable{h h':af}{g:Nat}{a:Ad}{c:Cf}{V:List Vd}{s:St}{Fp:Nat->Nat->Prop}{S':Nat->Prop}
theorem aR.SF(p:aR h g a c V s Fp):∀i,In c.vals i->i<h.size:=λi⟨l,d,n⟩=>by
 have k:=p.can.len;obtain⟨v,e⟩:∃v,V[0]? =some v:=⟨_,alG ω⟩;have f:=p.vals.get l d 0 v.tv (by rw[alx,e];rfl);have j:ah h l.b (l.o+0*2) (.i v.cF):=f.1;have b:ng h l.b (l.o+0*2)=some (.i v.cF):=j;unfold ng at b;split at b
 ·rename_i m;have:=(Array.getElem?_eq_some_iff.1 m).1;omega
 ·cases b
theorem aR.DB(p:aR h g a c V s Fp){j:Nat}(st:Step (Fp j) h S' h'):∀k i,nT Fp j S' k i->¬In c.vals i:=λk i b d=>by
 by_cases e:k=j
 ·rw[e,bY]at b;rcases st.new i b with f|f
  ·exact p.off j i f d
  ·have:=p.SF i d;omega
 ·rw[aB e]at b;exact p.off k i b d
theorem aR.B_(p:aR h g a c V s Fp){q:List It}(A:k9 212 h' a.wt q c.eH c.quo S')(st:Step (Fp 5) h S' h'):aR h' g a c V {s with wait:=q} (nT Fp 5 S'):=by
 have o:∀k,k≠5->∀i,Fp k i->¬Fp 5 i:=λk b=>p.sep.off b;refine⟨p.sep.step st A.lt,?_,?_,?_,?_,?_,?_,?_,?_,?_,?_,?_,?_,?_,p.DB st,p.can⟩
 ·rw[aB δ];exact p.tree.only st.only (o 0 δ)
 ·rw[aB δ];exact p.FP.only st.only (o 1 δ)
 ·rw[aB δ];exact p.gH.only st.only (o 2 δ)
 ·exact p.bk.only st.only (o 3 δ _ (by rw[p.f3]))
 ·rw[aB δ];exact p.f3
 ·rw[aB δ];exact p.kids.only st.only (o 4 δ)
 ·rw[bY];exact A
 ·rw[aB δ];exact p.who.only st.only (o 6 δ)
 ·exact p.kz.only st.only (o 7 δ _ (by rw[p.f7]))
 ·rw[aB δ];exact p.f7
 ·exact p.var.only st.only (o 8 δ _ (by rw[p.f8]))
 ·rw[aB δ];exact p.f8
 ·exact TV.ck st.only p.vals λi d e=>p.off 5 i e d
theorem aR.CR(p:aR h g a c V s Fp){P:List (Int×Int)}{gone:Int}(q:VH h' a.wh P c.pe c.bH c.dec gone S')(st:Step (Fp 6) h S' h'):aR h' g a c V {s with sc:=P,gone:=gone} (nT Fp 6 S'):=by
 have o:∀k,k≠6->∀i,Fp k i->¬Fp 6 i:=λk b=>p.sep.off b;refine⟨p.sep.step st q.lt,?_,?_,?_,?_,?_,?_,?_,?_,?_,?_,?_,?_,?_,p.DB st,p.can⟩
 ·rw[aB δ];exact p.tree.only st.only (o 0 δ)
 ·rw[aB δ];exact p.FP.only st.only (o 1 δ)
 ·rw[aB δ];exact p.gH.only st.only (o 2 δ)
 ·exact p.bk.only st.only (o 3 δ _ (by rw[p.f3]))
 ·rw[aB δ];exact p.f3
 ·rw[aB δ];exact p.kids.only st.only (o 4 δ)
 ·rw[aB δ];exact p.wait.only st.only (o 5 δ)
 ·rw[bY];exact q
 ·exact p.kz.only st.only (o 7 δ _ (by rw[p.f7]))
 ·rw[aB δ];exact p.f7
 ·exact p.var.only st.only (o 8 δ _ (by rw[p.f8]))
 ·rw[aB δ];exact p.f8
 ·exact TV.ck st.only p.vals λi d e=>p.off 6 i e d
end
end Gate
namespace Gate
open Board (Vd Cf Vt jx aq wI)
open Pool (It)
theorem I2{h h':af}{F:Nat->Nat->Prop}{j:Nat}{S':Nat->Prop}{v:Sl}(off:∀k i,F k i->¬In v i)(q:∀i,In v i->i<h.size)(st:Step (F j) h S' h'):∀k i,nT F j S' k i->¬In v i:=λk i a c=>by
 by_cases e:k=j
 ·rw[e,bY]at a;rcases st.new i a with b|b<;>grind
 ·rw[aB e]at a
  grind
section
variable{R:Rq}{h h':af}{g:Nat}{a:Ad}{c:Cf}{V:List Vd}{s:St}{Fp:Nat->Nat->Prop}
theorem l9.ext{b:Nat}{L:List Nd}{most:Int}{S:Nat->Prop}(p:l9 h b L most S)(x:Ext h h'):l9 h' b L most S:=p.only (Q:=λ_=>False) (.an x) λ_ _ a=>a
theorem eZ.ext{w tb:Nat}{L:List Nd}{own:Nat->Int}{S:Nat->Prop}(p:eZ h w tb L own S)(x:Ext h h'):eZ h' w tb L own S:=p.only (Q:=λ_=>False) (.an x) λ_ _ a=>a
theorem Eb.ext{b n:Nat}{t:Tb}{S:Nat->Prop}(p:Eb h b t n S)(x:Ext h h'):Eb h' b t n S:=p.only (Q:=λ_=>False) (.an x) λ_ _ a=>a
structure jO(h:af)(g:Nat)(a:Ad)(c:Cf)(V:List Vd)(s:St)(Fp:Nat->Nat->Prop):Prop where
 sep:Sep h Fp
 tree:l9 h a.tr s.N c.no (Fp 0)
 gH:Eb h a.ta s.tb V.length (Fp 2)
 bk:Var 164 h a.bk (GM c a)
 f3:Fp 3=(·=a.bk)
 kids:k9 172 h a.kd s.kids c.eV c.quo (Fp 4)
 wait:k9 212 h a.wt s.wait c.eH c.quo (Fp 5)
 who:VH h a.wh s.sc c.pe c.bH c.dec s.gone (Fp 6)
 kz:Clock.CI 217 h a.kz s.now (Clock.fB c.win)
 f7:Fp 7=(·=a.kz)
 var:Var 147 h g (O9 c a s.left)
 f8:Fp 8=(·=g)
 vals:aj 2 h c.vals (jx V)
 off:∀k i,Fp k i->¬In c.vals i
 can:Can c V
theorem aR.x(p:aR h g a c V s Fp):jO h g a c V s Fp:=⟨p.sep,p.tree,p.gH,p.bk,p.f3,p.kids,p.wait,p.who,p.kz,p.f7,p.var,p.f8,p.vals,p.off,p.can⟩
theorem jO.b(p:jO h g a c V s Fp)(w:eZ h a.we a.tr s.N (bZ (aL V) s.tb s.N) (Fp 1)):aR h g a c V s Fp:=⟨p.sep,p.tree,w,p.gH,p.bk,p.f3,p.kids,p.wait,p.who,p.kz,p.f7,p.var,p.f8,p.vals,p.off,p.can⟩
theorem jO.SF(p:jO h g a c V s Fp):∀i,In c.vals i->i<h.size:=λi⟨l,b,f⟩=>by
 have k:=p.can.len;obtain⟨v,j⟩:∃v,V[0]? =some v:=⟨_,alG ω⟩;have d:=p.vals.get l b 0 v.tv (by simp_all);have e:=d.1;have:=xY e;omega
theorem jO.ext(p:jO h g a c V s Fp)(f:Ext h h'):jO h' g a c V s Fp:=
 ⟨p.sep.ext f,p.tree.ext f,p.gH.ext f,p.bk.ext f,p.f3,p.kids.only (Q:=λ_=>False) (.an f) λ_ _ b=>b,p.wait.only (Q:=λ_=>False) (.an f) λ_ _ b=>b,p.who.only (Q:=λ_=>False) (.an f) λ_ _ b=>b,
  p.kz.ext f,p.f7,p.var.ext f,p.f8,p.vals.ext f,p.off,p.can⟩
theorem jO.adH{S':Nat->Prop}(p:jO h g a c V s Fp)(st:Step (Fp 1) h S' h')(lt:∀i,S' i->i<h'.size):jO h' g a c V s (nT Fp 1 S'):=by
 have o:∀k,k≠1->∀i,Fp k i->¬Fp 1 i:=λk b=>p.sep.off b;refine⟨p.sep.step st lt,?_,?_,?_,?_,?_,?_,?_,?_,?_,?_,?_,?_,I2 p.off p.SF st,p.can⟩
 ·exact p.tree.only st.only (o 0 δ)
 ·exact p.gH.only st.only (o 2 δ)
 ·exact p.bk.only st.only (o 3 δ _ (by rw[p.f3]))
 ·exact p.f3
 ·exact p.kids.only st.only (o 4 δ)
 ·exact p.wait.only st.only (o 5 δ)
 ·exact p.who.only st.only (o 6 δ)
 ·exact p.kz.only st.only (o 7 δ _ (by rw[p.f7]))
 ·exact p.f7
 ·exact p.var.only st.only (o 8 δ _ (by rw[p.f8]))
 ·exact p.f8
 ·exact TV.ck st.only p.vals λi d e=>p.off 1 i e d
theorem jO.KN{S':Nat->Prop}{N':List Nd}(p:jO h g a c V s Fp)(t:l9 h' a.tr N' c.no S')(st:Step (Fp 0) h S' h'):jO h' g a c V {s with N:=N'} (nT Fp 0 S'):=by
 have o:∀k,k≠0->∀i,Fp k i->¬Fp 0 i:=λk b=>p.sep.off b;refine⟨p.sep.step st t.lt,?_,?_,?_,?_,?_,?_,?_,?_,?_,?_,?_,?_,I2 p.off p.SF st,p.can⟩
 ·grind [bY]
 ·exact p.gH.only st.only (o 2 δ)
 ·exact p.bk.only st.only (o 3 δ _ (by rw[p.f3]))
 ·exact p.f3
 ·exact p.kids.only st.only (o 4 δ)
 ·exact p.wait.only st.only (o 5 δ)
 ·exact p.who.only st.only (o 6 δ)
 ·exact p.kz.only st.only (o 7 δ _ (by rw[p.f7]))
 ·exact p.f7
 ·exact p.var.only st.only (o 8 δ _ (by rw[p.f8]))
 ·exact p.f8
 ·exact TV.ck st.only p.vals λi d e=>p.off 0 i e d
theorem jO.FD{S':Nat->Prop}{t':Tb}(p:jO h g a c V s Fp)(t:Eb h' a.ta t' V.length S')(st:Step (Fp 2) h S' h'):jO h' g a c V {s with tb:=t'} (nT Fp 2 S'):=by
 have o:∀k,k≠2->∀i,Fp k i->¬Fp 2 i:=λk b=>p.sep.off b;refine⟨p.sep.step st t.lt,?_,?_,?_,?_,?_,?_,?_,?_,?_,?_,?_,?_,I2 p.off p.SF st,p.can⟩
 ·exact p.tree.only st.only (o 0 δ)
 ·grind [bY]
 ·exact p.bk.only st.only (o 3 δ _ (by rw[p.f3]))
 ·exact p.f3
 ·exact p.kids.only st.only (o 4 δ)
 ·exact p.wait.only st.only (o 5 δ)
 ·exact p.who.only st.only (o 6 δ)
 ·exact p.kz.only st.only (o 7 δ _ (by rw[p.f7]))
 ·exact p.f7
 ·exact p.var.only st.only (o 8 δ _ (by rw[p.f8]))
 ·exact p.f8
 ·exact TV.ck st.only p.vals λi d e=>p.off 2 i e d
theorem jO.aay{S':Nat->Prop}{k tb:Nat}{L:List Nd}{own:Nat->Int}(p:jO h g a c V s Fp)(q:k≠1)(w:eZ h a.we tb L own (Fp 1))(st:Step (Fp k) h S' h'):eZ h' a.we tb L own (nT Fp k S' 1):=by
 rw[aB (λe=>q e.symm)];exact w.only st.only (p.sep.off (λe=>q e.symm))
theorem zf:(aL V).length=V.length:=by simp[aL]
theorem RX{t:Tb}{st:List Int}{who:Int}{r:Bs 32}(h:eB t who=none):qH t st who r=0:=by
 unfold qH;split
 ·rename_i a;unfold eB at h;rw[if_pos a]at h;unfold aK;rw[h];split<;>rfl
 ·rfl
theorem Ej{B:Nat}{t:Tb}{S:Nat->Prop}(A:Var 164 h B (GM c a))(gH:Eb h a.ta t V.length S)(E:aj 2 h c.vals (jx V)){who:Int}{root:Bs 32}(H:∀h',Ext h h'->R (TV.i (qH t (aL V) who root)).val h'):
 Cl 171 [.ptr (PT B),.i who,.bytes 32 root] h R:=by
 apply ze;refine aa λQ v1 d T=>?_;obtain⟨r,U,W,X,s,Y⟩:=gH.ext d;refine⟨_,(A.ext d).ah rfl,CD s λC w=>⟨_,_,_,_,rfl,?_⟩⟩;refine aa λZ D F s3=>aq D rfl rfl λf v4 f4 s4=>?_;have y:=alo F f4 λi G=>alw (alz G);have o:=w.trans y;have g:=d.trans o;have p:∀(q:af)(n:Int),Ext h q->qH t (aL V) who root=n->R (TV.i n).val q:=λq n x e=>by rw[<-e];exact H q x
 cases u:eB t who with
 |none=>
  have:(kI t who).2=false:=by grind [KI]
  rw[this];exact alR (p f 0 g (RX u))
 |some v=>
  have I:(kI t who).2=true:=by grind [KI]
  have J:(kI t who).1=v:=by simp_all [kI]
  rw[I];rw[J]at v4
  have j:0<=who/\who<V.length:=Classical.byContradiction λK=>by
   have:=Kc s.ok K;simp_all
  have L:t.bE.getD who.toNat none=some v:=by
   unfold eB at u
   rwa [if_pos j.1]at u
  have k:qH t (aL V) who root=if uA t who=true then 0 else if v.target=root then jh (aL V) who.toNat else 0:=by
   unfold qH aK uA;rw[if_pos j.1,L]
  refine alD ⟨_,((A.ext d).ext o).ah rfl,HA (s.ext o) ⟨_,rfl,?_⟩⟩;refine alv (λb=>p f 0 g ?_) λb=>?_
  ·have b:uB t V.length who=false:=by simpa using b
   unfold uB at b;rw[show Ra V.length who=true from decide_eq_true j,Bool.true_and]at b;rw[k,if_pos (by simpa using b)]
  ·have b:uB t V.length who=true:=by simpa using b
   unfold uB at b;rw[show Ra V.length who=true from decide_eq_true j,Bool.true_and]at b;have M:¬uA t who=true:=by simpa using b
   rw[if_neg M]at k;have N:Var 124 f C.size v.tv:=v4;refine⟨_,N.at.2.2,_,((v1.ext w).ext y).bytes,?_⟩;dsimp only;rw[show decide (v.target.l=root.l)=decide (v.target=root)from Gb _ _];refine alv (λm=>p f 0 g ?_) λm=>?_
   ·have:¬v.target=root:=by simpa using m
    rw[k,if_neg this]
   ·have m:v.target=root:=by simpa using m
    rw[if_pos m]at k;have el:=E.len;rw[aly]at el;refine⟨_,((A.ext d).ext o).ah rfl,(E.ext g).read j.1 ω λl tv ha z O=>?_⟩;rw[alx]at z;obtain⟨x,P,rfl⟩:=alU.1 z;refine⟨x.cF,O.1,p f _ g ?_⟩;rw[k];unfold jh aL;rw[alH,alx,P];rfl
theorem BO{q:Nat}{t:Tb}{S:Nat->Prop}(A:Var 164 h q (GM c a))(gH:Eb h a.ta t V.length S)(B:aj 2 h c.vals (jx V))(E:wR (aL V))(I:V.length<1000){root:Bs 32}(H:∀h',Ext h h'->R (TV.i (pW t (aL V) root)).val h'):
 Cl 297 [.ptr (PT q),.bytes 32 root] h R:=by
 apply Ca;delta eG aJ iZ cr gI bJ bK;refine aa λl v1 g u=>⟨c.vals,(A.ext g).ah rfl,?_⟩;have el:=B.len;rw[aly]at el;have key:∀n,n<=V.length->0<=tot n (λj=>aK t (aL V) j root)/\tot n (λj=>aK t (aL V) j root)<4611686018427387904:=λn d=>M0 E root (by simp_all [zf]);refine⟨λσ m=>0<=σ.2/\σ.2<=V.length/\Ext l m/\σ.1=tot σ.2.toNat (λj=>aK t (aL V) j root),λσ _=>(V.length-σ.2).toNat,⟨alE 0,ω,alC _,rfl⟩,?_⟩;rintro⟨n,i⟩ o ⟨k,p,f,d⟩;dsimp only at k p d⊢;have b:=g.trans f;refine ID (λr=>⟨_,(v1.ext f).bytes,?_⟩) λr=>?_
 ·refine Ej (A.ext b) (gH.ext b) (B.ext b) λv s=>⟨_,rfl,?_⟩;have w:=key (i.toNat+1) ω
  have e:n+qH t (aL V) i root=tot (i.toNat+1) (λj=>aK t (aL V) j root):=by
   rw[jv,d];unfold qH;rw[if_pos k]
  dsimp only;rw[e,wrap_i64 ω ω,wrap_i64 ω ω];exact⟨⟨ω,ω,f.trans s,by grind⟩,ω⟩
 ·have:pW t (aL V) root=n:=by
   grind [tot,zf,pW]
  rw[<-this];exact H o b
theorem KO{q:List Dl}{D:Sl}{tr w:Nat}{L:List Nd}{most:Int}{own:Nat->Int}{H E:Nat->Prop}(I:l9 h tr L most H)(J:eZ h w tr L own E)(M:∀i,H i->¬E i)
 (pos:∀i,i<L.length->0<=own i)(U:tot L.length own<4611686018427387904)(e:aj 33 h D (q.map z_))(W:∀i,In D i->¬E i)(Z:q.length<1000)(ok:Gr L q own)
 (hr:∀h' a,eZ h' w tr L (laid L q own) a->Step E h a h'->R (TV.i 0).val h'):Cl 236 [.ptr (PT w),.slice D] h R:=by
 obtain⟨r,A,b,rfl⟩:=I;obtain⟨O,X,B,G,c,rfl⟩:=J;refine JZ c b M (by simp) (by simp) (by simp) (by simp) (by simp[CB]) (by simp[CB]) pos U e W Z ok λh' O S B G p st=>hr h' _ ⟨O,S,B,G,p,rfl⟩ st
theorem XI{L:List Nd}{x:Nd}{i:Nat}(h:i<L.length):bQ (L++[x]) i=bQ L i:=by
 simp_all [bQ,List.getElem?_append_left]
theorem T9{x:Nd}{D:Sl}{q:List Dl}{tr w:Nat}{L:List Nd}{most:Int}{own:Nat->Int}{H E:Nat->Prop}(I:rz L most)(J:l9 h tr (L++[x]) most H)(M:eZ h w tr L own E)(U:∀i,H i->¬E i)
 (W:own L.length=0)(pos:∀i,i<L.length+1->0<=own i)(ac:tot L.length own<4611686018427387904)(e:aj 33 h D (q.map z_))(Z:∀i,In D i->¬E i)(ab:q.length<1000)(ok:Gr (L++[x]) q own)
 (hr:∀h' a,eZ h' w tr (L++[x]) (laid (L++[x]) q own) a->Step E h a h'->R (TV.i 0).val h'):Cl 236 [.ptr (PT w),.slice D] h R:=by
 obtain⟨r,A,b,rfl⟩:=J;obtain⟨O,X,B,G,d,rfl⟩:=M;have up:=I.tree;have el:(L++[x]).length=L.length+1:=by simp
 have f:Up (L.length+1) (bQ (L++[x])):=by rw[<-el];exact b.ok.tree
 have g:∀i,0<i->i<L.length->bQ L i=bQ (L++[x]) i:=λi _ c=>(XI c).symm;refine JZ d b U (by simp) (by simp) (by simp) (by simp) ?_ ?_ (by simp_all) (by simp_all [jv]) e Z ab ok λh' O S B G p st=>hr h' _ ⟨O,S,B,G,p,rfl⟩ st
 ·rw[el];exact Vw (λ_ _=>rfl) W
 ·rw[el];refine Vw (λi c=>?_) ?_
  ·unfold dh
   grind [ZP]
  simp_all [dh,ZQ]
theorem VM(h:af)(x:Dl):aj 33 (h.push (row (alp [alI [.bytes 32 x.1,.i x.2]]) 314)) (alJ (some (Vc.Loc.mk h.size 0)) 1 1) ([x].map z_):=
 (Vc.Own.new (T:=314) (sz:=33) h [z_ x] λt a=>by rw[List.mem_singleton.1 a];exact MP x).elems
theorem Gy{I:Nat}{L:List Nd}{own:Nat->Int}{J q:Nat->Prop}(M:Var 164 h I (GM c a))(O:l9 h a.tr L c.no J)(B:eZ h a.we a.tr L own q)(W:∀i,J i->¬q i)
 (pos:∀i,i<L.length->0<=own i)(Z:tot L.length own<4611686018427387904){r:Bs 32}{n:Int}(U:-4611686018427387904<n/\n<4611686018427387904)(E:∀i,i<L.length->0<=mA L own r n i)(ab:tot L.length (mA L own r n)<4611686018427387904)
 (H:∀h' e,eZ h' a.we a.tr L (mA L own r n) e->Step q h e h'->R (alA []).val h'):Cl 173 [.ptr (PT I),.bytes 32 r,.i n] h R:=by
 apply Cb;delta MH j3 jN fP cr d_ jW bz bJ fD;have t:=B.lt;refine aa λK v1 f N=>⟨_,(M.ext f).ah rfl,r,v1.bytes,?_⟩;obtain⟨P,A,u,Q⟩:=O.ext f;refine dM u λg j=>⟨_,rfl,ID (λb=>?_) λb=>?_⟩
 ·have d:=f.trans j;refine⟨_,(M.ext d).ah rfl,r,(v1.ext j).bytes,alB _ _,?_⟩;have v:=VM g (r,n);have w:=alB g (row (alp [alI [.bytes 32 r,.i n]]) 314);have m:=d.trans w;have o:mA L own r n=laid L [(r,n)] own:=by unfold mA laid;rw[if_pos b];rfl
  obtain⟨k,y,S,x,T,V,p⟩:=fG b
  have X:mA L own r n k=own k+n:=by
   unfold mA bump;rw[if_pos b,if_pos ω]
  have Y:=E k p;have b3:=DX L.length E k p
  have ok:Gr L [(r,n)] own:=by
   refine⟨b,U.1,U.2,?_,?_,?_⟩
   ·simp_all
   ·simp only[x,Int.toNat_natCast];omega
   ·unfold Gr;rw[show bump own (place (r,n).fst L).toNat (r,n).snd=mA L own r n by unfold mA;rw[if_pos b]];exact⟨E,ab⟩
  refine KO (O.ext m) (B.ext m) W pos Z v (λi⟨l,z,C⟩ D=>?_) (by simp) ok λF e s G=>⟨_,rfl,?_⟩
  ·cases z;have:=t i D;have:=d.size;simp only at C;omega
  ·rw[<-o]at s;exact H F e s (.cut m G)
 ·have d:=f.trans j;have o:mA L own r n=own:=by unfold mA;rw[if_neg b]
  rw[o]at H;exact H g q (B.ext d) (.an d)
theorem aR.st(p:aR h g a c V s Fp):wR (aL V):=Ka p.can
theorem aR.tok(p:aR h g a c V s Fp):rz s.N c.no:=by obtain⟨r,A,b,d⟩:=p.tree;exact b.ok
theorem aR.ag0(p:aR h g a c V s Fp):wQ s.tb V.length:=by obtain⟨r,d,e,f,b,i⟩:=p.gH;exact b.ok
theorem jO.tok(p:jO h g a c V s Fp):rz s.N c.no:=by obtain⟨r,A,b,d⟩:=p.tree;exact b.ok
theorem Np(p:aR h g a c V s Fp){root parent:Bs 32}{slot:Int}
 (q:∀h' B,aR h' g a c V {s with N:=gw s.N c.no root parent slot} B->Step (dm Fp) h (dm B) h'->R (TV.i (nV s.N c.no root parent slot)).val h'):
 Cl 266 [.ptr (PT a.bk),.bytes 32 root,.bytes 32 parent,.i slot] h R:=by
 apply Cc;delta MH j3 jN aD cr dJ d_ jW bz dX bJ aT bA fD;refine aa λh1 v1 C s1=>aa λU W j s2=>alD ⟨_,(p.ext (C.trans j)).bk.ah rfl,root,(v1.ext j).bytes,parent,W.bytes,?_⟩;have m:=C.trans j;have p2:=p.ext m;have kl:=p.can.len;obtain⟨r,A,X,Y⟩:=p2.tree;refine QN X λD A' Z f=>⟨_,rfl,?_⟩;rw[<-Y]at f;obtain⟨ab,E⟩:∃S,S=lH a.tr r A':=⟨_,rfl⟩;rw[<-E]at f;have d:=p2.x.KN ⟨r,A',Z,E⟩ f;have k:=p2.x.aay δ p2.FP f;obtain⟨G,ac⟩:∃F,F=nT Fp 0 ab:=⟨_,rfl⟩;have t3:Step (dm Fp) U (dm G) D:=by simp_all [Step.all]
 have H:=(v1.ext j).only f.only λn=>by have:=p.sep.lt 0 _ n;omega
 rw[<-ac]at d k;refine alv (λe=>?_) λe=>?_
 ·have e:=by simpa using e
  have o:gw s.N c.no root parent slot=s.N:=by unfold gw;rw[if_neg e]
  rw[o]at d q;exact q D G (d.b k) (.cut m t3)
 have e:nV s.N c.no root parent slot=0:=by simpa using e
 have I:=p.tok;have o:gw s.N c.no root parent slot=s.N++[⟨root,slot,place parent s.N⟩]:=by unfold gw;rw[if_pos e]
 rw[e]at q;rw[o]at q d;obtain⟨x,J⟩:∃x:Nd,x=⟨root,slot,place parent s.N⟩:=⟨_,rfl⟩;rw[<-J]at d q;have K:x.root=root:=by rw[J]
 have L:rz (s.N++[x]) c.no:=d.tok;refine⟨_,d.bk.ah rfl,root,H.bytes,root,H.bytes,BO d.bk d.gH d.vals p.st ω λu v=>⟨_,rfl,v,alB _ _,?_⟩⟩;have M:=VM u (root,pW s.tb (aL V) root);have O:=alB u (row (alp [alI [.bytes 32 root,.i (pW s.tb (aL V) root)]]) 314);generalize u.push (row (alp [alI [.bytes 32 root,.i (pW s.tb (aL V) root)]]) 314)=h5 at M O⊢;have w:=v.trans O;have y:=d.ext w;have ad:=k.lt;have P:=aci (t:=s.tb) p.st L.nodup;rw[K]at P;refine T9 I y.tree (k.ext w) (y.sep.off δ) (j7 (als _)) (λi _=>rE p.st i) (uC p.st I.nodup) M (λi⟨l,hl,n⟩ hw=>?_) (by simp) P λh6 ae z Q=>⟨_,rfl,?_⟩
 ·cases hl;have:=ad i hw;have:=v.size;simp only at n;omega
 have T:=Rc (st:=aL V) (t:=s.tb) L.nodup;rw[K]at T;rw[<-T]at z;exact q h6 _ ((y.adH Q z.lt).b (by rw[bY];exact z)) (.cut m ((t3.trans (Step.an w)).trans (Step.all Q)))
theorem Nq{own:Nat->Int}{r:Bs 32}{n:Int}(p:jO h g a c V s Fp)(w:eZ h a.we a.tr s.N own (Fp 1))(pos:∀i,i<s.N.length->0<=own i)(q:tot s.N.length own<4611686018427387904)
 (A:-4611686018427387904<n/\n<4611686018427387904)(B:∀i,i<s.N.length->0<=mA s.N own r n i)(E:tot s.N.length (mA s.N own r n)<4611686018427387904)
 (H:∀h' b,jO h' g a c V s b->eZ h' a.we a.tr s.N (mA s.N own r n) (b 1)->Step (dm Fp) h (dm b) h'->R (alA []).val h'):
 Cl 173 [.ptr (PT a.bk),.bytes 32 r,.i n] h R:=
 Gy p.bk p.tree w (p.sep.off δ) pos q A B E λh' S' d st=>H h' _ (p.adH st d.lt) (by simp_all [bY]) (Step.all st)
end
end Gate
namespace Gate
open Board (Vd Cf Vt jx aq wI)
open Pool (It)
def iS(N:List Nd)(t:Tb)(v:Vt):Int×Tb:=match nodeAt N (place v.target N)with
 |none=>(6,t)
 |some x=>if v.slot<x.slot then(6,t)else c_ t v
theorem XJ{L:List Nd}{own:Nat->Int}{r:Bs 32}:mA L own r 0=own:=by
 unfold mA;split
 ·funext k;unfold bump;split<;>omega
 ·rfl
theorem XK{st:List Int}{t:Tb}{L:List Nd}(o:wR st)(q:(L.map Nd.root).Nodup){w:Nat}(A:w<st.length)(r:Bs 32):
 (∀i,i<L.length->0<=mA L (bZ st t L) r (-(aK t st w r)) i)/\tot L.length (mA L (bZ st t L) r (-(aK t st w r)))<4611686018427387904:=by
 have f:=lJ (t:=t) o w r
 have e:∀i,i<L.length->0<=mA L (bZ st t L) r (-(aK t st w r)) i/\mA L (bZ st t L) r (-(aK t st w r)) i<=bZ st t L i:=λi a=>by
  have b:L[i]? =some L[i]:=alG a;have d:=rE (t:=t) (L:=L) o i;rw[IP q b];split
  ·rename_i h;have c:=WR (t:=t) o A b;rw[<-h]at c;omega
  ·omega
 have d:=uC (t:=t) o q;have c:=Ov L.length λi a=>(e i a).2;exact⟨λi a=>(e i a).1,ω⟩
section
variable{R:Rq}{h h':af}{g:Nat}{a:Ad}{c:Cf}{V:List Vd}{s:St}{Fp:Nat->Nat->Prop}
theorem T_{T:TypeId}{b:Nat}{x:Vt}(v:Var T h b x.tv){K:Int->Int->Bs 32->Prop}(q:K x.who x.slot x.target):
 ∃(n:Int),∃(m:Int),∃(k:Bs 32),(ah h b 0 (.i n)/\ah h b 1 (.i m)/\av h b 2 32 k)/\K n m k:=⟨_,_,_,v.at,q⟩
theorem Ua(p:aR h g a c V s Fp){v:Vt}
 (Z:∀h' ae,aR h' g a c V {s with tb:=(iS s.N s.tb v).2} ae->Step (dm Fp) h (dm ae) h'->R (TV.i (iS s.N s.tb v).1).val h'):
 Cl 105 [.ptr (PT a.bk),v.tv] h R:=by
 apply AA (PT a.bk) v.who v.slot v.target;delta j3 eG js aD wq Dn dx cu dJ bz dX bJ aT bA fD;refine aa λh1 v1 x1 s1=>alD ?_;have v1:Var 124 h1 h.size v.tv:=v1;have p1:=p.ext x1;have D:=p.st;have K:=p.tok;have a6:=p.ag0;have sl:(aL V).length=V.length:=zf;intro J HJ
 have ac:∀(d:af),iS s.N s.tb v=(6,s.tb)->Ext h d->R (TV.i 6).val d:=λd e x=>by
  rw[e]at Z;exact Z d Fp (p.ext x) (.an x)
 obtain⟨F,B⟩:∃F,F=c8 s.N (place v.target s.N):=⟨_,rfl⟩
 have node:∀(d:af)(q:Nat),Ext h1 d->Var 69 d q F.1.tv->J (some ⟨a.bk,0⟩,some ⟨a.tr,0⟩,some ⟨a.bk,0⟩,some ⟨a.tr,0⟩,v.target,place v.target s.N,F.2,some ⟨q,0⟩,F.2) d:=by
  intro z q y vq;have M:=x1.trans y;refine HJ _ z ?_;intro J1 al;dsimp only;refine alv (λC=>ac z ?_ M) λC=>?_
  ·have C:F.2=false:=by simpa using C
   unfold iS;unfold c8 at B;split at B
   ·rw[B]at C;cases C
   ·rename_i G;rw[G]
  have C:F.2=true:=by simpa using C
  have am:nodeAt s.N (place v.target s.N)=some F.1:=by
   unfold c8 at B;split at B
   ·rename_i x hx;rw[hx,B]
   ·rw[B]at C;cases C
  have N:Var 124 z h.size v.tv:=alF (t:=v.tv) v1 y;refine⟨_,vq.at.2.1,v.slot,N.ah rfl,ID (λa7=>ac z ?_ M) λa8=>?_⟩
  ·unfold iS;rw[am];simp only[a7,if_true]
  have hT:iS s.N s.tb v=c_ s.tb v:=by
   unfold iS;rw[am];simp only[a8,if_false]
  rw[hT]at Z;clear ac;refine al 0 z ?_;clear al J1;intro J2 a9;have p2:=p.ext M;obtain⟨j,ad⟩:∃j,j=kI s.tb v.who:=⟨_,rfl⟩
  have old:∀(d:af)(q:Nat),Ext z d->z.size<=q->Var 124 d q j.1.tv->J2 (some ⟨a.bk,0⟩,some ⟨a.ta,0⟩,v.who,j.2,some ⟨q,0⟩,j.2) d:=by
   intro H q l hq vo;have ao:=M.trans l;have O:=p.ext ao;have v4:Var 124 H h.size v.tv:=alF (t:=v.tv) N l;have a':h.size<=q:=by have:=M.size;omega
   refine a9 _ H ?_;dsimp only;refine⟨v.who,v4.ah rfl,_,vo.at.2.2,Ej O.bk O.gH O.vals λu P=>⟨_,rfl,_,(O.bk.ext P).ah rfl,?_⟩⟩;have p5:=O.ext P;have ba:=ao.trans P;have f:Var 124 u h.size v.tv:=alF (t:=v.tv) v4 P;have ap:Var 124 u q j.1.tv:=alF (t:=j.1.tv) vo P;have bx:=f.lt;have bN:=ap.lt;obtain⟨tr,La,Ou,ps,gH,hS⟩:=p5.gH;refine T_ (x:=v) f (Tz gH λQ ar bb T=>⟨_,rfl,?_⟩);rw[<-hS]at T;obtain⟨aw,aE⟩:∃S,S=uY a.ta tr La Ou ar:=⟨_,rfl⟩;rw[<-aE]at T;have X6:=p5.x.FD (t':=(c_ s.tb v).2) ⟨tr,La,Ou,ar,bb,aE⟩ T;have w6:=p5.x.aay δ p5.FP T;have t6:Step (dm Fp) u (dm (nT Fp 2 aw)) Q:=Step.all T;generalize nT Fp 2 aw=F6 at X6 w6 t6;have a0:∀{d:af}{F':Nat->Nat->Prop}{b:Nat}{t:TV},Step (dm Fp) u (dm F') d->h.size<=b->Var 124 u b t->Var 124 d b t:=λst C vb=>vb.only st.only λ⟨k,hk⟩=>by have:=p.sep.lt k _ hk;omega
   have done:∀(d:af)(F':Nat->Nat->Prop),jO d g a c V {s with tb:=(c_ s.tb v).2} F'->Step (dm Fp) u (dm F') d->eZ d a.we a.tr s.N (bZ (aL V) (c_ s.tb v).2 s.N) (F' 1)->R (TV.i (c_ s.tb v).1).val d:=
    λd F' X st w=>Z d F' (X.b w) (.cut ba st)
   obtain⟨code,I⟩:∃k,k=(c_ s.tb v).1:=⟨_,rfl⟩;rw[<-I]at done⊢;intro J3 a1;by_cases U:code=0\/code=2
   ·have bc:(c_ s.tb v).1=0\/(c_ s.tb v).1=2:=by rw[<-I];exact U
    obtain⟨a2,he,bd,bi⟩:=TA (st:=aL V) a6 bc;have hw:v.who.toNat<(aL V).length:=by rw[sl];omega
    have bj:qH s.tb (aL V) v.who j.1.target=aK s.tb (aL V) v.who.toNat j.1.target:=by unfold qH;rw[if_pos a2.1]
    rw[bj];have bk:=lJ (t:=s.tb) D v.who.toNat j.1.target;have bl:=MZ (t:=s.tb) D v.who.toNat j.1.target;obtain⟨l1,l2⟩:=XK (t:=s.tb) D K.nodup hw j.1.target;obtain⟨ab,a3⟩:∃n,n=aK s.tb (aL V) v.who.toNat j.1.target:=⟨_,rfl⟩
    have s1:∀r,aK s.tb (aL V) v.who.toNat r=if j.1.target=r then ab else 0:=λr=>by
     have:=WQ (st:=aL V) (t:=s.tb) v.who.toNat r;rw[show((v.who.toNat:Nat):Int)=v.who by omega,<-ad]at this;rw[a3];exact this
    rw[<-a3]at bk bl l1 l2⊢;rw[show alS .i64 (0-ab)=-ab by rw[wrap_i64 ω ω];omega]
    have first:=@Nq (λw d=>w=(alA []).val/\J3 PUnit.unit d) Q g a c V {s with tb:=(c_ s.tb v).2} F6 (bZ (aL V) s.tb s.N) j.1.target (-ab) X6 w6 (λi _=>rE D i) (uC D K.nodup) ⟨ω,ω⟩ l1 l2 λh8 F8 W w8 bm=>⟨rfl,a1 _ h8 (by
     have t8:=t6.trans bm;by_cases c0:code=0
     ·refine ID (λ_=>?_) λG=>absurd c0 G;have v8:Var 124 h8 h.size v.tv:=a0 t8 (als _) f;refine⟨_,v8.at.2.2,v.who,v8.ah rfl,_,v8.at.2.2,Ej W.bk W.gH W.vals λh9 x9=>⟨_,rfl,x9,?_⟩⟩;have e9:qH (c_ s.tb v).2 (aL V) v.who v.target=aK (c_ s.tb v).2 (aL V) v.who.toNat v.target:=by unfold qH;rw[if_pos a2.1]
      rw[e9];have m:=MY (L:=s.N) K.nodup hw he s1 (bd (by rw[<-I];exact c0));have n0:=lJ (t:=(c_ s.tb v).2) D v.who.toNat v.target;have n1:=MZ (t:=(c_ s.tb v).2) D v.who.toNat v.target;refine Nq (W.ext x9) (w8.ext x9) l1 l2 ⟨ω,n1⟩ (λi _=>by rw[<-m];exact rE D i) (by rw[<-m];exact uC D K.nodup) λbo bp br a4 bt=>⟨rfl,?_⟩;rw[<-m]at a4;exact done bo bp br ((t8.trans (Step.an x9)).trans bt) a4
     ·refine ID (λd=>absurd d c0) λ_=>?_;have c2:code=2:=U.resolve_left c0;have m:=MY (L:=s.N) (r1:=j.1.target) (b:=0) K.nodup hw he s1 (λr=>by rw[bi (by rw[<-I];exact c2) r];split<;>rfl);rw[XJ]at m;rw[<-m]at w8;exact done h8 F8 W t8 w8)⟩
    have a5:Var 124 Q q j.1.tv:=a0 t6 a' ap;rcases U with c0|c2
    ·exact ID (λ_=>⟨_,a5.at.2.2,first⟩) λG=>absurd c0 G
    ·exact ID (λd=>ω) λ_=>If.dec.2 ⟨λ_=>⟨_,a5.at.2.2,first⟩,λG=>absurd c2 G⟩
   ·have n0:¬code=0:=λh=>U (.inl h);have n2:¬code=2:=λh=>U (.inr h);have e:=Re (L:=s.N) (WS (st:=aL V) (t:=s.tb) (v:=v) (by rw[<-I];exact n0) (by rw[<-I];exact n2));rw[<-e]at w6;exact ID (λd=>absurd d n0) λ_=>If.dec.2 ⟨λd=>absurd d n2,λ_=>a1 _ Q (ID (λd=>absurd d n0) λ_=>done Q F6 X6 t6 w6)⟩
  obtain⟨tr,La,Ou,ps,gH,hS⟩:=p2.gH;refine⟨_,p2.bk.ah rfl,v.who,N.ah rfl,CD gH λh3 o=>⟨_,_,_,_,rfl,aa λH v4 l s4=>⟨l,aq (t:=(kI s.tb v.who).1.tv) v4 rfl rfl λu f f5 s5=>?_⟩⟩,aa λh3 v3 o s3=>⟨o,CD (gH.ext o) λH l=>⟨_,_,_,_,rfl,aq (t:=(kI s.tb v.who).1.tv) (v3.ext l) rfl rfl λu f f5 s5=>?_⟩⟩⟩
  ·rw[<-ad]at f⊢;exact old u h3.size (o.trans (alo l f5 λi E=>alw (alz E))) o.size f
  ·rw[<-ad]at f⊢;exact old u z.size (alo (o.trans l) f5 λi E=>alw (alz E)) (als _) f
 obtain⟨r,A,Y,hS⟩:=p1.tree;refine⟨_,p1.bk.ah rfl,_,p1.bk.ah rfl,v.target,v1.at.2.2,dM Y λz y=>⟨_,rfl,y,?_⟩,aa λz N y s2=>⟨y,dM (Y.ext y) λh3 o=>⟨_,rfl,o,dg ((Y.ext y).ext o) λH l=>⟨_,_,_,_,rfl,?_⟩⟩⟩⟩
 ·refine⟨dg (Y.ext y) λh3 o=>⟨_,_,_,_,rfl,aa λH v4 l s4=>⟨l,aq (t:=(c8 s.N (place v.target s.N)).1.tv) v4 rfl rfl λu f f5 s5=>?_⟩⟩,aa λh3 v3 o s3=>⟨o,dg ((Y.ext y).ext o) λH l=>⟨_,_,_,_,rfl,aq (t:=(c8 s.N (place v.target s.N)).1.tv) (v3.ext l) rfl rfl λu f f5 s5=>?_⟩⟩⟩
  ·rw[<-B]at f⊢;exact node u h3.size ((y.trans o).trans (alo l f5 λi E=>alw (alz E))) f
  ·rw[<-B]at f⊢;exact node u z.size (y.trans (alo (o.trans l) f5 λi E=>alw (alz E))) f
 ·refine aq (t:=(c8 s.N (place v.target s.N)).1.tv) ((N.ext o).ext l) rfl rfl λu f f5 s5=>?_;rw[<-B]at f⊢;exact node u h1.size (alo ((y.trans o).trans l) f5 λi E=>alw (alz E)) f
end
end Gate
namespace Gate
open Board (Vd Cf Vt jx Et aq wI)
open Pool (rts eM Dw)
def KP(e:(Int×Int)×Bs 32):TV:=.agg [.i e.1.1,.i e.1.2,.bytes 32 e.2]
abbrev XL(l:List ((Int×Int)×Bs 32)):List TV:=l.map KP
theorem KQ(e:(Int×Int)×Bs 32):(KP e).size=34:=by rfl
theorem XM(e:(Int×Int)×Bs 32):(KP e).plain=true:=by rfl
theorem yO:(ctx.ti 255).bytes=48:=κ
theorem afR:(ctx.ti 255).size=34:=κ
theorem aex:(ctx.ti 255).z.size=34:=κ
def AB(t:Tb):List Vt:=t.bE.map λo=>o.getD ji
def FE(t:Tb):List Bool:=t.bE.map Option.isSome
def oP(b:Nat)(Fi La Ha Ou:Sl):Nat->Nat->Prop
 |0=>(·=b)
 |1=>In Fi
 |2=>In La
 |3=>In Ha
 |4=>In Ou
 |_=>λ_=>False
structure Lx(h:af)(b:Nat)(Fi La Ha Ou:Sl)(t:Tb)(n:Nat):Prop where
 var:Var 192 h b (.agg [.i n,.i t.slots,.slice Fi,.slice La,.slice Ha,.slice Ou])
 f:Vc.Own 255 34 h Fi (XL t.first)
 la:Vc.Own 124 34 h La (Et (AB t))
 ha:Vc.Own 4 1 h Ha (WM (FE t))
 ou:Vc.Own 4 1 h Ou (WM t.out)
 ok:wQ t n
 iz:t.first.length<50000
 sep:Sep h (oP b Fi La Ha Ou)
section
variable{R:Rq}{h h':af}{b n:Nat}{Fi La Ha Ou:Sl}{t:Tb}
theorem afS{x:(Int×Int)×Bs 32}{s:Sl}{l:List ((Int×Int)×Bs 32)}{K:Sl->af->Prop}(o:Vc.Own 255 34 h s (XL l))(q:l.length<100000)(E:∀a h',Vc.Own 255 34 h' a (XL (l++[x]))->ag (In s) h h'->(∀i,In a i->In s i\/h.size<=i)->K a h'):
 ∃new,cn (h.push (row (alp [alI [.i x.1.1,.i x.1.2,.bytes 32 x.2]]) 255)) (alJ (some (Vc.Loc.mk h.size 0)) 1 1) 34 new/\(∀v∈new,bU v=true)/\au ctx 255 s 1 new (h.push (row (alp [alI [.i x.1.1,.i x.1.2,.bytes 32 x.2]]) 255)) K:=by
 have c:=o.len;rw[aly]at c;refine cD (x:=KP x) afR aex (by rw[yO];decide) (by rw[yO];omega) o (KQ x) (XM x) λa h' g d e=>E a h' (by simp_all) d λi⟨l,q,j⟩=>?_;rcases e l q with⟨f,b,k⟩|b
 ·exact .inl ⟨f,b,ω⟩
 omega
def jP(b:Nat)(Fi La Ha Ou:Sl)(i:Nat):Prop:=dm (oP b Fi La Ha Ou) i
theorem Lx.only{S:Nat->Prop}(p:Lx h b Fi La Ha Ou t n)(f:ag S h h')(q:∀i,jP b Fi La Ha Ou i->¬S i):Lx h' b Fi La Ha Ou t n:=
 ⟨p.var.only f (q b ⟨0,rfl⟩),p.f.keep f λi a=>q i ⟨1,a⟩,p.la.keep f λi a=>q i ⟨2,a⟩,p.ha.keep f λi a=>q i ⟨3,a⟩,p.ou.keep f λi a=>q i ⟨4,a⟩,p.ok,p.iz,⟨p.sep.qx,λj i a=>by have:=p.sep.lt j i a;have:=f.size;omega⟩⟩
theorem Lx.ext(p:Lx h b Fi La Ha Ou t n)(x:Ext h h'):Lx h' b Fi La Ha Ou t n:=p.only (S:=λ_=>False) (.an x) λ_ _ a=>a
theorem Lx.lt(p:Lx h b Fi La Ha Ou t n){i:Nat}(q:jP b Fi La Ha Ou i):i<h.size:=by obtain⟨k,a⟩:=q;exact p.sep.lt k i a
theorem Lx.lf(p:Lx h b Fi La Ha Ou t n):Fi.len=t.first.length:=by have:=p.f.len;simp_all
theorem Lx.lla(p:Lx h b Fi La Ha Ou t n):La.len=n:=by have:=p.la.len;have:=p.ok.Ac;simp_all [AB,aly]
theorem aaz(p:Lx h b Fi La Ha Ou t n){who:Int}(q:R (alQ (Ra n who)).val h):Cl 243 [.ptr (PT b),.i who] h R:=by
 apply th;refine ID (λa=>⟨_,p.var.ah rfl,?_⟩) λa=>?_
 ·rw[show Ra n who=decide (who<n)from decide_eq_decide.2 ⟨λh=>h.2,λh=>⟨a,h⟩⟩]at q;exact q
 simp_all [decide_eq_false,Ra]
theorem VN{s:Sl}{l:List Bool}(o:aj 1 h s (WM l)){i:Int}(E:0<=i){v:Bool}(q:l[i.toNat]? =some v){K:Bool->Prop}(H:K v):
 0<=i/\i<(s.len:Int)/\Nn s.a λp=>∃c:Bool,ah h p.b (p.o+i.toNat*1) (Value.bool c)/\K c:=by
 have b:=o.len;have:=(List.getElem?_eq_some_iff.1 q).1;rw[aly]at b;refine o.read E ω λp t _ a d=>?_;rw[alx,q]at a;cases a;exact⟨v,d,H⟩
theorem aaA{s:Sl}{l:List ((Int×Int)×Bs 32)}(o:aj 34 h s (XL l)){i:Int}(E:0<=i){e:(Int×Int)×Bs 32}(q:l[i.toNat]? =some e){K:Int->Int->Bs 32->Prop}(H:K e.1.1 e.1.2 e.2):
 0<=i/\i<(s.len:Int)/\Nn s.a λl=>∃(n:Int),∃(m:Int),∃(k:Bs 32),(ah h l.b (l.o+i.toNat*34) (.i n)/\ah h l.b (l.o+i.toNat*34+1) (.i m)/\av h l.b (l.o+i.toNat*34+1+1) 32 k)/\K n m k:=by
 have b:=o.len;have:=(List.getElem?_eq_some_iff.1 q).1;rw[aly]at b;refine o.read E ω λp t _ a c=>?_;rw[alx,q]at a;cases a;exact⟨_,_,_,c,H⟩
theorem afT{T:TypeId}{b:Nat}{e:(Int×Int)×Bs 32}(v:Var T h b (KP e)){K:Int->Int->Bs 32->Prop}(q:K e.1.1 e.1.2 e.2):
 ∃(n:Int),∃(m:Int),∃(k:Bs 32),(ah h b 0 (.i n)/\ah h b 1 (.i m)/\av h b 2 32 k)/\K n m k:=⟨_,_,_,v.at,q⟩
theorem aaB(b:Nat)(Fi q La Ha Ou:Sl):nT (oP b Fi La Ha Ou) 1 (In q)=oP b q La Ha Ou:=by
 funext k
 match k with
 |0=>rfl
 |1=>rfl
 |2=>rfl
 |3=>rfl
 |4=>rfl
 |k+5=>rfl
theorem Ub(p:Lx h b Fi La Ha Ou t n){v:Vt}(bt:t.first.length<49999)
 (H:∀h' g,Lx h' b g La Ha Ou (c_ t v).2 n->Step (jP b Fi La Ha Ou) h (jP b g La Ha Ou) h'->R (TV.i (c_ t v).1).val h'):
 Cl 177 [.ptr (PT b),v.tv] h R:=by
 apply qP (PT b) v.who v.slot v.target;delta kU eG aJ aD iZ dx cu jX gI dX aN bK aT bA;have hs:=p.ok.slots;have C:=p.ok.take v;have W:=p.ok.Ac;have a4:=p.ok.uN;have lF:=p.lf;have blt:=p.var.lt;have z:=p.sep.qx;refine aa λw v1 D s1=>?_;have v1:=v1;have y:=p.ext D;intro X F
 have Y:=λhn G x=>by
  have e:c_ t v=(5,t):=by unfold c_;rw[if_pos (by rw[W];exact hn)]
  have:=H G Fi;rw[e]at this;exact this (p.ext x) (.an x)
 refine⟨v.who,v1.ah rfl,aaz y ⟨_,rfl,alv (λhn=>Y (λG=>?_) w D) λo=>⟨v.slot,v1.ah rfl,ID (λG=>Y (λm=>ω) w D) λg1=>⟨v.slot,v1.ah rfl,ID (λG=>Y (λm=>ω) w D) λg2=>?_⟩⟩⟩⟩
 ·grind [Ra,decide_eq_true]
 have o:=of_decide_eq_true (show Ra n v.who=true by grind);have can:0<=v.who/\v.who<t.bE.length/\0<=v.slot/\v.slot<=1073741824:=ω;refine F _ w ?_
 have d:c_ t v=if uA t v.who=true then((4:Int),t)else match lG (v.who,aP t v.slot) t.first with
  |some r=>if r=v.target then(1,t)else(2,{t with out:=t.out.set v.who.toNat true})
  |none=>match eB t v.who with
   |some l=>if aP t v.slot<aP t l.slot then(3,{t with first:=t.first++[((v.who,aP t v.slot),v.target)]})
    else(0,{t with bE:=t.bE.set v.who.toNat (some v),first:=t.first++[((v.who,aP t v.slot),v.target)]})
   |none=>(0,{t with bE:=t.bE.set v.who.toNat (some v),first:=t.first++[((v.who,aP t v.slot),v.target)]}):=by
  unfold c_;rw[if_neg (λm=>m can)]
  all_goals rfl
 have ao:=sL p.ok can.2.2.1 can.2.2.2;have a5:alS .i64 (Int.tdiv v.slot t.slots)=aP t v.slot:=wrap_i64 (by unfold aP at ao;omega) (by unfold aP at ao;omega);refine⟨Ou,y.var.ah rfl,v.who,v1.ah rfl,VN y.ou.elems o.1 (OG p.ok o.1 o.2) ?_⟩;refine alv (λI=>?_) λI=>?_
 ·rw[if_pos I]at d;rw[d]at H;exact H w Fi y (.an D)
 rw[if_neg (by rw[I];decide)]at d;refine⟨v.slot,v1.ah rfl,t.slots,y.var.ah rfl,ω,Fi,y.var.ah rfl,?_⟩;rw[a5]
 refine⟨λσ G=>0<=σ.2/\σ.2<=t.first.length/\Ext w G/\∀(j:Nat)(e:(Int×Int)×Bs 32),(j:Int)<σ.2->t.first[j]? =some e->e.1≠(v.who,aP t v.slot),λσ _=>((t.first.length:Int)-σ.2).toNat,
  ⟨alE 0,by dsimp only;omega,alC _,λj e L=>by dsimp only at L;omega⟩,?_⟩
 rintro⟨z0,i⟩ M ⟨i0,i1,N,Z⟩;dsimp only at i0 i1 Z⊢;have ab:=D.trans N;have p2:=y.ext N;have J:Var 124 M h.size v.tv:=alF (t:=v.tv) v1 N;refine ID (λa=>?_) λa=>?_
 ·obtain⟨e,K⟩:∃e,t.first[i.toNat]? =some e:=⟨_,alG ω⟩;refine aaA p2.f.elems i0 K ?_;refine aa λO v3 x3 s3=>aq (t:=KP e) v3 (KQ e).symm rfl λf v4 f4 s4=>?_;have P:Ext M f:=alo x3 f4 λi a=>alw (alz a);have ap:=ab.trans P;have s:Var 124 f h.size v.tv:=alF (t:=v.tv) J P;have u:=p2.ext P;have v4:Var 255 f M.size (KP e):=v4;rw[wrap_i64 (n:=i+1) ω ω]
  have next:e.1≠(v.who,aP t v.slot)->(0<=i+1/\i+1<=(t.first.length:Int)/\Ext w f/\∀(j:Nat)(e:(Int×Int)×Bs 32),(j:Int)<i+1->t.first[j]? =some e->e.1≠(v.who,aP t v.slot))/\((t.first.length:Int)-(i+1)).toNat<((t.first.length:Int)-i).toNat:=λa6=>
   ⟨⟨ω,ω,N.trans P,λj e' L ac=>by
     by_cases a7:j=i.toNat
     ·subst a7;rw[K]at ac;cases ac;exact a6
     ·exact Z j e' ω ac⟩,ω⟩
  intro X F;refine⟨_,v4.ah rfl,v.who,s.ah rfl,?_⟩;refine ID (λhw=>⟨_,v4.ah rfl,?_⟩) λhw=>F _ f (alD (next λh=>hw (by rw[h])));refine F _ f ?_;refine ID (λA=>?_) λA=>next λh=>A (by rw[h])
  have c:e.1=(v.who,aP t v.slot):=Prod.ext hw A;have hg:lG (v.who,aP t v.slot) t.first=some e.2:=Y3 p.ok.one (by rw[<-c];exact alV K);rw[hg]at d;refine⟨_,v4.at.2.2,_,s.at.2.2,?_⟩;dsimp only;rw[show decide (e.2.l=v.target.l)=decide (e.2=v.target)from Gb _ _];refine ID (λA=>?_) λA=>⟨Ou,u.var.ah rfl,v.who,s.ah rfl,?_⟩
  ·simp only[A,if_true]at d;rw[d]at H;exact H f Fi u (.an ap)
  ·simp only[A,if_false]at d;rw[d]at H C;refine u.ou.aH (sz:=1) (n:=1) (t:=.bool true) o.1 (by simp[a4];omega) rfl rfl λh6 o6 f6 s6=>?_;have of:∀k,k≠4->∀i,oP b Fi La Ha Ou k i->¬In Ou i:=λk c i a m=>c (z k 4 i a m);refine H h6 Fi ⟨u.var.only f6 (of 0 δ _ rfl),u.f.keep f6 (of 1 δ),u.la.keep f6 (of 2 δ),u.ha.keep f6 (of 3 δ),?_,C,p.iz,⟨p.sep.qx,λj i a=>by have:=u.sep.lt j i a;omega⟩⟩ ⟨(alP ap).trans (f6.mono λi a=>⟨4,a⟩),λi a=>.inl a⟩;simpa[WM,alY]using o6
 ·have hg:lG (v.who,aP t v.slot) t.first=none:=CA.2 λhm=>by
   obtain⟨e,K,c⟩:=alM.1 hm;obtain⟨j,L,rfl⟩:=List.getElem_of_mem K;exact Z j _ ω (alG L) c
  rw[hg]at d;simp only at d;refine⟨Fi,p2.var.ah rfl,v.who,J.ah rfl,v.target,J.at.2.2,alB _ _,?_⟩;have bx:=ab.size;have bN:=J.lt;refine afS (x:=((v.who,aP t v.slot),v.target)) p2.f ω λg O f3 B n3=>?_;have Q:∀k,k≠1->∀i,oP b Fi La Ha Ou k i->¬In Fi i:=λk c i a m=>c (z k 1 i a m);have a8:Step (oP b Fi La Ha Ou 1) M (In g) O:=⟨B,n3⟩;have S:=p2.sep.step a8 (f3.g_);rw[aaB]at S;have z3:=S.qx;have v3:Var 192 O b (.agg [.i n,.i t.slots,.slice Fi,.slice La,.slice Ha,.slice Ou]):=p2.var.only B (Q 0 δ _ rfl);have a9:=p2.la.keep B (Q 2 δ);have a':=p2.ha.keep B (Q 3 δ);have ba:=p2.ou.keep B (Q 4 δ);have ar:∀i,jP b Fi La Ha Ou i->i<h.size:=λi a=>p.lt a;have w3:Var 124 O h.size v.tv:=Var.only (t:=v.tv) J B λa=>by have:=ar _ ⟨1,a⟩;omega
  refine aI v3 (i:=2) (t:=.slice g) rfl rfl rfl rfl λf v4 f4 s4=>?_;have v4:Var 192 f b (.agg [.i n,.i t.slots,.slice g,.slice La,.slice Ha,.slice Ou]):=v4;have T:∀k,k≠0->∀i,oP b g La Ha Ou k i->¬i=b:=λk c i a m=>c (z3 k 0 i a m);have aw:=f3.keep f4 (T 1 δ);have ad:=a9.keep f4 (T 2 δ);have ae:=a'.keep f4 (T 3 δ);have aE:=ba.keep f4 (T 4 δ);have s:Var 124 f h.size v.tv:=Var.only (t:=v.tv) w3 f4 (show¬h.size=b by omega);have a0:ag (jP b Fi La Ha Ou) h f:=((alP ab).trans (B.mono λi a=>⟨1,a⟩)).trans (f4.mono λi a=>⟨0,a⟩)
  have a1:∀i,jP b g La Ha Ou i->jP b Fi La Ha Ou i\/h.size<=i:=λi⟨k,c⟩=>by
   match k,c with
   |0,c=>exact .inl ⟨0,c⟩
   |1,c=>
    rcases n3 i c with h9|h9
    ·exact .inl ⟨1,h9⟩
    ·exact .inr ω
   |2,c=>exact .inl ⟨2,c⟩
   |3,c=>exact .inl ⟨3,c⟩
   |4,c=>exact .inl ⟨4,c⟩
   |k+5,c=>exact c.elim
  have al:Sep f (oP b g La Ha Ou):=⟨S.qx,λj i a=>by have:=S.lt j i a;omega⟩;obtain⟨old,am,bb⟩:=Gx p.ok o.1 o.2;have a2:(t.first++[((v.who,aP t v.slot),v.target)]).length<50000:=by simp;omega
  intro X F
  have last:c_ t v=(0,{t with bE:=t.bE.set v.who.toNat (some v),first:=t.first++[((v.who,aP t v.slot),v.target)]})->∀q,X q f:=λE q=>by
   rw[E]at H C;refine F q f ⟨La,v4.ah rfl,v.who,s.ah rfl,T_ (x:=v) s ?_⟩;refine ad.aH (sz:=34) (n:=34) (t:=v.tv) o.1 (by simp[AB,W];omega) (acf v) rfl λh5 bc f5 s5=>?_;have U:∀k,k≠2->∀i,oP b g La Ha Ou k i->¬In La i:=λk c i a m=>c (z3 k 2 i a m);have v5:Var 192 h5 b (.agg [.i n,.i t.slots,.slice g,.slice La,.slice Ha,.slice Ou]):=v4.only f5 (U 0 δ _ rfl);have bd:=aw.keep f5 (U 1 δ);have bi:=ae.keep f5 (U 3 δ);have bj:=aE.keep f5 (U 4 δ);have w5:Var 124 h5 h.size v.tv:=Var.only (t:=v.tv) s f5 λa=>by have:=ar _ ⟨2,a⟩;omega
   refine⟨Ha,v5.ah rfl,v.who,w5.ah rfl,?_⟩;refine bi.aH (sz:=1) (n:=1) (t:=.bool true) o.1 (by simp[FE,W];omega) rfl rfl λh6 bk f6 s6=>?_;have V:∀k,k≠3->∀i,oP b g La Ha Ou k i->¬In Ha i:=λk c i a m=>c (z3 k 3 i a m);refine H h6 g ⟨v5.only f6 (V 0 δ _ rfl),bd.keep f6 (V 1 δ),?_,?_,bj.keep f6 (V 4 δ),C,a2,⟨al.qx,λj i a=>by have:=al.lt j i a;omega⟩⟩ ⟨(a0.trans (f5.mono λi a=>⟨2,a⟩)).trans (f6.mono λi a=>⟨3,a⟩),a1⟩
   ·have:=bc.keep f6 (V 2 δ);simpa[AB,Et,alY]using this
   ·simpa[FE,WM,alY]using bk
  have bl:(FE t)[v.who.toNat]? =some old.isSome:=by unfold FE;rw[alx,am];rfl
  refine⟨Ha,v4.ah rfl,v.who,s.ah rfl,VN ae.elems o.1 bl ?_⟩;rw[bb]at d;cases old with
  |none=>exact alD (last d _)
  |some old=>
   have I:=p.ok.Tw _ old am;have a3:=sL p.ok I.2.1 I.2.2;have bm:(Et (AB t))[v.who.toNat]? =some old.tv:=by unfold Et AB;rw[alx,alx,am];rfl
   have b0:=p.lla;refine alR ⟨La,v4.ah rfl,v.who,s.ah rfl,ad.elems.read o.1 ω λl tv _ ht bo=>?_⟩;rw[bm]at ht;cases ht;refine⟨old.slot,bo.2.1,t.slots,v4.ah rfl,ω,?_⟩;rw[show alS .i64 (Int.tdiv old.slot t.slots)=aP t old.slot from wrap_i64 (by unfold aP at a3;omega) (by unfold aP at a3;omega)];refine ID (λbp=>?_) λbr=>last ?_ _
   ·simp only[bp,if_true]at d;rw[d]at H C;exact H f g ⟨v4,aw,ad,ae,aE,C,a2,al⟩ ⟨a0,a1⟩
   ·simp only[br,if_false]at d;exact d
theorem Pa{α:Type}{l:List α}{i:Nat}{x:α}(pred:α->Bool)(q:l[i]? =some x):(l.take (i+1)).filter pred=(l.take i).filter pred++if pred x=true then[x]else[]:=by
 rw[take_succ q]
 grind
theorem Pb(p:Lx h b Fi La Ha Ou t n){slot:Int}(M:slot<=1073741824)
 (E:∀h' D,Lx h' b D La Ha Ou (dW t slot) n->Step (jP b Fi La Ha Ou) h (jP b D La Ha Ou) h'->R (alA []).val h'):
 Cl 113 [.ptr (PT b),.i slot] h R:=by
 apply oM;delta aJ jr fP dD eW bK;have W:=p.ok.slots;have X:=p.iz;have Y:=p.lf;obtain⟨pred,K⟩:∃pred:(Int×Int)×Bs 32->Bool,pred=λe=>decide (slot<0)||decide (aP t slot<=e.1.2):=⟨_,rfl⟩
 have L:(dW t slot).first=t.first.filter pred:=by
  unfold dW;rw[K];split
  ·rename_i u;simp only[decide_eq_true u];exact(List.filter_eq_self.2 λ_ _=>rfl).symm
  simp_all [Bool.false_or,decide_eq_false]
 have N:dW t slot={t with first:=t.first.filter pred}:=by
  rw[<-L];unfold dW;split<;>rfl
 have F:=p.ok.forget slot;rw[N]at E F;refine⟨Fi,p.var.ah rfl,?_⟩;refine⟨λσ G=>0<=σ.2/\σ.2<=t.first.length/\Ext h G/\(∀i,In σ.1 i->h.size<=i)/\Vc.Own 255 34 G σ.1 (XL ((t.first.take σ.2.toNat).filter pred)),λσ _=>(t.first.length-σ.2).toNat,⟨alE 0,ω,alC _,(λj w=>(q8 w).elim),Vc.Own.nil ..⟩,?_⟩;rintro⟨s,i⟩ g ⟨H,O,l,lo,d⟩;dsimp only at H O lo d⊢;have p2:=p.ext l;refine ID (λc=>?_) λc=>?_
 ·obtain⟨e,I⟩:∃e,t.first[i.toNat]? =some e:=⟨_,alG ω⟩;refine aaA p2.f.elems H I ?_;refine aa λJ x P Q=>aq x (KQ e).symm rfl λf v4 f4 Z=>?_;have o:=alo P f4 λi c=>alw (alz c);have v4:=v4;have y:=l.trans o;have st:=Pa pred I
  have A:((t.first.take i.toNat).filter pred).length<100000:=by
   grind
  rw[wrap_i64 ω ω]
  have add:pred e=true->∃(n:Int),∃(m:Int),∃(k:Bs 32),(ah f g.size 0 (.i n)/\ah f g.size 1 (.i m)/\av f g.size 2 32 k)/\
   ∃new,cn (f.push (row (alp [alI [.i n,.i m,.bytes 32 k]]) 255)) (alJ (some (Vc.Loc.mk f.size 0)) 1 1) 34 new/\(∀v∈new,bU v=true)/\au ctx 255 s 1 new (f.push (row (alp [alI [.i n,.i m,.bytes 32 k]]) 255)) λB h'=>
    (0<=i+1/\i+1<=t.first.length/\Ext h h'/\(∀i,In B i->h.size<=i)/\Vc.Own 255 34 h' B (XL ((t.first.take (i+1).toNat).filter pred)))/\(t.first.length-(i+1)).toNat<(t.first.length-i).toNat:=λC=>by
   rw[if_pos C]at st;refine afT v4 (afS (d.ext o) A λB h5 o5 f5 S=>⟨⟨ω,ω,alo y f5 lo,λj w=>?_,?_⟩,ω⟩)
   ·rcases S j w with T|T
    ·simp_all
    ·have:=y.size;omega
   grind
  refine ID (λu=>add (by simp_all)) λu=>⟨_,v4.ah rfl,t.slots,(p2.ext o).var.ah rfl,ω,?_⟩;have ab:=sL p.ok ω M;rw[show alS .i64 (Int.tdiv slot t.slots)=aP t slot from wrap_i64 (by grind [aP]) (by grind [aP])];refine ID (λU=>add (by simp_all)) λU=>?_;have C:¬pred e=true:=by simp_all
  rw[if_neg C,List.append_nil]at st;refine⟨⟨ω,ω,y,lo,?_⟩,ω⟩;rw[show(i+1).toNat=i.toNat+1 by omega,st];exact d.ext o
 ·rw[show i.toNat=t.first.length by omega,List.take_length]at d;have st:Step (oP b Fi La Ha Ou 1) h (In s) g:=⟨alP l,λi c=>.inr (lo i c)⟩;have q:=p.sep.step st d.g_;rw[aaB]at q;have z:=q.qx;have r:∀k,k≠0->∀i,oP b s La Ha Ou k i->¬i=b:=λk a i c V=>a (z k 0 i c V);refine aI p2.var (i:=2) (t:=.slice s) rfl rfl rfl rfl λJ x f3 Q=>?_
  have A:(t.first.filter pred).length<50000:=by
   have:=List.length_filter_le pred t.first;omega
  refine E J s ⟨x,d.keep f3 (r 1 δ),p2.la.keep f3 (r 2 δ),p2.ha.keep f3 (r 3 δ),p2.ou.keep f3 (r 4 δ),F,A,⟨q.qx,λj i c=>by have:=q.lt j i c;omega⟩⟩ ⟨(alP l).trans (f3.mono λi c=>⟨0,c⟩),λi⟨k,a⟩=>?_⟩
  match k,a with
  |0,a=>exact .inl ⟨0,a⟩
  |1,a=>exact .inr (lo i a)
  |2,a=>exact .inl ⟨2,a⟩
  |3,a=>exact .inl ⟨3,a⟩
  |4,a=>exact .inl ⟨4,a⟩
  |k+5,a=>exact a.elim
def Nr(c:Cf)(tr q:Nat):TV:=.agg [c.tv,.ptr (PT tr),.ptr (PT q)]
section
variable{m bk:Nat}{A B D:Sl}{N:List Nd}{most:Int}{c:Cf}{V:List Vd}
def jQ(st:List Int)(t:Tb)(N:List Nd)(i:Nat)(k:Nat):Int:=((N[k]?).map λx=>tot i (λj=>aK t st j x.root)).getD 0
theorem XN{st:List Int}:jQ st t N st.length=bZ st t N:=rfl
theorem Uc{st:List Int}(E:(N.map Nd.root).Nodup){i:Nat}:jQ st t N (i+1)=if(FE t).getD i false=true/\t.out.getD i false=false then mA N (jQ st t N i) ((AB t).getD i ji).target (jh st i)else jQ st t N i:=by
 funext k;by_cases g:k<N.length
 ·have h:=alG g;have e:∀q,jQ st t N q k=tot q (λj=>aK t st j N[k].root):=λq=>by simp_all [jQ]
  rw[e,jv];have b:t.bE.getD i none=t.bE[i]?.getD none:=alH ..
  have l:(FE t).getD i false=(t.bE.getD i none).isSome:=by
   unfold FE;rw[b,alH,alx];cases t.bE[i]?<;>rfl
  have m:(AB t).getD i ji=(t.bE.getD i none).getD ji:=by
   unfold AB;rw[b,alH,alx];cases t.bE[i]?<;>rfl
  rw[l,m];cases c:t.out.getD i false with
  |true=>
   have a:aK t st i N[k].root=0:=by unfold aK;rw[if_pos c]
   rw[if_neg (by simp),a,e];omega
  |false=>
   have d:¬t.out.getD i false=true:=by rw[c];decide
   cases f:t.bE.getD i none with
   |none=>
    have a:aK t st i N[k].root=0:=by unfold aK;rw[if_neg d,f]
    rw[if_neg (by simp),a,e];omega
   |some v=>
    have a:aK t st i N[k].root=if v.target=N[k].root then jh st i else 0:=by unfold aK;rw[if_neg d,f]
    rw[if_pos (by simp),IP E h,e,a];simp only[Option.getD_some];split<;>omega
 ·have e:∀q,jQ st t N q k=0:=λq=>by unfold jQ;rw[List.getElem?_eq_none ω];rfl
  rw[e];split
  ·rw[Ke ω,e]
  ·rw[e]
theorem RY{st:List Int}(o:wR st){i:Nat}(q:i<=st.length)(k:Nat):0<=jQ st t N i k/\jQ st t N i k<4611686018427387904:=by
 unfold jQ;cases N[k]? with
 |none=>exact⟨alE _,by simp only[Option.map_none,Option.getD_none];decide⟩
 |some x=>exact M0 o x.root q
theorem L7(I:Var 134 h bk (Nr c m b))(p:RT h m A B D N most)(q:Lx h b Fi La Ha Ou t V.length)(U:aj 2 h c.vals (jx V))(so:wR (aL V))
 (hr:∀h' w O,RW h' w m O N (bZ (aL V) t N)->Ext h h'->R (alr (PT w)).val h'):
 Cl 193 [.ptr (PT bk)] h R:=by
 apply oO;delta zP wE aF aJ js gL uR mw cE bJ bK;have el:=U.len;rw[aly]at el;have nn:=q.ok.nn;have ao:=q.ok.Ac;have ap:=q.ok.uN;have sl:(aL V).length=V.length:=zf;refine⟨_,I.ah rfl,Ku p λz w O ar Q lo nw=>⟨_,rfl,c.vals,(I.ext Q).ah rfl,?_⟩⟩;refine⟨λi a=>0<=i/\i<=V.length/\RW a w m O N (jQ (aL V) t N i.toNat)/\Ext h a,λi _=>(V.length-i).toNat,⟨alE 0,ω,?_,Q⟩,?_⟩
 ·have:jQ (aL V) t N (0:Int).toNat=λ_=>0:=by
   funext k;unfold jQ;cases N[k]?<;>rfl
  simp_all
 rintro i S ⟨C,i1,rw2,K⟩;refine ID (λL=>?_) λL=>?_
 ·obtain⟨v,T⟩:∃v,V[i.toNat]? =some v:=⟨_,alG ω⟩;refine(U.ext K).read C ω λl tv _ E ac=>?_;rw[alx,T]at E;cases E;refine⟨v.cF,v.key,ac,aa λh3 v3 x3 s3=>aq v3 rfl rfl λh4 v4 f4 s4=>?_⟩;have W:=alo x3 f4 λi L=>alw (alz L);have F:=K.trans W;have M:=q.ext F;have G:=I.ext F;obtain⟨o,X⟩:∃o,t.bE[i.toNat]? =some o:=⟨_,alG ω⟩;have ad:(Et (AB t))[i.toNat]? =some (o.getD ji).tv:=by unfold Et AB;rw[alx,alx,X];rfl
  have Y:(FE t)[i.toNat]? =some o.isSome:=by simp_all [FE,alx]
  have ae:t.out[i.toNat]? =some (t.out.getD i.toNat false):=by simp_all
  have step:=Uc (st:=aL V) (t:=t) p.ok.nodup (i:=i.toNat);rw[alH,Y]at step;have E:(AB t).getD i.toNat ji=o.getD ji:=by unfold AB;rw[alH,alx,X];rfl
  rw[E]at step;simp only[Option.getD_some]at step;have aw:=q.lla;refine⟨_,G.ah rfl,_,G.ah rfl,La,M.var.ah rfl,M.la.elems.read C ω λl tv _ Z al=>?_⟩;rw[ad]at Z;cases Z;refine⟨_,al.2.2,fA (p.ext F) λg s=>⟨_,rfl,?_⟩⟩;have P:=F.trans s;have H:=M.ext s;have d:=(rw2.ext W).ext s;rw[wrap_i64 (n:=i+1) ω ω]
  have next:∀a,RW a w m O N (jQ (aL V) t N (i.toNat+1))->Ext h a->(0<=i+1/\i+1<=(V.length:Int)/\RW a w m O N (jQ (aL V) t N (i+1).toNat)/\Ext h a)/\((V.length:Int)-(i+1)).toNat<((V.length:Int)-i).toNat:=λa r x=>
   ⟨⟨ω,ω,by rw[show(i+1).toNat=i.toNat+1 by omega];exact r,x⟩,ω⟩
  intro J HJ;have ab:jQ (aL V) t N (i.toNat+1)=jQ (aL V) t N i.toNat->J false g:=λe=>HJ _ g (alD (next g (by rw[e];exact d) P));refine⟨_,(G.ext s).ah rfl,Ha,H.var.ah rfl,VN H.ha.elems C Y ?_⟩;refine alv (λz=>⟨_,(G.ext s).ah rfl,Ou,H.var.ah rfl,VN H.ou.elems C ae ?_⟩) λz=>ab (by rw[step,if_neg (by rw[z];simp)]);refine alv (λu=>HJ _ g ?_) λu=>ab (by rw[step,if_neg (by simp at u;simp[u])]);have u:t.out.getD i.toNat false=false:=by simpa using u
  rw[if_pos ⟨z,u⟩]at step;refine ID (λf=>?_) λf=>next g (by rw[step];unfold mA;rw[if_neg f];exact d) P
  obtain⟨k,y,q1,q2,q3,aE,a0⟩:=fG f;have kN:(place (o.getD ji).target N).toNat<N.length:=ω;have am:jh (aL V) i.toNat=v.cF:=by unfold jh aL;rw[alH,alx,T];rfl
  rw[am]at step;have w4:Var 137 g S.size v.tv:=alF (t:=v.tv) v4 s;refine⟨O,d.var.ah rfl,O,d.var.ah rfl,qL d.o.elems f (iO _ kN) ⟨v.cF,w4.at.1,?_⟩⟩;have b1:=RY (t:=t) (N:=N) so (i:=i.toNat+1) ω (place (o.getD ji).target N).toNat
  have e1:jQ (aL V) t N (i.toNat+1) (place (o.getD ji).target N).toNat=jQ (aL V) t N i.toNat (place (o.getD ji).target N).toNat+v.cF:=by
   rw[step];unfold mA bump;rw[if_pos f,if_pos rfl]
  rw[e1]at b1;dsimp only;rw[wrap_i64 ω ω];refine d.o.aH (sz:=1) (n:=1) (t:=.i (jQ (aL V) t N i.toNat (place (o.getD ji).target N).toNat+v.cF)) f (by simp;omega) rfl rfl λh6 o6 f6 s6=>next h6 ⟨d.var.only f6 nw,?_⟩ (alo P f6 λj hj=>lo j (.inr hj))
  have:eA (gO N.length (jQ (aL V) t N (i.toNat+1)))=(eA (gO N.length (jQ (aL V) t N i.toNat))).set (place (o.getD ji).target N).toNat (.i (jQ (aL V) t N i.toNat (place (o.getD ji).target N).toNat+v.cF)):=by
   rw[step];unfold mA;rw[if_pos f,<-QY,<-E3];simp[eA,alY]
  rw[this];exact o6
 ·rw[show i.toNat=V.length by omega,<-sl,XN]at rw2;exact hr S w O rw2 K
theorem RZ(E:Var 134 h bk (Nr c m b))(p:RT h m A B D N most)(q:Lx h b Fi La Ha Ou t n)(I:t.first.length<49999){v:Vt}
 (H:∀h' d,Lx h' b d La Ha Ou (iS N t v).2 n->Step (jP b Fi La Ha Ou) h (jP b d La Ha Ou) h'->R (TV.i (iS N t v).1).val h'):
 Cl 112 [.ptr (PT bk),v.tv] h R:=by
 apply rJ (PT bk) v.who v.slot v.target;delta aD mw dJ jW bz dX aN bJ aT bA;refine aa λy v1 g K=>?_;have v1:Var 124 y h.size v.tv:=v1
 have i:iS N t v=(6,t)->∀f,Ext h f->R (TV.i 6).val f:=λe f x=>by
  have:=H f Fi;rw[e]at this;exact this (q.ext x) (.an x)
 refine⟨_,(E.ext g).ah rfl,_,v1.at.2.2,fA (p.ext g) λj l=>⟨_,rfl,?_⟩⟩;have a:=g.trans l;have o:=alF v1 l;have p2:=p.ext a;refine ID (λz=>i (by simp_all [if_neg,nodeAt,iS]) j a) λz=>?_;obtain⟨k,u,M,O,s,P,Q⟩:=fG (r:=v.target) (L:=N) ω;have w:N[(place v.target N).toNat]? =some u:=by simp_all
 have C:nodeAt N (place v.target N)=some u:=by unfold nodeAt;rw[if_pos ω];exact w
 refine⟨_,(E.ext a).ah rfl,B,p2.var.ah rfl,qL p2.b.elems ω (CL w) ⟨v.slot,o.ah rfl,ID (λF=>i ?_ j a) λS=>?_⟩⟩
 ·unfold iS;rw[C];simp only[F,if_true]
 ·have G:iS N t v=c_ t v:=by
   unfold iS
   grind
  rw[G]at H;refine⟨_,(E.ext a).ah rfl,T_ (x:=v) o (Ub (q.ext a) I λJ d s st=>⟨_,rfl,H J d s (.cut a st)⟩)⟩
end
end
end Gate
namespace Gate
open Pool (It)
def aW(no:Int)(r:Bs 32)(p:St×List (Bs 32))(x:It):St×List (Bs 32):=
 if nV p.1.N no x.root r x.slot=0 then({p.1 with N:=gw p.1.N no x.root r x.slot},p.2++[x.root])
 else if nV p.1.N no x.root r x.slot=6 then({p.1 with left:=p.1.left+1},p.2)else p
def fZ(no:Int):Nat->List (Bs 32)->St->St
 |0,_,s=>s
 |_+1,[],s=>s
 |f+1,r::q,s=>
  fZ no f ((s.kids.filter λx=>decide (x.fr=r)).foldl (aW no r) ({s with kids:=s.kids.filter λx=>!decide (x.fr=r)},q)).2
   ((s.kids.filter λx=>decide (x.fr=r)).foldl (aW no r) ({s with kids:=s.kids.filter λx=>!decide (x.fr=r)},q)).1
def lQ(no:Int)(root parent:Bs 32)(slot:Int)(s:St):St:=fZ no (1+s.kids.length) [root] {s with N:=gw s.N no root parent slot}
structure vv(n:Nat)(s s':St):Prop where
 tb:s'.tb=s.tb
 wait:s'.wait=s.wait
 sc:s'.sc=s.sc
 gone:s'.gone=s.gone
 now:s'.now=s.now
 left:s.left<=s'.left/\s'.left<=s.left+n
section
variable{no:Int}{r:Bs 32}{s:St}{q:List (Bs 32)}
theorem vv.trans{a b:Nat}{A B E:St}(h:vv a A B)(k:vv b B E):vv (a+b) A E:=
 ⟨k.tb.trans h.tb,k.wait.trans h.wait,k.sc.trans h.sc,k.gone.trans h.gone,k.now.trans h.now,by have:=h.left;have:=k.left;omega⟩
theorem vv.refl(s:St):vv 0 s s:=⟨rfl,rfl,rfl,rfl,rfl,ω⟩
theorem vv.mono{a b:Nat}{s A:St}(h:vv a s A)(B:a<=b):vv b s A:=⟨h.tb,h.wait,h.sc,h.gone,h.now,by have:=h.left;omega⟩
theorem Pc(x:It)(p:St×List (Bs 32)):vv 1 p.1 (aW no r p x).1/\(aW no r p x).1.kids=p.1.kids/\(aW no r p x).2.length<=p.2.length+1:=by
 unfold aW;split
 ·exact⟨⟨rfl,rfl,rfl,rfl,rfl,by dsimp only;omega⟩,rfl,by simp⟩
 ·split
  ·exact⟨⟨rfl,rfl,rfl,rfl,rfl,by dsimp only;omega⟩,rfl,by dsimp only;omega⟩
  ·exact⟨(vv.refl _).mono ω,rfl,ω⟩
theorem mY:∀(L:List It)(p:St×List (Bs 32)),vv L.length p.1 (L.foldl (aW no r) p).1/\(L.foldl (aW no r) p).1.kids=p.1.kids/\(L.foldl (aW no r) p).2.length<=p.2.length+L.length
 |[],p=>⟨vv.refl _,rfl,by simp⟩
 |x::L,p=>by
  obtain⟨A,B,E⟩:=Pc (no:=no) (r:=r) x p;obtain⟨a,b,c⟩:=mY L (aW no r p x);rw[List.foldl_cons];exact⟨(A.trans a).mono (by simp;omega),b.trans B,by simp only[alL];omega⟩
theorem zi(L:List It)(p:It->Bool):(L.filter λx=>p x).length+(L.filter λx=>!p x).length=L.length:=by
 induction L with
 |nil=>rfl
 |cons x L a=>cases h:p x<;>simp[h]<;>omega
theorem CS:∀(f:Nat)(q:List (Bs 32))(s:St),vv s.kids.length s (fZ no f q s)/\(∀x∈(fZ no f q s).kids,x∈s.kids)/\(fZ no f q s).left+(fZ no f q s).kids.length<=s.left+s.kids.length
 |0,q,s=>by unfold fZ;exact⟨(vv.refl _).mono ω,λ_ h=>h,alE _⟩
 |_+1,[],s=>by unfold fZ;exact⟨(vv.refl _).mono ω,λ_ h=>h,alE _⟩
 |f+1,r::q,s=>by
  unfold fZ;obtain⟨L,A⟩:∃L,L=s.kids.filter λx=>decide (x.fr=r):=⟨_,rfl⟩;obtain⟨K,b⟩:∃K,K=s.kids.filter λx=>!decide (x.fr=r):=⟨_,rfl⟩;have n:L.length+K.length=s.kids.length:=by rw[A,b];exact zi _ _
  rw[<-A,<-b];obtain⟨a,c,g⟩:=mY (no:=no) (r:=r) L ({s with kids:=K},q);generalize L.foldl (aW no r) ({s with kids:=K},q)=p at a c g⊢;obtain⟨d,e,i⟩:=CS f p.2 p.1;have j:p.1.kids=K:=c;have k:=a.left;dsimp only at k;rw[j]at d e i;have l:vv L.length s p.1:=⟨a.tb,a.wait,a.sc,a.gone,a.now,a.left⟩;refine⟨(l.trans d).mono ω,λx m=>?_,ω⟩;have:=e x m;rw[b]at this;exact(List.mem_filter.1 this).1
theorem KR:∀(f:Nat)(q:List (Bs 32))(s:St),(fZ no f q s).kids.length<=s.kids.length
 |0,q,s=>by unfold fZ;exact als _
 |_+1,[],s=>by unfold fZ;exact als _
 |f+1,r::q,s=>by
  unfold fZ;obtain⟨_,A,_⟩:=mY (no:=no) (r:=r) (s.kids.filter λx=>decide (x.fr=r)) ({s with kids:=s.kids.filter λx=>!decide (x.fr=r)},q);refine alW (KR f _ _) ?_;rw[A];exact List.length_filter_le _ _
end
end Gate
end Go.Proofs.YtennbinbffdimaaGreat
namespace Go.Vc
open Go
structure rK(T:TypeId)(sz:Nat)(h:af)(s:Sl)(ts:List TV):Prop where
 size:∀t∈ts,t.size=sz
 len:ts.length=s.len
 cap:s.len<=s.cap
 row:∃b pre rest,s.a=some ⟨b,pre.length⟩/\h[b]? =some (Go.Vc.row (pre++(alp ts++rest)) T)/\(s.cap-s.len)*sz<=rest.length
section
variable{T:TypeId}{sz:Nat}{h h':af}{s:Sl}{ts:List TV}
theorem rK.new(h:af)(ts:List TV)(q:∀t∈ts,t.size=sz):rK T sz (h.push (Go.Vc.row (alp ts) T)) ⟨some ⟨h.size,0⟩,ts.length,ts.length⟩ ts:=
 ⟨q,rfl,als _,h.size,[],[],rfl,by simp,by simp⟩
theorem rK.only{S:Nat->Prop}(o:rK T sz h s ts)(e:ag S h h')(q:∀i,(∃l,s.a=some l/\l.b=i)->¬S i):rK T sz h' s ts:=by
 refine⟨o.size,o.len,o.cap,?_⟩;obtain⟨b,pre,d,a,c,f⟩:=o.row;exact⟨b,pre,d,a,by rw[e.same b (kO c) (q _ ⟨_,a,rfl⟩),c],f⟩
theorem rK.ext(o:rK T sz h s ts)(e:Ext h h'):rK T sz h' s ts:=o.only (S:=λ_=>False) (alP e) λ_ _ a=>a
theorem rK.lt(o:rK T sz h s ts):∀l,s.a=some l->l.b<h.size:=λl a=>by
 obtain⟨b,pre,e,c,d,_⟩:=o.row;rw[c]at a;cases a;exact kO d
theorem adI{b:Nat}{pre q:List Value}(A:h[b]? =some (Go.Vc.row (pre++(alp ts++q)) T)){j:Nat}(B:j<(alp ts).length):ng h b (pre.length+j)=(alp ts)[j]?:=by
 unfold ng;rw[A];simp only[Go.Vc.row];rw[List.getElem?_toArray,List.getElem?_append_right ω,show pre.length+j-pre.length=j by omega,List.getElem?_append_left B]
theorem rK.elems(o:rK T sz h s ts):aj sz h s ts:=by
 obtain⟨b,pre,p,c,f,q⟩:=o.row;refine⟨o.len,λd=>(by rw[c]at d;cases d),λl e i t a=>?_⟩;rw[c]at e;cases e;rw[TV.mD];intro j r;have u:=o.size t (alV a);have g:=ak.rU ts i j t o.size a ω;have k:=ak.bG ts o.size;have m:i<ts.length:=(List.getElem?_eq_some_iff.1 a).1
 have n:i*sz+j<(alp ts).length:=by
  rw[k];have:(i+1)*sz<=ts.length*sz:=Nat.mul_le_mul_right _ m;rw[Nat.succ_mul]at this;omega
 have:=adI f n;rw[g]at this;rw[<-this];congr 1;simp only;omega
theorem rK.ag1{t:TV}(o:rK T sz h s (t::ts)):rK T sz h (ay s 1 s.len sz) ts:=by
 obtain⟨b,pre,c,d,e,g⟩:=o.row;have i:=o.len;have m:=o.cap;simp only[alL]at i;have j:t.cells.length=sz:=by rw[TV.ai,o.size t (List.mem_cons_self ..)]
 have f:alp (t::ts)=t.cells++alp ts:=rfl;refine⟨λx k=>o.size x (List.mem_cons_of_mem _ k),by simp only[ay];omega,by simp only[ay];omega,?_⟩;unfold ay;by_cases a:s.cap=1
 ·have l:ts=[]:=List.eq_nil_of_length_eq_zero ω;subst l;exact⟨b,pre,t.cells++c,by simp only[a,if_true];exact d,by rw[e,f];simp[alp],by simp[a]⟩
 ·refine⟨b,pre++t.cells,c,by simp[a,d,j],by rw[e,f];simp only[alZ],?_⟩;simp only;rw[show s.cap-1-(s.len-1)=s.cap-s.len by omega];exact g
theorem aaC{C:Ctx}{x:TV}{K:Sl->af->Prop}(A:(C.ti T).size=sz)(I:(C.ti T).z.size=sz)(J:0<(C.ti T).bytes)
 (M:(s.len+1)*(C.ti T).bytes<=70368744177664)(o:rK T sz h s ts)(q:x.size=sz)(O:x.plain=true)
 (B:∀m h',rK T sz h' m (ts++[x])->ag (λb=>∃l,s.a=some l/\l.b=b) h h'->(∀l,m.a=some l->(∃u,s.a=some u/\u.b=l.b)\/h.size<=l.b)->K m h'):
 ∃new,cn (h.push (row (alp [x]) T)) (alJ (some (Loc.mk h.size 0)) 1 1) sz new/\(∀v∈new,bU v=true)/\au C T s 1 new (h.push (row (alp [x]) T)) K:=by
 have w:alp [x]=x.cells:=by simp[alp]
 have n:x.cells.length=sz:=by rw[TV.ai,q]
 refine⟨x.cells,⟨by simp[n],.inr ⟨_,rfl,λj y=>?_⟩⟩,TV.gU x O,?_⟩
 ·unfold ng;simp[row,w]
 have f:Ext h (h.push (row (alp [x]) T)):=alB h _;have L:=o.ext f
 have D:∀t∈ts++[x],t.size=sz:=λt p=>by
  rcases List.mem_append.1 p with g|g
  ·exact o.size t g
  ·simp only[List.mem_singleton]at g;rw[g];exact q
 have i:=ak.bG ts o.size;have E:alp (ts++[x])=alp ts++x.cells:=by rw[ak.fT,w]
 have W:=o.len;obtain⟨b,pre,a,d,r,F⟩:=L.row;refine⟨alp ts,⟨by rw[A,i,o.len],.inr ⟨_,d,λj y=>adI r y⟩⟩,M,J,λN=>?_,λ_ k=>(by rw[d]at k;cases k),λN c P=>?_⟩
 ·refine⟨.inr (by rw[d];rfl),λl e=>?_⟩;rw[d]at e;cases e;rw[A]
  have X:x.cells.length<=a.length:=by
   rw[n];refine alW ?_ F;exact Nat.le_mul_of_pos_left _ ω
  have G:pre.length+s.len*sz+x.cells.length<=(pre++(alp ts++a)).length:=by simp only[List.length_append,i,<-o.len];omega
  refine⟨iH r G,?_⟩;obtain⟨Q,R,S⟩:=jo x.cells (h.push (row (alp [x]) T)) b (pre.length+s.len*sz) _ T r G;refine B _ _ ⟨D,by simp[o.len],by simp only;omega,b,pre,a.drop sz,rfl,?_,?_⟩ ?_ ?_
  ·rw[Q,E,<-o.len];congr 1;congr 1
   have p:(pre++(alp ts++a)).take (pre.length+ts.length*sz)=pre++alp ts:=by
    rw[<-i,<-alZ,show pre.length+(alp ts).length=(pre++alp ts).length by simp,List.take_left]
   have U:(pre++(alp ts++a)).drop (pre.length+ts.length*sz+x.cells.length)=a.drop sz:=by
    rw[<-i,<-alZ,show pre.length+(alp ts).length+x.cells.length=(pre++alp ts).length+sz by simp[n],List.drop_append];simp
   rw[p,U];simp only[alZ]
  ·simp only[List.length_drop]
   have:(s.cap-(s.len+1))*sz+sz<=a.length:=by
    refine alW (alw ?_) F;rw[<-Nat.succ_mul];congr 1;omega
   omega
  ·refine⟨by rw[R];exact f.size,λH V k=>?_⟩;rw[S H (λq=>k ⟨_,d,q.symm⟩),f.same H V]
  ·intro l e;cases e;exact .inl ⟨_,d,rfl⟩
 ·have Y:(h.push (row (alp [x]) T)).size=h.size+1:=by simp
  refine B _ _ ⟨D,by simp[o.len],P,_,[],cq (C.ti T).z (c-(s.len+1)),rfl,?_,?_⟩ ?_ ?_
  ·rw[cO,E];simp
  ·rw[je,I];exact als _
  ·exact alP (f.trans (alB _ _))
  ·intro l e;cases e;right;simp only;omega
end
end Go.Vc
namespace Go.Proofs.YtennbinbffdimaaGreat
open Go Go.Vc
namespace Gate
open Pool (rts eM Dw pq GI CJ)
theorem ag2{h:af}{s:Sl}{L:List (Bs 32)}{x:Bs 32}{K:Sl->af->Prop}(o:rK 52 32 h s (rts L))(q:L.length<100000)(A:∀a h',rK 52 32 h' a (rts (L++[x]))->ag (In s) h h'->(∀i,In a i->In s i\/h.size<=i)->K a h'):
 ∃new,cn (h.push (row (alp [alO 32 x]) 52)) (alJ (some (Vc.Loc.mk h.size 0)) 1 1) 32 new/\(∀v∈new,bU v=true)/\au ctx 52 s 1 new (h.push (row (alp [alO 32 x]) 52)) K:=by
 have c:=o.len;rw[pE]at c;refine aaC (C:=ctx) (x:=.bytes 32 x) GI CJ (by rw[pq];decide) (by rw[pq];omega) o eM Dw λa h' d e f=>A a h' (by simpa[rts]using d) e λi⟨l,q,j⟩=>?_;rcases f l q with⟨g,b,k⟩|b
 ·exact .inl ⟨g,b,ω⟩
 ·exact .inr ω
end Gate
namespace Gate
open Board (Vd Cf jx)
open Pool (It WL dV)
open Peers (Pe)
theorem Step.tail{M M' S:Nat->Prop}{h q h':af}(a:Step M h M' q)(f:ag S q h')(A:∀i,S i->h.size<=i):Step M h M' h':=
 ⟨⟨alW a.only.size f.size,λi b c=>(f.same i (Nat.lt_of_lt_of_le b a.only.size) λe=>by have:=A i e;omega).trans (a.only.same i b c)⟩,a.new⟩
section
variable{h h':af}{g:Nat}{a:Ad}{c:Cf}{V:List Vd}{s:St}{Fp:Nat->Nat->Prop}{S':Nat->Prop}
theorem aR.tj(p:aR h g a c V s Fp){q:List It}(pk:k9 172 h' a.kd q c.eV c.quo S')(st:Step (Fp 4) h S' h'):aR h' g a c V {s with kids:=q} (nT Fp 4 S'):=by
 have o:∀k,k≠4->∀i,Fp k i->¬Fp 4 i:=λk b=>p.sep.off b;refine⟨p.sep.step st pk.lt,?_,?_,?_,?_,?_,?_,?_,?_,?_,?_,?_,?_,?_,p.DB st,p.can⟩
 ·rw[aB δ];exact p.tree.only st.only (o 0 δ)
 ·rw[aB δ];exact p.FP.only st.only (o 1 δ)
 ·rw[aB δ];exact p.gH.only st.only (o 2 δ)
 ·exact p.bk.only st.only (o 3 δ _ (by rw[p.f3]))
 ·rw[aB δ];exact p.f3
 ·rw[bY];exact pk
 ·rw[aB δ];exact p.wait.only st.only (o 5 δ)
 ·rw[aB δ];exact p.who.only st.only (o 6 δ)
 ·exact p.kz.only st.only (o 7 δ _ (by rw[p.f7]))
 ·rw[aB δ];exact p.f7
 ·exact p.var.only st.only (o 8 δ _ (by rw[p.f8]))
 ·rw[aB δ];exact p.f8
 ·exact TV.ck st.only p.vals λi d e=>p.off 4 i e d
theorem aR.Pd(p:aR h g a c V s Fp){n:Int}(q:Clock.CI 217 h' a.kz n (Clock.fB c.win))(f:ag (·=a.kz) h h'):aR h' g a c V {s with now:=n} Fp/\Step (dm Fp) h (dm Fp) h':=by
 have d:Fp 7 a.kz:=by rw[p.f7]
 have o:∀k,k≠7->∀i,Fp k i->¬i=a.kz:=λk l i b e=>p.sep.off l i b (e▸d);refine⟨⟨⟨p.sep.qx,λj i b=>by have:=p.sep.lt j i b;have:=f.size;omega⟩,?_,?_,?_,?_,p.f3,?_,?_,?_,q,p.f7,?_,p.f8,?_,p.off,p.can⟩,⟨f.mono λi e=>⟨7,by rw[p.f7];exact e⟩,λi b=>.inl b⟩⟩
 ·exact p.tree.only f (o 0 δ)
 ·exact p.FP.only f (o 1 δ)
 ·exact p.gH.only f (o 2 δ)
 ·exact p.bk.only f (o 3 δ _ (by rw[p.f3]))
 ·exact p.kids.only f (o 4 δ)
 ·exact p.wait.only f (o 5 δ)
 ·exact p.who.only f (o 6 δ)
 ·exact p.var.only f (o 8 δ _ (by rw[p.f8]))
 ·exact TV.ck f p.vals λi b e=>p.off 7 i (by rw[p.f7];exact e) b
theorem aR.aaD(p:aR h g a c V s Fp){n:Int}(v:Var 147 h' g (O9 c a n))(f:ag (·=g) h h'):aR h' g a c V {s with left:=n} Fp/\Step (dm Fp) h (dm Fp) h':=by
 have d:Fp 8 g:=by rw[p.f8]
 have o:∀k,k≠8->∀i,Fp k i->¬i=g:=λk l i b e=>p.sep.off l i b (e▸d);refine⟨⟨⟨p.sep.qx,λj i b=>by have:=p.sep.lt j i b;have:=f.size;omega⟩,?_,?_,?_,?_,p.f3,?_,?_,?_,?_,p.f7,v,p.f8,?_,p.off,p.can⟩,⟨f.mono λi e=>⟨8,by rw[p.f8];exact e⟩,λi b=>.inl b⟩⟩
 ·exact p.tree.only f (o 0 δ)
 ·exact p.FP.only f (o 1 δ)
 ·exact p.gH.only f (o 2 δ)
 ·exact p.bk.only f (o 3 δ _ (by rw[p.f3]))
 ·exact p.kids.only f (o 4 δ)
 ·exact p.wait.only f (o 5 δ)
 ·exact p.who.only f (o 6 δ)
 ·exact p.kz.only f (o 7 δ _ (by rw[p.f7]))
 ·exact TV.ck f p.vals λi b e=>p.off 8 i (by rw[p.f8];exact e) b
end
end Gate
namespace Pool
open Board (Dm dF bw)
theorem aaE{most quota:Int}{x:It}{S:List It}{y:It}(h:y∈(cV most quota x S).2.2):y=x\/y∈S:=by
 unfold cV at h;split at h
 ·exact .inr h
 split at h
 ·exact .inr h
 split at h
 ·exact alK.1 ((dy x S).mem_iff.1 h)
 split at h
 ·exact .inr h
 ·split at h
  ·rcases alK.1 ((dy x _).mem_iff.1 h)with a|a
   ·exact .inl a
   ·exact .inr (List.dropLast_subset _ a)
  ·exact .inr h
theorem aaF{most quota:Int}{x:It}{S:List It}(h:(S.length:Int)<=most):((cV most quota x S).2.2.length:Int)<=most:=by
 unfold cV;split
 ·exact h
 split
 ·exact h
 split
 ·rename_i b;simp only[kF];omega
 split
 ·exact h
 ·rename_i y a;split
  ·simp only[kF,List.length_dropLast];have:S≠[]:=λe=>by rw[e]at a;cases a
   have:=List.length_pos_iff.2 this;omega
  ·exact h
def Fit(want:Int->Bool)(x:It):Prop:=x.text.length<1000/\∃d,dF x.text=some d/\want d.kind=true/\x=bq d x.peer x.text
theorem KS{want:Int->Bool}{most quota peer:Int}{text:LU}{S:List It}(E:text.length<1000)(q:∀x∈S,Fit want x):∀y∈(dY want most quota peer text S).2.2,Fit want y:=by
 intro y a;unfold dY at a;split at a
 ·exact q y a
 ·rename_i d b;split at a
  ·rename_i c;rcases aaE a with rfl|e
   ·exact⟨E,d,b,c,rfl⟩
   ·exact q y e
  ·exact q y a
theorem KU{want:Int->Bool}{most quota peer:Int}{text:LU}{S:List It}(h:(S.length:Int)<=most):((dY want most quota peer text S).2.2.length:Int)<=most:=by
 unfold dY;split
 ·exact h
 ·split
  ·exact aaF h
  ·exact h
section
variable{h0 h h':af}{o b m:Nat}{A B A' B':Sl}{S M S' M':List It}{most quota:Int}{T:TypeId}{want:Int->Bool}
structure Pf(T:TypeId)(want:Int->Bool)(h0 h:af)(o b:Nat)(A:Sl)(S:List It)(most quota:Int):Prop where
 wl:WL T h o b A S most quota
 low:h0.size<=o/\∀i,dV b A i->h0.size<=i
 old:Ext h0 h
 len:(S.length:Int)<=most
 fit:∀x∈S,Fit want x
 ok:Z8 most quota
theorem Pf.more(p:Pf T want h0 h o b A S most quota)(x:Ext h h'):Pf T want h0 h' o b A S most quota:=⟨p.wl.ext x,p.low,p.old.trans x,p.len,p.fit,p.ok⟩
theorem Pf.step(p:Pf T want h0 h o b A S most quota)(w:WL T h' o b A' S' most quota)(g:Grown b A h A' h')(q:(S'.length:Int)<=most)(E:∀x∈S',Fit want x):Pf T want h0 h' o b A' S' most quota:=
 ⟨w,⟨p.low.1,λi c=>by
   rcases g.new i c with a|a
   ·exact p.low.2 i a
   ·have:=p.old.size;omega⟩,alo p.old g.only p.low.2,q,E,p.ok⟩
theorem Pf.text(p:Pf T want h0 h o b A S most quota):∀x∈S,x.text.length<1000:=λx a=>(p.fit x a).1
structure Pr(T:TypeId)(want:Int->Bool)(h0 h:af)(o b m:Nat)(A B:Sl)(S M:List It)(most quota:Int):Prop where
 one:Pf T want h0 h o b A S most quota
 rl:RL h m B M most quota
 ne:o≠m
 ap:¬dV b A m
 bo:∀l,B.a=some l->l.b≠o/\¬dV b A l.b
 ag3:h0.size<=m
 ag4:(M.length:Int)<=most
theorem Pr.more(p:Pr T want h0 h o b m A B S M most quota)(x:Ext h h'):Pr T want h0 h' o b m A B S M most quota:=⟨p.one.more x,p.rl.ext x,p.ne,p.ap,p.bo,p.ag3,p.ag4⟩
end
end Pool
namespace Gate
open Board (Vd Cf Ms Dm jx aq aY bh fR cv)
open Pool (It WL dV Fit Bk lK rY bq eM Dw rts)
open Peers (Pe)
def aaG:TV:=.agg [.bytes 32 (alu 32),bh.tv]
theorem HN:aaG.size=85:=Bk.aaa ⟨alu 32,Board.Dm.zero,alq⟩
abbrev zT(k:Int):Bool:=decide (k=1)
section
variable{R:Rq}{h h':af}{g:Nat}{a:Ad}{c:Cf}{V:List Vd}{s:St}{Fp:Nat->Nat->Prop}
theorem Ud(p:aR h g a c V s Fp){root:Bs 32}{m:Ms}(bx:∀x∈s.kids,Fit zT x)(cA:s.kids.length<1000)(A:0<=s.left/\s.left<1000000000)
 (hr:∀h' bb,aR h' g a c V (lQ c.no root m.target m.slot s) bb->Step (dm Fp) h (dm bb) h'->R (alA []).val h'):
 Cl 211 [.ptr (PT g),.bytes 32 root,m.tv] h R:=by
 apply AD (PT g) root m.kind m.slot m.target m.ax m.body m.bits m.tag;delta dQ j3 aF wv dK gK yh C2 jr fP cr cE d_ eW bz aN eU bJ bK aT fD;refine aa λu v1 x1 s1=>aa λB v2 x2 s2=>?_;have v2:=v2;have bc:=x1.trans x2;have p2:=p.ext bc;refine⟨_,p2.var.ah rfl,root,(v1.ext x2).bytes,m.target,v2.at.2.2.1,m.slot,v2.at.2.1,Np p2 λF F3 p3 ar=>⟨_,rfl,?_⟩⟩;have bN:∀i,h.size<=i->¬dm Fp i:=λi b⟨k,v⟩=>by have:=p.sep.lt k i v;omega
 have w1:=(v1.ext x2).only ar.only (bN _ (als _));refine⟨root,w1.bytes,?_⟩;have bd:=alB F (row (alp [alO 32 root]) 52);have oq:=rK.new (T:=52) (sz:=32) F (rts [root]) λt ht=>by simp_all [rts,eM]
 have b0:Step (dm Fp) h (dm F3) F:=.cut bc ar;have z3:=ar.only.size;obtain⟨goal,bi⟩:∃goal,goal=lQ c.no root m.target m.slot s:=⟨_,rfl⟩;rw[<-bi]at hr
 refine Loop.less (λn σ z=>∃q w F',rK 52 32 z σ (rts q)/\aR z g a c V w F'/\Step (dm Fp) h (dm F') z/\(∀i,In σ i->h.size<=i/\¬dm F' i)/\(∃f,q.length+w.kids.length<=f/\fZ c.no f q w=goal)/\
  (∀x∈w.kids,Fit zT x)/\0<=w.left/\w.left+w.kids.length<=s.left+s.kids.length/\q.length+w.kids.length<=1+s.kids.length/\n=q.length+w.kids.length)
  ⟨[root],{s with N:=gw s.N c.no root m.target m.slot},F3,oq,p3.ext bd,b0.trans (.an bd),λi⟨l,A,b⟩=>?_,⟨1+s.kids.length,als _,bi.symm⟩,bx,A.1,alE _,als _,rfl⟩ ?_
 ·cases A;simp only at b;exact⟨ω,λ⟨k,v⟩=>by have:=p3.sep.lt k i v;omega⟩
 rintro n σ z G ⟨q,w,F',oQ,pG,aw,bj,⟨f,hf,hq⟩,aE,l0,l1,kq,rfl⟩ go;have a0:=oQ.len;rw[pE]at a0;refine ID (λcB=>?_) λcC=>?_
 case refine_2=>
  have:q=[]:=List.eq_nil_of_length_eq_zero ω;subst this;have e:fZ c.no f [] w=w:=by cases f<;>rfl
  rw[e]at hq;subst hq;exact hr z F' pG aw
 obtain⟨r,D,rfl⟩:∃r D,q=r::D:=by
  cases q with
  |nil=>simp at a0;omega
  |cons r D=>exact⟨r,D,rfl⟩
 obtain⟨f',rfl⟩:∃f',f=f'+1:=⟨f-1,by simp only[alL]at hf;omega⟩;refine lM oQ.elems (alE 0) (x:=r) rfl ?_;refine aa λh4 v4 x4 s4=>aq (t:=.bytes 32 r) v4 eM.symm (eM.trans eM.symm) λh5 v5 f5 s5=>⟨δ,ω,?_⟩;have x5:Ext z h5:=alo x4 f5 λi b=>alw (alz b);have Y:=pG.ext x5;have z5:=x5.size;have zh:=aw.only.size;obtain⟨kb,kA,kp,hK⟩:=Y.kids;refine⟨_,Y.var.ah rfl,r,v5.bytes,Pool.aad kp (λx o=>(aE x o).1) λW A6 t bs w6 g6 a1 o6 b1=>⟨_,rfl,?_⟩⟩
 have a2:Step (F' 4) h5 (λi=>i=a.kd\/dV kb A6 i) W:=by
  rw[hK]
  exact⟨g6.only.mono λi b=>.inr b,λi b=>by
   rcases b with u|u
   ·exact .inl (.inl u)
   ·exact(g6.new i u).imp .inr id⟩
 have p6:=Y.tj ⟨kb,A6,w6,rfl⟩ a2;have t6:=Step.all a2;obtain⟨O,bk⟩:∃O,O=nT F' 4 (λi=>i=a.kd\/dV kb A6 i):=⟨_,rfl⟩;rw[<-bk]at p6 t6;have z6:=a2.only.size;obtain⟨L,hL⟩:∃L,L=w.kids.filter λx=>decide (x.fr=r):=⟨_,rfl⟩;obtain⟨K,ad⟩:∃K,K=w.kids.filter λx=>!decide (x.fr=r):=⟨_,rfl⟩;have cI:L.length+K.length=w.kids.length:=by rw[hL,ad];exact zi _ _
 rw[<-ad]at p6;rw[<-hL]at a1;have cJ:bs.length=L.length:=by have:=congrArg List.length a1;simpa using this
 have lt:=o6.elems.len;rw[aly]at lt;simp only[alL]at hf kq a0;obtain⟨nn,cK,b2,b3,cM⟩:=b1.ex;have b5:=o6.lt
 have ae:∀i,In t i->h5.size<=i/\i<W.size/\¬dm O i:=λi⟨l,A,b⟩=>by
  have u:=b3 l A;have B:=b5 l A;refine⟨ω,ω,λ⟨k,v⟩=>?_⟩;rw[bk]at v;by_cases e:k=4
  ·rw[e,bY]at v;rcases v with v|v
   ·have:=Y.sep.lt 4 a.kd (by rw[hK];exact .inl rfl);omega
   ·have:=b2 i v;omega
  ·rw[aB e]at v;have:=Y.sep.lt k i v;omega
 have b6:∀i,z.size<=i->i<h5.size->¬dm O i:=λi u B o=>by
  rcases t6.new i o with⟨k,v⟩|F
  ·have:=pG.sep.lt k i v;omega
  ·omega
 have b7:∀i,In σ i->h.size<=i/\i<z.size/\¬dm O i/\¬In t i:=λi b=>by
  have u:=bj i b
  have B:i<z.size:=by
   obtain⟨l,A,e⟩:=b;have:=oQ.lt l A;omega
  refine⟨u.1,B,λo=>?_,λo=>by have:=(ae i o).1;omega⟩;rcases t6.new i o with F|F
  ·exact u.2 F
  ·omega
 have oC:rK 52 32 W (ay σ 1 σ.len 32) (rts D):=by
  refine((oQ.ext x5).only t6.only λi b=>?_).ag1;exact(bj i (by obtain⟨l,u,B⟩:=b;exact⟨l,u,B.symm▸rfl⟩)).2
 have b8:∀i,In (ay σ 1 σ.len 32) i->In σ i:=λi⟨l,A,b⟩=>by
  unfold ay at A;simp only at A;split at A
  ·exact⟨l,A,b⟩
  ·obtain⟨l0,u,B⟩:=alU.1 A;exact⟨l0,u,by rw[<-b,<-B]⟩
 obtain⟨P,hP⟩:∃P:Nat->St×List (Bs 32),P=λj=>(L.take j).foldl (aW c.no r) ({w with kids:=K},D):=⟨_,rfl⟩;have P0:P 0=({w with kids:=K},D):=by rw[hP];rfl
 have PS:∀j x,L[j]? =some x->P (j+1)=aW c.no r (P j) x:=λj x o=>by
  rw[hP];simp only;rw[List.take_add_one,o,List.foldl_append];rfl
 have bl:∀j,vv j {w with kids:=K} (P j).1/\(P j).1.kids=K/\(P j).2.length<=D.length+j:=λj=>by
  obtain⟨u,B,F⟩:=mY (no:=c.no) (r:=r) (L.take j) ({w with kids:=K},D);have hj:(L.take j).length<=j:=List.length_take_le ..;rw[hP];exact⟨u.mono hj,B,by simp only at F⊢;omega⟩
 have b9:Step (dm Fp) h (dm O) W:=(aw.trans (.an x5)).trans t6;have v6:Var 52 W z.size (.bytes 32 r):=v5.only t6.only λ⟨k,v⟩=>by have:=pG.sep.lt k _ v;omega
 refine⟨λZ C=>∃j:Nat,Z.2=j/\j<=L.length/\∃H,rK 52 32 C Z.1 (rts (P j).2)/\aR C g a c V (P j).1 H/\Step (dm Fp) h (dm H) C/\W.size<=C.size/\(∀i,In Z.1 i->h.size<=i/\¬dm H i/\¬In t i/\i≠z.size)/\
  (∀i,In t i->¬dm H i)/\¬dm H z.size/\aj 85 C t (bs.map Bk.Yn)/\Var 52 C z.size (.bytes 32 r),λZ _=>(L.length-Z.2).toNat,
  ⟨0,rfl,Nat.zero_le _,O,by rw[P0];exact oC,by rw[P0];exact p6,b9,als _,λi b=>by
    obtain⟨q1,q2,q3,q4⟩:=b7 i (b8 i b);exact⟨q1,q3,q4,ω⟩,λi b=>(ae i b).2.2,b6 _ (als _) ω,o6.elems,v6⟩,?_⟩
 rintro⟨Q,jj⟩ C ⟨j,hj,bm,H,al,p7,bo,z7,a7,t7,n7,e7,v7⟩;dsimp only at hj al a7⊢;subst hj;obtain⟨b',ab,cP⟩:=bl j;have ca:=b'.left;dsimp only at ca;refine ID (λbp=>?_) λbp=>?_
 ·have am:j<L.length:=ω;obtain⟨x,o⟩:∃x,L[j]? =some x:=⟨_,alG am⟩;have a3:=PS j x o;have cR:=bl (j+1);refine e7.read ω bp λl1 t1 cS br cc=>?_;rw[Int.toNat_natCast,alx]at br;obtain⟨y,hy,rfl⟩:=alU.1 br
  obtain⟨bt,cd⟩:y.r=x.root/\y.ms.slot=x.slot:=by
   have ao:(bs.map Bk.of)[j]? =some y.of:=by rw[alx,hy];rfl
   rw[a1,alx,o]at ao;injection ao with ao;injection ao with ce cf
   have ch:x∈w.kids:=by
    have:=alV o;rw[hL]at this;exact(List.mem_filter.1 this).1
   obtain⟨_,d,hd,_,ci⟩:=aE x ch;refine⟨ce.symm,?_⟩;show y.d.slot=x.slot;rw[<-cf,rY hd,ci];rfl
  refine⟨y.r,y.ms.kind,y.ms.slot,y.ms.target,y.ms.ax,y.ms.body,y.ms.bits,y.ms.tag,cc,?_⟩;refine aa λh8 v8 x8 s8=>aq (t0:=aaG) v8 (t:=y.Yn) HN.symm (by rw[HN];exact y.aaa) λh9 v9 f9 s9=>?_;have S:Ext C h9:=alo x8 f9 λi b=>alw (alz b);have z9:=S.size;have z8:=x8.size;have p9:=p7.ext S;refine⟨_,p9.var.ah rfl,y.r,v9.at.1,r,(v7.ext S).bytes,y.ms.slot,v9.at.2.2.1,?_⟩;rw[bt,cd];refine Np p9 λac I J U=>⟨_,rfl,?_⟩;have cT:=U.only.size
  have a4:∀i,i<h9.size->¬dm H i->¬dm I i:=λi b hn o=>by
   rcases U.new i o with u|u
   ·exact hn u
   ·omega
  have cj:∀i,dm H i->i<C.size:=λi⟨k,v⟩=>p7.sep.lt k i v;have v10:Var 342 ac C.size y.Yn:=v9.only U.only λo=>by have:=cj _ o;omega
  have a5:Var 52 ac z.size (.bytes 32 r):=(v7.ext S).only U.only n7;have a6:aj 85 ac t (bs.map Bk.Yn):=TV.ck U.only (e7.ext S) t7;have cl:∀i,In Q i->i<C.size:=λi⟨l,A,b⟩=>by have:=al.lt l A;omega
  have oq10:rK 52 32 ac Q (rts (P j).2):=(al.ext S).only U.only λi b=>(a7 i (by obtain⟨l,u,B⟩:=b;exact⟨l,u,B.symm▸rfl⟩)).2.1;have a8:Step (dm Fp) h (dm I) ac:=(bo.trans (.an S)).trans U
  have M:∀i,In Q i->h.size<=i/\¬dm I i/\¬In t i/\i≠z.size:=λi b=>by
   obtain⟨q1,q2,q3,q4⟩:=a7 i b;exact⟨q1,a4 i (by have:=cl i b;omega) q2,q3,q4⟩
  have t10:∀i,In t i->¬dm I i:=λi b=>a4 i (by have:=(ae i b).2.1;omega) (t7 i b);have ap:¬dm I z.size:=a4 _ ω n7;have wj:alS .i64 ((j:Int)+1)=((j+1:Nat):Int):=by rw[wrap_i64 ω ω];omega
  refine ID (λX=>?_) λX=>If.dec.2 ⟨λa9=>?_,λa9=>?_⟩
  ·have E:P (j+1)=({(P j).1 with N:=gw (P j).1.N c.no x.root r x.slot},(P j).2++[x.root]):=by rw[a3];unfold aW;rw[if_pos X]
   refine⟨y.r,v10.at.1,?_⟩;rw[bt];refine ag2 oq10 ω λQ' cp cs f11 ct=>?_;rw[wj];refine⟨⟨j+1,rfl,am,I,by rw[E];exact cs,?_,Step.tail a8 f11 λi b=>(M i b).1,by have:=f11.size;omega,λi b=>?_,t10,ap,?_,?_⟩,ω⟩
   ·rw[E];exact J.only f11 (λk i v o=>(M i o).2.1 ⟨k,v⟩) λi hv o=>by have:=p.SF i hv;have:=(M i o).1;omega
   ·rcases ct i b with u|u
    ·exact M i u
    ·exact⟨ω,λ⟨k,v⟩=>by have:=J.sep.lt k i v;omega,λht=>by have:=(ae i ht).2.1;omega,ω⟩
   ·exact TV.ck f11 a6 λi b o=>(M i o).2.2.1 b
   ·exact a5.only f11 λo=>(M _ o).2.2.2 rfl
  ·have E:P (j+1)=({(P j).1 with left:=(P j).1.left+1},(P j).2):=by rw[a3];unfold aW;rw[if_neg X,if_pos a9]
   have a':gw (P j).1.N c.no x.root r x.slot=(P j).1.N:=by unfold gw;rw[if_neg X]
   rw[a']at J;refine⟨_,J.var.ah rfl,?_⟩;dsimp only;rw[wj,wrap_i64 (n:=(P j).1.left+1) ω ω];refine aI J.var (i:=3) (t:=.i ((P j).1.left+1)) rfl rfl rfl rfl λcp v11 f11 cU=>?_;obtain⟨cw,cx⟩:=J.aaD v11 f11;have ba:∀i,i=g->dm I i:=λi e=>⟨8,by rw[J.f8];exact e⟩;refine⟨⟨j+1,rfl,am,I,by rw[E];exact oq10.only f11 λi b e=>(M i (by obtain⟨l,u,B⟩:=b;exact⟨l,u,B.symm▸rfl⟩)).2.1 (ba i e),by rw[E];exact cw,a8.trans cx,ω,M,t10,ap,?_,?_⟩,ω⟩
   ·exact TV.ck f11 a6 λi b e=>t10 i b (ba i e)
   ·exact a5.only f11 λe=>ap (ba _ e)
  ·have E:P (j+1)=P j:=by rw[a3];unfold aW;rw[if_neg X,if_neg a9]
   have a':gw (P j).1.N c.no x.root r x.slot=(P j).1.N:=by unfold gw;rw[if_neg X]
   rw[a']at J;rw[wj];exact⟨⟨j+1,rfl,am,I,by rw[E];exact oq10,by rw[E];exact J,a8,ω,M,t10,ap,a6,a5⟩,ω⟩
 ·have bm:j=L.length:=ω;have E:P j=L.foldl (aW c.no r) ({w with kids:=K},D):=by rw[hP,bm];simp only;rw[List.take_length]
  have cy:fZ c.no f' (P j).2 (P j).1=goal:=by rw[E,<-hq,hL,ad];rfl
  refine go ((P j).2.length+(P j).1.kids.length) Q C (by rw[ab];simp only[alL];omega) ⟨(P j).2,(P j).1,H,al,p7,bo,λi b=>⟨(a7 i b).1,(a7 i b).2.1⟩,⟨f',by rw[ab];omega,cy⟩,λx o=>?_,ω,by rw[ab];omega,by rw[ab];omega,rfl⟩;rw[ab,ad]at o;exact aE x (List.mem_filter.1 o).1
end
end Gate
namespace Gate
open Board (Vd Cf Ms Dm jx aq aY bh dF bw bB fR cv)
open Pool (It WL dV has dY)
open Peers (Pe)
section
variable{R:Rq}{h h':af}{g:Nat}{a:Ad}{c:Cf}{V:List Vd}{s:St}{Fp:Nat->Nat->Prop}
end
end Gate
namespace Gate
open Board (Vd Cf Ms Dm jx aq aY bh dF bw bB fR cv jk)
open Pool (It WL dV Fit dY eM Dw rts oF)
open Peers (Pe)
noncomputable def c5(c:Cf)(s:St)(peer:Int)(m:Ms)(row:List Bool)(text:LU):Int×St:=
 if(c8 s.N (place m.target s.N)).2=false then((dY zT c.eV c.quo peer text s.kids).1,{s with kids:=(dY zT c.eV c.quo peer text s.kids).2.2})
 else if m.slot<=(c8 s.N (place m.target s.N)).1.slot then(10,s)
 else if c.no-s.N.length=0 then(13,s)
 else(0,lQ c.no (bw m row) m.target m.slot s)
section
variable{R:Rq}{h h':af}{g:Nat}{a:Ad}{c:Cf}{V:List Vd}{s:St}{Fp:Nat->Nat->Prop}
theorem sI(p:aR h g a c V s Fp){peer:Int}{m:Ms}{row:List Bool}{text:LU}(e:aj 1 h m.bits (aY row))(ab:row.length<500)(ht:text.length<1000)(ac:∀x∈s.kids,Fit zT x)(ad:(s.kids.length:Int)<=c.eV)(hl:0<=s.left/\s.left<1000000000)
 (E:∀h' P,aR h' g a c V (c5 c s peer m row text).2 P->Step (dm Fp) h (dm P) h'->R (TV.i (c5 c s peer m row text).1).val h'):
 Cl 149 [.ptr (PT g),.i peer,m.tv,.str text] h R:=by
 apply AF (PT g) peer m.kind m.slot m.target m.ax m.body m.bits m.tag text;delta nE j3 jZ dK js aD wq fk Dn i_ uR dx cu eY dJ bz dX eU bJ aT bA fD;have ao:=p.tok;have co:=p.can.eV;refine aa λy v1 C s1=>?_;have v1:Var 58 y h.size m.tv:=v1;have v:=p.ext C;have z1:=C.size;intro Q HJ;obtain⟨u,S⟩:∃u,u=c8 s.N (place m.target s.N):=⟨_,rfl⟩
 have j:c5 c s peer m row text=if u.2=false then((dY zT c.eV c.quo peer text s.kids).1,{s with kids:=(dY zT c.eV c.quo peer text s.kids).2.2})
  else if m.slot<=u.1.slot then(10,s)else if c.no-s.N.length=0 then(13,s)else(0,lQ c.no (bw m row) m.target m.slot s):=by unfold c5;rw[<-S]
 generalize c5 c s peer m row text=ap at j E
 have ae:∀(q:Nat)(d:af)(t:_×_×_×_×_×_×_×_×_×_×Bool),t.2.2.2.2.2.2.2.2.2.1=some (Vc.Loc.mk q 0)->t.2.2.2.2.2.2.2.2.2.2=u.2->Ext y d->Var 69 d q u.1.tv->Q t d:=by
  rintro q d t I J l K;refine HJ _ d ?_;dsimp only;rw[I,J];have w:=v.ext l;refine alv (λz=>?_) λz=>?_
  ·have z:u.2=false:=by simpa using z
   rw[if_pos z]at j;subst j;obtain⟨T,kA,kp,hK⟩:=w.kids;refine⟨_,w.var.ah rfl,Pool.Xh (peer:=peer) (text:=text) kp co.1 co.2 ad ht λn U w5 W=>⟨_,_,rfl,?_⟩⟩
   have st:Step (Fp 4) d (λi=>i=a.kd\/dV T U i) n:=by
    rw[hK]
    exact⟨W.only.mono λi B=>.inr B,λi B=>by
     rcases B with y|y
     ·exact .inl (.inl y)
     ·exact(W.new i y).imp .inr id⟩
   have p5:=w.tj ⟨T,U,w5,rfl⟩ st;have al:=Step.all st;refine aa λL v6 o s6=>aq (t:=.bytes 32 _) v6 eM.symm (eM.trans eM.symm) λX v7 f7 s7=>?_;have Y:Ext n X:=alo o f7 λi B=>alw (alz B);exact E X _ (p5.ext Y) (.cut (C.trans l) (al.trans (.an Y)))
  ·have z:u.2=true:=by simpa using z
   rw[if_neg (by rw[z];decide)]at j;refine⟨u.1.slot,K.at.2.1,m.slot,(v1.ext l).at.2.1,ID (λM=>?_) λM=>?_⟩
   ·rw[if_pos M]at j;subst j;exact E d Fp w (.an (C.trans l))
   ·rw[if_neg M]at j;refine⟨_,w.var.ah rfl,w.Dy ⟨_,rfl,?_⟩⟩;obtain⟨r,A,k,hS⟩:=w.tree;refine Gl k ⟨_,rfl,ID (λN=>?_) λN=>?_⟩
    ·rw[if_pos N]at j;subst j;exact E d Fp w (.an (C.trans l))
    ·rw[if_neg N]at j;subst j;have Z:=C.trans l;refine bB (m:=m) (v1.ext l) (bB (m:=m) (v1.ext l) (jk (m:=m) (e.ext Z) ab λh8 O=>⟨_,rfl,O,?_⟩));refine Ud (m:=m) (w.ext O) ac ω hl λh9 F9 p9 am=>⟨rfl,E h9 F9 p9 (.cut (Z.trans O) am)⟩
 refine⟨_,v.var.ah rfl,_,v.var.ah rfl,m.target,v1.at.2.2.1,?_⟩
 have node:∀{d:af}{q:Nat}{t0:TV},Ext y d->Var 69 d q t0->y.size<=q->t0.size=34->∀(t:_×_×_×_×_×_×_×_×_×_×Bool),t.2.2.2.2.2.2.2.2.2.1=some (Vc.Loc.mk q 0)->t.2.2.2.2.2.2.2.2.2.2=u.2->
  gT d q 0 34/\Bind (alT d q 0 u.1.tv) λn=>Q t n:=λ{d q t0} l K hq hz t I J=>
  aq (t:=u.1.tv) K hz.symm (by rw[hz];exact Nd.size _) λn v5 f5 s5=>ae q n t I J (alo l f5 λi B=>by rw[B];exact hq) v5
 have F:(alI [.bytes 32 (alu 32),.i 0,.i 0]).size=34:=rfl;subst S;obtain⟨r,A,k,hS⟩:=v.tree;refine⟨v.Dy ⟨_,rfl,alC _,v.Dy ⟨_,rfl,alC _,dM k λh2 D=>⟨_,rfl,?_,?_⟩,?_⟩,?_⟩,?_⟩
 ·refine dg (k.ext D) λh3 x3=>⟨_,_,_,_,rfl,aa λG v4 b H=>⟨b,node ((D.trans x3).trans b) v4 ?_ F _ rfl rfl⟩⟩;have:=D.size;have:=x3.size;omega
 ·refine aa λG v4 b H=>⟨b,dg ((k.ext D).ext b) λn f=>⟨_,_,_,_,rfl,node ((D.trans b).trans f) (v4.ext f) ?_ F _ rfl rfl⟩⟩;have:=D.size;omega
 ·exact aa λG v4 b H=>⟨b,dM (k.ext b) λn f=>⟨_,rfl,dg ((k.ext b).ext f) λL o=>⟨_,_,_,_,rfl,node ((b.trans f).trans o) ((v4.ext f).ext o) (als _) F _ rfl rfl⟩⟩⟩
 ·exact aa λG v4 b H=>⟨b,(v.ext b).Dy ⟨_,rfl,alC _,dM (k.ext b) λn f=>⟨_,rfl,dg ((k.ext b).ext f) λL o=>⟨_,_,_,_,rfl,node ((b.trans f).trans o) ((v4.ext f).ext o) (als _) F _ rfl rfl⟩⟩⟩⟩
 ·exact aa λG v4 b H=>⟨b,(v.ext b).Dy ⟨_,rfl,alC _,(v.ext b).Dy ⟨_,rfl,alC _,dM (k.ext b) λn f=>⟨_,rfl,dg ((k.ext b).ext f) λL o=>⟨_,_,_,_,rfl,node ((b.trans f).trans o) ((v4.ext f).ext o) (als _) F _ rfl rfl⟩⟩⟩⟩⟩
end
end Gate
namespace Gate
open Board (Vd Cf Ms Dm jx aq aY bh dF bw bB fR cv)
open Pool (It WL dV Fit dY KS KU oF)
open Peers (Pe)
abbrev zU(k:Int):Bool:=!decide (k=1)
noncomputable def aG(c:Cf)(V:List Vd)(s:St)(peer:Int)(text:LU):Int×St:=
 if decide (Peers.score s.sc peer<=-c.bH)=true then(3,s)
 else if c.iy<text.length then(4,s)
 else match dF text with
  |none=>(5,s)
  |some d=>if dw c V s (d.ms alq) d.row≠0 then(dw c V s (d.ms alq) d.row,s)
   else if d.kind=1 then c5 c s peer (d.ms alq) d.row text
   else((dY zU c.eH c.quo peer text s.wait).1,{s with wait:=(dY zU c.eH c.quo peer text s.wait).2.2})
structure Kept(c:Cf)(s:St)(k:Nat):Prop where
 now:0<=s.now/\s.now<=1073741824
 AG:(s.wait.length:Int)<=c.eH
 Cd:(s.kids.length:Int)<=c.eV
 AH:∀x∈s.wait,Fit zU x
 Ek:∀x∈s.kids,Fit zT x
 left:0<=s.left/\s.left+s.kids.length<=k
 gone:0<=s.gone/\s.gone<=k
theorem VO{want:Int->Bool}{most quota peer:Int}{text:LU}{S:List It}:(dY want most quota peer text S).2.2.length<=S.length+1:=by
 have a:∀x,(Pool.cV most quota x S).2.2.length<=S.length+1:=λx=>by
  unfold Pool.cV;split
  ·dsimp only;omega
  split
  ·dsimp only;omega
  split
  ·simp only[(Pool.dy x S).length_eq,alL];omega
  split
  ·dsimp only;omega
  split
  ·simp only[(Pool.dy x S.dropLast).length_eq,alL,List.length_dropLast];omega
  ·dsimp only;omega
 unfold dY;split
 ·dsimp only;omega
 split
 ·exact a _
 ·dsimp only;omega
section
variable{d:Dm}{b:Sl}{row:List Bool}
theorem KV:Board.dA (d.ms b) row=Board.dA (d.ms alq) row:=rfl
theorem XO:Board.dU (d.ms b) row=Board.dU (d.ms alq) row:=rfl
theorem El{n:Nat}{aQ:Int}:Board.a_ n aQ (d.ms b) row=Board.a_ n aQ (d.ms alq) row:=by
 unfold Board.a_;rw[XO];rfl
theorem XP{L:List Vd}{i:Int}:Board.ud L (d.ms b) row i=Board.ud L (d.ms alq) row i:=by
 unfold Board.ud;congr 1;unfold Board.B8 Board.Eh;by_cases h:d.kind=3
 ·rw[if_pos (show(d.ms b).kind=3 from h),if_pos (show(d.ms b).kind=3 from h),if_pos (show(d.ms alq).kind=3 from h),if_pos (show(d.ms alq).kind=3 from h)];rfl
 ·rw[if_neg (show¬(d.ms b).kind=3 from h),if_neg (show¬(d.ms b).kind=3 from h),if_neg (show¬(d.ms alq).kind=3 from h),if_neg (show¬(d.ms alq).kind=3 from h)];exact KV
theorem Ue{n:Nat}{aQ:Int}{L:List Vd}:Board.kj n aQ L (d.ms b) row=Board.kj n aQ L (d.ms alq) row:=by
 have e:Board.ud L (d.ms b) row=Board.ud L (d.ms alq) row:=funext λi=>XP;unfold Board.kj Board.mB;rw[El,e];rfl
theorem GS:bw (d.ms b) row=bw (d.ms alq) row:=by
 unfold Board.bw;rw[KV];rfl
theorem KW{c:Cf}{V:List Vd}{s:St}:dw c V s (d.ms b) d.row=dw c V s (d.ms alq) d.row:=by
 unfold dw;rw[El,Ue,GS];rfl
theorem Uf{c:Cf}{s:St}{peer:Int}{text:LU}:c5 c s peer (d.ms b) d.row text=c5 c s peer (d.ms alq) d.row text:=by
 unfold c5;rw[GS];rfl
end
section
variable{R:Rq}{h h':af}{g:Nat}{a:Ad}{c:Cf}{V:List Vd}{s:St}{Fp:Nat->Nat->Prop}
theorem R1(p:aR h g a c V s Fp){k:Nat}(q:Kept c s k)(hk:k<100000){peer:Int}{text:LU}(B:text.length<1000)
 (A:∀h' H,aR h' g a c V (aG c V s peer text).2 H->Step (dm Fp) h (dm H) h'->R (TV.i (aG c V s peer text).1).val h'):
 Cl 80 [.ptr (PT g),.i peer,.str text] h R:=by
 apply AE;delta jZ jY aD cu eY dJ dz dX aN aT bA;have kl:=q.left;obtain⟨r,N,hP⟩:=p.who
 have f:aG c V s peer text=if decide (Peers.score s.sc peer<=-c.bH)=true then(3,s)else if c.iy<text.length then(4,s)else match dF text with
  |none=>(5,s)
  |some d=>if dw c V s (d.ms alq) d.row≠0 then(dw c V s (d.ms alq) d.row,s)
   else if d.kind=1 then c5 c s peer (d.ms alq) d.row text
   else((dY zU c.eH c.quo peer text s.wait).1,{s with wait:=(dY zU c.eH c.quo peer text s.wait).2.2}):=rfl
 generalize aG c V s peer text=O at f A
 have o:∀(u:af)(v:Int),O=(v,s)->Ext h u->R (TV.i v).val u:=λu v e x=>by
  subst e;exact A u Fp (p.ext x) (.an x)
 refine⟨_,p.var.ah rfl,Peers.RF N ⟨_,rfl,alv (λl=>o h 3 (by rw[f,if_pos l]) (alC _)) λl=>?_⟩⟩;rw[if_neg (by rw[l];decide)]at f;refine⟨c.iy,p.var.ah rfl,ID (λj=>o h 4 (by rw[f,if_pos j]) (alC _)) λj=>?_⟩;rw[if_neg j]at f;refine RV p q.now.1 q.now.2 B (λP C D=>?_) λd I C b Q D=>?_
 ·rw[P]at f;refine⟨_,_,_,_,_,_,_,_,rfl,aa λS E F T=>aq (t0:=bh.tv) E (t:=bh.tv) cv fR λj v4 f4 U=>?_⟩;exact alR (o j 5 f (D.trans (alo F f4 λi n=>alw (alz n))))
 rw[I]at f;simp only at f;refine⟨_,_,_,_,_,_,_,_,rfl,aa λS E F T=>aq (t0:=bh.tv) E (t:=(d.ms b).tv) cv fR λj v4 f4 U=>?_⟩;have J:Ext C j:=alo F f4 λi n=>alw (alz n);have w:Ext h j:=D.trans J;have v4:Var 58 j C.size (d.ms b).tv:=v4;rw[KW];refine alv (λl=>o j _ (by rw[f,if_pos (by simpa using l)]) w) λl=>?_;have W:dw c V s (d.ms alq) d.row=0:=by simpa using l
 rw[if_neg (by rw[W];simp)]at f;have y:=p.ext w;refine⟨d.kind,v4.ah rfl,ID (λe=>?_) λe=>?_⟩
 ·rw[if_pos e]at f;subst f;rw[<-Uf (b:=b)]at A;refine bB (m:=d.ms b) v4 (sI (m:=d.ms b) (row:=d.row) y (Q.ext J) (oF I) B q.Ek q.Cd ω λz X Y Z=>⟨_,rfl,A z X Y (.cut w Z)⟩)
 ·rw[if_neg e]at f;subst f;obtain⟨K,wA,wp,hW⟩:=y.wait;refine⟨_,y.var.ah rfl,Pool.Xi (peer:=peer) (text:=text) wp p.can.eH.1 p.can.eH.2 q.AG B λz L w5 M=>⟨_,_,rfl,?_⟩⟩
  have st:Step (Fp 5) j (λi=>i=a.wt\/dV K L i) z:=by
   rw[hW]
   exact⟨M.only.mono λi n=>.inr n,λi n=>by
    rcases n with G|G
    ·exact .inl (.inl G)
    ·exact(M.new i G).imp .inr id⟩
  exact A z _ (y.B_ ⟨K,L,w5,rfl⟩ st) (.cut w (Step.all st))
theorem KX{k:Nat}(q:Kept c s k){peer:Int}{text:LU}(A:text.length<1000){m:Ms}{row:List Bool}:Kept c (c5 c s peer m row text).2 (k+1)/\vv 64 s {(c5 c s peer m row text).2 with left:=s.left}:=by
 have l:=q.left;have n:=q.gone;have j:Kept c s (k+1):=⟨q.now,q.AG,q.Cd,q.AH,q.Ek,ω,ω⟩;have d:∀{b:St},b.tb=s.tb->b.wait=s.wait->b.sc=s.sc->b.gone=s.gone->b.now=s.now->vv 64 s {b with left:=s.left}:=λa e f g h=>⟨a,e,f,g,h,by dsimp only;omega⟩;unfold c5;split
 ·refine⟨⟨q.now,q.AG,KU q.Cd,q.AH,λx i=>KS A q.Ek x i,⟨l.1,?_⟩,by dsimp only;omega⟩,d rfl rfl rfl rfl rfl⟩;have:=VO (want:=zT) (most:=c.eV) (quota:=c.quo) (peer:=peer) (text:=text) (S:=s.kids);dsimp only;omega
 ·split
  ·exact⟨j,d rfl rfl rfl rfl rfl⟩
  ·split
   ·exact⟨j,d rfl rfl rfl rfl rfl⟩
   ·unfold lQ;obtain⟨a,e,f⟩:=CS (no:=c.no) (1+s.kids.length) [bw m row] {s with N:=gw s.N c.no (bw m row) m.target m.slot};dsimp only at a e f⊢;have o:=q.Cd;have g:=a.left;dsimp only at g;have h:=KR (no:=c.no) (1+s.kids.length) [bw m row] {s with N:=gw s.N c.no (bw m row) m.target m.slot};dsimp only at h;exact⟨⟨by rw[a.now];exact q.now,by rw[a.wait];exact q.AG,ω,by rw[a.wait];exact q.AH,λx i=>q.Ek x (e x i),ω,by rw[a.gone];exact⟨n.1,by show s.gone<=((k+1:Nat):Int);omega⟩⟩,d a.tb a.wait a.sc a.gone a.now⟩
theorem zj{k:Nat}(q:Kept c s k){peer:Int}{text:LU}(A:text.length<1000):Kept c (aG c V s peer text).2 (k+1)/\(aG c V s peer text).2.sc=s.sc/\(aG c V s peer text).2.gone=s.gone/\(aG c V s peer text).2.now=s.now/\(aG c V s peer text).2.tb=s.tb:=by
 have f:=q.left;have g:=q.gone;have a:Kept c s (k+1):=⟨q.now,q.AG,q.Cd,q.AH,q.Ek,ω,ω⟩;unfold aG;split
 ·exact⟨a,rfl,rfl,rfl,rfl⟩
 split
 ·exact⟨a,rfl,rfl,rfl,rfl⟩
 split
 ·exact⟨a,rfl,rfl,rfl,rfl⟩
 split
 ·exact⟨a,rfl,rfl,rfl,rfl⟩
 split
 ·obtain⟨d,b⟩:=KX (c:=c) q (peer:=peer) A (m:=_) (row:=_);exact⟨d,b.sc,b.gone,b.now,b.tb⟩
 ·exact⟨⟨q.now,KU q.AG,q.Cd,λx e=>KS A q.AH x e,q.Ek,by dsimp only;omega,by dsimp only;omega⟩,rfl,rfl,rfl,rfl⟩
theorem k_(p:aR h g a c V s Fp){k:Nat}(q:Kept c s k)(E:k<100000){peer:Int}(H:(Lit.int .i64 peer).wf=true){text:LU}(A:text.length<1000)
 (B:∀h' P n d,aR h' g a c V {(aG c V s peer text).2 with sc:=P,gone:=s.gone+n} d->Step (dm Fp) h (dm d) h'->Peers.lN c.pe s.sc peer (iu (aG c V s peer text).1) P n->R (TV.i (aG c V s peer text).1).val h'):
 Cl 20 [.ptr (PT g),.i peer,.str text] h R:=by
 apply me;delta jZ aD dJ dX aT bA;have y:=q.gone;obtain⟨_,j1,e,_,_⟩:=zj (V:=V) q (peer:=peer) A;generalize l:aG c V s peer text=z at B j1 e;refine alD (R1 p q E A λm o b t=>?_);rw[l]at b⊢;refine⟨_,rfl,_,b.var.ah rfl,RO ⟨_,rfl,alC _,?_⟩⟩;obtain⟨r,f,u⟩:=b.who;rw[j1,e]at f;refine Peers.Xv f H ω λj P k v w f2=>⟨rfl,?_⟩
 have st:Step (o 6) m (λi=>i=a.wh\/i=r) j:=by
  rw[u];exact⟨f2,λi x=>.inl x⟩
 exact B j P k _ (b.CR ⟨r,w,rfl⟩ st) (t.trans (Step.all st)) v
end
end Gate
end Go.Proofs.YtennbinbffdimaaGreat

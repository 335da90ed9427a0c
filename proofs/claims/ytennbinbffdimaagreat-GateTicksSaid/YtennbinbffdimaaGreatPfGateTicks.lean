/- The law GateTicks holds for every input: each tick is one slot, and neither bytes nor what is made final move the clock. -/
import Derived.Deep.Strs
import Derived.OpenShut
import Derived.Test.YtennbinbffdimaaGreatRows
import Derived.WalkKit
import Derived.ProofKit
import Derived.ShutString
import Derived.ChangeOld
import Derived.Below
import Derived.Test.YtennbinbffdimaaGreatPk5
set_option maxRecDepth 100000
open Go.Vc.TV renaming val->akb,bool->akg,aX->akl,str->akr,agg->aku,bytes->akE,cells->akL
open Go.Vc.ag renaming cut->akc
open Go.IntKind renaming wrap->akd
open Go.DataW renaming trod_int->ake,trod->akn,trod_struct->akC
open Go.Vc.Bs renaming zero->akf
open Go.Vc.aj renaming cells->akh
open Go.Vc.If renaming no->aki,yes->akz,split->akF
open Go.Vc.Sl renaming mk->akj,nil->akk
open Int renaming tmod->akm,le_refl->aks
open List renaming getElem?_eq_getElem->ako,length_map->akA,getElem?_map->akB,drop_zero->akD,mem_singleton->akG,length_nil->akH,mem_of_getElem?->akJ
open Nat renaming le_of_eq->akp,le_of_lt->akI,le_refl->akK
open Eq renaming symm->akq
open Array renaming size->akt
open Go.Lit renaming int->akv
open Go.Proofs.YtennbinbffdimaaGreat.Peers renaming score->akw
open Go.Vc.Ext renaming push->akx
open ByteArray renaming mk->aky
namespace Go.Proofs.YtennbinbffdimaaGreat
open Go Go.Vc
namespace Gate
open Board (Vd Cf Ms av)
open Pool (It Fit jV Im)
def tK(F1 F2:Nat->Nat->Prop)(i:Nat):Prop:=cO F1 i\/cO F2 i
structure Bz(h:aa)(g m:Nat)(a:Ad)(b:YK)(c:Cf)(q:Sl)(V:List Vd)(s t:St)(F1 F2:Nat->Nat->Prop):Prop where
 G:aQ h g a {c with vals:=q} V s F1
 D:aS h m b c V t F2
 nC:∀i,cO F1 i->¬cO F2 i
 d1:∀i,In c.vals i->¬cO F1 i
 d2:∀i,In q i->¬cO F2 i
section
variable{R:Rq}{h h':aa}{g m:Nat}{a a':Ad}{b b':YK}{c:Cf}{q:Sl}{V:List Vd}{s s' t t':St}{F1 F2 F1' F2':Nat->Nat->Prop}
theorem Bz.lt1(p:Bz h g m a b c q V s t F1 F2):∀i,cO F1 i->i<h.size:=λi⟨k,d⟩=>p.G.sep.lt k i d
theorem Bz.lt2(p:Bz h g m a b c q V s t F1 F2):∀i,cO F2 i->i<h.size:=λi⟨k,d⟩=>p.D.sep.lt k i d
theorem Bz.lt(p:Bz h g m a b c q V s t F1 F2):∀i,tK F1 F2 i->i<h.size:=λi d=>d.elim (p.lt1 i) (p.lt2 i)
theorem Bz.ext(p:Bz h g m a b c q V s t F1 F2)(x:Ext h h'):Bz h' g m a b c q V s t F1 F2:=⟨p.G.ext x,p.D.ext x,p.nC,p.d1,p.d2⟩
theorem Bz.left(p:Bz h g m a b c q V s t F1 F2)(G:aQ h' g a' {c with vals:=q} V s' F1')(st:Step (cO F1) h (cO F1') h'):Bz h' g m a' b c q V s' t F1' F2/\Step (tK F1 F2) h (tK F1' F2) h':=by
 refine⟨⟨G,p.D.only st.only (λk i d e=>p.nC i e ⟨k,d⟩) p.d1,λi d e=>?_,λi d e=>?_,p.d2⟩,⟨st.only.mono λi d=>.inl d,λi d=>?_⟩⟩
 ·rcases st.new i d with f|f
  ·exact p.nC i f e
  ·have:=p.lt2 i e;omega
 ·rcases st.new i e with f|f
  ·exact p.d1 i d f
  ·have:=p.D.PC i d;omega
 ·rcases d with d|d
  ·exact(st.new i d).imp .inl id
  ·exact .inl (.inr d)
theorem Bz.right(p:Bz h g m a b c q V s t F1 F2)(D:aS h' m b' c V t' F2')(st:Step (cO F2) h (cO F2') h'):Bz h' g m a b' c q V s t' F1 F2'/\Step (tK F1 F2) h (tK F1 F2') h':=by
 refine⟨⟨p.G.only st.only (λk i d e=>p.nC i ⟨k,d⟩ e) p.d2,D,λi d e=>?_,p.d1,λi d e=>?_⟩,⟨st.only.mono λi d=>.inr d,λi d=>?_⟩⟩
 ·rcases st.new i e with f|f
  ·exact p.nC i d f
  ·have:=p.lt1 i d;omega
 ·rcases st.new i e with f|f
  ·exact p.d2 i d f
  ·have:=p.G.PC i d;omega
 ·rcases d with d|d
  ·exact .inl (.inl d)
  ·exact(st.new i d).imp .inr id
structure Alike(h:aa)(g m:Nat)(a:Ad)(b:YK)(c:Cf)(q:Sl)(V:List Vd)(s:St)(P:List (Int×Int))(F1 F2:Nat->Nat->Prop)(k:Nat):Prop where
 p:Bz h g m a b c q V s (gD s P) F1 F2
 perm:s.sc.Perm P
 kept:Kept c s k
 jk:Sa s k
theorem Alike.ext{P:List (Int×Int)}{k:Nat}(p:Alike h g m a b c q V s P F1 F2 k)(x:Ext h h'):Alike h' g m a b c q V s P F1 F2 k:=⟨p.p.ext x,p.perm,p.kept,p.jk⟩
theorem Alike.good{P:List (Int×Int)}{k:Nat}(p:Alike h g m a b c q V s P F1 F2 k):Peers.Good s.sc:=Peers.Good.perm p.p.D.good.1 p.perm.symm
def CG(c:Cf)(V:List Vd)(s:St)(kind peer:Int)(text:LU)(root:Bs 32)(s':St):Prop:=
 if kind=2 then s'=(eM c V s).2 else if kind=3 then s'=(bg c s root).2
 else∃P n,s'={(bG c V s peer text).2 with sc:=P,gone:=s.gone+n}/\Peers.m_ c.pe s.sc peer (iM (bG c V s peer text).1) P n
theorem VQ{most k pts n:Int}{L L':List (Int×Int)}(f:Peers.m_ most L k pts L' n):0<=n/\n<=1:=by
 rcases f with⟨_,_,rfl⟩|⟨_,_,rfl,_⟩|⟨_,_,_,rfl,_⟩<;>omega
theorem Np{P:List (Int×Int)}{k:Nat}(p:Alike h g m a b c q V s P F1 F2 k)(B:k<100000){peer:Int}(E:(akv .i64 peer).wf=true){text:LU}(A:text.length<1000){R2:Int->Rq}
 (G:∀e P' n Q F1' F2',Alike e g m a b c q V {(bG c V s peer text).2 with sc:=P',gone:=s.gone+n} Q F1' F2' (k+1)->Step (tK F1 F2) h (tK F1' F2') e->
  Peers.m_ c.pe s.sc peer (iM (bG c V s peer text).1) P' n->R2 (bG c V s peer text).1 (TV.i (bG c V s peer text).1).val e):
 Cl 20 [.ptr (PT g),.i peer,.str text] h λv j=>v=(TV.i (bG c V s peer text).1).val/\ag (tK F1 F2) h j/\
  Cl 43 [.ptr (PT m),.i peer,.str text] j (R2 (bG c V s peer text).1):=by
 have d:=p.kept;have w:akw P peer=akw s.sc peer:=(Peers.wO p.perm p.good.one peer).symm;have x:=Qa (c:=c) (V:=V) (s:=s) (P:=P) (peer:=peer) (text:=text) w;have y:Kept {c with vals:=q} s k:=⟨d.now,d.An,d.By,d.Ao,d.D1,d.left,d.gone⟩;refine nE (c:={c with vals:=q}) p.p.G y B E A λj P1 z F1' l C f=>?_;rw[nj]at l f⊢;obtain⟨o,r⟩:=p.p.left l C;refine⟨rfl,r.only,?_⟩;refine JO o.D (TM d) B E A λe D M F2' t F u=>?_;rw[x]at t u⊢;obtain⟨H,I⟩:=Peers.PO p.perm p.good.one f u;subst I;obtain⟨J,K⟩:=o.right t F;have L:=VQ f;exact G e P1 z D F1' F2' ⟨J,H,xA d A L,ab9 (VO d p.jk A)⟩ (r.trans K) f
theorem VR{P:List (Int×Int)}{k:Nat}(p:Alike h g m a b c q V s P F1 F2 k)(A:k<700){R2:Bool->Rq}
 (B:∀e Q F1' F2',Alike e g m a b c q V (eM c V s).2 Q F1' F2' (k+1)->Step (tK F1 F2) h (tK F1' F2') e->R2 (eM c V s).1 (akg (eM c V s).1).val e):
 Cl 39 [.ptr (PT g)] h λv f=>v=(akg (eM c V s).1).val/\ag (tK F1 F2) h f/\
  Cl 40 [.ptr (PT m)] f (R2 (eM c V s).1):=by
 have d:=p.kept;have o:=Sd (c:=c) (V:=V) (s:=s) (P:=P);have r:Kept {c with vals:=q} s k:=⟨d.now,d.An,d.By,d.Ao,d.D1,d.left,d.gone⟩;have t:=p.p.G.can.len.2;refine I3 (c:={c with vals:=q}) p.p.G r λf F1' i u=>?_;rw[Lk]at i⊢;obtain⟨j,l⟩:=p.p.left i u;refine⟨rfl,l.only,Ct j.D (TM d) p.jk A λe F2' n w=>?_⟩;rw[o]at n⊢;obtain⟨x,y⟩:=j.right n w;refine B e _ F1' F2' ⟨x,?_,Lm d,Y2 t p.jk⟩ (l.trans y);unfold eM;split
 ·exact p.perm
 ·exact Peers.Va p.perm
theorem Sf{P:List (Int×Int)}{k:Nat}(p:Alike h g m a b c q V s P F1 F2 k){root:Bs 32}{R2:Int->Rq}
 (A:∀d a' b' F1' F2',Alike d g m a' b' c q V (bg c s root).2 P F1' F2' k->Step (tK F1 F2) h (tK F1' F2') d->R2 (bg c s root).1 (TV.i (bg c s root).1).val d):
 Cl 41 [.ptr (PT g),.bytes 32 root] h λv e=>v=(TV.i (bg c s root).1).val/\ag (tK F1 F2) h e/\
  Cl 42 [.ptr (PT m),.bytes 32 root] e (R2 (bg c s root).1):=by
 have n:=p.kept;have o:=Qb (c:=c) (s:=s) (P:=P) (root:=root);refine JP (c:={c with vals:=q}) p.p.G λe a' F1' f r=>?_;rw[Se]at f⊢;obtain⟨i,j⟩:=p.p.left f r;refine⟨rfl,j.only,Jc i.D λd b' F2' l t=>?_⟩;rw[o]at l⊢;obtain⟨u,w⟩:=i.right l t;have x:(bg c s root).2.sc=s.sc:=by unfold bg;split<;>rfl
 exact A d a' b' F1' F2' ⟨u,by rw[x];exact p.perm,R_ n,VP p.jk⟩ (j.trans w)
theorem Je{P:List (Int×Int)}{k:Nat}(p:Alike h g m a b c q V s P F1 F2 k):Alike h g m a b c q V s P F1 F2 (k+1):=⟨p.p,p.perm,Ll p.kept,Y1 p.jk⟩
structure Act where
 kind:Int
 peer:Int
 text:LU
 oG:Ms
 which:Int
 sign:Bool
def Act.tv(x:Act):TV:=.agg [.i x.kind,.i x.peer,.str x.text,x.oG.tv,.i x.which,.bool x.sign]
theorem aax{P:List (Int×Int)}{k:Nat}(p:Alike h g m a b c q V s P F1 F2 k)(M:k<700){x:Act}(O:(akv .i64 x.peer).wf=true){text:LU}(U:text.length<1000){root:Bs 32}
 (A:∀d a' b' s' Q F1' F2',Alike d g m a' b' c q V s' Q F1' F2' (k+1)->Step (tK F1 F2) h (tK F1' F2') d->CG c V s x.kind x.peer text root s'->R (akg true).val d):
 Cl 29 [.ptr (PT g),.ptr (PT m),x.tv,.str text,.bytes 32 root] h R:=by
 apply Az (PT g) (PT m) x.kind x.peer x.text x.oG.kind x.oG.slot x.oG.target x.oG.ax x.oG.body x.oG.bits x.oG.tag x.which x.sign text root;delta sq jZ bV aJ bK aT;refine af λw v1 E T=>af λF G B W=>?_;have v1:Var 60 w h.size x.tv:=v1;have y:=E.trans B;have C:=p.ext y;have H:=v1.ext B;have X:=E.size;have Y:=B.size;have I:∀i,h.size<=i->¬tK F1 F2 i:=λi J l=>by have:=p.p.lt i l;omega
 refine⟨x.kind,H.at.1,ID (λz=>?_) λz=>If.dec.2 ⟨λD=>?_,λD=>?_⟩⟩
 ·refine(VR (R2:=λb v j=>∃(K:Bool),v=akb (akg K)/\R (akb (akg (b==K))) j) C M λd Q F1' F2' o r=>⟨_,rfl,?_⟩).mono λv j⟨e,_,t⟩=>⟨_,e,t⟩;rw[show((eM c V s).1==(eM c V s).1)=true by simp];exact A d a b _ Q F1' F2' o (.cut y r) (by unfold CG;rw[if_pos z])
 ·refine⟨Vc.keeps (·=w.size) F,jq,root,(G.keeps (S:=(·=w.size)) rfl).bytes,root,(G.keeps (S:=(·=w.size)) rfl).bytes,?_⟩;refine(Sf (R2:=λn v j=>∃(u:Int),v=akb (TV.i u)/\R (akb (akg (decide (n=u)))) j) C λd a' b' F1' F2' o r=>⟨_,rfl,?_⟩).mono λv j⟨e,f,t⟩=>⟨_,e,tV f (λi J l=>I i ω l),t⟩;rw[decide_eq_true rfl];exact A d a' b' _ P F1' F2' (Je o) (.cut y r) (by unfold CG;rw[if_neg z,if_pos D])
 ·have L:=H.keeps (S:=(·=h.size)) rfl;refine⟨Vc.keeps (·=h.size) F,jq,x.peer,L.at.2.1,x.peer,L.at.2.1,?_⟩;refine(Np (R2:=λn v j=>∃(u:Int),v=akb (TV.i u)/\R (akb (akg (decide (n=u)))) j) C ω O U λd P' n Q F1' F2' o r N=>⟨_,rfl,?_⟩).mono λv j⟨e,f,t⟩=>⟨_,e,tV f (λi J l=>I i ω l),t⟩;rw[decide_eq_true rfl];exact A d a b _ Q F1' F2' o (.cut y r) (by unfold CG;rw[if_neg z,if_neg D];exact⟨P',n,rfl,N⟩)
def uZ(n:Nat)(A:Int):Nat:=(akm (akd .u64 A) (n:Int)).toNat
theorem Y3{n:Nat}(B:0<n)(A:Int):uZ n A<n/\0<=akm (akd .u64 A) (n:Int):=by
 have a:=Board.fM A;have c:akm (akd .u64 A) (n:Int)<n:=Int.tmod_lt_of_pos _ ω;have b:0<=akm (akd .u64 A) (n:Int):=Int.tmod_nonneg _ a.1;exact⟨by unfold uZ;omega,b⟩
theorem TN{l:Sl}{L:List (Bs 32)}{B:aa}(e:ak 32 B l (Pool.rts L))(E:L≠[])(H:L.length<100000){A:Int}{K:Bs 32->Prop}(G:K (L.getD (uZ L.length A) (akf 32))):
 akd .u64 (l.len:Int)≠0/\0<=akd .i64 (akm (akd .u64 A) (akd .u64 (l.len:Int)))/\akd .i64 (akm (akd .u64 A) (akd .u64 (l.len:Int)))<(l.len:Int)/\
  Nn l.a λp=>∃b:Bs 32,ay B p.b (p.o+(akd .i64 (akm (akd .u64 A) (akd .u64 (l.len:Int)))).toNat*32) 32 b/\K b:=by
 have el:=e.len;rw[kz]at el;have c:0<L.length:=List.length_pos_iff.2 E;have d:akd .u64 (l.len:Int)=(L.length:Int):=by rw[Board.bH ω ω];omega
 obtain⟨a,f⟩:=Y3 c A;rw[d];have m:akm (akd .u64 A) (L.length:Int)<L.length:=by unfold uZ at a;omega
 rw[wrap_i64 ω ω]
 have g:L[(akm (akd .u64 A) (L.length:Int)).toNat]? =some (L.getD (uZ L.length A) (akf 32)):=by
  have h:(akm (akd .u64 A) (L.length:Int)).toNat=uZ L.length A:=rfl;rw[h,List.getD_eq_getElem?_getD,ako a];rfl
 obtain⟨i,j,k⟩:=th e f g G;exact⟨ω,i,j,k⟩
theorem EF{l:Sl}{L:List (Bs 32)}(e:ak 32 h l (Pool.rts L))(B:L≠[])(E:L.length<100000){A:Int}(G:∀h',Ext h h'->R (akE 32 (L.getD (uZ L.length A) (akf 32))).val h'):
 Cl 30 [.slice l,.i A] h R:=by
 apply xB;delta dH xQ bu fU bK bN;refine af λf v1 a g=>TN (e.ext a) B E ?_;refine av (t:=.bytes 32 (L.getD (uZ L.length A) (akf 32))) v1 jV.symm (jV.trans jV.symm) λb c f2 j=>⟨_,c.bytes,G b (akc a f2 λi d=>akp (akq d))⟩
end
end Gate
namespace Board
section
variable{R:Rq}{h:aa}
theorem qq{c:Cf}{m:Ms}{row:List Bool}{L:List Vd}(f:Du c)(E:ak 2 h c.vals (jI L))(G:∀v∈L,v.key.length<=64)(e:ak 1 h m.bits (aP row))(H:row.length<500)(I:jC m)
 (A:∀y,Ext h y->R (akl [(mc c.vals.len c.aN L m row).1.tv,.bool (mc c.vals.len c.aN L m row).2]).val y):Cl 88 [c.tv,m.tv] h R:=by
 apply xC c.vals c.ep c.aN c.no c.eu c.ew c.quo c.pe c.gY c.win c.bD c.dec m.kind m.slot m.target m.ax m.body m.bits m.tag;delta dh dW pV Jy;refine af λk v1 z S=>af λl d n T=>af λo p g U=>?_;have v1:Var 24 o h.size c.tv:=(Var.ext (t:=c.tv) v1 n).ext g;have d:Var 58 o k.size m.tv:=Var.ext (t:=m.tv) d g;have p:Var 58 o l.size aU.tv:=p;have q:=(z.trans n).trans g;refine ri v1 (aZ d (FO f (E.ext q) G (e.ext q) H I λD j=>⟨_,_,rfl,?_⟩));have V:=z.size;have W:=n.size;have X:=g.size;have Y:=j.size;refine af λZ F J s5=>av F (t:=.bytes 16 (lg c.vals.len c.aN L m row).1) rfl rfl λr v6 f6 s6=>?_;have s:Ext D r:=akc J f6 λi u=>ω;have B:=(q.trans j).trans s;have K:Var 58 r k.size m.tv:=(d.ext j).ext s;have C:Var 58 r l.size aU.tv:=(p.ext j).ext s;refine akF (λw=>?_) λw=>⟨_,v6.bytes,?_⟩
 ·have x:mc c.vals.len c.aN L m row=(aU,false):=by
   unfold mc;rw[if_neg (by simpa using w)]
  refine av C (t:=aU.tv) ck eZ λa b f7 M=>aZ b ?_;have:=A a (akc B f7 λi u=>ω);rw[x]at this;exact this
 ·have x:mc c.vals.len c.aN L m row=({m with tag:=(lg c.vals.len c.aN L m row).1},true):=by
   unfold mc;rw[if_pos (by simpa using w)]
  refine aF (i:=6) (t:=.bytes 16 (lg c.vals.len c.aN L m row).1) (t0:=.bytes 16 m.tag) K rfl rfl rfl rfl λa b f7 M=>?_;have b:Var 58 a k.size ({m with tag:=(lg c.vals.len c.aN L m row).1}:Ms).tv:=b;have N:Ext h a:=akc B f7 λi u=>ω;refine aZ b ?_;have O:Var 58 a l.size aU.tv:=C.only f7 ω;refine av O (t:=({m with tag:=(lg c.vals.len c.aN L m row).1}:Ms).tv) ck eZ λP Q f8 s8=>aZ Q ?_;have:=A P (akc N f8 λi u=>ω);rw[x]at this;exact this
end
end Board
namespace Gate
open Board (Vd Cf Ms mc dn bT mX)
noncomputable def Gp(c:Cf)(V:List Vd)(q:List (Bs 32))(x:Act)(row:List Bool):Ms:=
 if x.kind=1/\x.sign=true/\(mc V.length c.aN V {x.oG with target:=q.getD (uZ q.length x.which) (akf 32)} row).2=true
 then(mc V.length c.aN V {x.oG with target:=q.getD (uZ q.length x.which) (akf 32)} row).1
 else{x.oG with target:=q.getD (uZ q.length x.which) (akf 32)}
noncomputable def dN(c:Cf)(V:List Vd)(p:List (Bs 32)×List (LU))(x:Act×List Bool):List (Bs 32)×List (LU):=
 if x.1.kind=1/\dn (Gp c V p.1 x.1 x.2) x.2=true then
  (if(Gp c V p.1 x.1 x.2).kind=1 then p.1++[bT (Gp c V p.1 x.1 x.2) x.2]else p.1,p.2++[Board.wH (Gp c V p.1 x.1 x.2) x.2])
 else(p.1,p.2++[x.1.text])
noncomputable def gK(c:Cf)(V:List Vd)(q:List (Act×List Bool)):List (Bs 32)×List (LU):=q.foldl (dN c V) ([uy c V],[])
def Ln(x:Act×List Bool):Prop:=x.1.text.length<=400/\x.2.length<=40/\(akv .i64 x.1.peer).wf=true/\Board.jC x.1.oG
theorem Nq{c:Cf}{V:List Vd}{p:List (Bs 32)×List (LU)}{x:Act×List Bool}:(dN c V p x).2.length=p.2.length+1/\p.1.length<=(dN c V p x).1.length/\(dN c V p x).1.length<=p.1.length+1:=by
 unfold dN;split
 ·dsimp only;refine⟨by simp,?_⟩;split
  ·simp
  ·omega
 ·simp
theorem JQ{c:Cf}{V:List Vd}{p:List (Bs 32)×List (LU)}{x:Act×List Bool}(ok:Ln x)(q:∀t∈p.2,t.length<1000):∀t∈(dN c V p x).2,t.length<1000:=by
 intro t a;unfold dN at a;split at a
 ·rcases List.mem_append.1 a with h|h
  ·exact q t h
  ·rw[akG.1 h];have b:=mX (Gp c V p.1 x.1 x.2) x.2;have d:=ok.2.1;omega
 ·rcases List.mem_append.1 a with h|h
  ·exact q t h
  ·rw[akG.1 h];have:=ok.1;omega
end Gate
namespace Gate
open Board (Vd Cf Ms Du mc dn bT mX aP aU aZ eZ ck jI av kV HZ)
open Pool (jV Im rts)
structure tL(h:aa)(A:Sl)(xs:List (Act×List Bool)):Prop where
 el:ak 58 h A (xs.map λx=>x.1.tv)
 bits:∀x∈xs,ak 1 h x.1.oG.bits (aP x.2)
abbrev strs(l:List (LU)):List TV:=l.map akr
def kY:TV:=.agg [.i 0,.i 0,.str [],aU.tv,.i 0,.bool false]
theorem D7(x:Act):x.tv.size=kY.size:=by simp only[Act.tv,kY,Ms.tv,TV.size,aj.size]
theorem A_:58=kY.size:=by simp only[kY,Ms.tv,TV.size,aj.size]
section
variable{R:Rq}{h h':aa}{c:Cf}{V:List Vd}{A:Sl}{xs:List (Act×List Bool)}
theorem tL.ext(p:tL h A xs)(x:Ext h h'):tL h' A xs:=⟨p.el.ext x,λy a=>(p.bits y a).ext x⟩
theorem tL.len(p:tL h A xs):xs.length=A.len:=by have:=p.el.len;rwa [akA]at this
theorem Sg(p:tL h A xs){i:Int}(W:0<=i){x:Act×List Bool}(q:xs[i.toNat]? =some x)
 {K:Int->Int->LU->Int->Int->Bs 32->Int->Int->Sl->Bs 16->Int->Bool->Prop}(Z:K x.1.kind x.1.peer x.1.text x.1.oG.kind x.1.oG.slot x.1.oG.target x.1.oG.ax x.1.oG.body x.1.oG.bits x.1.oG.tag x.1.which x.1.sign):
 0<=i/\i<(A.len:Int)/\Nn A.a λl=>∃(n:Int),∃(B:Int),∃(s:LU),∃(E:Int),∃(G:Int),∃(b:Bs 32),∃(H:Int),∃(I:Int),∃(J:Sl),∃(M:Bs 16),∃(O:Int),∃(U:Bool),
  (ah h l.b (l.o+i.toNat*58) (.i n)/\ah h l.b (l.o+i.toNat*58+1) (.i B)/\ah h l.b (l.o+i.toNat*58+1+1) (.string (aky s.toArray))/\
   (ah h l.b (l.o+i.toNat*58+1+1+1) (.i E)/\ah h l.b (l.o+i.toNat*58+1+1+1+1) (.i G)/\ay h l.b (l.o+i.toNat*58+1+1+1+1+1) 32 b/\ah h l.b (l.o+i.toNat*58+1+1+1+1+1+32) (.i H)/\
    ah h l.b (l.o+i.toNat*58+1+1+1+1+1+32+1) (.int .u64 I)/\ah h l.b (l.o+i.toNat*58+1+1+1+1+1+32+1+1) (aW J)/\ay h l.b (l.o+i.toNat*58+1+1+1+1+1+32+1+1+1) 16 M)/\
   ah h l.b (l.o+i.toNat*58+1+1+1+53) (.i O)/\ah h l.b (l.o+i.toNat*58+1+1+1+53+1) (.bool U))/\K n B s E G b H I J M O U:=by
 have d:=p.len;have:=(List.getElem?_eq_some_iff.1 q).1;refine p.el.read W ω λl t _ a c=>?_;rw[akB,q]at a;obtain rfl:=Option.some.inj a;exact⟨_,_,_,_,_,_,_,_,_,_,_,_,c,Z⟩
theorem aay{x:Act}{b:Nat}(v:Var 60 h b x.tv){K:Int->Int->LU->Int->Int->Bs 32->Int->Int->Sl->Bs 16->Int->Bool->Prop}(U:K x.kind x.peer x.text x.oG.kind x.oG.slot x.oG.target x.oG.ax x.oG.body x.oG.bits x.oG.tag x.which x.sign):
 ∃(n:Int),∃(q:Int),∃(s:LU),∃(B:Int),∃(E:Int),∃(t:Bs 32),∃(G:Int),∃(H:Int),∃(I:Sl),∃(J:Bs 16),∃(M:Int),∃(O:Bool),
  (ah h b 0 (.i n)/\ah h b 1 (.i q)/\ah h b 2 (.string (aky s.toArray))/\
   (ah h b 3 (.i B)/\ah h b 4 (.i E)/\ay h b 5 32 t/\ah h b 37 (.i G)/\ah h b 38 (.int .u64 H)/\ah h b 39 (aW I)/\ay h b 40 16 J)/\
   ah h b 56 (.i M)/\ah h b 57 (.bool O))/\K n q s B E t G H I J M O:=
 ⟨_,_,_,_,_,_,_,_,_,_,_,_,v.at,U⟩
theorem Ba{b:Nat}(v:Var 42 h b (.agg [c.tv,.slice A])){K:Sl->Int->Int->Int->Int->Int->Int->Int->Int->Int->Int->Int->Prop}(W:K c.vals c.ep c.aN c.no c.eu c.ew c.quo c.pe c.gY c.win c.bD c.dec):
 ∃(s:Sl),∃(n:Int),∃(q:Int),∃(B:Int),∃(E:Int),∃(G:Int),∃(H:Int),∃(I:Int),∃(J:Int),∃(M:Int),∃(O:Int),∃(U:Int),(ah h b 0 (aW s)/\ah h b 1 (.i n)/\ah h b 2 (.i q)/\ah h b 3 (.i B)/\ah h b 4 (.i E)/\ah h b 5 (.i G)/\ah h b 6 (.i H)/\ah h b 7 (.i I)/\ah h b 8 (.i J)/\ah h b 9 (.i M)/\ah h b 10 (.i O)/\ah h b 11 (.i U))/\K s n q B E G H I J M O U:=
 ⟨c.vals,c.ep,c.aN,c.no,c.eu,c.ew,c.quo,c.pe,c.gY,c.win,c.bD,c.dec,v.at.1,W⟩
theorem TO{b:Nat}(v:Var 42 h b (.agg [c.tv,.slice A])){K:Sl->Int->Int->Int->Int->Int->Int->Int->Int->Int->Int->Int->Sl->Prop}(Z:K c.vals c.ep c.aN c.no c.eu c.ew c.quo c.pe c.gY c.win c.bD c.dec A):
 ∃(s:Sl),∃(n:Int),∃(q:Int),∃(B:Int),∃(E:Int),∃(G:Int),∃(H:Int),∃(I:Int),∃(J:Int),∃(M:Int),∃(O:Int),∃(U:Int),∃(W:Sl),((ah h b 0 (aW s)/\ah h b 1 (.i n)/\ah h b 2 (.i q)/\ah h b 3 (.i B)/\ah h b 4 (.i E)/\ah h b 5 (.i G)/\ah h b 6 (.i H)/\ah h b 7 (.i I)/\ah h b 8 (.i J)/\ah h b 9 (.i M)/\ah h b 10 (.i O)/\ah h b 11 (.i U))/\ah h b 12 (aW W))/\K s n q B E G H I J M O U W:=
 ⟨c.vals,c.ep,c.aN,c.no,c.eu,c.ew,c.quo,c.pe,c.gY,c.win,c.bD,c.dec,A,v.at,Z⟩
theorem aeC{s:Sl}{L:List (LU)}{x:LU}{K:Sl->aa->Prop}(o:Vc.Own 9 1 h s (strs L))(q:L.length<100000)(B:∀a h',Vc.Own 9 1 h' a (strs (L++[x]))->ag (In s) h h'->(∀i,In a i->In s i\/h.size<=i)->K a h'):
 ∃new,cv (h.push (row (akh [akr x]) 9)) (akj (some (Vc.Loc.mk h.size 0)) 1 1) 1 new/\(∀v∈new,bQ v=true)/\aq ctx 9 s 1 new (h.push (row (akh [akr x]) 9)) K:=by
 have c:=o.len;rw[akA]at c;refine cz (C:=ctx) (T:=9) (sz:=1) (x:=.str x) Board.aaT Board.XK (by rw[Board.Mx];decide) (by rw[Board.Mx];omega) o rfl rfl λa h' d e f=>B a h' (by simpa[strs]using d) e λi⟨l,q,j⟩=>?_;rcases f l q with⟨g,b,k⟩|b
 ·exact .inl ⟨g,b,ω⟩
 ·exact .inr ω
theorem Si{i:Nat}{x:Act×List Bool}(q:xs[i]? =some x):gK c V (xs.take (i+1))=dN c V (gK c V (xs.take i)) x:=by
 rw[List.take_add_one,q];unfold gK;rw[List.foldl_append];rfl
theorem Lo:∀(L:List (Act×List Bool))(p:List (Bs 32)×List (LU)),(L.foldl (dN c V) p).2.length=p.2.length+L.length/\p.1.length<=(L.foldl (dN c V) p).1.length/\(L.foldl (dN c V) p).1.length<=p.1.length+L.length
 |[],p=>by simp
 |x::L,p=>by
  obtain⟨q,B,E⟩:=Nq (c:=c) (V:=V) (p:=p) (x:=x);obtain⟨a,b,d⟩:=Lo L (dN c V p x);rw[List.foldl_cons,List.length_cons];exact⟨ω,ω,ω⟩
theorem CH(L:List (Act×List Bool)):(gK c V L).2.length=L.length/\1<=(gK c V L).1.length/\(gK c V L).1.length<=1+L.length:=by
 have:=Lo (c:=c) (V:=V) L ([uy c V],[]);simp only[akH,List.length_singleton,Nat.zero_add]at this;exact this
theorem Lp:∀(L:List (Act×List Bool))(p:List (Bs 32)×List (LU)),(∀x∈L,Ln x)->(∀t∈p.2,t.length<1000)->∀t∈(L.foldl (dN c V) p).2,t.length<1000
 |[],_,_,q=>q
 |x::L,p,ok,q=>Lp L (dN c V p x) (λy B=>ok y (List.mem_cons_of_mem _ B)) (JQ (ok x (List.mem_cons_self ..)) q)
theorem Sj(ok:∀x∈xs,Ln x):∀t∈(gK c V xs).2,t.length<1000:=Lp xs _ ok λ_ h=>by cases h
theorem Y4{q:List (Bs 32)}{x:Act}{row:List Bool}:(Gp c V q x row).bits=x.oG.bits:=by
 unfold Gp;split
 ·rename_i a;have:=a.2.2;unfold mc at this⊢;split at this
  ·rename_i b;rw[if_pos b]
  ·cases this
 ·rfl
theorem Y5{q:List (Bs 32)}{x:Act}{row:List Bool}:(Gp c V q x row).body=x.oG.body:=by
 unfold Gp;split
 ·rename_i a;have:=a.2.2;unfold mc at this⊢;split at this
  ·rename_i b;rw[if_pos b]
  ·cases this
 ·rfl
structure Y6(h hh:aa)(c:Cf)(V:List Vd)(A:Sl)(xs:List (Act×List Bool))(σ:Sl×Sl×Int):Prop where
 i0:0<=σ.2.2
 i1:σ.2.2<=xs.length
 on:Vc.Own 52 32 hh σ.1 (rts (gK c V (xs.take σ.2.2.toNat)).1)
 ot:Vc.Own 9 1 hh σ.2.1 (strs (gK c V (xs.take σ.2.2.toNat)).2)
 x:Ext h hh
 v:Var 42 hh h.size (.agg [c.tv,.slice A])
 fn:∀i,In σ.1 i->h.size<i
 ft:∀i,In σ.2.1 i->h.size<i
 nC:∀i,In σ.1 i->¬In σ.2.1 i
theorem Sk(ev:ak 2 h c.vals (jI V))(k:Can c V)(p:tL h A xs)(ok:∀x∈xs,Ln x)(bt:xs.length<=200)
 (hr:∀h' T Q,Vc.Own 9 1 h' T (strs (gK c V xs).2)->Vc.Own 52 32 h' Q (rts (gK c V xs).1)->Ext h h'->(∀i,In T i->h.size<=i)->(∀i,In Q i->h.size<=i)->R (akl [.slice T,.slice Q]).val h'):
 Cl 28 [.agg [c.tv,.slice A]] h R:=by
 apply pK c.vals c.ep c.aN c.no c.eu c.ew c.quo c.pe c.gY c.win c.bD c.dec A;delta SV jx ue dW Bb dL dI aJ bK bN eE;have el:V.length=c.vals.len:=by have:=ev.len;rwa [akA]at this
 have bx:=k.len;have keys:=uz k;have bb:Du c:=D4 k el;have al:=p.len;refine af λz v1 x1 s1=>?_;have v1:Var 42 z h.size (.agg [c.tv,.slice A]):=v1;refine Ba v1 (cr (ev.ext x1) ω (λv hv=>(keys v hv).2) λu x2=>⟨_,rfl,?_⟩);have z1:=x1.size;have z2:=x2.size;have bc:=x1.trans x2;have a0:=akx u (row (akh [akE 32 (uy c V)]) 52);have oq:=Vc.Own.new (T:=52) (sz:=32) u (rts [uy c V]) λt ht=>by simp[rts]at ht;rw[ht];exact jV
 have bd:=bc.trans a0;have v3:=(v1.ext x2).ext a0;refine⟨A,v3.at.2,?_⟩;refine⟨λσ b=>Y6 h b c V A xs σ,λσ _=>((xs.length:Int)-σ.2.2).toNat,⟨aks 0,by dsimp only;omega,oq,Vc.Own.nil _ _ _,bd,v3,λi⟨l,X,a⟩=>?_,λi⟨l,X,a⟩=>(by cases X),λi _⟨l,X,a⟩=>(by cases X)⟩,?_⟩
 ·obtain rfl:=Option.some.inj X;simp only at a;omega
 rintro⟨N,T,i⟩ b ⟨i0,i1,H,M,B,vh,fn,Y,ac⟩;dsimp only at i0 i1 H M fn Y ac⊢;refine ID (λa=>?_) λa=>?_;rotate_left
 ·have e:i.toNat=xs.length:=ω;rw[e,List.take_length]at H M;exact hr b T N M H B (λi a=>akI (Y i a)) λi a=>akI (fn i a)
 have bi:i.toNat<xs.length:=ω;obtain⟨x,hx⟩:∃x,xs[i.toNat]? =some x:=⟨_,ako bi⟩;have am:x∈xs:=akJ hx;obtain⟨t1,t2,t3,t4⟩:=ok x am;obtain⟨l1,l2,l3⟩:=CH (c:=c) (V:=V) (xs.take i.toNat);have l4:(xs.take i.toNat).length<=xs.length:=by rw[List.length_take];omega
 have ao:=Si (c:=c) (V:=V) hx;obtain⟨P,hP⟩:∃P,P=gK c V (xs.take i.toNat):=⟨_,rfl⟩;rw[<-hP]at H M l1 l2 l3 ao;have e1:(i+1).toNat=i.toNat+1:=ω;have hz:=B.size;refine Sg (p.ext B) i0 hx (af λO v4 x4 s4=>av (t0:=kY) v4 (t:=x.1.tv) A_ (D7 _) λZ v5 f5 s5=>?_);have a1:Ext b Z:=akc x4 f5 λi a=>akp (akq a);refine⟨x.1.text,v5.at.2.2.1,x.1.oG.kind,x.1.oG.slot,x.1.oG.target,x.1.oG.ax,x.1.oG.body,x.1.oG.bits,x.1.oG.tag,v5.at.2.2.2.1,af λh6 v6 x6 s6=>av (t0:=aU.tv) v6 (t:=x.1.oG.tv) ck eZ λh7 v7 f7 s7=>?_⟩;have ap:Ext Z h7:=akc x6 f7 λi a=>akp (akq a);have a2:=a1.trans ap;have a3:=v5.ext ap;have b0:=a1.size;have b1:=ap.size;refine⟨x.1.which,a3.at.2.2.2.2.1,TN (L:=P.1) (H.elems.ext a2) (λhn=>by rw[hn]at l2;simp at l2) ω ?_⟩;obtain⟨w,ar⟩:∃w,w=P.1.getD (uZ P.1.length x.1.which) (akf 32):=⟨_,rfl⟩;rw[<-ar];refine aF (i:=2) (t:=.bytes 32 w) (t0:=.bytes 32 x.1.oG.target) v7 rfl rfl rfl rfl λC D f8 s8=>?_;have D:Var 58 C Z.size ({x.1.oG with target:=w}:Ms).tv:=D;have E:Ext b C:=akc a2 f8 λi a=>ω;have S:Var 60 C b.size x.1.tv:=a3.only f8 ω;obtain⟨q,I⟩:∃q,q=Gp c V P.1 x.1 x.2:=⟨_,rfl⟩;have mb:q.bits=x.1.oG.bits:=by rw[I,Y4]
 have mo:Board.jC q:=by unfold Board.jC;rw[I,Y5];exact t4
 intro J HJ
 have a4:∀g,Var 58 g Z.size q.tv->Var 60 g b.size x.1.tv->Ext b g->J PUnit.unit g:=by
  intro g vm va F;refine HJ _ g ?_;have em:∀f,Ext g f->ak 1 f q.bits (aP x.2):=λf x'=>by rw[mb];exact(p.bits x am).ext ((B.trans F).trans x')
  have a5:∀f,Ext g f->Vc.Own 52 32 f N (rts P.1):=λf x'=>H.ext (F.trans x');have bj:∀f,Ext g f->Vc.Own 9 1 f T (strs P.2):=λf x'=>M.ext (F.trans x');have zg:=F.size;have bk:∀i,In N i->i<b.size:=λi a=>H.gv i a;have a6:∀i,In T i->i<b.size:=λi a=>M.gv i a
  have a7:∀(d:aa)(N1:Sl)(Q:List (Bs 32))(s:LU),Ext g d->∀(y:aa),Vc.Own 52 32 y N1 (rts Q)->ag (In N) d y->(∀i,In N1 i->In N i\/d.size<=i)->(Q,P.2++[s])=dN c V P x->
   ∃new,cv (y.push (row (akh [akr s]) 9)) (akj (some (Vc.Loc.mk y.size 0)) 1 1) 1 new/\(∀v∈new,bQ v=true)/\aq ctx 9 T 1 new (y.push (row (akh [akr s]) 9)) λU h'=>
    Y6 h h' c V A xs (N1,U,akd .i64 (i+1))/\((xs.length:Int)-(akd .i64 (i+1))).toNat<((xs.length:Int)-i).toNat:=by
   intro d N1 Q s j y oN f2 n2 ad;have z1:=j.size;have z2:=f2.size;have oT:Vc.Own 9 1 y T (strs P.2):=(bj d j).keep f2 λi z u=>ac i u z;refine aeC oT ω λU h' o' f' n'=>⟨⟨?_,?_,?_,?_,?_,?_,?_,?_,?_⟩,?_⟩
   all_goals try rw[wrap_i64 (n:=i+1) ω ω]
   all_goals try dsimp only
   ·omega
   ·omega
   ·rw[e1,ao,<-ad];refine oN.keep f' λi z u=>?_;rcases n2 i z with r|r
    ·exact ac i r u
    ·have:=a6 i u;omega
   ·rw[e1,ao,<-ad];exact o'
   ·exact akc (akc (B.trans (F.trans j)) f2 λi a=>akI (fn i a)) f' λi a=>akI (Y i a)
   ·exact(((vh.ext (F.trans j)).only f2 λa=>by have:=fn _ a;omega).only f' λa=>by have:=Y _ a;omega)
   ·intro i a;rcases n2 i a with r|r
    ·exact fn i r
    ·have:=B.size;have:=v3.lt;have:=vh.lt;omega
   ·intro i a;rcases n' i a with r|r
    ·exact Y i r
    ·have:=vh.lt;omega
   ·intro i z u;rcases n2 i z with r|r
    ·rcases n' i u with O|O
     ·exact ac i r O
     ·have:=bk i r;omega
    ·rcases n' i u with O|O
     ·have:=a6 i O;omega
     ·have:=oN.gv i z;omega
   ·omega
  have a8:∀(d:aa)(s:LU),Ext g d->(P.1,P.2++[s])=dN c V P x->
   ∃new,cv (d.push (row (akh [akr s]) 9)) (akj (some (Vc.Loc.mk d.size 0)) 1 1) 1 new/\(∀v∈new,bQ v=true)/\aq ctx 9 T 1 new (d.push (row (akh [akr s]) 9)) λU h'=>
    Y6 h h' c V A xs (N,U,akd .i64 (i+1))/\((xs.length:Int)-(akd .i64 (i+1))).toNat<((xs.length:Int)-i).toNat:=
   λd s j ad=>a7 d N P.1 s j d (a5 d j) (ag.refl _ _) (λi a=>.inl a) ad
  intro J2 ab;have no:∀f,Ext g f->¬(x.1.kind=1/\dn q x.2=true)->J2 false f:=λf x' hn=>ab false f (aki (a8 f _ x' (by unfold dN;rw[<-I,if_neg hn])));refine⟨x.1.kind,va.at.1,ID (λG=>aZ vm (Board.wC (row:=x.2) (em g (Ext.refl _)) ω λd j=>⟨_,rfl,?_⟩)) λG=>no g (Ext.refl _) λb=>G b.1⟩;by_cases K:dn q x.2=true
  ·rw[K];refine ab true d (akz ?_);have aw:=vm.ext j;refine aZ aw (Board.iZ (row:=x.2) (em d j) ω (kV K) mo λy ae=>⟨_,rfl,q.kind,(aw.ext ae).at.1,ID (λk2=>?_) λk2=>?_⟩)
   ·have aE:=j.trans ae;refine aZ (aw.ext ae) (Board.cr (row:=x.2) (em y aE) ω (kV K) mo λg3 a9=>⟨_,rfl,?_⟩);refine Rn (a5 g3 (aE.trans a9)) ω λU h' o' f' n'=>?_;exact a7 g3 U _ _ (aE.trans a9) h' o' f' n' (by unfold dN;rw[<-I,if_pos ⟨G,K⟩,if_pos k2])
   ·exact a8 y _ (j.trans ae) (by unfold dN;rw[<-I,if_pos ⟨G,K⟩,if_neg k2])
  ·have bl:dn q x.2=false:=by simpa using K
   rw[bl];exact no d j λb=>K b.2
 clear HJ;intro J2 ab
 have plain:∀g,Var 58 g Z.size ({x.1.oG with target:=w}:Ms).tv->Var 60 g b.size x.1.tv->Ext b g->¬(x.1.kind=1/\x.1.sign=true/\(mc V.length c.aN V {x.1.oG with target:=w} x.2).2=true)->J PUnit.unit g:=by
  intro g vm va F hn;refine a4 g ?_ va F
  have:q={x.1.oG with target:=w}:=by
   rw[I];unfold Gp;rw[<-ar,if_neg hn]
  rw[this];exact vm
 refine⟨x.1.kind,S.at.1,ID (λG=>⟨x.1.sign,S.at.2.2.2.2.2,ab _ C (akF (λhs=>?_) λhs=>plain C D S E λb=>by rw[hs]at b;cases b.2.1)⟩) λG=>ab _ C (aki (plain C D S E λb=>G b.1))⟩;have bm:Var 42 C h.size (.agg [c.tv,.slice A]):=vh.ext E;refine Ba bm (aZ D (Board.qq (c:=c) (m:={x.1.oG with target:=w}) (row:=x.2) bb (ev.ext (B.trans E)) (λv hv=>by have:=(keys v hv).2;omega) ((p.bits x am).ext (B.trans E)) ω t4 λh9 x9=>?_));rw[<-el];obtain⟨o,hsg⟩:∃o,o=mc V.length c.aN V {x.1.oG with target:=w} x.2:=⟨_,rfl⟩;rw[<-hsg];rw[<-hsg]at plain;refine⟨o.1.kind,o.1.slot,o.1.target,o.1.ax,o.1.body,o.1.bits,o.1.tag,o.2,rfl,?_⟩;refine af λb2 v10 bo b3=>av (t0:=aU.tv) v10 (t:=o.1.tv) ck eZ λa' v11 f11 b5=>?_;have ba:Ext h9 a':=akc bo f11 λi a=>akp (akq a);have W:=x9.trans ba;have z9:=x9.size;have b6:=ba.size;have b7:=E.size;refine akF (λhb=>?_) λhb=>plain a' (D.ext W) (S.ext W) (E.trans W) λb=>by rw[hb]at b;cases b.2.2
 have b8:=D.lt;refine aZ v11 (av (t0:=({x.1.oG with target:=w}:Ms).tv) (D.ext W) (t:=o.1.tv) ck eZ λbp br f12 b9=>?_);refine a4 bp ?_ ((S.ext W).only f12 ω) (akc (E.trans W) f12 λi a=>ω)
 have:q=o.1:=by
  rw[I,hsg];unfold Gp;rw[<-ar,if_pos ⟨G,hs,by rw[<-hsg];exact hb⟩]
 rw[this];exact br
theorem Jf(B:ak 2 h c.vals (jI V))(p:tL h A xs){most:Int}(G:most<=1000)(q:∀h',Ext h h'->R (akg true).val h')
 (E:∀h',Ext h h'->c.vals.len<=100->(xs.length:Int)<=most->(∀x∈xs,x.1.text.length<=400/\x.2.length<=40)->R (akg false).val h'):
 Cl 26 [.agg [c.tv,.slice A],.i most] h R:=by
 apply pL c.vals c.ep c.aN c.no c.eu c.ew c.quo c.pe c.gY c.win c.bD c.dec A most;delta fK iz Fq gU HB i_ c4 bN mN;have F:=p.len;refine af λs v1 d H=>?_;have v1:Var 42 s h.size (.agg [c.tv,.slice A]):=v1;intro I u;refine Ba v1 (HZ (c:=c) (B.ext d) (λe a=>⟨_,rfl,akz (q e (d.trans a))⟩) λe a v=>⟨_,rfl,aki ⟨A,(v1.ext a).at.2,ID (λ_=>q e (d.trans a)) λJ=>u _ e ?_⟩⟩);refine⟨A,(v1.ext a).at.2,?_⟩;refine⟨λσ g=>0<=σ.2/\σ.2<=xs.length/\Ext h g/\(∀x∈xs.take σ.2.toNat,x.1.text.length<=400/\x.2.length<=40),λσ _=>((xs.length:Int)-σ.2).toNat,⟨aks 0,by dsimp only;omega,d.trans a,λx b=>by simp at b⟩,?_⟩;rintro⟨f,i⟩ g ⟨o,w,j,ok⟩;dsimp only at o w ok⊢;refine ID (λk=>?_) λk=>E g j v ω (by rw[show i.toNat=xs.length by omega,List.take_length]at ok;exact ok);have z:i.toNat<xs.length:=ω;obtain⟨x,b⟩:∃x,xs[i.toNat]? =some x:=⟨_,ako z⟩;have C:=((p.bits x (akJ b)).len);rw[akA]at C;refine Sg (p.ext j) o b (af λK v4 D L=>av (t0:=kY) v4 (t:=x.1.tv) A_ (D7 _) λl r f5 M=>?_);have m:Ext h l:=j.trans (akc D f5 λi k=>akp (akq k));refine⟨x.1.text,r.at.2.2.1,ID (λ_=>q l m) λN=>⟨x.1.oG.bits,r.at.2.2.2.1.2.2.2.2.2.1,ID (λ_=>q l m) λO=>?_⟩⟩;rw[wrap_i64 (n:=i+1) ω ω];refine⟨⟨Ω,Ω,m,?_⟩,Ω⟩
 try dsimp only
 rw[show(i+1).toNat=i.toNat+1 by omega,List.take_add_one,b];intro y q;rcases List.mem_append.1 q with h|h
 ·exact ok y h
 ·simp only[Option.toList,akG]at h;subst h;omega
end
end Gate
namespace Gate
open Board (Vd Cf Ms jI av Vt EG)
open Pool (It oc Fit jV Im rts)
open Peers (Jk KY iU score)
theorem Qc{c:Cf}{V:List Vd}(k:Can c V):Kept c (kT c V) 0:=by
 have ce:=k.ew;have co:=k.eu;refine⟨⟨aks 0,show(0:Int)<=1073741824 by decide⟩,?_,?_,λx a=>(by cases a),λx a=>(by cases a),⟨aks 0,show(0:Int)+((0:Nat):Int)<=((0:Nat):Int) by decide⟩,⟨aks 0,show(0:Int)<=((0:Nat):Int) by decide⟩⟩
 ·show((0:Nat):Int)<=c.ew;omega
 ·show((0:Nat):Int)<=c.eu;omega
section
variable{R:Rq}{h h':aa}{g:Nat}{a:Ad}{c:Cf}{V:List Vd}{s:St}{Fp:Nat->Nat->Prop}
theorem Sm(p:aQ h g a c V s Fp)(q:∀h',Ext h h'->R (akE 32 (DN s.N (cZ (bJ V) s.tb s.N))).val h'):
 Cl 48 [.ptr (PT g)] h R:=by
 apply AA;delta dH FW xQ bu fU bK;obtain⟨b,e⟩:∃b,b=DN s.N (cZ (bJ V) s.tb s.N):=⟨_,rfl⟩;rw[<-e]at q;refine af λm v1 d n=>(p.ext d).book ⟨_,rfl,R9 (p.ext d) λo f=>⟨b,by rw[e],?_⟩⟩;exact av (t:=.bytes 32 b) (v1.ext f) jV.symm (jV.trans jV.symm) λj k f3 r=>⟨_,k.bytes,q j (akc (d.trans f) f3 λi l=>akp (akq l))⟩
theorem Lq(p:aQ h g a c V s Fp)(q:R (TV.i s.now).val h):Cl 31 [.ptr (PT g)] h R:=by
 apply Bw;delta Ko aD gM dw dO aT bh;exact aki ⟨_,p.var.ah rfl,Clock.DT p.jL ⟨_,rfl,q⟩⟩
end
section
variable{h:aa}{s:Sl}
theorem acd{L:List (LU)}(e:ak 1 h s (L.map akr)){i:Int}(A:0<=i){x:LU}(q:L[i.toNat]? =some x){K:LU->Prop}(B:K x):
 0<=i/\i<(s.len:Int)/\Nn s.a λl=>∃(t:LU),ah h l.b (l.o+i.toNat*1) (.string (aky t.toArray))/\K t:=by
 have b:=e.len;have:=(List.getElem?_eq_some_iff.1 q).1;rw[akA]at b;refine e.read A ω λl t _ a c=>?_;rw[akB,q]at a;obtain rfl:=Option.some.inj a;exact⟨_,c,B⟩
end
end Gate
namespace Gate
open Board (Vd Cf Ms jI av Vt EG)
open Pool (It oc Fit jV Im rts)
open Peers (Jk KY iU score keys)
section
variable{R:Rq}{h h':aa}{g m:Nat}{a:Ad}{b:YK}{c:Cf}{q:Sl}{V:List Vd}{s:St}{P:List (Int×Int)}{F1 F2:Nat->Nat->Prop}{k:Nat}
end
end Gate
section
set_option linter.unusedVariables false
def pQ(n k:Int)(T:TypeId)(z:TV)(h:aa)(K:Sl->aa->Prop):Prop:=
 0<=n/\n<=n/\k*n<=281474976710656/\n<9223372036854775808/\K (akj (some (Loc.mk (akt h) 0)) (Int.toNat n) (Int.toNat n)) (Array.push h (row (bZ z (Int.toNat n)) T))
def rC:TV:=.agg [.i 0,.i 0,.bytes 32 (akf 32)]
def kP(q:Int)(A:Int)(h:aa)(R:Rq):Prop:=
 bU (λ(s:OL×Bool)(h:aa)=>pQ q 48 124 rC h (λa g=>pQ q 1 4 (.bool false) g (λb e=>pQ q 1 4 (.bool false) e λc d=>Vc.Bind (iu d (.agg [.i q,.i A,.slice akk,.slice a,.slice b,.slice c]) 192) λf=>R (akb (.aX [.ptr (some (Loc.mk (akt d) 0)),.bool true])) f)/\
  pQ q 1 4 (.bool false) g (λc e=>pQ q 1 4 (.bool false) e λb d=>Vc.Bind (iu d (.agg [.i q,.i A,.slice akk,.slice a,.slice b,.slice c]) 192) λf=>R (akb (.aX [.ptr (some (Loc.mk (akt d) 0)),.bool true])) f))/\
  pQ q 1 4 (.bool false) h (λb g=>pQ q 48 124 rC g (λa e=>pQ q 1 4 (.bool false) e λc d=>Vc.Bind (iu d (.agg [.i q,.i A,.slice akk,.slice a,.slice b,.slice c]) 192) λf=>R (akb (.aX [.ptr (some (Loc.mk (akt d) 0)),.bool true])) f)/\
   pQ q 1 4 (.bool false) g (λc e=>pQ q 48 124 rC e λa d=>Vc.Bind (iu d (.agg [.i q,.i A,.slice akk,.slice a,.slice b,.slice c]) 192) λf=>R (akb (.aX [.ptr (some (Loc.mk (akt d) 0)),.bool true])) f))/\
  pQ q 1 4 (.bool false) h (λc g=>pQ q 48 124 rC g (λa e=>pQ q 1 4 (.bool false) e λb d=>Vc.Bind (iu d (.agg [.i q,.i A,.slice akk,.slice a,.slice b,.slice c]) 192) λf=>R (akb (.aX [.ptr (some (Loc.mk (akt d) 0)),.bool true])) f)/\
   pQ q 1 4 (.bool false) g (λb e=>pQ q 48 124 rC e λa d=>Vc.Bind (iu d (.agg [.i q,.i A,.slice akk,.slice a,.slice b,.slice c]) 192) λf=>R (akb (.aX [.ptr (some (Loc.mk (akt d) 0)),.bool true])) f))) λ(j:OL×Bool->aa->Prop)=>
 If (decide (q<1)) (R (akb (.aX [.ptr none,.bool false])) h) (If (decide (64<q)) (R (akb (.aX [.ptr none,.bool false])) h) (If (decide (A<1)) (R (akb (.aX [.ptr none,.bool false])) h) (If (decide (32<A)) (R (akb (.aX [.ptr none,.bool false])) h) (j (none,false) h))))
theorem yH(q:Int)(A:Int)(h:aa)(R:Rq)(H:kP q A h R):bB Tryz.prog 161 (aj.vals [.i q,.i A]) h R:=
 B6 (C:=ctx) bI (fn:=Tryz.f161) Tryz.func161 ((by kernel_rfl:kP q A h R=NU ctx Tryz.f161 [.i q,.i A] h R)▸H)
end
namespace Gate
open Board (Vd Cf Vt jI EG av)
open Pool (It oc RL jV Im rts)
section
variable{R:Rq}{h h':aa}
theorem Sn{v A:Int}(can:DO v A)
 (O:∀h' b E F Ha G,JK h' b E F Ha G (gZ v.toNat A) v.toNat->Ext h h'->(∀i,ji b E F Ha G i->h.size<=i)->R (akl [.ptr (PT b),.bool true]).val h'):
 Cl 161 [.i v,.i A] h R:=by
 apply yH;unfold kP;obtain⟨Y,P,Z,g4⟩:=can;intro Q H;refine ID (λ_=>ω) λ_=>If.dec.2 ⟨λ_=>ω,λ_=>ID (λ_=>ω) λ_=>If.dec.2 ⟨λ_=>ω,λ_=>H _ h ?_⟩⟩;clear H Q
 have n:∀(g:aa)(d f m:Nat),Ext h g->g[d]? =some (row (bZ rC v.toNat) 124)->g[f]? =some (row (bZ (akg false) v.toNat) 4)->g[m]? =some (row (bZ (akg false) v.toNat) 4)->h.size<=d/\h.size<=f/\h.size<=m/\d≠f/\d≠m/\f≠m->
  Vc.Bind (iu g (.agg [.i v,.i A,.slice akk,.slice (akj (some (Vc.Loc.mk d 0)) v.toNat v.toNat),.slice (akj (some (Vc.Loc.mk f 0)) v.toNat v.toNat),.slice (akj (some (Vc.Loc.mk m 0)) v.toNat v.toNat)]) 192) λC=>R (akb (.aX [.ptr (some (Vc.Loc.mk (akt g) 0)),.bool true])) C:=by
  rintro g d f m I J L M ⟨n1,n2,n3,n4,n5,n6⟩;have l1:=jo J;have l2:=jo L;have l3:=jo M;refine af λC v4 B s4=>?_
  have S:Vc.Own 124 34 g (akj (some (Vc.Loc.mk d 0)) v.toNat v.toNat) (EG (MX (gZ v.toNat A))):=by
   have e:EG (MX (gZ v.toNat A))=List.replicate v.toNat rC:=by
    unfold EG MX gZ;simp only[List.map_replicate];rfl
   rw[e];exact⟨λt D=>by rw[(List.mem_replicate.1 D).2];rfl,by simp,akK _,.inr ⟨d,[],rfl,by rw[J,gh];simp,by simp⟩⟩
  have N:∀q,g[q]? =some (row (bZ (akg false) v.toNat) 4)->Vc.Own 4 1 g (akj (some (Vc.Loc.mk q 0)) v.toNat v.toNat) (VX (List.replicate v.toNat false)):=λq eq=>
   ⟨λt D=>by obtain⟨x,_,rfl⟩:=List.mem_map.1 D;rfl,by simp,akK _,.inr ⟨q,[],rfl,by rw[eq,gh];simp[VX],by simp⟩⟩
  have o:∀{q i:Nat},In (akj (some (Vc.Loc.mk q 0)) v.toNat v.toNat) i->i=q:=λ⟨l,U,V⟩=>by cases U;exact V.symm
  have p:RJ (gZ v.toNat A)=List.replicate v.toNat false:=by unfold RJ gZ;simp
  have W:((v.toNat:Nat):Int)=v:=ω;refine O C g.size akk (akj (some (Vc.Loc.mk d 0)) v.toNat v.toNat) (akj (some (Vc.Loc.mk f 0)) v.toNat v.toNat) (akj (some (Vc.Loc.mk m 0)) v.toNat v.toNat) ⟨by rw[W];exact v4,Vc.Own.nil _ _ _,S.ext B,by rw[p];exact(N f L).ext B,(N m M).ext B,ON ⟨ω,ω⟩ ⟨ω,ω⟩,by simp[gZ],⟨λj k i c a=>?_,λj i c=>?_⟩⟩ (I.trans B) λi⟨k,a⟩=>?_
  ·match j,k with
   |0,0|2,2|3,3|4,4=>rfl
   |1,_=>exact(qN c).elim
   |0,1|2,1|3,1|4,1=>exact(qN a).elim
   |0,2|0,3|0,4=>have c:i=g.size:=c;have:=o a;omega
   |2,0|3,0|4,0=>have a:i=g.size:=a;have:=o c;omega
   |2,3|2,4|3,2|3,4|4,2|4,3=>have h1:=o c;have h2:=o a;omega
   |_+5,_=>exact c.elim
   |0,_+5|2,_+5|3,_+5|4,_+5=>exact a.elim
  ·match j with
   |0=>have c:i=g.size:=c;omega
   |1=>exact(qN c).elim
   |2|3|4=>have:=o c;omega
   |_+5=>exact c.elim
  ·match k with
   |0=>have a:i=g.size:=a;have:=I.size;omega
   |1=>exact(qN a).elim
   |2|3|4=>have:=o a;omega
   |_+5=>exact a.elim
 have mk:∀{k:Int}{T:TypeId}{z:TV}{p:aa}{K:Sl->aa->Prop},0<=k->k<=48->K (akj (some (Vc.Loc.mk (akt p) 0)) v.toNat v.toNat) (Array.push p (row (bZ z v.toNat) T))->pQ v k T z p K:=λ{k T z p K} k0 X a=>by
  refine⟨ω,aks _,?_,ω,a⟩;have:k*v<=48*64:=Int.mul_le_mul X P ω δ;omega
 have r:∀x y z:Obj,Ext h (((h.push x).push y).push z):=λx y z=>((akx h x).trans (akx _ y)).trans (akx _ z);have s:∀x y z:Obj,(((h.push x).push y).push z)[((h.push x).push y).size]? =some z:=λx y z=>cg _ _;have u:∀x y z:Obj,(((h.push x).push y).push z)[(h.push x).size]? =some y:=λx y z=>((akx ((h.push x).push y) z).same _ (by simp)).trans (cg _ _);have w:∀x y z:Obj,(((h.push x).push y).push z)[h.size]? =some x:=λx y z=>((akx ((h.push x).push y) z).same _ (by simp;omega)).trans (((akx (h.push x) y).same _ (by simp)).trans (cg _ _))
 refine⟨mk δ δ ⟨mk δ δ (mk δ δ (n _ _ _ _ (r _ _ _) (w _ _ _) (u _ _ _) (s _ _ _) (by simp;omega))),mk δ δ (mk δ δ (n _ _ _ _ (r _ _ _) (w _ _ _) (s _ _ _) (u _ _ _) (by simp;omega)))⟩,
  mk δ δ ⟨mk δ δ (mk δ δ (n _ _ _ _ (r _ _ _) (u _ _ _) (w _ _ _) (s _ _ _) (by simp;omega))),mk δ δ (mk δ δ (n _ _ _ _ (r _ _ _) (s _ _ _) (w _ _ _) (u _ _ _) (by simp;omega)))⟩,
  mk δ δ ⟨mk δ δ (mk δ δ (n _ _ _ _ (r _ _ _) (u _ _ _) (s _ _ _) (w _ _ _) (by simp;omega))),mk δ δ (mk δ δ (n _ _ _ _ (r _ _ _) (s _ _ _) (u _ _ _) (w _ _ _) (by simp;omega)))⟩⟩
variable{c:Cf}{V:List Vd}
theorem Sq(e:ak 2 h c.vals (jI V))(E:∀v∈V,v.cW<9223372036854775808)(G:c.vals.len<100000)(H:sB c V=false->∀h',Ext h h'->R (akl [.ptr none,.bool false]).val h')
 (I:Can c V->∀h' tr u a g w x,Var 134 h' a (PE c tr u)->w_ h' tr [⟨uy c V,0,-1⟩] c.no w->FM h' u (gZ V.length c.ep) V.length x->Ext h h'->(∀i,w i->h.size<=i/\i<g)->(∀i,x i->g<=i/\i<a)->h.size<=g->g<=a->a<h'.size->
  R (akl [.ptr (PT a),.bool true]).val h'):
 Cl 92 [c.tv] h R:=by
 apply yJ c.vals c.ep c.aN c.no c.eu c.ew c.quo c.pe c.gY c.win c.bD c.dec;delta mC iz zl fh aJ bK bN aT bh eE;have el:V.length=c.vals.len:=by have:=e.len;rwa [akA]at this
 refine af λF v1 n Y=>?_;have v1:Var 24 F h.size c.tv:=v1;refine⟨c.vals,c.ep,c.aN,c.no,c.eu,c.ew,c.quo,c.pe,c.gY,c.win,c.bD,c.dec,v1.at,tu (e.ext n) E G λJ o=>⟨_,rfl,akF (λp=>H (by simpa using p) J (n.trans o)) λp=>?_⟩⟩;have k:Can c V:=lW.1 (by simpa using p);have Z:=k.len;have keys:=uz k;have y:=n.trans o;have q:=v1.ext o;refine⟨c.vals,c.ep,c.aN,c.no,c.eu,c.ew,c.quo,c.pe,c.gY,c.win,c.bD,c.dec,q.at,c.no,q.ah rfl,cr (e.ext y) ω (λv K=>(keys v K).2) λh3 r=>⟨_,rfl,r,?_⟩⟩;have z:=y.trans r;have s:=q.ext r;refine EU k.no ⟨aks 0,δ⟩ λL m A B D C d M=>⟨_,_,rfl,c.vals,(s.ext d).ah rfl,c.ep,(s.ext d).ah rfl,?_⟩;have N:=z.trans d;rw[<-el];refine Sn ⟨ω,ω,k.ep.1,k.ep.2⟩ λO b P Q Ha S t j T=>⟨_,_,rfl,?_⟩;have U:=N.trans j;have W:=(s.ext d).ext j;refine⟨c.vals,c.ep,c.aN,c.no,c.eu,c.ew,c.quo,c.pe,c.gY,c.win,c.bD,c.dec,W.at,af λX v6 l s6=>?_⟩;rw[Int.toNat_natCast]at t;have ab:=z.size;have z4:=d.size;have z5:=j.size;have z6:=l.size;exact I k X m b O.size L.size _ _ v6 ⟨A,B,D,(C.ext j).ext l,rfl⟩ ⟨P,Q,Ha,S,t.ext l,rfl⟩ (U.trans l) (λi f=>⟨by have:=M i f;omega,C.lt f⟩) (λi f=>⟨T i f,t.lt f⟩) ω ω ω
def Y7(a b c d e f g h:Nat):Nat->Nat
 |0=>a
 |1=>b
 |2=>c
 |3=>d
 |4=>e
 |5=>f
 |6=>g
 |7=>h
 |_=>h+1
def Y8(q A:Nat->Prop)(B E wt G H g:Nat):Nat->Nat->Prop
 |0=>q
 |1=>A
 |2=>(·=B)
 |3=>(·=E)
 |4=>(·=wt)
 |5=>(·=G)
 |6=>(·=H)
 |7=>(·=g)
 |_=>λ_=>False
theorem Qd{c:Cf}{V:List Vd}(e:ak 2 h c.vals (jI V))(q:1<=V.length):∀i,In c.vals i->i<h.size:=λi⟨l,a,g⟩=>by
 obtain⟨v,b⟩:∃v,V[0]? =some v:=⟨_,ako ω⟩;have d:=e.get l a 0 v.tv (by rw[akB,b];rfl);have f:ah h l.b (l.o+0*2) (.i v.cW):=d.1;have:=vn f;omega
theorem Jg(e:ak 2 h c.vals (jI V))(A:∀v∈V,v.cW<9223372036854775808)(B:c.vals.len<100000)(ab:sB c V=false->∀h',Ext h h'->R (akl [.ptr none,.bool false]).val h')
 (hr:Can c V->∀h' g a K,aS h' g a c V (kT c V) K->Ext h h'->(∀k i,K k i->h.size<=i)->R (akl [.ptr (PT g),.bool true]).val h'):
 Cl 27 [c.tv] h R:=by
 apply yI c.vals c.ep c.aN c.no c.eu c.ew c.quo c.pe c.gY c.win c.bD c.dec;delta zl mO fh aJ aT eE;refine af λL v1 u s1=>?_;have v1:Var 24 L h.size c.tv:=v1;refine⟨c.vals,c.ep,c.aN,c.no,c.eu,c.ew,c.quo,c.pe,c.gY,c.win,c.bD,c.dec,v1.at,Sq (e.ext u) A B (λhn f s=>⟨_,_,rfl,akz (ab hn f (u.trans s))⟩) λk f tr M l m1 N O vb t2 q2 s P r1 l0 l1 l2=>⟨_,_,rfl,aki ?_⟩⟩;have ac:=u.trans s;have y:=v1.ext s;refine⟨c.eu,y.ah rfl,c.quo,y.ah rfl,Pool.AQ λm b3 S T _=>⟨_,_,rfl,?_⟩⟩;have z:=y.ext T;refine⟨c.ew,z.ah rfl,c.quo,z.ah rfl,Pool.AQ λn b4 U C _=>⟨_,_,rfl,?_⟩⟩;have v4:=z.ext C;refine⟨c.pe,v4.ah rfl,c.bD,v4.ah rfl,c.dec,v4.ah rfl,Peers.EU λo b5 w p5 s5 _=>⟨_,_,rfl,?_⟩⟩;have D:=v4.ext w;have ad:=(T.trans C).trans w;have z1:=u.size;have z2:=s.size;have z3:=S.var.lt;have z4:=U.var.lt;refine⟨c.vals,c.ep,c.aN,c.no,c.eu,c.ew,c.quo,c.pe,c.gY,c.win,c.bD,c.dec,D.at,c.win,D.ah rfl,c.vals,c.ep,c.aN,c.no,c.eu,c.ew,c.quo,c.pe,c.gY,c.win,c.bD,c.dec,D.at,Clock.AQ λE c6 t s6=>⟨_,rfl,t,?_⟩⟩;have W:=ad.trans t;have F:=ac.trans W;have X:sB c V=true:=lW.2 k
 have Y:∀(d:aa)(g:Nat),Ext E d->E.size<=g->Var 80 d g (xl c ⟨tr,M,l,f.size,m.size,n.size,o.size⟩ 0 false false)->R (akl [.ptr (PT g),.bool true]).val d:=by
  intro d g p ae Z;have G:=W.trans p;have gl:=Z.lt
  have bound:∀j i,Y8 N O l f.size m.size n.size o.size g j i->h.size<=i:=by
   intro j i b
   match j,b with
   |0,b=>have:=P i b;omega
   |1,b=>have:=r1 i b;omega
   |2,b=>have b:i=l:=b;omega
   |3,b=>have b:i=f.size:=b;omega
   |4,b=>have b:i=m.size:=b;omega
   |5,b=>have b:i=n.size:=b;omega
   |6,b=>have b:i=o.size:=b;omega
   |7,b=>have b:i=g:=b;omega
   |_+8,b=>exact b.elim
  refine hr k d g ⟨tr,M,l,f.size,m.size,n.size,o.size⟩ (Y8 N O l f.size m.size n.size o.size g) ⟨Sep.made (lo:=Y7 L.size m1 l f.size m.size n.size o.size g) ?_ ?_ ?_,t2.only (Q:=λ_=>False) (.an G) λ_ _ H=>H,q2.only (Q:=λ_=>False) (.an G) λ_ _ H=>H,vb.ext G,rfl,
   ⟨akk,((S.ext C).ext w).ext (t.trans p),?_⟩,⟨akk,(U.ext w).ext (t.trans p),?_⟩,⟨akk,akk,p5.ext (t.trans p),?_⟩,⟨⟨List.nodup_nil,(λx I=>by cases I),λx I=>by cases I⟩,by have:=k.pe.1;simp only[kT,akH];omega⟩,c6.ext p,rfl,⟨false,false,Z⟩,rfl,e.ext (F.trans p),?_,k⟩ (F.trans p) ?_
  ·intro j i b
   match j,b with
   |0,b=>exact P i b
   |1,b=>exact r1 i b
   |2,b=>have b:i=l:=b;simp only[Y7];omega
   |3,b=>have b:i=f.size:=b;simp only[Y7];omega
   |4,b=>have b:i=m.size:=b;simp only[Y7];omega
   |5,b=>have b:i=n.size:=b;simp only[Y7];omega
   |6,b=>have b:i=o.size:=b;simp only[Y7];omega
   |7,b=>have b:i=g:=b;simp only[Y7];omega
   |_+8,b=>exact b.elim
  ·intro j
   match j with
   |0|1|2|3|4|5|6|7|8=>simp only[Y7];omega
   |_+9=>simp only[Y7];omega
  ·intro j
   match j with
   |0|1|2|3|4|5|6|7|8=>simp only[Y7];omega
   |_+9=>simp only[Y7];omega
  ·exact funext λi=>propext ⟨.inl,λd=>d.elim id λd=>(qN d).elim⟩
  ·exact funext λi=>propext ⟨.inl,λd=>d.elim id λd=>(qN d).elim⟩
  ·exact funext λi=>propext ⟨.inl,λd=>d.elim id λd=>d.elim (λd=>(qN d).elim) λd=>(qN d).elim⟩
  ·intro j i b hv;have:=Qd e (by have:=k.len;omega) i hv;have:=bound j i b;omega
  ·exact bound
 have vals:=e.ext F;refine⟨af λh7 v7 q s7=>⟨q,tu (vals.ext q) A B λJ r=>⟨_,rfl,r,?_⟩⟩,tu vals A B λh7 q=>⟨_,rfl,q,af λJ v8 r s8=>⟨r,?_⟩⟩⟩
 ·rw[X];exact Y J E.size (q.trans r) (akK _) (v7.ext r)
 ·rw[X];exact Y J h7.size (q.trans r) q.size v8
end
end Gate
namespace Gate
open Board (Vd Cf Ms jI av)
open Pool (It Fit jV Im rts)
structure At(h1 hL hh:aa)(mid:Nat)(F1 F2:Nat->Nat->Prop):Prop where
 ext:Ext h1 hL
 only:ag (λi=>h1.size<=i/\i<mid) hL hh
 sP:∀i,tK F1 F2 i->h1.size<=i/\(i<mid\/hL.size<=i)
structure Told(hL:aa)(mid:Nat)(T Q:Sl)(tx:List (LU))(nm:List (Bs 32)):Prop where
 t:ak 1 hL T (strs tx)
 n:ak 32 hL Q (rts nm)
 tm:∀i,In T i->mid<=i
 nm:∀i,In Q i->mid<=i
section
variable{h1 hL hh h':aa}{mid:Nat}{F1 F2 F1' F2':Nat->Nat->Prop}
theorem At.base(a:At h1 hL hh mid F1 F2):Ext h1 hh:=akc a.ext a.only λ_ b=>b.1
theorem At.step(a:At h1 hL hh mid F1 F2)(st:Step (tK F1 F2) hh (tK F1' F2') h'):At h1 hL h' mid F1' F2':=by
 have g:=a.ext.size;have h:=a.only.size;have j:=st.only.size;refine⟨a.ext,⟨ω,λb e c=>(st.only.same b ω λd=>?_).trans (a.only.same b e c)⟩,λi f=>(st.new i f).elim (a.sP i) λd=>⟨ω,ω⟩⟩;have:=a.sP b d;exact c ⟨this.1,ω⟩
theorem At.more(a:At h1 hL hh mid F1 F2)(x:Ext hh h'):At h1 hL h' mid F1 F2:=a.step (.an x)
theorem Told.ah{T Q:Sl}{q:List (LU)}{nm:List (Bs 32)}(t:Told hL mid T Q q nm)(a:At h1 hL hh mid F1 F2):ak 1 hh T (strs q):=TV.bX a.only t.t λi b c=>by have:=t.tm i b;omega
theorem Told.XZ{T Q:Sl}{q:List (LU)}{nm:List (Bs 32)}(t:Told hL mid T Q q nm)(a:At h1 hL hh mid F1 F2):ak 32 hh Q (rts nm):=TV.bX a.only t.n λi b c=>by have:=t.nm i b;omega
theorem Qe{E A B:aa}{g m:Nat}{a:Ad}{b:YK}{c:Cf}{q:Sl}{V:List Vd}(k:Can c V)(e:ak 2 E c.vals (jI V))(p:aQ A g a {c with vals:=q} V (kT c V) F1)(lo:∀k i,F1 k i->E.size<=i)
 (H:Ext A B)(d:aS B m b c V (kT c V) F2)(G:∀k i,F2 k i->A.size<=i):Alike B g m a b c q V (kT c V) [] F1 F2 0:=by
 have j:=k.len;refine⟨⟨p.ext H,d,λi⟨f,h1⟩⟨l,n⟩=>?_,λi h⟨f,h1⟩=>?_,λi h⟨f,h1⟩=>?_⟩,List.Perm.refl _,?_,?_⟩
 ·have:=p.sep.lt f i h1;have:=G l i n;omega
 ·have:=Qd e j.1 i h;have:=lo f i h1;omega
 ·have:=p.PC i h;have:=G f i h1;omega
 ·exact Qc k
 ·show 0+65*0<=65*0;omega
end
end Gate
namespace Gate
open Board (Vd Cf Ms jI av aU)
open Pool (It Fit jV Im rts)
def mH(h1 hL hh:aa)(mid g m:Nat)(c:Cf)(q:Sl)(V:List Vd)(s:St)(k:Nat):Prop:=
 ∃a b P d e,Alike hh g m a b c q V s P d e k/\At h1 hL hh mid d e
structure D8(h:aa)(c:Cf)(V:List Vd)(A:Sl)(xs:List (Act×List Bool)):Prop where
 ev:ak 2 h c.vals (jI V)
 sm:∀v∈V,v.cW<9223372036854775808
 Y9:tL h A xs
 fit:∀x∈xs,(akv .i64 x.1.peer).wf=true/\Board.jC x.1.oG
section
variable{R:Rq}{h h1 hL hh h':aa}{mid g m:Nat}{c:Cf}{q:Sl}{V:List Vd}{s:St}{k:Nat}{A:Sl}{xs:List (Act×List Bool)}
theorem D8.ext(p:D8 h c V A xs)(x:Ext h h'):D8 h' c V A xs:=⟨p.ev.ext x,p.sm,p.Y9.ext x,p.fit⟩
theorem mH.ext(p:mH h1 hL hh mid g m c q V s k)(x:Ext hh h'):mH h1 hL h' mid g m c q V s k:=by
 obtain⟨a,b,P,d,e,f,h⟩:=p;exact⟨a,b,P,d,e,f.ext x,h.more x⟩
theorem mH.base(p:mH h1 hL hh mid g m c q V s k):Ext h1 hh:=by
 obtain⟨a,b,P,e,f,h,d⟩:=p;exact d.base
theorem mH.told(p:mH h1 hL hh mid g m c q V s k){T Q:Sl}{B:List (LU)}{E:List (Bs 32)}(t:Told hL mid T Q B E):ak 1 hh T (strs B)/\ak 32 hh Q (rts E):=by
 obtain⟨a,b,P,e,f,h,d⟩:=p;exact⟨t.ah d,t.XZ d⟩
theorem mH.more(p:mH h1 hL hh mid g m c q V s k):mH h1 hL hh mid g m c q V s (k+1):=by
 obtain⟨a,b,P,d,e,f,h⟩:=p;exact⟨a,b,P,d,e,Je f,h⟩
theorem Sr{E:aa}{B:Nat}(v3:Var 42 E B (.agg [c.tv,.slice A]))(p:D8 E c V A xs)(lc:c.vals.len<=100){K:OL->Int->OL->Bool->aa->Prop}
 (al:sB c V=false->∀d,Ext E d->K none 1 none false d)
 (am:Can c V->∀d g m a b q h l,Alike d g m a b c q V (kT c V) [] h l 0->Ext E d->(∀i,tK h l i->E.size<=i)->K (PT g) 0 (PT m) true d):
 ∃(s:Sl),∃(n:Int),∃(H:Int),∃(I:Int),∃(J:Int),∃(M:Int),∃(O:Int),∃(U:Int),∃(W:Int),∃(Z:Int),∃(ab:Int),∃(ac:Int),(ah E B 0 (aW s)/\ah E B 1 (.i n)/\ah E B 2 (.i H)/\ah E B 3 (.i I)/\ah E B 4 (.i J)/\ah E B 5 (.i M)/\ah E B 6 (.i O)/\ah E B 7 (.i U)/\ah E B 8 (.i W)/\ah E B 9 (.i Z)/\ah E B 10 (.i ab)/\ah E B 11 (.i ac))/\
  Cl 19 [aku [.slice s,.i n,.i H,.i I,.i J,.i M,.i O,.i U,.i W,.i Z,.i ab,.i ac]] E λv G=>∃(p:OL),∃(ad:Int),v=akb (akl [.ptr p,.i ad])/\
   ∃(s:Sl),∃(n:Int),∃(H:Int),∃(I:Int),∃(J:Int),∃(M:Int),∃(O:Int),∃(U:Int),∃(W:Int),∃(Z:Int),∃(ab:Int),∃(ac:Int),(ah G B 0 (aW s)/\ah G B 1 (.i n)/\ah G B 2 (.i H)/\ah G B 3 (.i I)/\ah G B 4 (.i J)/\ah G B 5 (.i M)/\ah G B 6 (.i O)/\ah G B 7 (.i U)/\ah G B 8 (.i W)/\ah G B 9 (.i Z)/\ah G B 10 (.i ab)/\ah G B 11 (.i ac))/\
    Cl 27 [aku [.slice s,.i n,.i H,.i I,.i J,.i M,.i O,.i U,.i W,.i Z,.i ab,.i ac]] G λv d=>∃(ae:OL),∃(b:Bool),v=akb (akl [.ptr ae,.bool b])/\K p ad ae b d:=by
 refine Ba v3 (K4 (c:=c) (V:=V) p.ev ω (λf G e=>⟨_,_,rfl,Ba (v3.ext e) (Jg (c:=c) (V:=V) (p.ev.ext e) p.sm ω (λ_ d o=>⟨_,_,rfl,al f d (e.trans o)⟩) λk=>?_)⟩) λk G g a q h u e lo x=>⟨_,_,rfl,Ba (v3.ext e) (Jg (c:=c) (V:=V) (p.ev.ext e) p.sm ω (λf=>?_) λ_ d m b l d5 o t=>⟨_,_,rfl,am k d g m a b q h l (Qe k p.ev u lo o d5 t) (e.trans o) λi w=>?_⟩)⟩)
 ·rw[lW.2 k]at f;cases f
 ·rw[lW.2 k]at f;cases f
 ·have:=e.size;rcases w with⟨j,r⟩|⟨j,r⟩
  ·exact lo j i r
  ·have:=t j i r;omega
theorem VS{B:aa}{E:Nat}(v6:Var 42 B E (.agg [c.tv,.slice A]))(p:D8 B c V A xs)(can:Can c V)(al:xs.length<=200)(ok:∀x∈xs,x.1.text.length<=400/\x.2.length<=40){K:Sl->Sl->aa->Prop}
 (hk:∀a T Q,Told a B.size T Q (gK c V xs).2 (gK c V xs).1->Ext B a->Var 42 a E (.agg [c.tv,.slice A])->K T Q a):
 ∃(s:Sl),∃(n:Int),∃(G:Int),∃(H:Int),∃(I:Int),∃(J:Int),∃(M:Int),∃(O:Int),∃(U:Int),∃(W:Int),∃(Z:Int),∃(ab:Int),∃(ac:Sl),((ah B E 0 (aW s)/\ah B E 1 (.i n)/\ah B E 2 (.i G)/\ah B E 3 (.i H)/\ah B E 4 (.i I)/\ah B E 5 (.i J)/\ah B E 6 (.i M)/\ah B E 7 (.i O)/\ah B E 8 (.i U)/\ah B E 9 (.i W)/\ah B E 10 (.i Z)/\ah B E 11 (.i ab))/\ah B E 12 (aW ac))/\
  Cl 28 [aku [aku [.slice s,.i n,.i G,.i H,.i I,.i J,.i M,.i O,.i U,.i W,.i Z,.i ab],.slice ac]] B λv a=>∃(ad:Sl),∃(ae:Sl),v=akb (akl [.slice ad,.slice ae])/\K ad ae a:=
 TO v6 (Sk p.ev can p.Y9 (λx b=>⟨(ok x b).1,(ok x b).2,(p.fit x b).1,(p.fit x b).2⟩) al λa T Q e f d g h=>⟨_,_,rfl,hk a T Q ⟨e.elems,f.elems,g,h⟩ d (v6.ext d)⟩)
theorem Ss(p:tL hh A xs){i:Int}(Z:0<=i){x:Act×List Bool}(hx:xs[i.toNat]? =some x){K:aa->Prop}(hk:∀a,Var 60 a hh.size x.1.tv->Ext hh a->K a):
 0<=i/\i<(A.len:Int)/\Nn A.a λl=>∃(n:Int),∃(B:Int),∃(s:LU),∃(E:Int),∃(G:Int),∃(b:Bs 32),∃(H:Int),∃(I:Int),∃(J:Sl),∃(M:Bs 16),∃(O:Int),∃(U:Bool),
  (ah hh l.b (l.o+i.toNat*58) (.i n)/\ah hh l.b (l.o+i.toNat*58+1) (.i B)/\ah hh l.b (l.o+i.toNat*58+1+1) (.string (aky s.toArray))/\
   (ah hh l.b (l.o+i.toNat*58+1+1+1) (.i E)/\ah hh l.b (l.o+i.toNat*58+1+1+1+1) (.i G)/\ay hh l.b (l.o+i.toNat*58+1+1+1+1+1) 32 b/\ah hh l.b (l.o+i.toNat*58+1+1+1+1+1+32) (.i H)/\
    ah hh l.b (l.o+i.toNat*58+1+1+1+1+1+32+1) (.int .u64 I)/\ah hh l.b (l.o+i.toNat*58+1+1+1+1+1+32+1+1) (aW J)/\ay hh l.b (l.o+i.toNat*58+1+1+1+1+1+32+1+1+1) 16 M)/\
   ah hh l.b (l.o+i.toNat*58+1+1+1+53) (.i O)/\ah hh l.b (l.o+i.toNat*58+1+1+1+53+1) (.bool U))/\
  Vc.Bind (iu hh kY 60) λW=>gi W hh.size 0 58/\Vc.Bind (TV.put W hh.size 0 (aku [.i n,.i B,.str s,aku [.i E,.i G,.bytes 32 b,.i H,.int .u64 I,.slice J,.bytes 16 M],.i O,.bool U])) K:=by
 refine Sg p Z hx (af λg c d h=>av (t0:=kY) c (t:=x.1.tv) A_ (D7 _) λa e f9 j=>?_);exact hk a e (akc d f9 λi f=>akp (akq f))
theorem Y_{i:Int}(B:0<=i)(E:i<(xs.length:Int))(ok:∀x∈xs,Ln x):∃t,(gK c V xs).2[i.toNat]? =some t/\t.length<1000:=by
 obtain⟨b,_,_⟩:=CH (c:=c) (V:=V) xs;obtain⟨t,a⟩:∃t,(gK c V xs).2[i.toNat]? =some t:=⟨_,ako ω⟩;exact⟨t,a,Sj ok t (akJ a)⟩
noncomputable def rootOf(c:Cf)(V:List Vd)(xs:List (Act×List Bool))(B:Int):Bs 32:=(gK c V xs).1.getD (uZ (gK c V xs).1.length B) (akf 32)
theorem Za{B:aa}{E:Nat}(p:mH h1 hL B mid g m c q V s k)(hk:k<700){T Q:Sl}(told:Told hL mid T Q (gK c V xs).2 (gK c V xs).1)(am:xs.length<=200){x:Act}(G:Var 60 B E x.tv)(hp:(akv .i64 x.peer).wf=true){i:Int}(i0:0<=i){t:LU}(ht:(gK c V xs).2[i.toNat]? =some t)(tl:t.length<1000){K:Bool->aa->Prop}
 (hr:∀h' d,mH h1 hL h' mid g m c q V d (k+1)->Ext h1 h'->CG c V s x.kind x.peer t (rootOf c V xs x.which) d->K true h'):
 ∃(n:Int),∃(H:Int),∃(s:LU),∃(I:Int),∃(J:Int),∃(b:Bs 32),∃(M:Int),∃(O:Int),∃(U:Sl),∃(W:Bs 16),∃(Z:Int),∃(ab:Bool),
  (ah B E 0 (.i n)/\ah B E 1 (.i H)/\ah B E 2 (.string (aky s.toArray))/\
   (ah B E 3 (.i I)/\ah B E 4 (.i J)/\ay B E 5 32 b/\ah B E 37 (.i M)/\ah B E 38 (.int .u64 O)/\ah B E 39 (aW U)/\ay B E 40 16 W)/\
   ah B E 56 (.i Z)/\ah B E 57 (.bool ab))/\0<=i/\i<(T.len:Int)/\Nn T.a λl=>∃(ac:LU),ah B l.b (l.o+i.toNat*1) (.string (aky ac.toArray))/\∃(ad:Int),ah B E 56 (.i ad)/\
    Cl 30 [.slice Q,.i ad] B λv h=>∃(ae:Bs 32),v=akb (.bytes 32 ae)/\Ext B h/\
     Cl 29 [.ptr (PT g),.ptr (PT m),aku [.i n,.i H,.str s,aku [.i I,.i J,.bytes 32 b,.i M,.int .u64 O,.slice U,.bytes 16 W],.i Z,.bool ab],.str ac,.bytes 32 ae] h λv h=>∃(al:Bool),v=akb (.bool al)/\K al h:=by
 obtain⟨j,o⟩:=p.told told;obtain⟨R,l2,S⟩:=CH (c:=c) (V:=V) xs;obtain⟨a,b,P,X,Y,r,u⟩:=p;refine aay G (acd j i0 ht ⟨x.which,G.at.2.2.2.2.1,EF o (λw=>by rw[w]at l2;simp at l2) ω λao e=>⟨_,rfl,e,?_⟩⟩);refine aax (r.ext e) hk (x:=x) hp tl λy z A d P' C D F L N=>⟨true,rfl,?_⟩;have f:=(u.more e).step L;exact hr y d ⟨z,A,P',C,D,F,f⟩ f.base N
theorem Zb(G:Kept c s k){kind peer:Int}{t:LU}{r:Bs 32}{E:St}(B:CG c V s kind peer t r E)(H:t.length<1000)(I:s.now<1073741824):E.now=if kind=2 then s.now+1 else s.now:=by
 unfold CG at B;split at B
 ·rename_i a;rw[B,if_pos a];unfold eM;rw[if_neg ω]
 ·rename_i a;rw[if_neg a];split at B
  ·rw[B];unfold bg;split<;>rfl
  ·obtain⟨P,n,e,_⟩:=B;rw[e];exact(wZ (V:=V) G H).2.2.2.1
theorem mH.kept(p:mH h1 hL hh mid g m c q V s k):Kept c s k:=by
 obtain⟨a,b,P,e,f,d,h⟩:=p;exact d.kept
theorem mH.DT(p:mH h1 hL hh mid g m c q V s k)(B:R (TV.i s.now).val hh):Cl 31 [.ptr (PT g)] hh R:=by
 obtain⟨a,b,P,e,f,d,h⟩:=p;exact Lq d.p.G B
theorem Wy(p:D8 h c V A xs)(ok:∀x∈xs,x.1.text.length<=400/\x.2.length<=40):∀x∈xs,Ln x:=λx a=>⟨(ok x a).1,(ok x a).2,(p.fit x a).1,(p.fit x a).2⟩
end
end Gate
namespace Board
theorem ace{n:Int}(h:(akv .i64 n).wf=true):n<9223372036854775808:=by
 have h:(decide (IntKind.min .i64<=n)&&decide (n<=IntKind.max .i64))=true:=h;have a:=of_decide_eq_true (Bool.and_eq_true_iff.1 h).2;have b:IntKind.max .i64=9223372036854775807:=by rfl
 omega
section
variable{H:Type}{enc:TypeId×Value->H}{w:World}{base fuel:Nat}{spare:Nat->Bool}{held:Bool}
theorem adB{q:List Value}{x:DataW H×List MemPlace}(h:akn enc Tryz.prog w base spare held fuel 137 q=some x):∃v:Vd,q=v.tv.cells/\v.cW<9223372036854775808:=by
 have e:∃f0 f1:Field,Tryz.prog.underlying 137=some (.struct #[f0,f1])/\f0.type=3/\f0.offset=0/\f1.type=9/\f1.offset=1:=⟨_,_,Tryz.underlying137,rfl,rfl,rfl,rfl⟩;obtain⟨f0,f1,f,g,i,j,k⟩:=e;obtain⟨l,n,_,rfl,a,m,b⟩:=akC f h;have o:Tryz.prog.cellsOf 3=1:=κ;have p:Tryz.prog.cellsOf 9=1:=κ;have r:Tryz.prog.cellsOf 137=2:=κ
 match l,m with
 |[u,y],_=>
  have t0:=b 0 f0 rfl;have t1:=b 1 f1 rfl;rw[g,i,o]at t0;rw[j,k,p]at t1;obtain⟨n0,c,w0,t⟩:=ake Tryz.underlying3 t0;obtain⟨s,d,_,_⟩:=DataW.trod_string Tryz.underlying9 t1;rw[r]at a
  match q,a with
  |[v0,v1],_=>
   simp only[akD,List.take_succ_cons,List.take_zero,List.drop_succ_cons,List.cons.injEq,and_true]at c d;subst c;subst d
   exact⟨⟨n0,s.data.toList⟩,by simp[Vd.tv,akL,akh],by
    exact ace t⟩
theorem Zc{α:Type}[Inhabited α]{Q:α->Prop}{tv:α->TV}{sz t e:Nat}(A:Tryz.prog.underlying t=some (.slice e))(B:Tryz.prog.cellsOf e=sz)(G:∀x,(tv x).size=sz)
 (I:∀{fuel:Nat}{q:List Value}{x:DataW H×List MemPlace},akn enc Tryz.prog w base spare held fuel e q=some x->∃v:α,q=(tv v).cells/\Q v)
 {a:Option Addr}{len cap:Nat}{x:DataW H×List MemPlace}(J:∀x,a=some x->x.spot=none)(h:akn enc Tryz.prog w base spare held fuel t [.slice a len cap]=some x):
 ∃(E:Sl)(q:List α),Value.slice a len cap=(TV.slice E).val/\ak sz w.heap E (q.map tv)/\∀c∈q,Q c:=by
 rcases Deep.open_slice A h with⟨b,_⟩|⟨d,R,S,m,n,D,Pl,b,_,T,_,y,_,z⟩
 ·simp only[List.cons.injEq,Value.slice.injEq,and_true]at b;obtain⟨rfl,rfl,rfl⟩:=b;exact⟨akk,[],rfl,ak.y_ sz _,λc b=>by cases b⟩
 ·simp only[List.cons.injEq,Value.slice.injEq,and_true]at b;obtain⟨rfl,rfl,rfl⟩:=b;have o:=J d rfl;have U:len<=m:=by rw[y];split<;>omega
  have C:∀i,i<len->∃c:α,(tv c).at w.heap d.block (d.off+i*sz)/\Q c:=by
   intro i p;obtain⟨V,s,F⟩:=z i ω;rw[B]at s;obtain⟨_,W,K⟩:=World.cells?_some s;obtain⟨c,rfl,L⟩:=I F;refine⟨c,?_,L⟩;rw[TV.lC];intro j g;have M:j<sz:=by rw[G]at g;exact g
   have:=K j M;rw[Deep.add_add]at this
   have N:=NW o (i:=i*sz+j) (v:=(tv c).cells[j]'(by rw[TV.ai];exact g)) (by
    rw[this];simp[TV.ai,g])
   rw[ako (by rw[TV.ai];exact g),<-N,Nat.add_assoc]
  obtain⟨f,u⟩:=Deep.choose_lt C
  refine⟨⟨some ⟨d.block,d.off⟩,len,cap⟩,(List.range len).map f,?_,⟨?_,?_,?_⟩,λc b=>by
   obtain⟨k,r,rfl⟩:=List.mem_map.1 b;exact(u k (List.mem_range.1 r)).2⟩
  ·cases d;simp only at o;subst o;rfl
  ·simp
  ·intro O;cases O
  ·rintro l ⟨rfl⟩ i t A;rw[akB,Option.map_eq_some_iff]at A;obtain⟨c,b,rfl⟩:=A;rw[akB,Option.map_eq_some_iff]at b;obtain⟨k,r,rfl⟩:=b;have P:=List.getElem?_eq_some_iff.1 r;obtain⟨p,B⟩:=P;simp only[List.length_range]at p;simp only[List.getElem_range]at B;subst B;exact(u i p).1
end
end Board
namespace Gate
open Go Go.Vc Go.ChangeShapes Go.WideShapes
open Board (Vd Cf Ms jI aP aU)
instance:Inhabited Act:=⟨⟨0,0,[],aU,0,false⟩⟩
theorem fQ{α:Type}(l:List α)(a k:Nat):l.drop a=(l.drop a).take k++l.drop (a+k):=by
 rw[<-List.drop_drop,List.take_append_drop]
section
variable{H:Type}{enc:TypeId×Value->H}{w:World}{base fuel:Nat}{held:Bool}
theorem E7{α:Type}[Inhabited α]{Q:α->Prop}{tv:α->TV}{sz t e:Nat}(A:Tryz.prog.underlying t=some (.slice e))(B:Tryz.prog.cellsOf e=sz)(G:0<sz)(I:∀x,(tv x).size=sz)
 (J:∀{fuel:Nat}{q:List Value}{x:DataW H×List MemPlace},akn enc Tryz.prog w base (λ_=>true) held fuel e q=some x->∃v:α,q=(tv v).cells/\Q v)
 {v:Value}{x:DataW H×List MemPlace}(h:akn enc Tryz.prog w base (λ_=>true) held fuel t [v]=some x):
 ∃(E:Sl)(q:List α),v=(TV.slice E).val/\ak sz w.heap E (q.map tv)/\∀c∈q,Q c:=by
 have p:∃a len cap,v=Value.slice a len cap:=by
  rcases Deep.open_slice A h with⟨b,_⟩|⟨r,s,u,m,n,D,Pl,b,_⟩
  ·exact⟨_,_,_,by simpa using b⟩
  ·exact⟨_,_,_,by simpa using b⟩
 obtain⟨a,len,cap,rfl⟩:=p;by_cases d:∀x,a=some x->x.spot=none
 ·exact Board.Zc (spare:=λ_=>true) A B I J d h
 ·have z:∃x,a=some x/\x.spot≠none:=by
   cases a with
   |none=>exact absurd (λx f=>by cases f) d
   |some x=>exact⟨x,rfl,λf=>d λy g=>by cases g;exact f⟩
  obtain⟨y,rfl,g⟩:=z;rcases Deep.open_slice A h with⟨b,_⟩|⟨r,s,u,m,n,D,Pl,b,_,i,_,C,_,F⟩
  ·simp at b
  ·simp only[List.cons.injEq,Value.slice.injEq,and_true,Option.some.injEq]at b;obtain⟨rfl,rfl,rfl⟩:=b;have N:m=cap:=by rw[C];rfl
   have K:cap=0:=by
    rcases Nat.eq_zero_or_pos cap with j|j
    ·exact j
    ·obtain⟨O,k,_⟩:=F 0 ω;rw[B,Nat.zero_mul]at k;obtain⟨_,P,L⟩:=World.cells?_some k;have o:=L 0 G;rw[ako ω]at o;exact absurd (World.cell?_spot o) g
   subst K;have M:len=0:=ω;subst M;exact⟨@akj none 0 0 ⟨some y⟩,[],rfl,⟨rfl,λ_=>rfl,λl i=>by cases i⟩,λc b=>by cases b⟩
theorem FP{t e n:Nat}(A:Tryz.prog.underlying t=some (.array n e))(B:Tryz.prog.underlying e=some (.int .u8))(ce:Tryz.prog.cellsOf e=1)(E:Tryz.prog.cellsOf t=n){spare:Nat->Bool}{q:List Value}{x:DataW H×List MemPlace}
 (h:akn enc Tryz.prog w base spare held fuel t q=some x):∃b:Bs n,q=b.l.map λc=>Value.int .u8 (c.toNat:Int):=by
 obtain⟨u,m,_,_,g,v,j⟩:=DataW.trod_array A h;rw[E]at g
 have l:∀i,i<n->∃c:UInt8,q[i]? =some (.int .u8 (c.toNat:Int)):=λi a=>by
  have d:=j i a;rw[ce,Nat.mul_one,ako ω]at d;obtain⟨k,o,_,p⟩:=ake B d;have y:=wf_u8 p
  have r:q[i]? =some (.int .u8 k):=by
   have:((q.drop i).take 1)[0]? =some (Value.int .u8 k):=by rw[o];rfl
   simpa using this
  refine⟨UInt8.ofNat k.toNat,?_⟩;rw[r,UInt8.toNat_ofNat'];congr 2;omega
 obtain⟨f,s⟩:=Deep.choose_lt l;refine⟨⟨(List.range n).map f,by simp⟩,?_⟩;apply List.ext_getElem?;intro i;by_cases a:i<n
 ·rw[s i a];simp[a]
 ·rw[List.getElem?_eq_none ω,List.getElem?_eq_none (by simp;omega)]
theorem Zd{q:List Value}{x:DataW H×List MemPlace}(h:akn enc Tryz.prog w base (λ_=>true) held fuel 24 q=some x):
 ∃(c:Cf)(V:List Vd),q=c.tv.cells/\ak 2 w.heap c.vals (jI V)/\∀v∈V,v.cW<9223372036854775808:=by
 have J:∃f0 f1 f2 f3 f4 f5 f6 f7 f8 f9 f10 f11:Field,Tryz.prog.underlying 24=some (.struct #[f0,f1,f2,f3,f4,f5,f6,f7,f8,f9,f10,f11])/\(f0.type=22/\f0.offset=0)/\(f1.type=3/\f1.offset=1)/\(f2.type=3/\f2.offset=2)/\
  (f3.type=3/\f3.offset=3)/\(f4.type=3/\f4.offset=4)/\(f5.type=3/\f5.offset=5)/\(f6.type=3/\f6.offset=6)/\(f7.type=3/\f7.offset=7)/\(f8.type=3/\f8.offset=8)/\(f9.type=3/\f9.offset=9)/\
  (f10.type=3/\f10.offset=10)/\(f11.type=3/\f11.offset=11):=⟨_,_,_,_,_,_,_,_,_,_,_,_,Tryz.underlying24,⟨rfl,rfl⟩,⟨rfl,rfl⟩,⟨rfl,rfl⟩,⟨rfl,rfl⟩,⟨rfl,rfl⟩,⟨rfl,rfl⟩,⟨rfl,rfl⟩,⟨rfl,rfl⟩,⟨rfl,rfl⟩,⟨rfl,rfl⟩,⟨rfl,rfl⟩,⟨rfl,rfl⟩⟩
 obtain⟨f0,f1,f2,f3,f4,f5,f6,f7,f8,f9,f10,f11,K,d,f,g,i,j,k,l,m,o,p,r,s⟩:=J;have M:Tryz.prog.cellsOf 24=12:=κ;have b:Tryz.prog.cellsOf 3=1:=κ;have N:Tryz.prog.cellsOf 22=1:=κ;obtain⟨O,n,_,_,t,P,a⟩:=akC K h;rw[M]at t
 match O,P with
 |[y0,y1,y2,y3,y4,y5,y6,y7,y8,y9,ae,al],_=>
  have t0:=a 0 f0 rfl;have t1:=a 1 f1 rfl;have t2:=a 2 f2 rfl;have t3:=a 3 f3 rfl;have t4:=a 4 f4 rfl;have t5:=a 5 f5 rfl;have t6:=a 6 f6 rfl;have t7:=a 7 f7 rfl;have t8:=a 8 f8 rfl;have t9:=a 9 f9 rfl;have t10:=a 10 f10 rfl;have t11:=a 11 f11 rfl;rw[d.1,d.2,N]at t0;rw[f.1,f.2,b]at t1;rw[g.1,g.2,b]at t2;rw[i.1,i.2,b]at t3;rw[j.1,j.2,b]at t4;rw[k.1,k.2,b]at t5;rw[l.1,l.2,b]at t6;rw[m.1,m.2,b]at t7;rw[o.1,o.2,b]at t8;rw[p.1,p.2,b]at t9;rw[r.1,r.2,b]at t10;rw[s.1,s.2,b]at t11;clear a h;obtain⟨R,u,_,_⟩:=ake Tryz.underlying3 t1;obtain⟨S,y,_,_⟩:=ake Tryz.underlying3 t2;obtain⟨T,z,_,_⟩:=ake Tryz.underlying3 t3;obtain⟨U,A,_,_⟩:=ake Tryz.underlying3 t4;obtain⟨W,B,_,_⟩:=ake Tryz.underlying3 t5;obtain⟨X,C,_,_⟩:=ake Tryz.underlying3 t6;obtain⟨Y,D,_,_⟩:=ake Tryz.underlying3 t7;obtain⟨Z,E,_,_⟩:=ake Tryz.underlying3 t8;obtain⟨n9,F,_,_⟩:=ake Tryz.underlying3 t9;obtain⟨ab,G,_,_⟩:=ake Tryz.underlying3 t10;obtain⟨ac,I,_,_⟩:=ake Tryz.underlying3 t11;clear t1 t2 t3 t4 t5 t6 t7 t8 t9 t10 t11
  match q,t with
  |[v0,v1,v2,v3,v4,v5,v6,v7,v8,v9,v10,v11],_=>
   simp only[akD,List.take_succ_cons,List.take_zero,List.drop_succ_cons,List.cons.injEq,and_true]at u y z A B C D E F G I t0;subst u;subst y;subst z;subst A;subst B;subst C;subst D;subst E;subst F;subst G;subst I;obtain⟨sl,L,e,ad,hq⟩:=E7 (Q:=λv=>v.cW<9223372036854775808) (tv:=Vd.tv) (sz:=2) Tryz.underlying22 κ δ Vd.size (λ{fuel q x} h=>Board.adB h) t0;subst e;exact⟨⟨sl,R,S,T,U,W,X,Y,Z,n9,ab,ac⟩,L,rfl,ad,hq⟩
theorem Ze{q:List Value}{x:DataW H×List MemPlace}(h:akn enc Tryz.prog w base (λ_=>true) held fuel 58 q=some x):
 ∃(m:Ms)(row:List Bool),q=m.tv.cells/\ak 1 w.heap m.bits (aP row)/\Board.jC m:=by
 have t:∃f0 f1 f2 f3 f4 f5 f6:Field,Tryz.prog.underlying 58=some (.struct #[f0,f1,f2,f3,f4,f5,f6])/\(f0.type=3/\f0.offset=0)/\(f1.type=3/\f1.offset=1)/\(f2.type=52/\f2.offset=2)/\
  (f3.type=3/\f3.offset=34)/\(f4.type=53/\f4.offset=35)/\(f5.type=54/\f5.offset=36)/\(f6.type=56/\f6.offset=37):=⟨_,_,_,_,_,_,_,Tryz.underlying58,⟨rfl,rfl⟩,⟨rfl,rfl⟩,⟨rfl,rfl⟩,⟨rfl,rfl⟩,⟨rfl,rfl⟩,⟨rfl,rfl⟩,⟨rfl,rfl⟩⟩
 obtain⟨f0,f1,f2,f3,f4,f5,f6,u,g,i,j,k,l,o,p⟩:=t;have y:Tryz.prog.cellsOf 58=53:=κ;have d:Tryz.prog.cellsOf 3=1:=κ;have z:Tryz.prog.cellsOf 53=1:=κ;have A:Tryz.prog.cellsOf 54=1:=κ;have r:Tryz.prog.cellsOf 52=32:=κ;have cG:Tryz.prog.cellsOf 56=16:=κ;have s:Tryz.prog.cellsOf 5=1:=κ;obtain⟨B,n,_,_,C,D,a⟩:=akC u h;rw[y]at C
 match B,D with
 |[T,U,V,W,X,Y,Z],_=>
  have t0:=a 0 f0 rfl;have t1:=a 1 f1 rfl;have t2:=a 2 f2 rfl;have t3:=a 3 f3 rfl;have t4:=a 4 f4 rfl;have t5:=a 5 f5 rfl;have t6:=a 6 f6 rfl;rw[g.1,g.2,d]at t0;rw[i.1,i.2,d]at t1;rw[j.1,j.2,r]at t2;rw[k.1,k.2,d]at t3;rw[l.1,l.2,z]at t4;rw[o.1,o.2,A]at t5;rw[p.1,p.2,cG]at t6;clear a h;obtain⟨n0,f,_,_⟩:=ake Tryz.underlying3 t0;obtain⟨E,F,_,_⟩:=ake Tryz.underlying3 t1;obtain⟨G,I⟩:=FP Tryz.underlying52 Tryz.underlying5 s r t2;obtain⟨J,K,_,_⟩:=ake Tryz.underlying3 t3;obtain⟨L,M,_,N⟩:=ake Tryz.underlying53 t4;obtain⟨O,P⟩:=FP Tryz.underlying56 Tryz.underlying5 s cG t6
  have c:∃v,(q.drop 36).take 1=[v]:=by
   refine⟨q[36],?_⟩;rw[List.drop_eq_getElem_cons ω];rfl
  obtain⟨v5,c⟩:=c;rw[c]at t5
  obtain⟨R,row,e,S,_⟩:=E7 (Q:=λ_=>True) (tv:=akg) (sz:=1) Tryz.underlying54 κ δ (λ_=>rfl) (λ{fuel q x} h=>by
   obtain⟨b,f,_⟩:=DataW.trod_bool Tryz.underlying4 h;exact⟨b,by rw[f];rfl,trivial⟩) t5
  refine⟨⟨n0,E,G,J,L,R,O⟩,row,?_,S,wf_u64 N⟩;have d0:=fQ q 0 1;have d1:=fQ q 1 1;have d2:=fQ q 2 32;have d3:=fQ q 34 1;have d4:=fQ q 35 1;have d5:=fQ q 36 1;have d6:=fQ q 37 16;have d7:q.drop (37+16)=[]:=List.drop_eq_nil_of_le ω;rw[f]at d0;rw[F]at d1;rw[I]at d2;rw[K]at d3;rw[M]at d4;rw[c]at d5;rw[P,d7]at d6;rw[akD]at d0;rw[d0,show(0+1)=1 from rfl,d1,show(1+1)=2 from rfl,d2,show(2+32)=34 from rfl,d3,show(34+1)=35 from rfl,d4,show(35+1)=36 from rfl,d5,show(36+1)=37 from rfl,d6,e];simp[Ms.tv,akL,akh,akb]
theorem VT{q:List Value}{x:DataW H×List MemPlace}(h:akn enc Tryz.prog w base (λ_=>true) held fuel 60 q=some x):
 ∃v:Act×List Bool,q=v.1.tv.cells/\(ak 1 w.heap v.1.oG.bits (aP v.2)/\(akv .i64 v.1.peer).wf=true/\Board.jC v.1.oG):=by
 have j:∃f0 f1 f2 f3 f4 f5:Field,Tryz.prog.underlying 60=some (.struct #[f0,f1,f2,f3,f4,f5])/\(f0.type=3/\f0.offset=0)/\(f1.type=3/\f1.offset=1)/\(f2.type=9/\f2.offset=2)/\
  (f3.type=58/\f3.offset=3)/\(f4.type=3/\f4.offset=56)/\(f5.type=4/\f5.offset=57):=⟨_,_,_,_,_,_,Tryz.underlying60,⟨rfl,rfl⟩,⟨rfl,rfl⟩,⟨rfl,rfl⟩,⟨rfl,rfl⟩,⟨rfl,rfl⟩,⟨rfl,rfl⟩⟩
 obtain⟨f0,f1,f2,f3,f4,f5,k,c,d,e,f,g,i⟩:=j;have l:Tryz.prog.cellsOf 60=58:=κ;have b:Tryz.prog.cellsOf 3=1:=κ;have m:Tryz.prog.cellsOf 9=1:=κ;have o:Tryz.prog.cellsOf 4=1:=κ;have p:Tryz.prog.cellsOf 58=53:=κ;obtain⟨r,n,_,_,s,t,a⟩:=akC k h;rw[l]at s
 match r,t with
 |[M,N,O,P,Q,R],_=>
  have t0:=a 0 f0 rfl;have t1:=a 1 f1 rfl;have t2:=a 2 f2 rfl;have t3:=a 3 f3 rfl;have t4:=a 4 f4 rfl;have t5:=a 5 f5 rfl;rw[c.1,c.2,b]at t0;rw[d.1,d.2,b]at t1;rw[e.1,e.2,m]at t2;rw[f.1,f.2,p]at t3;rw[g.1,g.2,b]at t4;rw[i.1,i.2,o]at t5;clear a h;obtain⟨n0,u,_,_⟩:=ake Tryz.underlying3 t0;obtain⟨y,z,_,A⟩:=ake Tryz.underlying3 t1;obtain⟨B,C,_,_⟩:=DataW.trod_string Tryz.underlying9 t2;obtain⟨D,row,E,F,G⟩:=Ze t3;obtain⟨I,J,_,_⟩:=ake Tryz.underlying3 t4;obtain⟨K,L,_⟩:=DataW.trod_bool Tryz.underlying4 t5;refine⟨(⟨n0,y,B.data.toList,D,I,K⟩,row),?_,F,A,G⟩;have d0:=fQ q 0 1;have d1:=fQ q 1 1;have d2:=fQ q 2 1;have d3:=fQ q 3 53;have d4:=fQ q 56 1;have d5:=fQ q 57 1;have d6:q.drop (57+1)=[]:=List.drop_eq_nil_of_le ω;rw[u]at d0;rw[z]at d1;rw[C]at d2;rw[E]at d3;rw[J]at d4;rw[L,d6]at d5;rw[akD]at d0;rw[d0,show(0+1)=1 from rfl,d1,show(1+1)=2 from rfl,d2,show(2+1)=3 from rfl,d3,show(3+53)=56 from rfl,d4,show(56+1)=57 from rfl,d5];simp[Act.tv,akL,akh]
structure Qf where
 c:Cf
 A:Sl
def Qf.tv(p:Qf):TV:=.agg [p.c.tv,.slice p.A]
theorem aaz{r:Reach}{E:Nat}{v:Value}{d:DataW H}{p:List MemPlace}(A:Value.okWide Tryz.prog w r E 42 v)(h:DataW.Trod enc Tryz.prog w base (λ_=>true) held 42 v d p):
 ∃q:Qf,(∃V B,D8 w.heap q.c V q.A B)/\v=q.tv.val:=by
 have t:∃f0 f1:Field,Tryz.prog.underlying 42=some (.struct #[f0,f1])/\(f0.type=24/\f0.offset=0)/\(f1.type=40/\f1.offset=12):=⟨_,_,Tryz.underlying42,⟨rfl,rfl⟩,⟨rfl,rfl⟩⟩;obtain⟨f0,f1,i,j,k⟩:=t;have u:Tryz.prog.cellsOf 42=13:=κ;have y:Tryz.prog.cellsOf 24=12:=κ;have z:Tryz.prog.cellsOf 40=1:=κ;unfold Value.okWide at A;rw[i]at A;simp only at A;obtain⟨a,rfl,K,_⟩:=A;obtain⟨fuel,l⟩:=h;have m:akn enc Tryz.prog w base (λ_=>true) held fuel 42 a.toList=some (d,p):=l;obtain⟨B,n,_,_,C,D,f⟩:=akC i m;rw[u]at C
 match B,D with
 |[M,N],_=>
  have t0:=f 0 f0 rfl;have t1:=f 1 f1 rfl;rw[j.1,j.2,y]at t0;rw[k.1,k.2,z]at t1;clear f l m;obtain⟨c,V,F,G,I⟩:=Zd t0
  have b:∃v,(a.toList.drop 12).take 1=[v]:=by
   refine⟨a.toList[12],?_⟩;rw[List.drop_eq_getElem_cons ω];rfl
  obtain⟨v1,b⟩:=b;rw[b]at t1;obtain⟨o,L,e,J,s⟩:=E7 (Q:=λv:Act×List Bool=>ak 1 w.heap v.1.oG.bits (aP v.2)/\(akv .i64 v.1.peer).wf=true/\Board.jC v.1.oG) (tv:=λv=>v.1.tv) (sz:=58) Tryz.underlying40 κ δ (λv=>by rw[D7,<-A_]) (λ{fuel a x} h=>VT h) t1;refine⟨⟨c,o⟩,⟨V,L,G,I,⟨J,λx g=>(s x g).1⟩,λx g=>(s x g).2⟩,?_⟩;have d0:=fQ a.toList 0 12;have d1:=fQ a.toList 12 1;have d2:a.toList.drop (12+1)=[]:=List.drop_eq_nil_of_le ω;rw[F]at d0;rw[b,d2]at d1;rw[akD]at d0;rw[show(0+12)=12 from rfl,d1,e]at d0;have:a=(c.tv.cells++([(TV.slice o).val]++[])).toArray:=by rw[<-d0]
  rw[this];simp[Qf.tv,akb,akL,akh]
end
end Gate
namespace Gate
open Board (Vd Cf Ms bT lg rW wH)
def aV:List Vd:=[⟨5,[107]⟩]
def aC(s:Sl):Cf:=⟨s,4,1,9,1,1,1,1,99,1,9,1⟩
def mh:Bs 32:=uy (aC akk) aV
def aM(t:Bs 16):Ms:=⟨1,1,mh,0,0,akk,t⟩
def aeD:Bs 16:=rW aV (aM (akf 16)) [] 0
end Gate
namespace Gate
open Board (Vd Cf Ms Dm bT lg rW mc aR jE dM mem eH dn)
open Pool (It has)
theorem aeE:mem 1 1 1=[0]:=by
 have:Board.QZ 1 1=[⟨Board.rK 1 0,0⟩]:=rfl;unfold mem Board.sorted;rw[if_neg δ,this,List.mergeSort_singleton];rfl
theorem Su(t:Bs 16):aR 1 1 (aM t) []=([0],true):=by
 have a:dn (aM t) []=true:=by rfl
 unfold aR;rw[if_neg (by rw[a];decide),if_neg (show¬(aM t).kind=3 by show¬(1:Int)=3;decide),show(aM t).slot=1 from rfl,aeE,if_neg (λh=>h.2 rfl),if_neg (show¬Board.idx [0] (aM t).ax 0<0 by show¬Board.idx [0] 0 0<0;decide)];rfl
def aTg:Bs 16:=eH [aeD] (akf 16)
abbrev oH:Ms:=aM aTg
theorem aa7(t:Bs 16):lg 1 1 aV (aM t) []=(aTg,true):=by
 unfold lg;rw[Su];rfl
theorem adC:mc 1 1 aV (aM (akf 16)) []=(oH,true):=by
 unfold mc;rw[aa7];rfl
theorem Zf:jE 1 1 aV oH []=true:=by
 unfold jE;rw[aa7];show(true&&decide (aTg.l=aTg.l))=true;rw[decide_eq_true rfl];rfl
def TP:LU:=Board.wH oH []
def aDm:Dm:=⟨1,1,mh,0,0,[],aTg⟩
theorem adD:(match dM TP with
 |some d=>decide (d.kind=1)&&(decide (d.slot=1)&&(decide (d.target.l=mh.l)&&(decide (d.ax=0)&&(decide (d.body=0)&&(decide (d.row=[])&&decide (d.tag.l=aTg.l))))))
 |none=>false)=true:=κ
theorem adE:dM TP=some aDm:=by
 have h:=adD;cases a:dM TP with
 |none=>rw[a]at h;cases h
 |some d=>
  rw[a]at h;simp only[Bool.and_eq_true,decide_eq_true_eq]at h;obtain⟨c,e,f,i,j,l,n⟩:=h;obtain⟨k,s,t,m,b,r,g⟩:=d;dsimp only at c e f i j l n;subst c e i j l;rw[Bs.ext' f,Bs.ext' n];rfl
theorem Zg:decide ((bT oH []).l=mh.l)=false:=κ
theorem adF:dM [120]=none:=by rfl
def CJ:List Nd:=[⟨mh,0,-1⟩]
def Jh:List Nd:=[⟨mh,0,-1⟩,⟨bT oH [],1,0⟩]
theorem acf:decide ((DN Jh (cZ (bJ aV) (gZ 1 4) Jh)).l=(bT oH []).l)=true:=κ
theorem adG:DN Jh (cZ (bJ aV) (gZ 1 4) Jh)=bT oH []:=Bs.ext' (of_decide_eq_true acf)
theorem aa8:place (bT oH []) CJ<0:=by
 rw[mL];intro h;have h:bT oH []=mh:=by simpa[CJ]using h
 have:=of_decide_eq_false Zg;exact this (by rw[h])
theorem Nr:place mh CJ=0:=js (L:=CJ) (i:=0) (x:=⟨mh,0,-1⟩) (by simp[CJ]) rfl
theorem aaA:place (bT oH []) Jh=1:=by
 refine js (L:=Jh) (i:=1) (x:=⟨bT oH [],1,0⟩) ?_ rfl;have h:=of_decide_eq_false Zg;simp only[Jh,List.map_cons,List.map_nil,List.nodup_cons,akG,List.not_mem_nil,not_false_eq_true,List.nodup_nil,and_true];exact λe=>h (by rw[e])
def AB(N:List Nd)(P:List (Int×Int))(g:Int):St:=⟨N,gZ 1 4,[],[],P,g,1,0⟩
section
variable{s:Sl}{P:List (Int×Int)}{g:Int}
theorem acg:uy (aC s) aV=mh:=rfl
theorem adH:eM (aC s) aV (kT (aC s) aV)=(true,AB CJ [] 0):=by
 unfold eM;rw[if_neg (show¬(1073741824:Int)<=(kT (aC s) aV).now by show¬(1073741824:Int)<=0;decide)]
 have e:dB (gZ 1 4) (Vc.mx (0+1-Clock.eD 1) 0)=gZ 1 4:=by
  unfold dB;split<;>rfl
 show(true,(⟨[⟨uy (aC s) aV,0,-1⟩],dB (gZ 1 4) (Vc.mx (0+1-Clock.eD 1) 0),[],[],[],0,0+1,0⟩:St))=_;rw[e,acg];rfl
theorem adI{N:List Nd}{p:Int}(q:¬akw P p<=-9):bG (aC s) aV (AB N P g) p [120]=(5,AB N P g):=by
 unfold bG;rw[if_neg (show¬decide (akw (AB N P g).sc p<=-(aC s).bD)=true by rw[decide_eq_true_eq];exact q),if_neg (show¬(aC s).gY<(([120]:LU).length:Int) by show¬(99:Int)<(([120]:LU).length:Int);decide),adF]
theorem adJ:¬(99:Int)<(TP.length:Int):=by
 have:=Board.mX oH [];unfold TP;simp only[akH]at this;omega
theorem aaB{p:Int}(q:¬akw P p<=-9):bG (aC s) aV (AB CJ P g) p TP=(0,AB Jh P g):=by
 have b:dQ (aC s) aV (AB CJ P g) oH []=0:=by
  have a:kL (aC s) (AB CJ P g) 1 1=true:=by rfl
  have c:kN (AB CJ P g) 1 (bT oH [])=false:=by
   unfold kN;rw[if_pos rfl];have:=aa8;show(decide (0<=place (bT oH []) CJ)||has (bT oH []) [])=false;rw[decide_eq_false ω];rfl
  unfold dQ
  rw[show kL (aC s) (AB CJ P g) oH.kind oH.slot=true from a,if_neg δ,show(aR aV.length (aC s).aN oH []).2=true by rw[show aV.length=1 from rfl,show(aC s).aN=1 from rfl,Su],if_neg δ,
   show jE aV.length (aC s).aN aV oH []=true from Zf,if_neg δ,show kN (AB CJ P g) oH.kind (bT oH [])=false from c,if_neg δ]
 unfold bG;rw[if_neg (show¬decide (akw (AB CJ P g).sc p<=-(aC s).bD)=true by rw[decide_eq_true_eq];exact q),if_neg (show¬(aC s).gY<(TP.length:Int)from adJ),adE];show(if dQ (aC s) aV (AB CJ P g) oH []≠0 then _ else if(1:Int)=1 then fk (aC s) (AB CJ P g) p oH [] TP else _)=_;rw[b,if_neg (by simp),if_pos rfl];unfold fk;have d:dm CJ (place mh CJ)=(⟨mh,0,-1⟩,true):=by rw[Nr];rfl
 rw[show dm (AB CJ P g).N (place oH.target (AB CJ P g).N)=(⟨mh,0,-1⟩,true)from d,if_neg δ];show(if(1:Int)<=0 then((10:Int),AB CJ P g)else if(9:Int)-((CJ.length:Nat):Int)=0 then(13,AB CJ P g)else(0,tw 9 (bT oH []) mh 1 (AB CJ P g)))=_;rw[if_neg δ,if_neg δ]
 have a:iF CJ 9 (bT oH []) mh 1=Jh:=by
  have f:=aa8
  have e:nQ CJ 9 (bT oH []) mh 1=0:=by
   unfold nQ;rw[if_neg ω,Nr];rfl
  unfold iF;rw[if_pos e,Nr];rfl
 unfold tw;rw[show(AB CJ P g).N=CJ from rfl,a];rfl
theorem aaC{p:Int}(q:¬akw P p<=-9):bG (aC s) aV (AB Jh P g) p TP=(9,AB Jh P g):=by
 have a:dQ (aC s) aV (AB Jh P g) oH []=9:=by
  have b:kL (aC s) (AB Jh P g) 1 1=true:=by rfl
  have c:kN (AB Jh P g) 1 (bT oH [])=true:=by
   unfold kN;rw[if_pos rfl];have:=aaA;show(decide (0<=place (bT oH []) Jh)||has (bT oH []) [])=true;rw[decide_eq_true ω];rfl
  unfold dQ
  rw[show kL (aC s) (AB Jh P g) oH.kind oH.slot=true from b,if_neg δ,show(aR aV.length (aC s).aN oH []).2=true by rw[show aV.length=1 from rfl,show(aC s).aN=1 from rfl,Su],if_neg δ,
   show jE aV.length (aC s).aN aV oH []=true from Zf,if_neg δ,show kN (AB Jh P g) oH.kind (bT oH [])=true from c,if_pos rfl]
 unfold bG;rw[if_neg (show¬decide (akw (AB Jh P g).sc p<=-(aC s).bD)=true by rw[decide_eq_true_eq];exact q),if_neg (show¬(aC s).gY<(TP.length:Int)from adJ),adE];show(if dQ (aC s) aV (AB Jh P g) oH []≠0 then(dQ (aC s) aV (AB Jh P g) oH [],AB Jh P g)else _)=_;rw[a,if_pos δ]
end
end Gate
namespace Gate
open Board (Vd Cf jI av)
end Gate
namespace Gate
open Board (Vd Cf Ms Du jI av bT mc aU aZ eZ ck)
theorem aa9(s:Sl):sB (aC s) aV=true:=by rfl
theorem ach(s:Sl):Can (aC s) aV:=lW.1 (aa9 s)
theorem Ns{R:Rq}{h:aa}(hr:∀h',Ext h h'->R (akg true).val h'):Cl 25 [] h R:=by
 apply u9;delta mE gM bO FW dI W4 bh mN eE
 have on:=Own.new (T:=137) (sz:=2) h (jI aV) (λt ht=>by
  obtain⟨x,_,rfl⟩:=List.mem_map.1 ht;rfl)
 have hc:akh [aku [TV.i 5,akr (aky #[(107:UInt8)]).data.toList]]=akh (jI aV):=rfl;rw[hc];have x0:=akx h (row (akh (jI aV)) 137);have s0:(h.push (row (akh (jI aV)) 137)).size=h.size+1:=by simp
 generalize h.push (row (akh (jI aV)) 137)=h0 at on x0 s0⊢;obtain⟨cc,a'⟩:∃cc,cc=aC ⟨some ⟨h.size,0⟩,1,1⟩:=⟨_,rfl⟩;refine af λe v1 x1 s1=>av (t:=(aC ⟨some ⟨h.size,0⟩,1,1⟩).tv) v1 rfl rfl λf v2 f2 s2=>?_;have X:Ext h0 f:=akc x1 f2 λi o=>akp (akq o);have e2:ak 2 f (aC ⟨some ⟨h.size,0⟩,1,1⟩).vals (jI aV):=on.elems.ext X;refine⟨_,_,_,_,_,_,_,_,_,_,_,_,v2.at,?_⟩;refine K4 (c:=aC ⟨some ⟨h.size,0⟩,1,1⟩) (V:=aV) e2 (show 1<100000 by decide) (λhg=>by rw[aa9]at hg;cases hg) λk J g a q F3 p3 K Y ba=>⟨_,_,rfl,?_⟩;intro Z M;refine aki ?_;have A:=Qc (ach q);have kp:Kept {aC ⟨some ⟨h.size,0⟩,1,1⟩with vals:=q} (kT (aC ⟨some ⟨h.size,0⟩,1,1⟩) aV) 0:=⟨A.now,A.An,A.By,A.Ao,A.D1,A.left,A.gone⟩;refine I3 p3 kp λh4 F4 p4 O=>⟨_,rfl,?_⟩;have k4:=Lm (c:={aC ⟨some ⟨h.size,0⟩,1,1⟩with vals:=q}) (V:=aV) kp;rw[Lk,adH]at p4 k4⊢;refine aki (Lq p4 ⟨_,rfl,aki ?_⟩);refine nE p4 k4 δ (peer:=1) δ (text:=[120]) δ λD P5 n5 F5 B al am=>⟨_,rfl,?_⟩;have u:=adI (s:=⟨some ⟨h.size,0⟩,1,1⟩) (P:=[]) (g:=0) (N:=CJ) (p:=1) δ;rw[nj,u]at B am⊢
 have a2:P5=[(1,-4)]/\n5=0:=by
  rcases am with⟨e,_,_⟩|⟨_,_,f,J⟩|⟨_,_,f,_⟩
  ·exact absurd e δ
  ·exact⟨J,f⟩
  ·exact absurd (show(1:Int)<=(([]:List (Int×Int)).length:Int)from f) δ
 obtain⟨rfl,rfl⟩:=a2;have F:=xA (V:=aV) (c:={aC ⟨some ⟨h.size,0⟩,1,1⟩with vals:=q}) k4 (peer:=1) (text:=[120]) δ (Q:=[(1,-4)]) (n:=0) δ;rw[nj,u]at F;have B:aQ D g a {aC ⟨some ⟨h.size,0⟩,1,1⟩with vals:=q} aV (AB CJ [(1,-4)] 0) F5:=B;have F:Kept {aC ⟨some ⟨h.size,0⟩,1,1⟩with vals:=q} (AB CJ [(1,-4)] 0) 2:=F;refine aki (B.adk ⟨_,rfl,?_⟩);obtain⟨r5,a3,_⟩:=B.who;refine Peers.Iv a3 ⟨_,rfl,aki (M _ D ?_)⟩;clear M Z
 have ao:∀i,cO F5 i->f.size<=i:=λi o=>by
  rcases al.new i o with e|e
  ·rcases O.new i e with f|f
   ·obtain⟨j,u⟩:=f;exact Y j i u
   ·have:=K.size;omega
  ·have:=K.size;have:=O.only.size;omega
 have S:Ext f D:=by
  refine akc (akc K O.only λi⟨j,u⟩=>Y j i u) al.only λi o=>?_;rcases O.new i o with⟨j,u⟩|f
  ·exact Y j i u
  ·have:=K.size;omega
 have v5:=v2.ext S;have G:=e2.ext S;have z2:=X.size;intro Z M;refine⟨_,_,_,_,_,_,_,_,_,_,_,_,v5.at,_,_,_,_,_,_,_,_,_,_,_,_,v5.at,?_⟩;have ab:Du (aC ⟨some ⟨h.size,0⟩,1,1⟩):=D4 (V:=aV) (ach _) rfl;have keys:=uz (ach q);have ac:∀w,ak 1 w (aM (akf 16)).bits (Board.aP []):=λw=>ak.y_ 1 w;have ad:mc (aC ⟨some ⟨h.size,0⟩,1,1⟩).vals.len (aC ⟨some ⟨h.size,0⟩,1,1⟩).aN aV (aM (akf 16)) []=(oH,true):=adC
 have ae:∀(w:aa)(y:Nat),Var 58 w y oH.tv->Ext D w->D.size<=y->Z (mh,true,some ⟨y,0⟩,true) w:=by
  intro w y vm xh hb;refine M _ w ?_;have ez:∀g',ak 1 g' oH.bits (Board.aP []):=λg'=>ak.y_ 1 g';have p6:=B.ext xh;have bo:Board.jC oH:=⟨δ,δ⟩;refine⟨_,_,_,_,_,_,_,vm.at,Board.iZ (m:=oH) (row:=[]) (ez _) δ (.inl rfl) bo λh6 d=>⟨_,rfl,?_⟩⟩;have E:=p6.ext d
  have tl:TP.length<1000:=by
   have:=Board.mX oH [];simp only[akH]at this;unfold TP;omega
  refine nE E F δ (peer:=2) δ (text:=TP) tl λH P7 n7 F7 E U ap=>⟨_,rfl,?_⟩;have ar:=aaB (s:=⟨some ⟨h.size,0⟩,1,1⟩) (P:=[(1,-4)]) (g:=0) (p:=2) δ;rw[nj,ar]at E ap⊢
  have a4:P7=[(1,-4)]/\n7=0:=by
   rcases ap with⟨_,f,J⟩|⟨e,_⟩|⟨e,_⟩
   ·exact⟨f,J⟩
   ·exact absurd e δ
   ·exact absurd e δ
  obtain⟨rfl,rfl⟩:=a4;have W:=xA (V:=aV) (c:={aC ⟨some ⟨h.size,0⟩,1,1⟩with vals:=q}) F (peer:=2) tl (Q:=[(1,-4)]) (n:=0) δ;rw[nj,ar]at W;have E:aQ H g a {aC ⟨some ⟨h.size,0⟩,1,1⟩with vals:=q} aV (AB Jh [(1,-4)] 0) F7:=E;have W:Kept {aC ⟨some ⟨h.size,0⟩,1,1⟩with vals:=q} (AB Jh [(1,-4)] 0) 3:=W
  have aw:¬cO F5 y:=λhx=>by
   have e:y<D.size:=by
    obtain⟨j,u⟩:=hx;exact B.sep.lt j y u
   omega
  have aE:=(vm.ext d).only U.only aw;refine akz ⟨_,_,_,_,_,_,_,aE.at,Board.iZ (m:=oH) (row:=[]) (ez _) δ (.inl rfl) bo λh8 l=>⟨_,rfl,?_⟩⟩;have p8:=E.ext l;refine nE p8 W δ (peer:=2) δ (text:=TP) tl λC P9 n9 F9 p9 a0 bb=>⟨_,rfl,?_⟩;have a5:=aaC (s:=⟨some ⟨h.size,0⟩,1,1⟩) (P:=[(1,-4)]) (g:=0) (p:=2) δ;rw[nj,a5]at p9⊢
  have a6:¬cO F7 y:=λhx=>by
   rcases U.new y hx with e|e
   ·exact aw e
   ·have:=vm.lt;have:=d.size;omega
  have a7:=(aE.ext l).only a0.only a6;refine akz ⟨_,_,_,_,_,_,_,a7.at,Sm p9 λbc a1=>⟨bT oH [],?_,a1,?_⟩⟩
  ·exact congrArg (λb=>(akE 32 b).val) adG
  ·refine Board.cr (m:=oH) (row:=[]) (ez _) δ (.inl rfl) bo λa8 a9=>⟨_,rfl,?_⟩;dsimp only;rw[decide_eq_true rfl];refine hr a8 (Ext.trans ?_ (a1.trans a9));have y7:Ext f H:=akc ((S.trans xh).trans d) U.only ao
   have y9:Ext f C:=akc (y7.trans l) a0.only λi o=>by
    rcases U.new i o with e|e
    ·exact ao i e
    ·have:=S.size;have:=xh.size;have:=d.size;omega
   exact(x0.trans X).trans y9
 refine⟨?_,?_⟩
 ·refine cr (c:=aC ⟨some ⟨h.size,0⟩,1,1⟩) (L:=aV) G (show 1<=64 by decide) (λv z=>(keys v z).2) λh6 d=>⟨mh,rfl,d,?_,?_⟩
  ·refine Board.qq (c:=aC ⟨some ⟨h.size,0⟩,1,1⟩) (m:=aM (akf 16)) (row:=[]) (L:=aV) ab (G.ext d) (λv z=>by have:=(keys v z).2;omega) (ac _) δ ⟨δ,δ⟩ λH r=>?_;rw[ad];refine⟨_,_,_,_,_,_,_,true,rfl,af λh8 v8 l s8=>⟨l,av (t0:=aU.tv) v8 (t:=oH.tv) ck eZ λC I f9 s9=>?_⟩⟩;exact ae C _ I ((d.trans r).trans (akc l f9 λi o=>akp (akq o))) (d.trans r).size
  ·refine af λH v7 r s7=>⟨r,?_⟩;refine Board.qq (c:=aC ⟨some ⟨h.size,0⟩,1,1⟩) (m:=aM (akf 16)) (row:=[]) (L:=aV) ab ((G.ext d).ext r) (λv z=>by have:=(keys v z).2;omega) (ac _) δ ⟨δ,δ⟩ λh8 l=>?_;rw[ad];refine⟨_,_,_,_,_,_,_,true,rfl,av (t0:=aU.tv) (Var.ext (t:=aU.tv) v7 l) (t:=oH.tv) ck eZ λC I f9 s9=>?_⟩;exact ae C _ I (akc ((d.trans r).trans l) f9 λi o=>by have:=d.size;omega) d.size
 ·refine af λh6 v6 d s6=>⟨d,?_⟩;refine cr (c:=aC ⟨some ⟨h.size,0⟩,1,1⟩) (L:=aV) (G.ext d) (show 1<=64 by decide) (λv z=>(keys v z).2) λH r=>⟨mh,rfl,r,?_⟩;refine Board.qq (c:=aC ⟨some ⟨h.size,0⟩,1,1⟩) (m:=aM (akf 16)) (row:=[]) (L:=aV) ab ((G.ext d).ext r) (λv z=>by have:=(keys v z).2;omega) (ac _) δ ⟨δ,δ⟩ λh8 l=>?_;rw[ad];refine⟨_,_,_,_,_,_,_,true,rfl,av (t0:=aU.tv) (Var.ext (t:=aU.tv) v6 (r.trans l)) (t:=oH.tv) ck eZ λC I f9 s9=>?_⟩;exact ae C _ I (akc ((d.trans r).trans l) f9 λi o=>ω) (akK _)
end Gate
namespace Gate
open Board (Vd Cf Ms jI av aU)
open Pool (It Fit jV Im rts)
section
variable{R:Rq}{h:aa}{c:Cf}{V:List Vd}{A:Sl}{xs:List (Act×List Bool)}
theorem Ji(p:D8 h c V A xs)(B:∀K,Ext h K->R (akg true).val K):Cl 4 [.agg [c.tv,.slice A]] h R:=by
 apply qs c.vals c.ep c.aN c.no c.eu c.ew c.quo c.pe c.gY c.win c.bD c.dec A;delta iz aaP gM bO i_ bK bN aT bh mN;refine af λh1 v1 x1 s1=>Ns λh2 L=>⟨_,rfl,aki ?_⟩;have M:Var 42 h2 h.size (.agg [c.tv,.slice A]):=Var.ext (t:=.agg [c.tv,.slice A]) v1 L;have C:=x1.trans L;have D:=p.ext C;refine TO M (Jf D.ev D.Y9 δ (λj l=>⟨_,rfl,akz (B j (C.trans l))⟩) λj l lc aw ok=>⟨_,rfl,aki ?_⟩);have E:=C.trans l;have N:=M.ext l;have F:=D.ext l;refine Sr N F lc (λhb d e=>?_) λk d g m a b q O P S e lo=>?_
 ·intro v o;exact akz (B d (E.trans e))
 intro v o;refine aki (aki (o _ d ?_));clear o v;have aE:=E.trans e;have v5:=N.ext e;have p5:=F.ext e;have ad:=Wy p ok;refine VS v5 p5 k ω ok λr T Q told U v6=>⟨A,v6.at.2,?_⟩;have ae:=e;have al:At j r r d.size O P:=⟨ae.trans U,ag.refl _ _,λi w=>⟨lo i w,.inl (S.p.lt i w)⟩⟩;have am:mH j r r d.size g m c q V (kT c V) 0:=⟨a,b,[],O,P,S.ext U,al⟩;have a0:=p.Y9.len;refine⟨λσ G=>0<=σ.2.2/\σ.2.2<=xs.length/\σ.2.1<=σ.2.2/\∃s,mH j r G d.size g m c q V s σ.2.2.toNat/\s.now=σ.2.1,λσ _=>((xs.length:Int)-σ.2.2).toNat,⟨aks 0,Ω,aks 0,kT c V,am,rfl⟩,?_⟩;rintro⟨f,n,i⟩ G ⟨y,i1,ni,s,u,H⟩;dsimp only at y i1 ni u H⊢;have xb:=u.base;have kn:=u.kept.now;refine ID (λw=>?_) λw=>B G (E.trans xb);have ao:i.toNat<xs.length:=ω;obtain⟨x,W⟩:∃x,xs[i.toNat]? =some x:=⟨_,ako ao⟩;have ap:=akJ W;obtain⟨t,ht,X⟩:=Y_ (c:=c) (V:=V) y ω ad;refine Ss (F.Y9.ext xb) y W λY Z x9=>?_;have ar:=u.ext x9;intro v o
 have go:∀z,z=(if x.1.kind=2 then n+1 else n)->v z Y:=by
  intro z I;refine o z Y (Za ar ω told ω Z (p.fit x ap).1 y ht X λa1 s' ab x' nx=>aki (ab.DT ⟨_,rfl,?_⟩));have ac:=Zb u.kept nx X ω;dsimp only;rw[ac,H,<-I,decide_eq_true rfl];refine aki ?_;rw[wrap_i64 (n:=i+1) ω ω];refine⟨⟨Ω,Ω,?_,s',?_,?_⟩,Ω⟩
  ·try dsimp only
   rw[I];split<;>omega
  ·try dsimp only
   rw[show(i+1).toNat=i.toNat+1 by omega];exact ab
  ·try dsimp only
   rw[ac,H,I]
 refine⟨x.1.kind,Z.at.1,ID (λJ=>?_) λJ=>go n (by rw[if_neg J])⟩;rw[wrap_i64 (n:=n+1) ω ω];exact go _ (by rw[if_pos J])
theorem Gq{q:Qf}(p:∃V xs,D8 h q.c V q.A xs)(B:∀a,Ext h a->R (akg true).val a):Cl 4 [q.tv] h R:=by
 obtain⟨V,xs,p⟩:=p;exact Ji p B
end
end Gate
namespace gateTicks
open Go.Vc
open Go.ChangeShapes Go.WideShapes Go.ChangeAt Go.RowKit
open Go.ChangeMaps (open_string shut_string)
set_option linter.unusedVariables false
theorem own:ownKnob Tryz.prog.godebug=none:=κ
theorem laidOut:laidOutB Tryz.prog=true:=κ
theorem lifted(A:Os)(B:A.Started)(H:Type)(enc:TypeId×Value->H):
 ReturnsInHanded {} Tryz.checked A 4 .any (Rows.gateTicksSpec.pre6 enc Tryz.prog Tryz.f4 Rows.gateTicksRow.domain false) (Rows.gateTicksSpec.post enc Tryz.prog Tryz.f4 false true false false):=by
 refine returnsInHanded_of_change (C:=Tryz.checked) own B κ Tryz.func4
  (ChangeSpec.witness6 (enc:=enc) (C:=Tryz.checked) false ⟨#[],#[.agg #[.slice none 0 0,.i 0,.i 0,.i 0,.i 0,.i 0,.i 0,.i 0,.i 0,.i 0,.i 0,.i 0,.slice none 0 0]],[]⟩ 8 κ κ κ κ) ?_
 intro W base args n G I a b J _;have c:∀(j:Nat) t v,Tryz.f4.params[j]? =some t->args[j]? =some v->Value.okWide Tryz.prog W .any base t v:=a;have o:=b;obtain⟨p,q,d,r,rfl,K,L⟩:=b;have f:DataW.TrodAll enc Tryz.prog W 0 (λ_=>true) true Tryz.f4.params.toList args.toList n p:=d;rw[Tryz.params4]at f c;obtain⟨v0,M,d0,N,s,O,P,rfl,rfl,g,u⟩:=trodAll_cons f;obtain⟨rfl,rfl,rfl⟩:=trodAll_nil u;obtain rfl:args=#[v0]:=by cases args;simp_all
 obtain⟨rfl,rfl⟩:=trodVars_none r;obtain⟨c0,w,rfl⟩:=Go.Proofs.YtennbinbffdimaaGreat.Gate.aaz (c 0 42 v0 rfl rfl) g;have k:=g;have y:∀x∈s,x.block<W.heap.size:=by obtain⟨m,z⟩:=k;exact DataW.trod_lt m _ _ _ z
 clear d a
 have D:Calls Tryz.prog 4 #[c0.tv.val] W λe E=>e=.returned (.bool true)/\Below W.heap.size W E:=by
  exact(bB.fin (args:=aj.vals [c0.tv]) (Go.Proofs.YtennbinbffdimaaGreat.Gate.Gq w λQ e=>⟨rfl,e⟩))
 refine D.mono λe W'⟨F,l⟩=>?_;subst F;exact⟨_,rfl,_,_,_,[],_,[],o,trodAll_mk1 (shut_bool Tryz.underlying4 _),(trodAll_cons_mk (Below.trod laidOut κ (of_decide_eq_true κ) k l y) trodAll_mk0),rfl,l.frame _,λh=>by cases h⟩
theorem j1:Rows.gateTicksRow.wf (OpenSpec.ofChange Rows.gateTicksSpec)=true:=κ
theorem j4:Tryz.f4.params.all (Tryz.prog.readableRec ·)=true:=κ
theorem j5:namedTie Tryz.prog Rows.gateTicksRow.named Rows.gateTicksSpec.vars=true:=κ
theorem j6:(Rows.gateTicksRow.stops==[])=true:=κ
theorem j8:(Rows.gateTicksRow.knobs==[])=true:=κ
theorem j10:(Rows.gateTicksRow.inPlace==Tryz.prog.inPlace 4)=true:=κ
theorem j11:(Rows.gateTicksRow.unfollowed==Tryz.prog.unfollowed 4)=true:=κ
theorem j12:(Rows.gateTicksRow.recurses==Tryz.prog.recurses 4)=true:=κ
theorem j13:(Rows.gateTicksRow.named==Tryz.prog.varsNamed 4)=true:=κ
theorem j14:(Rows.gateTicksRow.maps==(Tryz.f4.params.toList++Rows.gateTicksSpec.plain.varTypes Tryz.prog).any (Tryz.prog.mapsRec ·))=true:=κ
theorem j15:(Rows.gateTicksRow.ifaces==(Tryz.f4.params.toList++Rows.gateTicksSpec.plain.varTypes Tryz.prog).any (Tryz.prog.ifacesRec ·))=true:=κ
theorem j16:(Rows.gateTicksRow.mapsOut==Tryz.prog.mapsAmong Tryz.f4.resultTypes.toList)=true:=κ
theorem j17:(Rows.gateTicksRow.loops==(Tryz.f4.params.toList++Rows.gateTicksSpec.plain.varTypes Tryz.prog).any (Tryz.prog.loopsFrom ·))=true:=κ
theorem j18:(Rows.gateTicksRow.wideKeys==(Tryz.f4.params.toList++Rows.gateTicksSpec.plain.varTypes Tryz.prog++Tryz.f4.resultTypes.toList).any (Tryz.prog.wideKeysFrom ·))=true:=κ
theorem j19:Rows.gateTicksSpec.vars.all (Tryz.prog.varReadable ·)=true:=κ
theorem j20:Tryz.f4.resultTypes.all (λt=>Tryz.prog.readableRec t&&decide (t<Tryz.prog.types.size))=true:=κ
theorem j21:(Rows.gateTicksRow.ifacesOut==Tryz.f4.resultTypes.toList.any (Tryz.prog.ifacesRec ·))=true:=κ
theorem j22:(Rows.gateTicksRow.loopsOut==Tryz.f4.resultTypes.toList.any (Tryz.prog.loopsFrom ·))=true:=κ
theorem j24:Rows.gateTicksRow.shortTexts.isNone=true:=κ
theorem j29:(Rows.gateTicksRow.kinds==(if Rows.gateTicksRow.domain.isEmpty then[]else Tryz.f4.params.toList.map λt=>match Tryz.prog.underlying t with|some (.int k)=>some k|_=>none))=true:=κ
theorem j30:(Rows.gateTicksRow.pinned==Rows.gateTicksRow.pinnedBy)=true:=κ
theorem j31:(Rows.gateTicksRow.veiled==(Tryz.f4.params.toList++Rows.gateTicksSpec.plain.varTypes Tryz.prog++Tryz.f4.resultTypes.toList).any (Tryz.prog.veiledRec ·))=true:=κ
theorem j32:Rows.gateTicksRow.veiledFits Tryz.prog Tryz.f4.params.toList (Tryz.f4.params.toList++Rows.gateTicksSpec.plain.varTypes Tryz.prog++Tryz.f4.resultTypes.toList)=true:=κ
theorem j23:(Rows.gateTicksRow.plainKeys==Tryz.prog.plainKeys)=true:=by rw[V4];rfl
theorem j27:(Rows.gateTicksRow.lifted==Tryz.prog.liftsFinal)=true:=by rw[V3];rfl
theorem j28:(Tryz.prog.make==some Rows.gateTicksRow.make)=true:=Zk
theorem closed:joinedFacts Tryz.prog 4 Tryz.f4 Rows.gateTicksSpec Rows.gateTicksRow=true:=TQ j1 Zj VZ j4 j5 j6 V0 j8 V1 j10 j11 j12 j13 j14 j15 j16 j17 j18 j19 j20 j21 j22 j23 j24 V2 aba j27 j28 j29 j30 j31 j32
theorem aci:Tryz.pinned.checked.prog.funcNamed Rows.gateTicksRow.func=some 4:=κ
theorem inst:Tryz.f4.isInstance Tryz.pinned.checked.prog Rows.gateTicksRow.origin Rows.gateTicksRow.targs:=of_decide_eq_true κ
theorem wrapper:Tryz.f4.isWrapper Tryz.pinned.checked.prog Rows.gateTicksRow.wrapper Rows.gateTicksRow.mainSum:=by unfold Func.isWrapper;first|(rw[if_pos (by decide+kernel)];kernel_rfl)|(rw[if_neg (by decide+kernel)];exact⟨rfl,rfl⟩)
theorem w9:Rows.gateTicksRow.holds Tryz.pinned (OpenSpec.ofChange Rows.gateTicksSpec):=
 OpenClaim.holds_of_wide 4 Tryz.f4 rfl rfl rfl rfl rfl rfl rfl ⟨rfl,rfl,rfl,rfl,rfl⟩ rfl rfl rfl rfl rfl aci Tryz.func4 closed
  inst wrapper
  (λa b H enc _=>lifted a b H enc)
theorem proved:Rows.GateTicksSaid:=w9
end gateTicks
end Go.Proofs.YtennbinbffdimaaGreat

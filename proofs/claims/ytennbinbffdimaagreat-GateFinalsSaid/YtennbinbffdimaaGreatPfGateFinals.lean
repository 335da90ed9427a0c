/- The law GateFinals holds for every input. -/
import Derived.Test.YtennbinbffdimaaGreatRows
import Derived.WalkKit
import Derived.ProofKit
import Derived.OpenShut
import Derived.ShutString
import Derived.ChangeOld
import Derived.Below
import Derived.Test.YtennbinbffdimaaGreatPk2
import Derived.Test.YtennbinbffdimaaGreatPk13
set_option maxRecDepth 100000
open Go.Vc.Sl renaming nil->an3
open List renaming getElem?_eq_getElem->an4
namespace Go.Proofs.YtennbinbffdimaaGreat
open Go Go.Vc
namespace Gate
open Board (Vd Cf Ms jx aq bh dF bw)
open Pool (It Fit eM Dw rts dY cV has dP dy bq)
section
variable{N M:List Nd}{most most':Int}
theorem PJ{i:Nat}{x:Nd}(h:N[i]? =some x):(Ap N)[i]? =some (x.root,x.slot,yS N x):=by
 unfold Ap;rw[List.getElem?_map,h];rfl
theorem abq(o:rz N most)(q:rz M most')(h:Ap N=Ap M):N=M:=by
 have l:N.length=M.length:=by rw[<-BY (N:=N),h,BY]
 have both:∀i(a:i<N.length)(c:i<M.length),N[i].root=M[i].root/\N[i].slot=M[i].slot/\yS N N[i]=yS M M[i]:=λi a c=>by
  have d:=PJ (an4 a);have g:=PJ (an4 c);rw[h,g]at d;have:=Option.some.inj d;simp only[Prod.mk.injEq]at this;exact⟨this.1.symm,this.2.1.symm,this.2.2.symm⟩
 apply List.ext_getElem l;intro i a c;obtain⟨m,n,e⟩:=both i a c
 have p:N[i].par=M[i].par:=by
  rcases Nat.eq_zero_or_pos i with f|f
  ·subst f;rw[o.first _ (an4 a),q.first _ (an4 c)]
  ·have t:=o.up i _ (an4 a) f;have u:=q.up i _ (an4 c) f;unfold yS at e;rw[if_neg ω,if_neg ω]at e;have j:N[i].par.toNat<N.length:=ω;have p2:M[i].par.toNat<M.length:=ω;have k:M[i].par.toNat<N.length:=ω;have b:=both _ k p2;rw[an4 j,an4 p2]at e;have r:N[N[i].par.toNat].root=N[M[i].par.toNat].root:=(show N[N[i].par.toNat].root=M[M[i].par.toNat].root from e).trans b.1.symm;have:=O4 o j k (by rw[oG (an4 j),oG (an4 k)];exact r);omega
 have ext:∀x y:Nd,x.root=y.root->x.slot=y.slot->x.par=y.par->x=y:=λ⟨_,_,_⟩⟨_,_,_⟩ d g s=>by cases d;cases g;cases s;rfl
 exact ext _ _ m n p
theorem abr(o:rz N most):∀i,i<N.length->bO (bQ N) 0 i=true:=by
 intro i
 induction i using Nat.strongRecOn with
 |ind i c=>
  intro b;rw[fO o.tree b];rcases Nat.eq_zero_or_pos i with a|a
  ·simp[a]
  ·have:=o.tree i a b;rw[c _ this ω];simp[a]
theorem Yi(o:rz N most):eX N most 0=N:=by
 obtain⟨d,e⟩:=oH o o.Gf;refine abq d o (e.trans ?_);have f:eC N 0 N.length=List.range N.length:=List.filter_eq_self.2 λi b=>abr o i (List.mem_range.1 b);rw[f];apply List.ext_getElem?;intro i;by_cases b:i<N.length
 ·have a:N[i]? =some N[i]:=an4 b;rw[PJ a,List.getElem?_map,List.getElem?_range b];simp only[Option.map_some,Ks,oG a,Kt a,Option.some.injEq,Prod.mk.injEq,true_and];unfold yS;rcases Nat.eq_zero_or_pos i with c|c
  ·subst c;rw[if_pos rfl,o.first _ a,if_pos δ]
  ·have u:=o.up i _ a c;rw[if_neg ω,if_neg ω];unfold bQ HF;rw[a];rfl
 ·rw[List.getElem?_eq_none (by simp;omega),List.getElem?_eq_none (by rw[BY];omega)]
theorem Sz{n:Nat}{par:Nat->Nat}{s:Nat->Int}{r:Nat->LU}(up:Up n par)(q:Names n r):∀f k,k<n->n-k<=f+1->iL n par s r (vX n par s r f k)=none
 |0,k,c,d=>by
  unfold vX;cases a:iL n par s r k with
  |none=>rfl
  |some b=>have:=mK up q a;omega
 |f+1,k,c,d=>by
  unfold vX;cases a:iL n par s r k with
  |none=>exact a
  |some b=>
   have:=mK up q a;exact Sz up q f b this.2.1 ω
theorem adh{n:Nat}{par:Nat->Nat}(up:Up n par){k:Nat}:∀i,i<n->bO par k i=true->i=k\/∃j,j∈kids n par k:=by
 intro i
 induction i using Nat.strongRecOn with
 |ind i c=>
  intro a h;rw[fO up a]at h;simp only[Bool.or_eq_true,decide_eq_true_eq,Bool.and_eq_true]at h;rcases h with h|⟨b,h⟩
  ·exact .inl h
  ·have:=up i b a;rcases c _ this ω h with e|e
   ·exact .inr ⟨i,ew.2 ⟨b,a,e⟩⟩
   ·exact .inr e
theorem Yj(o:rz N most){k:Nat}(q:k<N.length)(A:kids N.length (bQ N) k=[]):∃x:Nd,eX N most k=[x]/\x.root=HF N k:=by
 obtain⟨u,a⟩:=oH o q
 have d:eC N k N.length=[k]:=by
  have:∀i∈eC N k N.length,i=k:=λi f=>by
   obtain⟨g,h⟩:=rZ.1 f;rcases adh o.tree i g h with e|⟨j,c⟩
   ·exact e
   ·rw[A]at c;cases c
  have b:(eC N k N.length).Nodup:=List.Pairwise.filter _ List.nodup_range;have m:k∈eC N k N.length:=rZ.2 ⟨q,pO k⟩;generalize eC N k N.length=l at*
  match l,b,m,this with
  |[x],_,_,t=>rw[t x (List.mem_cons_self ..)]
  |x::y::l,b,_,t=>
   have n:=t x (by simp);have p:=t y (by simp);simp[n,p]at b
 rw[d]at a;have r:(eX N most k).length=1:=by rw[<-BY,a];rfl
 match s:eX N most k,r with
 |[x],_=>
  refine⟨x,rfl,?_⟩;rw[s]at a;simp only[Ap,List.map_cons,List.map_nil,List.cons.injEq,Prod.mk.injEq,and_true,Ks]at a;exact a.1
end
def HW(s:St):Prop:=∀x∈s.kids,(bT s).slot<x.slot
section
variable{c:Cf}{V:List Vd}{s s':St}
theorem SA(o:rz s.N c.no):place (bT s).root s.N=0:=by
 have h:=o.Gf;have a:s.N[0]? =some s.N[0]:=an4 h;unfold bT;rw[show(0:Int)=((0:Nat):Int)from rfl,sW a];exact gX o.nodup a
theorem SB(o:rz s.N c.no)(l:HW s):aX c s (bT s).root=(0,s):=by
 unfold aX;rw[SA o,if_neg δ,show(0:Int).toNat=0 from rfl,Yi o]
 have:(s.kids.filter λx=>!decide (x.slot<=(bT {s with N:=s.N}).slot))=s.kids:=List.filter_eq_self.2 λx a=>by
  have b:(bT s).slot<x.slot:=l x a;show(!decide (x.slot<=(bT s).slot))=true;rw[decide_eq_false ω];rfl
 rw[this]
theorem adi{want:Int->Bool}{most quota peer:Int}{t:LU}{S:List It}{x:It}(h:x∈(dY want most quota peer t S).2.2):x∈S\/∃d,dF t=some d/\x=bq d peer t:=by
 unfold dY at h;split at h
 ·exact .inl h
 ·rename_i d a;split at h
  ·have ins:∀{L:List It},x∈dP (bq d peer t) L->x=bq d peer t\/x∈L:=λb=>List.mem_cons.1 ((dy _ _).mem_iff.1 b);unfold cV at h;dsimp only at h;split at h
   ·exact .inl h
   split at h
   ·exact .inl h
   split at h
   ·rcases ins h with e|e
    ·exact .inr ⟨d,a,e⟩
    ·exact .inl e
   split at h
   ·exact .inl h
   split at h
   ·rcases ins h with e|e
    ·exact .inr ⟨d,a,e⟩
    ·exact .inl (List.dropLast_subset _ e)
   ·exact .inl h
  ·exact .inl h
theorem SC(o:rz s.N c.no)(l:HW s){peer:Int}{t:LU}:HW (aG c V s peer t).2:=by
 unfold aG;split
 ·exact l
 split
 ·exact l
 split
 ·exact l
 rename_i d f;split
 ·exact l
 rename_i g;split
 ·rename_i h
  have i:(bT s).slot<d.slot:=by
   apply Decidable.byContradiction;intro e;apply g
   have j:fK c s (d.ms an3).kind (d.ms an3).slot=false:=by
    unfold fK Clock.vt;rw[if_pos (show(d.ms an3).kind=1 from h),show decide ((bT s).slot<(d.ms an3).slot)=false from decide_eq_false e];rfl
   unfold dw;rw[if_pos j];decide
  unfold c5;split
  ·intro x a;rcases adi a with e|⟨q,b,rfl⟩
   ·exact l x e
   ·rw[f]at b;cases b;exact i
  split
  ·exact l
  split
  ·exact l
  ·intro x a;obtain⟨r,k,_⟩:=CS (no:=c.no) (1+s.kids.length) [bw (d.ms an3) d.row] {s with N:=gw s.N c.no (bw (d.ms an3) d.row) (d.ms an3).target (d.ms an3).slot};obtain⟨X,m⟩:=Lv (no:=c.no) (1+s.kids.length) [bw (d.ms an3) d.row] {s with N:=gw s.N c.no (bw (d.ms an3) d.row) (d.ms an3).target (d.ms an3).slot}
   have n:bT (lQ c.no (bw (d.ms an3) d.row) (d.ms an3).target (d.ms an3).slot s)=bT s:=by
    unfold bT lQ;rw[m];dsimp only
    have:∃Y,gw s.N c.no (bw (d.ms an3) d.row) (d.ms an3).target (d.ms an3).slot=s.N++Y:=by
     unfold gw;split
     ·exact⟨_,rfl⟩
     ·exact⟨[],(List.append_nil _).symm⟩
    obtain⟨Y,p⟩:=this;rw[p,List.append_assoc,NH o.ne]
   show(bT (lQ c.no (bw (d.ms an3) d.row) (d.ms an3).target (d.ms an3).slot s)).slot<x.slot;rw[n];exact l x (k x a)
 ·exact l
theorem UL(o:rz s.N c.no)(l:HW s){kind peer:Int}{t:LU}{r:Bs 32}(q:zz c V s kind peer t r s'):HW s':=by
 unfold zz at q;split at q
 ·subst q;unfold fC;split
  ·exact l
  ·exact l
 split at q
 ·subst q;unfold aX;split
  ·exact l
  ·intro x a;have:=(List.mem_filter.1 a).2;simp only[Bool.not_eq_true',decide_eq_false_iff_not,Int.not_le]at this;exact this
 ·obtain⟨P,n,rfl,_⟩:=q;exact SC (V:=V) o l
theorem Yk:HW (iq c V):=λx a=>by cases a
end
end Gate
section
open Go Go.Vc _root_.Go.Proofs.Tryz
open Go.IntKind (wrap)
set_option linter.unusedVariables false
variable{h:af}{R:Rt}
theorem qZ(q:Sl)(A B:Int)(E I:Int)(p_C_Early M:Int)(O U:Int)(W Z:Int)(ab:Int)(ac:Sl)(H:cL h (rC q A B E I p_C_Early M O U W Z ab ac) 42 λt=>bR 25 [] t λb f=>If (!b) (aO R f) (LM f h.size 0 λs n u v w x y z C D F G L=>bR 26 [(rC s n u v w x y z C D F G L),bA 60] f λb g=>If b (R (fE) g) (gy g h.size 0 λs n N P Q S T V X Y ad ae=>Oj 19 [bD s n N P Q S T V X Y ad ae] g λp n k=>gy k h.size 0 λs al am ao ap ar aw aE a0 a1 a2 a3=>H6 27 [bD s al am ao ap ar aw aE a0 a1 a2 a3] k λl b a4=>bM (λ(s:Bool) m=>LM m h.size 0 λa5 n a6 a7 a8 a9 a' ba bb bc bd bi bj=>Y6 28 [rC a5 n a6 a7 a8 a9 a' ba bb bc bd bi bj] m λbk bl o=>fH o h 12 λr=>Go.Vc.Loop (s,0) o λ(d:Bool×Int) h K=>If (jM d r) (Tc d.snd r 58 0 h λn bm bo bp br b bt bx bN i b0 j=>nX h (JJ) 60 58 (ur n bm bo bp br b bt bx bN i b0 j) λa=>Qz a h.size 0 λn b1 b2 b3 b5 b b6 b7 b8 b9 b' ca=>sB d.snd bk 1 0 a λcc=>nW a h.size 56 λcd=>fh 30 [.slice bl,aT cd] a λce h=>Ext a h/\bR 29 [.ptr p,.ptr l,(ur n b1 b2 b3 b5 b b6 b7 b8 b9 b' ca),.str cc,bJ ce] h λb h=>fh 47 [.ptr p] h λb h=>js 41 p b h λn h=>If (!decide (n=0)) (aO R h) (bR 54 [.ptr p,.ptr l] h λb h=>If (!b) (aO R h) (K (mq d 1) h))) (fh 48 [.ptr p] h λb h=>i_ h b λa=>jW a h 0 41 p λb n e=>If (decide (n=0)) (bz e h 0 λb=>fh 47 [.ptr p] e λi c=>Ext e c/\If (kU i b) (bz c h 0 λb=>fh 48 [.ptr p] c λj h=>Ext c h/\If (kU j b) (uR 32 p h λp h=>uR 33 p h λp h=>fk 57 p h λn h=>R (TV.val (.bool (decide (n=1)))) h) (aO R h)) (aO R c)) (aO R e))) λJ=>Ht n R a4 b J))):Cl 11 [rC q A B E I p_C_Early M O U W Z ab ac] h R:=vi func11 H
end
namespace Gate
open Board (Vd Cf Ms jx aq bh)
open Pool (It Fit eM Dw rts)
section
variable{R:Rq}{h h1 hL hh:af}{mid g m k:Nat}{c:Cf}{q:Sl}{V:List Vd}{s:St}{A:Sl}{xs:List (Act×List Bool)}
theorem dc.toks(p:dc h1 hL hh mid g m c q V s k):rz s.N c.no:=by
 obtain⟨a,b,P,e,f,d,h⟩:=p;exact d.p.G.tok
theorem dc.abt(p:dc h1 hL hh mid g m c q V s k)(B:∀d,Ext hh d->R (TV.bytes 32 (bT s).root).val d):Cl 47 [.ptr (PT g)] hh R:=by
 obtain⟨a,b,P,f,h,e,i⟩:=p;exact Cp e.p.G B
theorem dc.again(p:dc h1 hL hh mid g m c q V s k)(l:HW s)(B:∀e,dc h1 hL e mid g m c q V s k->R (TV.i 0).val e):
 Cl 41 [.ptr (PT g),.bytes 32 (bT s).root] hh R:=by
 have o:=p.toks;obtain⟨a,b,P,w,h,d,i⟩:=p;refine vF (c:={c with vals:=q}) d.p.G λj n r f t=>?_;rw[Eo,SB o l]at f⊢;obtain⟨u,v⟩:=d.p.left f t;exact B j ⟨n,b,P,r,h,⟨u,d.perm,d.kept,d.iz⟩,i.step v⟩
theorem UM(o:rz s.N c.no):∃B x,aX c s (mU s.N (bZ (aL V) s.tb s.N))=(0,B)/\B.N=[x]/\x.root=mU s.N (bZ (aL V) s.tb s.N):=by
 obtain⟨j,a⟩:∃j,j=uq s.N.length (bQ s.N) (dh s.N (bZ (aL V) s.tb s.N)) (c7 s.N) 0:=⟨_,rfl⟩;have hh:mU s.N (bZ (aL V) s.tb s.N)=HF s.N j:=by rw[a];rfl
 have b:j<s.N.length:=by rw[a];exact II o.tree o.names _ _ o.Gf
 have d:iL s.N.length (bQ s.N) (dh s.N (bZ (aL V) s.tb s.N)) (c7 s.N) j=none:=by rw[a];exact Sz o.tree o.names _ _ o.Gf ω
 have e:kids s.N.length (bQ s.N) j=[]:=by
  have:=JG (par:=bQ s.N) (s:=dh s.N (bZ (aL V) s.tb s.N)) o.names j;rw[d]at this;exact this
 obtain⟨x,f,g⟩:=Yj o b e
 have h:place (HF s.N j) s.N=j:=by
  rw[oG (an4 b)];exact gX o.nodup (an4 b)
 rw[hh];unfold aX;rw[h,if_neg ω,Int.toNat_natCast];exact⟨_,x,rfl,f,g⟩
theorem abu{x:Nd}{own:Nat->Int}{most:Int}(o:rz [x] most):mU [x] own=x.root:=by
 have a:uq [x].length (bQ [x]) (dh [x] own) (c7 [x]) 0<1:=II o.tree o.names _ _ Nat.zero_lt_one;have:uq [x].length (bQ [x]) (dh [x] own) (c7 [x]) 0=0:=ω;unfold mU;rw[this];rfl
theorem IC(p:qu h c V A xs)(O:∀Z,Ext h Z->R (TV.bool true).val Z):Cl 11 [.agg [c.tv,.slice A]] h R:=by
 apply qZ c.vals c.ep c.aQ c.no c.eV c.eH c.quo c.pe c.iy c.win c.bH c.dec A;delta kU fH js Ht jM fk i_ aO uR mq jW fE bz eU bJ bK aT bA lq;refine aa λh1 v1 x1 s1=>nc λh2 x2=>⟨_,rfl,If.no ?_⟩;have v2:Var 42 h2 h.size (.agg [c.tv,.slice A]):=Var.ext (t:=.agg [c.tv,.slice A]) v1 x2;have N:=x1.trans x2;have p2:=p.ext N;refine CY v2 (ku p2.ev p2.Cq δ (λj C=>⟨_,rfl,If.yes (O j (N.trans C))⟩) λj C lc bb ok=>⟨_,rfl,If.no ?_⟩);have S:=N.trans C;have v3:=v2.ext C;have U:=p2.ext C;refine tC v3 U lc (λhb l u=>?_) λk l g m a b q I W v u lo=>?_
 ·intro J X;exact If.yes (O l (S.trans u))
 intro J X;refine If.no (If.no (X _ l ?_));clear X J;have bc:=S.trans u;have v5:=v3.ext u;have p5:=U.ext u;have ar:=Jw p ok;refine xQ v5 p5 k ω ok λD T Q told x6 v6=>⟨A,v6.at.2,?_⟩;have aw:At j D D l.size I W:=⟨u.trans x6,ag.refl _ _,λi w=>⟨lo i w,.inl (v.p.lt i w)⟩⟩;have aE:dc j D D l.size g m c q V (iq c V) 0:=⟨a,b,[],I,W,v.ext x6,aw⟩;have bd:=p.Cq.len;refine⟨λσ hh=>0<=σ.2/\σ.2<=xs.length/\∃s,dc j D hh l.size g m c q V s σ.2.toNat/\HW s,λσ _=>((xs.length:Int)-σ.2).toNat,⟨Int.le_refl 0,Ω,iq c V,aE,Yk⟩,?_⟩;rintro⟨f,i⟩ hh ⟨i0,i1,s,y,lt⟩;dsimp only at i0 i1 y⊢;have xb:=y.base;refine ID (λw=>?_) λw=>?_
 ·have a0:i.toNat<xs.length:=ω;obtain⟨x,K⟩:∃x,xs[i.toNat]? =some x:=⟨_,an4 a0⟩;have a1:=List.mem_of_getElem? K;obtain⟨t,ht,tl⟩:=Cr (c:=c) (V:=V) i0 ω ar;refine tE (U.Cq.ext xb) i0 K λh9 v9 x9=>?_;refine Cs (y.ext x9) ω told ω v9 (p.fit x a1).1 i0 ht tl λbi s' ab x' nx=>?_;have ac:=UL y.toks lt nx;refine ab.abt λad L=>⟨_,rfl,(ab.ext L).again ac λa2 a3=>⟨_,rfl,If.no (a3.kE λae E a4=>⟨_,rfl,If.no ?_⟩)⟩⟩;rw[wrap_i64 (n:=i+1) ω ω];refine⟨⟨Ω,Ω,s',?_,ac⟩,Ω⟩
  try dsimp only
  rw[show(i+1).toNat=i.toNat+1 by omega];exact a4
 ·have o:=y.toks;obtain⟨a,b,P,I,W,v,a5⟩:=y;have G:=v.p.G;obtain⟨F,x,e,M,ex⟩:=UM (V:=V) o;obtain⟨d,al⟩:∃d,d=mU s.N (bZ (aL V) s.tb s.N):=⟨_,rfl⟩;rw[<-al]at e ex;refine zB G λad L=>⟨d,by rw[al],aa λa2 a6 a7 bj=>aq (t:=.bytes 32 d) a6 eM.symm (eM.trans eM.symm) λae am f13 bk=>⟨d,am.bytes,?_⟩⟩;have E:Ext hh ae:=L.trans (ag.cut a7 f13 λi w=>Nat.le_of_eq (Eq.symm w));have bl:=E.size;refine vF (G.ext E) λa8 a' bm z ao=>?_;rw[Eo,e]at z⊢;have nb:¬dm I ad.size:=λK=>by have:=v.p.lt1 _ K;have:=L.size;omega
  have ap:=am.only ao.only nb;have a9:Ext j a8:=((a5.more E).step (v.ext E|>.p.left z ao).2).base;have o1:rz F.N c.no:=z.tok;rw[M]at o1
  have hf:(bT F).root=d:=by
   unfold bT;rw[M];exact ex
  have hd2:mU F.N (bZ (aL V) F.tb F.N)=d:=by rw[M,abu o1,ex]
  refine⟨_,rfl,If.yes ⟨d,ap.bytes,Cp z λbo H=>⟨d,by rw[hf],H,?_⟩⟩⟩;rw[decide_eq_true rfl];refine If.yes ⟨d,(ap.ext H).bytes,zB (z.ext H) λba IJ=>⟨d,by rw[hd2],IJ,?_⟩⟩;rw[decide_eq_true rfl];have Y:=(z.ext H).ext IJ;obtain⟨r,B,tp,hS⟩:=Y.tree;refine If.yes (Y.book ⟨_,rfl,Y.Dy ⟨_,rfl,Bw tp ⟨_,rfl,?_⟩⟩⟩);rw[M];exact O ba (S.trans ((a9.trans H).trans IJ))
theorem G4{q:FM}(p:∃V xs,qu h q.c V q.A xs)(B:∀a,Ext h a->R (TV.bool true).val a):Cl 11 [q.tv] h R:=by
 obtain⟨V,xs,p⟩:=p;exact IC p B
end
end Gate
namespace gateFinals
open Go.Vc
open Go.ChangeShapes Go.WideShapes Go.ChangeAt Go.RowKit
open Go.ChangeMaps (open_string shut_string)
set_option linter.unusedVariables false
theorem own:ownKnob Tryz.prog.godebug=none:=κ
theorem laidOut:laidOutB Tryz.prog=true:=κ
theorem lifted(A:Os)(B:A.Started)(H:Type)(enc:TypeId×Value->H):
 ReturnsInHanded {} Tryz.checked A 11 .any (Rows.gateFinalsSpec.pre6 enc Tryz.prog Tryz.f11 Rows.gateFinalsRow.domain false) (Rows.gateFinalsSpec.post enc Tryz.prog Tryz.f11 false true false false):=by
 refine returnsInHanded_of_change (C:=Tryz.checked) own B κ Tryz.func11
  (ChangeSpec.witness6 (enc:=enc) (C:=Tryz.checked) false ⟨#[],#[.agg #[.slice none 0 0,.i 0,.i 0,.i 0,.i 0,.i 0,.i 0,.i 0,.i 0,.i 0,.i 0,.i 0,.slice none 0 0]],[]⟩ 8 κ κ κ κ) ?_
 intro W base args n G I a b J _;have c:∀(j:Nat) t v,Tryz.f11.params[j]? =some t->args[j]? =some v->Value.okWide Tryz.prog W .any base t v:=a;have o:=b;obtain⟨p,q,d,r,rfl,K,L⟩:=b;have f:DataW.TrodAll enc Tryz.prog W 0 (λ_=>true) true Tryz.f11.params.toList args.toList n p:=d;rw[Tryz.params11]at f c;obtain⟨v0,M,d0,N,s,O,P,rfl,rfl,g,u⟩:=trodAll_cons f;obtain⟨rfl,rfl,rfl⟩:=trodAll_nil u;obtain rfl:args=#[v0]:=by cases args;simp_all
 obtain⟨rfl,rfl⟩:=trodVars_none r;obtain⟨c0,w,rfl⟩:=Go.Proofs.YtennbinbffdimaaGreat.Gate.FN (c 0 42 v0 rfl rfl) g;have k:=g;have y:∀x∈s,x.block<W.heap.size:=by obtain⟨m,z⟩:=k;exact DataW.trod_lt m _ _ _ z
 clear d a
 have D:Calls Tryz.prog 11 #[c0.tv.val] W λe E=>e=.returned (.bool true)/\Below W.heap.size W E:=by
  exact(bC.fin (args:=ak.vals [c0.tv]) (Go.Proofs.YtennbinbffdimaaGreat.Gate.G4 w λQ e=>⟨rfl,e⟩))
 refine D.mono λe W'⟨F,l⟩=>?_;subst F;exact⟨_,rfl,_,_,_,[],_,[],o,trodAll_mk1 (shut_bool Tryz.underlying4 _),(trodAll_cons_mk (Below.trod laidOut κ (of_decide_eq_true κ) k l y) trodAll_mk0),rfl,l.frame _,λh=>by cases h⟩
theorem j1:Rows.gateFinalsRow.wf (OpenSpec.ofChange Rows.gateFinalsSpec)=true:=κ
theorem j4:Tryz.f11.params.all (Tryz.prog.readableRec ·)=true:=κ
theorem j5:namedTie Tryz.prog Rows.gateFinalsRow.named Rows.gateFinalsSpec.vars=true:=κ
theorem j6:(Rows.gateFinalsRow.stops==[])=true:=κ
theorem j8:(Rows.gateFinalsRow.knobs==[])=true:=κ
theorem j10:(Rows.gateFinalsRow.inPlace==Tryz.prog.inPlace 11)=true:=κ
theorem j11:(Rows.gateFinalsRow.unfollowed==Tryz.prog.unfollowed 11)=true:=κ
theorem j12:(Rows.gateFinalsRow.recurses==Tryz.prog.recurses 11)=true:=κ
theorem j13:(Rows.gateFinalsRow.named==Tryz.prog.varsNamed 11)=true:=κ
theorem Sb:(Rows.gateFinalsRow.maps==(Tryz.f11.params.toList++Rows.gateFinalsSpec.plain.varTypes Tryz.prog).any (Tryz.prog.mapsRec ·))=true:=κ
theorem j15:(Rows.gateFinalsRow.ifaces==(Tryz.f11.params.toList++Rows.gateFinalsSpec.plain.varTypes Tryz.prog).any (Tryz.prog.ifacesRec ·))=true:=κ
theorem j16:(Rows.gateFinalsRow.mapsOut==Tryz.prog.mapsAmong Tryz.f11.resultTypes.toList)=true:=κ
theorem j17:(Rows.gateFinalsRow.loops==(Tryz.f11.params.toList++Rows.gateFinalsSpec.plain.varTypes Tryz.prog).any (Tryz.prog.loopsFrom ·))=true:=κ
theorem j18:(Rows.gateFinalsRow.wideKeys==(Tryz.f11.params.toList++Rows.gateFinalsSpec.plain.varTypes Tryz.prog++Tryz.f11.resultTypes.toList).any (Tryz.prog.wideKeysFrom ·))=true:=κ
theorem j19:Rows.gateFinalsSpec.vars.all (Tryz.prog.varReadable ·)=true:=κ
theorem j20:Tryz.f11.resultTypes.all (λt=>Tryz.prog.readableRec t&&decide (t<Tryz.prog.types.size))=true:=κ
theorem j21:(Rows.gateFinalsRow.ifacesOut==Tryz.f11.resultTypes.toList.any (Tryz.prog.ifacesRec ·))=true:=κ
theorem j22:(Rows.gateFinalsRow.loopsOut==Tryz.f11.resultTypes.toList.any (Tryz.prog.loopsFrom ·))=true:=κ
theorem j24:Rows.gateFinalsRow.shortTexts.isNone=true:=κ
theorem j29:(Rows.gateFinalsRow.kinds==(if Rows.gateFinalsRow.domain.isEmpty then[]else Tryz.f11.params.toList.map λt=>match Tryz.prog.underlying t with|some (.int k)=>some k|_=>none))=true:=κ
theorem j30:(Rows.gateFinalsRow.pinned==Rows.gateFinalsRow.pinnedBy)=true:=κ
theorem j31:(Rows.gateFinalsRow.veiled==(Tryz.f11.params.toList++Rows.gateFinalsSpec.plain.varTypes Tryz.prog++Tryz.f11.resultTypes.toList).any (Tryz.prog.veiledRec ·))=true:=κ
theorem j32:Rows.gateFinalsRow.veiledFits Tryz.prog Tryz.f11.params.toList (Tryz.f11.params.toList++Rows.gateFinalsSpec.plain.varTypes Tryz.prog++Tryz.f11.resultTypes.toList)=true:=κ
theorem j23:(Rows.gateFinalsRow.plainKeys==Tryz.prog.plainKeys)=true:=by rw[AV];rfl
theorem j27:(Rows.gateFinalsRow.lifted==Tryz.prog.liftsFinal)=true:=by rw[AU];rfl
theorem j28:(Tryz.prog.make==some Rows.gateFinalsRow.make)=true:=Ev
theorem closed:joinedFacts Tryz.prog 11 Tryz.f11 Rows.gateFinalsSpec Rows.gateFinalsRow=true:=vM j1 Eu AQ j4 j5 j6 AR j8 AS j10 j11 j12 j13 Sb j15 j16 j17 j18 j19 j20 j21 j22 j23 j24 AT I4 j27 j28 j29 j30 j31 j32
theorem zD:Tryz.pinned.checked.prog.funcNamed Rows.gateFinalsRow.func=some 11:=κ
theorem inst:Tryz.f11.isInstance Tryz.pinned.checked.prog Rows.gateFinalsRow.origin Rows.gateFinalsRow.targs:=of_decide_eq_true κ
theorem wrapper:Tryz.f11.isWrapper Tryz.pinned.checked.prog Rows.gateFinalsRow.wrapper Rows.gateFinalsRow.mainSum:=by unfold Func.isWrapper;first|(rw[if_pos (by decide+kernel)];kernel_rfl)|(rw[if_neg (by decide+kernel)];exact⟨rfl,rfl⟩)
theorem rL:Rows.gateFinalsRow.holds Tryz.pinned (OpenSpec.ofChange Rows.gateFinalsSpec):=
 OpenClaim.holds_of_wide 11 Tryz.f11 rfl rfl rfl rfl rfl rfl rfl ⟨rfl,rfl,rfl,rfl,rfl⟩ rfl rfl rfl rfl rfl zD Tryz.func11 closed
  inst wrapper
  (λa b H enc _=>lifted a b H enc)
theorem proved:Rows.GateFinalsSaid:=rL
end gateFinals
end Go.Proofs.YtennbinbffdimaaGreat

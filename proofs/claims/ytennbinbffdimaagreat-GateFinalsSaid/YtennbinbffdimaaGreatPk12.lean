/- Texts that the proof needs, joined. -/
import Derived.Deep.Strs
import Derived.OpenShut
import Derived.Test.YtennbinbffdimaaGreatPk11
set_option maxRecDepth 100000
open Go.Vc.ag renaming cut->am4
open Go.Vc.Sl renaming nil->am5,mk->ang
open List renaming length_map->am6,getElem?_eq_getElem->anb,getElem?_map->anh,mem_of_getElem?->ant,length_filter_le->anz,take_length->anA,getElem?_eq_some_iff->anB,length_take->anG,take_add_one->anH,drop_zero->anJ,map_append->anL,take_zero->anN,mem_append->anP,mem_singleton->anQ,drop_eq_nil_of_le->anS,mem_map->anT
open Go.Vc.If renaming no->am7,yes->anq,split->anU
open Go.Vc.Ext renaming refl->am8,push->anE
open Go.IntKind renaming wrap->am9
open Go.Vc.TV renaming val->ana,bool->ani,bg->anl,agg->anm,bytes->anv,str->anx,slice->anF,ptr->anM,put->anR,cells->anV
open Nat renaming le_of_eq->anc,le_trans->ans,le_refl->anD,le_of_lt->anI
open Go.DataW renaming trod_int->ane,trod->anp,trod_struct->anO
open Eq renaming symm->anf
open Int renaming le_refl->anj,tmod->ano,toNat_natCast->anu
open Go.Vc.ak renaming cells->ank,vals->anC
open Go.Vc.Bs renaming zero->ann
open Array renaming size->anr
open Go.Lit renaming int->anw
open ByteArray renaming mk->anK
namespace Go.Proofs.YtennbinbffdimaaGreat
open Go Go.Vc
namespace Pool
open Board (Dm Ms dF bw bh bB aq fR cv aY aU)
theorem Kept.only{n:Nat}{Q:Nat->Prop}{B E:af}{t:Sl}{bs:List Bk}(K:Kept n B t bs)(f:ag Q B E)(q:∀k∈bs,∀l,k.b.a=some l->¬Q l.b):Kept n E t bs:=λk a=>
 ⟨(K k a).1.only f (q k a),λl b=>⟨((K k a).2 l b).1,by have:=((K k a).2 l b).2.1;have:=f.size;omega,((K k a).2 l b).2.2⟩⟩
section
variable{R:Rq}{h:af}{m:Nat}{A:Sl}{M:List It}{most quota:Int}
set_option maxHeartbeats 1000000 in
theorem Px(r:RL h m A M most quota)(ht:∀x∈M,x.text.length<1000){n:Int}
 (hr:∀E A' t(bs:List Bk),RL E m A' (M.filter λx=>!decide (x.slot<n)) most quota->fq m A h A' E->bs.map Bk.of=(M.filter λx=>decide (x.slot<n)).map (λx=>(x.root,lK x.text))->Vc.Own 58 53 E t (bs.map Bk.Xj)->Kept h.size E t bs->(∀l,t.a=some l->h.size<=l.b)->R (anF t).val E):
 Cl 110 [.ptr (PT m),.i n] h R:=by
 apply zw;delta aJ jY wu eY dD bK;have al:=r.iz;have hm:=r.var.lt;have el:=r.el.len;rw[am6]at el;refine⟨A,r.var.ah rfl,?_⟩
 refine⟨λσ F=>0<=σ.2.2/\σ.2.2<=M.length/\Ext h F/\(∀l,σ.1.a=some l->h.size<=l.b)/\(∀l,σ.2.1.a=some l->h.size<=l.b)/\(∀i,In σ.1 i->¬In σ.2.1 i)/\
  (∃bs:List Bk,bs.map Bk.of=((M.take σ.2.2.toNat).filter λx=>decide (x.slot<n)).map (λx=>(x.root,lK x.text))/\Vc.Own 58 53 F σ.1 (bs.map Bk.Xj)/\Kept h.size F σ.1 bs/\∀k∈bs,∀l,k.b.a=some l->¬In σ.2.1 l.b)/\
  Vc.Own 82 67 F σ.2.1 (qw ((M.take σ.2.2.toNat).filter λx=>!decide (x.slot<n))),
  λσ _=>((M.length:Int)-σ.2.2).toNat,⟨anj 0,Ω,am8 _,(λl a=>by cases a),(λl a=>by cases a),(λi⟨l,a,_⟩=>by cases a),⟨[],rfl,Vc.Own.nil _ _ _,Kept.nil _ _ _,(λk c=>by cases c)⟩,Vc.Own.nil _ _ _⟩,?_⟩
 rintro⟨t,u,i⟩ V ⟨W,i1,o,s,v,ap,⟨bs,w,p,y,I⟩,z⟩;dsimp only at W i1 o s v ap w p y I z⊢;have z2:=o.size;refine ID (λe=>?_) λe=>?_
 ·refine gE (r.el.ext o) W ω λl x _ b=>?_;refine aa λX v3 x3 s3=>aH v3 (t:=x.tv) rfl λY v4 f4 s4=>?_;have B:Ext V Y:=am4 x3 f4 λi e=>ω;have am:=B.size;have J:(i+1).toNat=i.toNat+1:=ω;have L:=lZ (λx=>decide (x.slot<n)) b;have N:=lZ (λx=>!decide (x.slot<n)) b;have ao:((M.take i.toNat).filter λx=>decide (x.slot<n)).length<=M.length:=ans (anz ..) (by rw[anG];omega);have ar:((M.take i.toNat).filter λx=>!decide (x.slot<n)).length<=M.length:=ans (anz ..) (by rw[anG];omega);refine⟨x.slot,v4.at.1,?_⟩;refine ID (λhb=>?_) λhb=>?_
  ·have G:decide (x.slot<n)=false:=decide_eq_false ω;rw[if_neg (by rw[G];decide),List.append_nil]at L;rw[if_pos (by rw[G];rfl)]at N;refine rG v4 (VE (z.ext B) ω λs8 h8 Q f8 D=>?_);rw[wrap_i64 (n:=i+1) ω ω]
   have O:∀i,In s8 i->In u i\/Y.size<=i:=λi⟨l,a,e⟩=>by
    rcases D l a with⟨q,g,S⟩|g
    ·exact .inl ⟨q,g,ω⟩
    ·exact .inr ω
   refine⟨⟨Ω,Ω,am4 (o.trans B) f8 λj⟨l,a,hj⟩=>by have:=v l a;omega,s,λl a=>?_,λi e b=>?_,⟨bs,?_,?_,(y.ext B).only f8 I,?_⟩,?_⟩,Ω⟩
   ·rcases D l a with⟨q,g,S⟩|g
    ·have:=v q g;omega
    ·omega
   ·rcases O i b with d|d
    ·exact ap i e d
    ·obtain⟨l,a,aw⟩:=e;have:=p.lt l a;omega
   ·try dsimp only
    rw[J,L];exact w
   ·exact(p.ext B).only f8 λl a b=>ap _ ⟨l,a,rfl⟩ b
   ·intro k c l a b;rcases O _ b with d|d
    ·exact I k c l a d
    ·have:=((y k c).2 l a).2.1;omega
   ·try dsimp only
    rw[J,N];exact Q
  ·have G:decide (x.slot<n)=true:=decide_eq_true ω;rw[if_pos G]at L;rw[if_neg (by rw[G];decide),List.append_nil]at N;have ac:=ht x (ant b);refine⟨x.text,OK v4,Ip ac λh5 Z ok e5 x5 ab=>⟨_,_,_,_,_,_,_,_,rfl,?_⟩⟩;refine aa λh6 v6 x6 s6=>aq (t0:=bh.tv) v6 (t:=((lK x.text).ms Z).tv) cv fR λh7 v7 f7 s7=>bB v7 ?_;have U:Ext h5 h7:=am4 x6 f7 λi e=>ω;have P:=B.trans (x5.trans U);have tl:=p.len;rw[am6,<-am6 (f:=Bk.of),w,am6]at tl;obtain⟨k,c⟩:∃k,k=Bk.mk x.root (lK x.text) Z:=⟨_,rfl⟩;have z5:=x5.size;have aE:=U.size;refine cD (C:=ctx) (T:=58) (sz:=53) (x:=k.Xj) aab VD (by rw[IX];decide) (by rw[IX];omega) (p.ext P) k.Z9 k.Z_ (K:=λa0 F=>_) ?_|>λH=>by rw[c]at H;exact H
   intro t8 h8 Q f8 D;rw[wrap_i64 (n:=i+1) ω ω];have K8:=Kept.step (k:=k) y p P z2 (by rw[c];exact e5.ext U) (λl a=>by rw[c]at a;have:=ab l a;omega) f8 D
   have O:∀i,In t8 i->In t i\/h7.size<=i:=λi⟨l,a,e⟩=>by
    rcases D l a with⟨q,g,S⟩|g
    ·exact .inl ⟨q,g,ω⟩
    ·exact .inr ω
   have ul:∀i,In u i->i<V.size:=λi⟨l,a,e⟩=>by have:=z.lt l a;omega
   refine⟨⟨Ω,Ω,am4 (o.trans P) f8 λj⟨l,a,hj⟩=>by have:=s l a;omega,λl a=>?_,v,λi e b=>?_,⟨bs++[k],?_,?_,K8,?_⟩,?_⟩,Ω⟩
   ·rcases D l a with⟨q,g,S⟩|g
    ·have:=s q g;omega
    ·omega
   ·rcases O i e with d|d
    ·exact ap i d b
    ·have:=ul i b;omega
   ·try dsimp only
    rw[J,L,anL,anL,w,c];rfl
   ·rw[anL];exact Q
   ·intro k' ad l a b;rcases anP.1 ad with d|d
    ·exact I k' d l a b
    ·rw[anQ.1 d,c]at a;have:=ab l a;have:=ul _ b;omega
   ·try dsimp only
    rw[J,N];exact(z.ext P).only f8 λl a b=>ap _ b ⟨l,a,rfl⟩
 ·have ae:i.toNat=M.length:=ω;rw[ae,anA]at w z;have a1:(M.filter λx=>!decide (x.slot<n)).length<=M.length:=anz ..;refine Kr (r.ext o) z ω (λl a=>by have:=v l a;omega) λX r3 f3=>?_;exact hr X u t bs r3 ⟨(ag.an o).trans f3,λl a=>.inr (v l a)⟩ w (p.only f3 λl a=>by have:=s l a;omega) (y.only f3 λk c l a=>by have:=((y k c).2 l a).1;omega) s
end
end Pool
namespace Gate
noncomputable def vB:Code:=adK Tryz.f252
noncomputable def vR0:Code:=Cm vB
noncomputable def vL:Code:=af0 (Pz (ri vB))
noncomputable def vRc:Code:=Cm vL
noncomputable def vB1:Code:=Pz (Cm (ri (ri vL)))
noncomputable def vR2:Code:=Cm vB1
noncomputable def vR3:Code:=Cm (ri vB1)
noncomputable def vR4:Code:=ri (ri (ri vL))
theorem aa1:vB=.seq vR0 (.block 0 (.loop (.seq vRc (.seq (.cond (.tmp 8) .skip (.exit 0)) (.seq (.block 1 (.seq vR2 (.seq vR3 (.cond (.tmp 14) .ret .skip)))) vR4))))):=κ
section
variable{Y:aa0}{h:af}{y:Vc.One}{p:OL}{Q:Env->af->Prop}{S:Sl}{n k:Int}
abbrev vE(y:Vc.One)(p:OL)(S:Sl)(n k:Int):Env:=[some (.one y),some (.ptr p),none,none,none,some (.slice S),some (.i n),some (.i k),none,none,none,none,none,none,none,none]
theorem aeC:iT Y ctx (fL vR0) (fL vR0) 0 [some (.one y),some (.ptr p),none,none,none,none,none,none,none,none,none,none,none,none,none,none] h Q=
 (Nn p λl=>∃s:Sl,ah h l.b l.o (bu s)/\Q (vE y p s s.len 0) h):=κ
theorem aeD:iT Y ctx (fL vRc) (fL vRc) 0 (vE y p S n k) h Q=Q [some (.one y),some (.ptr p),none,none,none,some (.slice S),some (.i n),some (.i k),some (.bool (decide (k<n))),none,none,none,none,none,none,none] h:=κ
theorem aeE:iT Y ctx (fL vR2) (fL vR2) 0 (vE y p S n k) h Q=
 (0<=k/\k<(S.len:Int)/\Nn S.a λl=>∃(b:Bs 32),∃(m:Int),∃(a:Int),(av h l.b (l.o+k.toNat*34) 32 b/\ah h l.b (l.o+k.toNat*34+32) (.i m)/\ah h l.b (l.o+k.toNat*34+32+1) (.i a))/\
  Vc.Bind (iW h (anm [.bytes 32 (ann 32),.i 0,.i 0]) 69) λq=>gT q h.size 0 34/\Vc.Bind (anR q h.size 0 (.agg [.bytes 32 b,.i m,.i a])) λA=>
   Q [some (.one y),some (.ptr p),none,none,some (.ptr (PT h.size)),some (.slice S),some (.i n),some (.i k),none,some (.ptr (some ⟨l.b,l.o+k.toNat*34⟩)),some (.agg [.bytes 32 b,.i m,.i a]),none,none,none,none,none] A):=κ
noncomputable def vO(i:Nat):Oper:=(fL vR3).getD i default
theorem X2:(vO 2).guard=none:=κ
theorem acH:(vO 2).dst=some 13:=κ
theorem aa2:∃c:Call,(vO 2).op=.call c/\c.callee=.value (.tmp 11)/\c.args=#[.tmp 12]:=⟨_,(by kernel_rfl:(vO 2).op=.call (match(vO 2).op with|.call c=>c|_=>default)),κ,κ⟩
theorem acI{q:Nat}:iT Y ctx [vO 0,vO 1,vO 2,vO 3] [vO 0,vO 1] 0 [some (.one y),some (.ptr p),none,none,some (.ptr (PT q)),some (.slice S),some (.i n),some (.i k),none,none,none,none,none,none,none,none] h Q=
 (∃(b:Bs 32),∃(m:Int),∃(a:Int),(av h q 0 32 b/\ah h q 32 (.i m)/\ah h q 33 (.i a))/\
  Q [some (.one y),some (.ptr p),none,none,some (.ptr (PT q)),some (.slice S),some (.i n),some (.i k),none,none,none,some (.one y),some (.agg [.bytes 32 b,.i m,.i a]),none,none,none] h):=κ
theorem acJ{c:Bool}:iT Y ctx [vO 0,vO 1,vO 2,vO 3] [vO 3] 3 [some (.one y),some (.ptr p),none,none,none,some (.slice S),some (.i n),some (.i k),none,none,none,none,none,some (.bool c),none,none] h Q=
 Q [some (.one y),some (.ptr p),none,none,none,some (.slice S),some (.i n),some (.i k),none,none,none,none,none,some (.bool c),some (.bool (!c)),none] h:=κ
theorem X4:∃id,vR3=.region id #[vO 0,vO 1,vO 2,vO 3] false:=⟨_,(by kernel_rfl:vR3=.region (match vR3 with|.region id _ _=>id|_=>0) #[vO 0,vO 1,vO 2,vO 3] false)⟩
theorem aeF:iT Y ctx (fL vR4) (fL vR4) 0 (vE y p S n k) h Q=
 Q [some (.one y),some (.ptr p),none,none,none,some (.slice S),some (.i n),some (.i (am9 .i64 (k+1))),none,none,none,none,none,none,none,some (.i (am9 .i64 (k+1)))] h:=κ
end
end Gate
namespace Gate
open Go Go.Vc Go.RowKit
open Board (aq wI)
open Pool (rts eM Dw)
theorem gn:ctx.strict=false:=rfl
section
variable{h:af}{S:Sl}{N:List Nd}
theorem xO{A B C:World}(q:fS false A B)(E:fS false A C)(H:C.heap=B.heap):B.grownBy C none:=
 ⟨E.os.trans q.os.symm,E.tape.trans q.tape.symm,E.output.trans q.output.symm,by simp_all,λ_ _ _=>by rw[H]⟩
theorem rQ{n:Nat}{A B:World}(q:fS false A B)(x:Ext A.heap B.heap)(E:n<=A.heap.size):Below n A B:=⟨q.os,q.tape,q.output,x.size,λk a=>x.same k ω⟩
theorem acK(e:aj 34 h S (nds N)){k:Nat}{x:Nd}(q:N[k]? =some x){K:Vc.Loc->Bs 32->Int->Int->Prop}(B:∀l,K l x.root x.slot x.par):
 0<=(k:Int)/\(k:Int)<(S.len:Int)/\Nn S.a λl=>∃(b:Bs 32),∃(m:Int),∃(A:Int),(av h l.b (l.o+(k:Int).toNat*34) 32 b/\ah h l.b (l.o+(k:Int).toNat*34+32) (.i m)/\ah h l.b (l.o+(k:Int).toNat*34+32+1) (.i A))/\K l b m A:=by
 have c:=e.len;have:=(anB.1 q).1;rw[am6]at c;refine e.read ω ω λl t _ a d=>?_;rw[anu,anh,q]at a;cases a;exact⟨_,_,_,d,B l⟩
theorem PB{m q n0:Nat}{w:World}(hq:Var 165 w.heap q (.slice S))(e:aj 34 w.heap S (nds N))(hS:∀i,In S i->i<n0)(O:n0<=w.heap.size)(ce:N.length<1000):
 SeqStopsK Fence.wide m Tryz.prog 252 #[(anM (PT q)).val] (λx:Nd=>#[x.tv.val]) (Below n0) (λA=>A=N) (λ_=>True) N.length w:=by
 intro l o P W C u hJx hY h0;have a9:=e.len;rw[am6]at a9;obtain⟨y,hy⟩:∃y:Vc.One,y.v=.func (.yield l) #[] #[]:=⟨⟨.func (.yield l) #[] #[],rfl⟩,rfl⟩;have a':Var 165 W.heap q (.slice S):=(C.block q hq.lt).trans hq
 have ba:∀{W':World},Below n0 W W'->aj 34 W'.heap S (nds N):=λ{W'} b=>by
  have f:ag (λi=>n0<=i) w.heap W'.heap:=⟨ans C.size b.size,λi F O=>by rw[b.block i ω,C.block i ω]⟩;exact e.only f λl hl B=>by have:=hS l.b ⟨l,hl,rfl⟩;omega
 refine callsIn_of_wp Tryz.func252 (show Tryz.f252.body=some vB by rfl) trivial ?_ rfl;rw[aa1];have i0:=DL [.one y,.ptr (PT q)] 16
 have args:#[Value.func (.yield l) #[] #[]]++#[(anM (PT q)).val]=(anC [.one y,.ptr (PT q)]).toArray:=by
  show _=#[y.v,(anM (PT q)).val];simp_all
 rw[args,show Tryz.f252.ntmps=16 by kernel_rfl];generalize hA:({tmps:=(anC [.one y,.ptr (PT q)]).toArray++Array.replicate (16-(anC [.one y,.ptr (PT q)]).toArray.size) undef,defers:=[]}:Act)=G at i0⊢;have d0:G.defers=[]:=by rw[<-hA]
 have bb:rP [some (.one y),some (.ptr (PT q)),none,none,none,none,none,none,none,none,none,none,none,none,none,none] G:=by
  unfold rP;have:({G with defers:=[]}:Act)=G:=by rw[<-hA]
  rw[this];exact i0
 refine wpIn_seq (iU (ro:=none) (n:=m) bP gn (c:=vR0) κ (env:=[some (.one y),some (.ptr (PT q)),none,none,none,none,none,none,none,none,none,none,none,none,none,none])
  (Q:=λenv h=>env=vE y (PT q) S S.len 0/\h=W.heap) ?_ bb ?_)
 ·rw[aeC];exact⟨S,a'.ah rfl,rfl,rfl⟩
 rintro cf a1 w1 bc bd H ⟨rfl,R⟩
 have out:∀(I:Exit)(a:Act)(w:World),(I=.normal\/I=.ret)->a.defers=[]->((∃A,A=N/\o A w)\/(∃pre:List Nd,True/\P pre w))->bodyPost Tryz.prog Tryz.f252 (λe W'=>(∃v,e=.returned v)/\((∃A,A=N/\o A W')\/∃pre:List Nd,True/\P pre W')) I a w:=λI a w T hd B=>by
  rcases T with rfl|rfl
  ·exact bodyPost_end (results_none κ _ _ _) hd ⟨⟨_,rfl⟩,B⟩
  ·exact bodyPost_ret (results_none κ _ _ _) hd ⟨⟨_,rfl⟩,B⟩
 refine wpIn_block ?_;refine wpIn_loop (λa w'=>∃k:Nat,k<=N.length/\rP (vE y (PT q) S S.len k) a/\a.defers=[]/\o (N.take k) w'/\Below n0 W w') (λa _=>N.length-(match a.tmps.getD 7 undef with|.int _ k=>k.toNat|_=>0)) ⟨0,Nat.zero_le _,bc,bd.trans d0,?_,?_⟩ ?_
 ·rw[anN];exact u [] W w1 none h0 (xO (fS.refl W) H R) (λr d=>by cases d)
 ·exact⟨H.os,H.tape,H.output,by rw[R];exact anD _,λk _=>by rw[R]⟩
 rintro a2 U ⟨k,hk,am,ao,bi,bj⟩
 have ap:∀{a:Act}{z:Int},rP (vE y (PT q) S S.len z) a->(match a.tmps.getD 7 undef with|.int _ k=>k.toNat|_=>0)=z.toNat:=λ{a z} T=>by
  have:=T.slot 7 (.i z) rfl
  have e2:a.tmps.getD 7 undef=(TV.i z).val:=by
   rw[Array.getD_eq_getD_getElem?,show a.tmps[7]? =some (TV.i z).val from this];rfl
  rw[e2];rfl
 refine wpIn_seq (iU (ro:=none) (n:=m) bP gn (c:=vRc) κ (env:=vE y (PT q) S S.len k) (Q:=λenv h=>env=[some (.one y),some (.ptr (PT q)),none,none,none,some (.slice S),some (.i S.len),some (.i k),some (.bool (decide ((k:Int)<S.len))),none,none,none,none,none,none,none]/\h=U.heap) ?_ am ?_)
 ·rw[aeD];exact⟨rfl,rfl⟩
 rintro ch a3 j ar aw J ⟨rfl,V⟩;have g3:=xO (fS.refl U) J V;have X:o (N.take k) j:=u _ U j none bi g3 (λr d=>by cases d);have Y:Below n0 W j:=bj.trans ⟨J.os,J.tape,J.output,by rw[V];exact anD _,λk _=>by rw[V]⟩;have t8:a3.eval (.tmp 8)=.bool (decide ((k:Int)<S.len)):=ar.eval (x:=.tmp 8) rfl;have bk:=ar.weak (a:=vE y (PT q) S S.len k) ⟨rfl,rfl,rfl,rfl,rfl,trivial⟩;by_cases aE:k<N.length
 ·rw[decide_eq_true ω]at t8;refine wpIn_seq (wpIn_cond (t:=true) t8 (wpIn_skip ?_));obtain⟨x,B⟩:∃x,N[k]? =some x:=⟨_,anb aE⟩;have e3:=ba Y
  refine wpIn_seq (wpIn_block (wpIn_seq (iU (ro:=none) (n:=m) bP gn (c:=vR2) κ (env:=vE y (PT q) S S.len k)
   (Q:=λenv h=>∃l:Vc.Loc,env=[some (.one y),some (.ptr (PT q)),none,none,some (.ptr (PT j.heap.size)),some (.slice S),some (.i S.len),some (.i k),none,some (.ptr (some ⟨l.b,l.o+(k:Int).toNat*34⟩)),some x.tv,none,none,none,none,none]/\Ext j.heap h/\Var 69 h j.heap.size x.tv) ?_ bk ?_)))
  ·rw[aeE];refine acK e3 B λl=>aa λh1 v1 x1 s1=>aq (t:=x.tv) v1 rfl rfl λh2 v2 f2 s2=>⟨l,rfl,am4 x1 f2 λi F=>anc (anf F),v2⟩
  rintro ci a4 p bl bm K ⟨l4,rfl,Z,v4⟩;have bo:=bl.weak (a:=[some (.one y),some (.ptr (PT q)),none,none,some (.ptr (PT j.heap.size)),some (.slice S),some (.i S.len),some (.i k),none,none,none,none,none,none,none,none]) ⟨rfl,rfl,rfl,rfl,rfl,rfl,trivial⟩;have bp:o (N.take k) p:=u _ j p none X ⟨K.os,K.tape,K.output,Z.size,λi F _=>Z.same i F⟩ (λr d=>by cases d);have br:Below n0 W p:=Y.trans (rQ K Z (ans O (ans C.size Y.size)));have bt:(N.take k).length<N.length:=by rw[anG];omega
  have bx:N.take (k+1)=N.take k++[x]:=by rw[anH,B];rfl
  obtain⟨cj,bN⟩:=X4;obtain⟨c3,o3,f3,b0⟩:=aa2;rw[bN];refine wpIn_seq (wpIn_region_list ?_)
  refine Lk bP gn (ro:=none) (n:=m) (all:=[vO 0,vO 1,vO 2,vO 3]) (l2:=[vO 2,vO 3]) (w0:=p) (D:=[])
   (Q:=λenv h=>env=[some (.one y),some (.ptr (PT q)),none,none,some (.ptr (PT j.heap.size)),some (.slice S),some (.i S.len),some (.i k),none,none,none,some (.one y),some x.tv,none,none,none]/\h=p.heap)
   ?_ [vO 0,vO 1] 0 _ a4 p (by rw[acI];exact⟨_,_,_,v4.at,rfl,rfl⟩) bo (bm.trans (aw.trans ao)) (fS.refl p)
  rintro cl a5 E ab b1 L ⟨rfl,ac⟩;have b2:o (N.take k) E:=u _ p E none bp (xO (fS.refl p) L ac) (λr d=>by cases d);have a0:Below n0 W E:=br.trans ⟨L.os,L.tape,L.output,by rw[ac];exact anD _,λk _=>by rw[ac]⟩;unfold wpListIn;rw[if_pos (by unfold Region.wanted;rw[X2])];have b3:a5.eval (.tmp 11)=.func (.yield l) #[] #[]:=by rw[ab.eval (x:=.tmp 11) (tv:=.one y) rfl];exact hy
  have b5:a5.eval (.tmp 12)=x.tv.val:=ab.eval (x:=.tmp 12) (tv:=x.tv) rfl;refine aeA o3 f3 b3 (vs:=#[x.tv.val]) (by rw[b0];simp[b5]) (hY (N.take k) x E b2 bt) λe g b6=>?_
  obtain⟨c,rfl,hc⟩:∃c:Bool,e=.returned (.bool c)/\((c=true/\o (N.take k++[x]) g/\Below n0 E g)\/(c=false/\P (N.take k++[x]) g)):=by
   rcases b6 with⟨rfl,ad,M⟩|⟨rfl,ae⟩
   ·exact⟨true,rfl,.inl ⟨rfl,ad,M⟩⟩
   ·exact⟨false,rfl,.inr ⟨rfl,ae⟩⟩
  refine⟨_,rfl,?_⟩;rw[acH];have b7:=(ab.put (some 13) (r:=some (.bool c)) (v:=.bool c) (.some rfl)).weak (a:=[some (.one y),some (.ptr (PT q)),none,none,none,some (.slice S),some (.i S.len),some (.i k),none,none,none,none,none,some (.bool c),none,none]) ⟨rfl,rfl,rfl,rfl,rfl,rfl,trivial⟩
  refine I3 bP gn (ro:=none) (n:=m) (all:=[vO 0,vO 1,vO 2,vO 3]) (w0:=g) (D:=[])
   (Q:=λenv h=>env=[some (.one y),some (.ptr (PT q)),none,none,none,some (.slice S),some (.i S.len),some (.i k),none,none,none,none,none,some (.bool c),some (.bool (!c)),none]/\h=g.heap) ?_ [vO 3] 3 _ _ g (by rw[acJ];exact⟨rfl,rfl⟩) b7 b1 (fS.refl g)
  rintro cp a7 s he7 hd7 hw7 ⟨rfl,al⟩;have g7:=xO (fS.refl g) hw7 al;have t14:a7.eval (.tmp 14)=.bool (!c):=he7.eval (x:=.tmp 14) rfl;rcases hc with⟨rfl,ad,M⟩|⟨rfl,ae⟩
  ·refine wpIn_cond (t:=false) t14 (wpIn_skip ?_);have b8:=he7.weak (a:=vE y (PT q) S S.len k) ⟨rfl,rfl,rfl,rfl,rfl,trivial⟩;refine iU (ro:=none) (n:=m) bP gn (c:=vR4) κ (env:=vE y (PT q) S S.len k) (Q:=λenv h=>env=[some (.one y),some (.ptr (PT q)),none,none,none,some (.slice S),some (.i S.len),some (.i ((k+1:Nat):Int)),none,none,none,none,none,none,none,some (.i ((k+1:Nat):Int))]/\h=s.heap) ?_ b8 ?_
   ·rw[aeF,wrap_i64 (n:=(k:Int)+1) ω ω];exact⟨rfl,rfl⟩
   rintro cs a8 w8 b9 b' hw8 ⟨rfl,hh8⟩;have a6:=b9.weak (a:=vE y (PT q) S S.len ((k+1:Nat):Int)) ⟨rfl,rfl,rfl,rfl,rfl,trivial⟩;have g8:=xO (fS.refl s) hw8 hh8;have ca:o (N.take k++[x]) s:=u _ g s none ad g7 (λr d=>by cases d);have cc:o (N.take k++[x]) w8:=u _ s w8 none ca g8 (λr d=>by cases d);have sz6:n0<=g.heap.size:=ans O (ans C.size (ans a0.size M.size));refine⟨⟨k+1,aE,a6,b'.trans hd7,by rw[bx];exact cc,a0.trans (M.trans ((rQ hw7 (by rw[al];exact am8 _) sz6).trans (rQ hw8 (by rw[hh8];exact am8 _) (by rw[al];exact sz6))))⟩,?_⟩;rw[ap a6,ap am];omega
  ·refine wpIn_cond (t:=true) t14 (wpIn_ret ?_);exact out .ret a7 s (.inr rfl) hd7 (.inr ⟨_,trivial,hJx _ g s none ae g7 (λr d=>by cases d)⟩)
 ·rw[decide_eq_false ω]at t8;refine wpIn_seq (wpIn_cond (t:=false) t8 (wpIn_exit ?_));have cd:k=N.length:=ω;rw[cd,anA]at X;exact out .normal a3 j (.inl rfl) (aw.trans ao) (.inl ⟨N,rfl,X⟩)
end
end Gate
namespace Gate
noncomputable def rB:Code:=adK Tryz.f125
noncomputable def rQ0:Code:=Cm rB
noncomputable def rQ1:Code:=Cm (ri rB)
noncomputable def rX:Code:=Cm (ri (ri rB))
noncomputable def rQ2:Code:=Cm rX
noncomputable def rQ3:Code:=Cm (adJ (ri rX))
noncomputable def rF:Code:=Pz (ri (adJ (ri rX)))
noncomputable def rA:Code:=acG rF
noncomputable def rR:Code:=Pz (aeB rF)
noncomputable def rQ6:Code:=Cm (ri (ri (ri rB)))
theorem aa3:rB=.seq rQ0 (.seq rQ1 (.seq (.seq rQ2 (.cond (.tmp 6) (.seq rQ3 (.block 0 (.rangeFunc (.tmp 11) #[12] rA (.block 1 rR)))) .skip)) (.seq rQ6 .ret))):=κ
section
variable{Y:aa0}{h:af}{p:OL}{Q:Env->af->Prop}{b c o:Nat}{u:Vc.One}
theorem aeG:iT Y ctx (fL rQ0) (fL rQ0) 0 [some (.ptr p),none,none,none,none,none,none,none,none,none,none,none,none,none,none,none,none,none,none] h Q=
 Q [some (.ptr p),none,some (.slice am5),none,none,none,none,none,none,none,none,none,none,none,none,none,none,none,none] h:=κ
theorem aeH:iT Y ctx (fL rQ1) (fL rQ1) 0 [some (.ptr p),none,some (.slice am5),none,none,none,none,none,none,none,none,none,none,none,none,none,none,none,none] h Q=
 Vc.Bind (iW h (.slice am5) 48) λa=>Q [some (.ptr p),none,some (.slice am5),some (.ptr (PT h.size)),none,none,none,none,none,none,none,none,none,none,none,none,none,none,none] a:=κ
theorem aeI:iT Y ctx (fL rQ2) (fL rQ2) 0 [some (.ptr p),none,some (.slice am5),some (.ptr (PT o)),none,none,none,none,none,none,none,none,none,none,none,none,none,none,none] h Q=
 Q [some (.ptr p),none,some (.slice am5),some (.ptr (PT o)),none,some (.ptr p),some (.bool (!p.isNone)),none,none,none,none,none,none,none,none,none,none,none,none] h:=κ
theorem aeJ:iT Y ctx (fL rQ3) (fL rQ3) 0 [some (.ptr (PT b)),none,some (.slice am5),some (.ptr (PT o)),none,none,none,none,none,none,none,none,none,none,none,none,none,none,none] h Q=
 ∃s:Sl,ah h b 0 (bu s)/\qA ctx.strict ctx.P 195 (anC [.slice s]) h λv a=>∃u:Vc.One,v=(TV.one u).val/\
  Q [some (.ptr (PT b)),none,some (.slice am5),some (.ptr (PT o)),none,none,none,some (.ptr (PT b)),some (.ptr (PT b)),some (.ptr (PT b)),some (.slice s),some (.one u),none,none,none,none,none,none,none] a:=κ
theorem af2{x:Bs 32}{m q:Int}:iT Y ctx (fL rA) (fL rA) 0 [none,none,none,some (.ptr (PT o)),none,none,none,none,none,none,none,none,some (.agg [.bytes 32 x,.i m,.i q]),none,none,none,none,none,none] h Q=
 Vc.Bind (iW h (anm [.bytes 32 (ann 32),.i 0,.i 0]) 69) λA=>gT A h.size 0 34/\Vc.Bind (anR A h.size 0 (.agg [.bytes 32 x,.i m,.i q])) λa=>
  Q [none,none,none,some (.ptr (PT o)),some (.ptr (PT h.size)),none,none,none,none,none,none,none,some (.agg [.bytes 32 x,.i m,.i q]),none,none,none,none,none,none] a:=κ
theorem af3:iT Y ctx (fL rR) (fL rR) 0 [none,none,none,some (.ptr (PT o)),some (.ptr (PT c)),none,none,none,none,none,none,none,none,none,none,none,none,none,none] h Q=
 ∃s:Sl,ah h o 0 (bu s)/\∃x:Bs 32,av h c 0 32 x/\∃new,cn (h.push (row (ank [anv 32 x]) 52)) (ang (some (Vc.Loc.mk h.size 0)) 1 1) 32 new/\(∀v∈new,bU v=true)/\au ctx 52 s 1 new (h.push (row (ank [anv 32 x]) 52)) λa q=>
  gT q o 0 1/\Vc.Bind (anR q o 0 (.slice a)) λb=>Q [none,none,none,some (.ptr (PT o)),some (.ptr (PT c)),none,none,none,none,none,none,none,none,some (.slice s),some (.ptr (PT c)),some (.bytes 32 x),some (.slice (ang (some (Vc.Loc.mk h.size 0)) 1 1)),some (.slice a),none] b:=κ
theorem aeK:iT Y ctx (fL rQ6) (fL rQ6) 0 [none,none,none,some (.ptr (PT o)),none,none,none,none,none,none,none,none,none,none,none,none,none,none,none] h Q=
 ∃s:Sl,ah h o 0 (bu s)/\Q [none,none,some (.slice s),some (.ptr (PT o)),none,none,none,none,none,none,none,none,none,none,none,none,none,none,some (.slice s)] h:=κ
end
end Gate
namespace Gate
open Go Go.Vc Go.RowKit
open Board (aq wI)
open Pool (rts eM Dw)
theorem Nx{q:List Value}{T:TypeId}:(Vc.row q T).isCells=true:=rfl
theorem CV{T:TypeId}{sz:Nat}{h:af}{s:Sl}{ts:List TV}(o:Vc.Own T sz h s ts){i:Nat}(q:In s i):∃x,h[i]? =some x/\x.isCells=true:=by
 obtain⟨l,a,rfl⟩:=q;rcases o.row with rfl|⟨b,c,d,e,_⟩
 ·cases a
 grind [Nx]
theorem En{W W':World}{row:Option Nat}(q:W.grownBy W' row):ag (λi=>row=some i) W.heap W'.heap:=by
 obtain⟨_,_,_,a,b⟩:=q;exact⟨a,λi c d=>b i c (λe=>d e.symm)⟩
theorem Ny{A W W':World}{row:Option Nat}(q:W.grownBy W' row)(e:fS false A W):fS false A W':=by
 obtain⟨a,b,c,_,_⟩:=q;exact⟨a.trans e.os,b.trans e.tape,c.trans e.output,λh=>by cases h⟩
section
variable{R:Rq}{h h':af}{b r:Nat}{A:Sl}{L:List Nd}{most:Int}
def adL(w:World)(pre:List Nd)(W:World):Prop:=∃s,Vc.Own 52 32 W.heap s (rts (pre.map Nd.root))/\Var 48 W.heap w.heap.size (.slice s)/\Ext w.heap W.heap/\(∀i,In s i->w.heap.size<i)/\fS false w W
theorem Us{w:World}{B:Nat}(q:w.heap.size<=B):OwnFrom B (adL w):=by
 intro pre W W' row ⟨s,o,v,x,lo,b⟩ a d;have f:=En a
 have no:∀i(x:Obj),W.heap[i]? =some x->x.isCells=true->¬row=some i:=λi x g h e=>by
  simp_all
 refine⟨s,o.keep f λi c=>?_,v.only f (no _ _ v Nx),am4 x f λi c=>?_,lo,Ny a b⟩
 ·grind [CV]
 grind
def VX(o:Nat)(x:Nd)(a:Act)(W:World):Prop:=∃c,rP [none,none,none,some (.ptr (PT o)),some (.ptr (PT c)),none,none,none,none,none,none,none,none,none,none,none,none,none,none] a/\a.defers=[]/\Var 69 W.heap c x.tv
theorem PC{o B:Nat}(x:Nd)(a:Act):OwnFrom B (λ(_:Unit) W=>VX o x a W):=by
 intro _ W W' row ⟨c,e,d,v⟩ f g;refine⟨c,e,d,v.only (En f) λe=>?_⟩;obtain⟨_,y,b,h⟩:=g c e;rw[v]at b;cases b;cases h
theorem Ll(p:AP h b r A L most)(hr:∀h' s,Vc.Own 52 32 h' s (rts (L.map Nd.root))->Ext h h'->(∀i,In s i->h.size<=i)->R (anF s).val h'):
 Cl 125 [.ptr (PT b)] h R:=by
 intro w hw;subst hw;have bk:=p.ok.len;have bl:=p.ok.most;refine(callsIn_wide (n:=5)).1 (callsIn_of_wp_marks Tryz.func125 (show Tryz.f125.body=some rB by rfl) trivial ?_ rfl);have i0:=DL [.ptr (PT b)] 19;rw[show Tryz.f125.ntmps=19 by kernel_rfl];generalize hA:({tmps:=(anC [.ptr (PT b)]).toArray++Array.replicate (19-(anC [.ptr (PT b)]).toArray.size) undef,defers:=[]}:Act)=V at i0⊢;have d0:V.defers=[]:=by rw[<-hA]
 have ap:rP [some (.ptr (PT b)),none,none,none,none,none,none,none,none,none,none,none,none,none,none,none,none,none,none] V:=by
  unfold rP;have:({V with defers:=[]}:Act)=V:=by rw[<-hA]
  rw[this];exact i0
 refine wpIn_seq (iU (ro:=none) (n:=5) bP gn (c:=rQ0) κ (Q:=λenv h=>env=[some (.ptr (PT b)),none,some (.slice am5),none,none,none,none,none,none,none,none,none,none,none,none,none,none,none,none]/\h=w.heap) (by rw[aeG];exact⟨rfl,rfl⟩) ap ?_);rintro bm a1 w1 ar aw aE ⟨rfl,a0⟩
 refine wpIn_seq (iU (ro:=none) (n:=5) bP gn (c:=rQ1) κ (Q:=λenv h=>env=[some (.ptr (PT b)),none,some (.slice am5),some (.ptr (PT w.heap.size)),none,none,none,none,none,none,none,none,none,none,none,none,none,none,none]/\Var 48 h w.heap.size (.slice am5)/\Ext w.heap h/\h.size=w.heap.size+1)
  (by rw[aeH,a0];exact aa λh1 v1 H s1=>⟨rfl,v1,H,s1⟩) ar ?_)
 rintro bo a2 w2 he2 hd2 hw2 ⟨rfl,I,x2,z2⟩
 refine wpIn_seq (wpIn_seq (iU (ro:=none) (n:=5) bP gn (c:=rQ2) κ (Q:=λenv h=>env=[some (.ptr (PT b)),none,some (.slice am5),some (.ptr (PT w.heap.size)),none,some (.ptr (PT b)),some (.bool (!(some (Vc.Loc.mk b 0)).isNone)),none,none,none,none,none,none,none,none,none,none,none,none]/\h=w2.heap)
  (by rw[aeI];exact⟨rfl,rfl⟩) he2 ?_))
 rintro bp a3 m ae a4 a5 ⟨rfl,X⟩;refine wpIn_cond (t:=true) (ae.eval (x:=.tmp 6) (tv:=.bool true) rfl) ?_;rw[if_pos rfl];have a6:=ae.weak (a:=[some (.ptr (PT b)),none,some (.slice am5),some (.ptr (PT w.heap.size)),none,none,none,none,none,none,none,none,none,none,none,none,none,none,none]) ⟨rfl,rfl,rfl,trivial⟩;have p3:AP m.heap b r A L most:=by rw[X];exact p.ext x2
 refine wpIn_seq (iU (ro:=none) (n:=5) bP gn (c:=rQ3) κ (Q:=λenv h=>∃u:Vc.One,u.v=.func (.func 252) #[] #[(anM (PT m.heap.size)).val]/\env=[some (.ptr (PT b)),none,some (.slice am5),some (.ptr (PT w.heap.size)),none,none,none,some (.ptr (PT b)),some (.ptr (PT b)),some (.ptr (PT b)),some (.slice A),some (.one u),none,none,none,none,none,none,none]/\
  Var 165 h m.heap.size (.slice A)/\Ext m.heap h) ?_ a6 ?_)
 ·rw[aeJ];refine⟨A,p3.var.ah rfl,?_⟩;refine jm A ?_;exact aa λh1 v1 H s1=>⟨⟨_,rfl⟩,rfl,⟨⟨_,rfl⟩,rfl,rfl,v1,H⟩⟩
 rintro br J w4 Y a7 a8 ⟨u,hu,rfl,vq,x4⟩;have bt:=Y.weak (a:=[none,none,none,some (.ptr (PT w.heap.size)),none,none,none,none,none,none,none,some (.one u),none,none,none,none,none,none,none]) ⟨rfl,rfl,trivial⟩;have x3:Ext w.heap m.heap:=by rw[X];exact x2
 have C:=x3.trans x4;have z3:w.heap.size<m.heap.size:=by rw[X];omega
 have z4:=x4.size;have v4:Var 48 w4.heap w.heap.size (.slice am5):=(show Var 48 m.heap w.heap.size (.slice am5) by rw[X];exact I).ext x4;have a9:fS false w w4:=((aE.trans hw2).trans a5).trans a8;have dd4:J.defers=[]:=a7.trans (a4.trans (hd2.trans (aw.trans d0)));have hg:J.eval (.tmp 11)=.func (.func 252) #[] #[(anM (PT m.heap.size)).val]:=by rw[Y.eval (x:=.tmp 11) (tv:=.one u) rfl];exact hu
 have ba:∀i,In A i->i<w.heap.size:=λi d=>by
  obtain⟨x,Z,_⟩:=CV p.own d;exact(Array.getElem?_eq_some_iff.1 Z).1
 refine wpIn_block (wpIn_rangeFunc_ownH (F:=Fence.wide) (n:=5) (α:=Nd) (w0:=w4) (N:=L.length) (encs:=λx:Nd=>#[x.tv.val]) (S:=λxs=>xs=L) (Sp:=λ_=>True) (Kp:=Below w.heap.size) rfl δ hg trivial (enters_of Tryz.func252 κ rfl)
  (PB vq (p.ext C).own.elems ba C.size ω) belowK_t (belowK_b C.size) (Below.refl _ _) (λ_=>rfl) (adL w) (λ_ _ _=>False) (Us C.size) (λ_ _ _ _ _ h=>h.elim) ?_ (VX w.heap.size) (λx a=>PC x a) ?_ ?_ ?_ ?_)
 ·exact⟨am5,Vc.Own.nil _ _ _,v4,C,λi⟨l,hl,_⟩=>(by cases hl),a9⟩
 ·intro l pre x W K M hK;obtain⟨s,o,v,q,lo,O⟩:=M
  have ad:rP [none,none,none,some (.ptr (PT w.heap.size)),none,none,none,none,none,none,none,none,some x.tv,none,none,none,none,none,none] {tmps:=(#[12].zip #[x.tv.val]).foldl (λt(p,v)=>t.setIfInBounds p v) J.tmps,defers:=[]}:=by
   have:=(Y.put (some 12) (r:=some x.tv) (.some rfl)).weak (a:=[none,none,none,some (.ptr (PT w.heap.size)),none,none,none,none,none,none,none,none,some x.tv,none,none,none,none,none,none]) ⟨rfl,rfl,trivial⟩;have e:(#[12].zip #[x.tv.val]).foldl (λt(p,v)=>t.setIfInBounds p v) J.tmps=J.tmps.setIfInBounds 12 x.tv.val:=by simp
   rw[e];exact this
  refine iU (ro:=some l) (n:=3) bP gn (c:=rA) κ (Q:=λenv h=>env=[none,none,none,some (.ptr (PT w.heap.size)),some (.ptr (PT W.heap.size)),none,none,none,none,none,none,none,some x.tv,none,none,none,none,none,none]/\Ext W.heap h/\Var 69 h W.heap.size x.tv) ?_ ad ?_
  ·rw[show x.tv=anm [.bytes 32 x.root,.i x.slot,.i x.par]from rfl,af2];exact aa λh1 v1 H s1=>aq (t:=x.tv) v1 rfl rfl λh2 I f2 s2=>⟨rfl,am4 H f2 λi d=>anc (anf d),I⟩
  rintro al T U ab ac g ⟨rfl,E,v5⟩;refine hK _ _ ⟨E.size,λk o _ G _=>(E.same k (Array.getElem?_eq_some_iff.1 G).1).trans G⟩ (rQ g E q.size) ⟨s,o.ext E,v.ext E,q.trans E,lo,O.trans g⟩ ⟨W.heap.size,ab.weak ⟨rfl,rfl,trivial⟩,ac,v5⟩
 ·intro l pre x a' W hl _ M ⟨c,ad,bx,vc⟩ bN;obtain⟨s,o,v,q,lo,O⟩:=M;have bb:=o.len;rw[pE,am6]at bb;have ns:¬In s w.heap.size:=λd=>Nat.lt_irrefl _ (lo _ d);refine wpIn_block (iU (ro:=some l) (n:=3) bP gn (c:=rR) κ (Q:=λenv h=>∃j:Sl,Vc.Own 52 32 h j (rts ((pre++[x]).map Nd.root))/\Var 48 h w.heap.size (.slice j)/\ag (λi=>In s i\/i=w.heap.size) W.heap h/\(∀i,In j i->w.heap.size<i)) ?_ ad ?_)
  ·rw[af3];refine⟨s,v.ah rfl,x.root,vc.at.1,TR o (by rw[am6];omega) λj h' o' B n'=>?_⟩;have v':Var 48 h' w.heap.size (.slice s):=v.only B ns;have bc:¬In j w.heap.size:=λd=>(n' _ d).elim ns λh=>by have:=v.lt;omega
   refine aq (t:=.slice j) v' rfl rfl λh2 I f2 s2=>⟨j,?_,I,?_,λi d=>(n' i d).elim (lo i) λh=>(by have:=v.lt;omega)⟩
   ·rw[anL];exact o'.keep f2 λi d e=>bc (e▸d)
   ·exact(B.mono λ_ d=>.inl d).trans (f2.mono λ_ d=>.inr d)
  rintro al T U ab ac g ⟨j,o',v',B,bd⟩;refine⟨⟨B.size,λk y G hy hc=>?_⟩,⟨g.os,g.tape,g.output,B.size,λk G=>?_⟩,⟨j,o',v',?_,bd,O.trans g⟩⟩
  ·refine(B.same k (Array.getElem?_eq_some_iff.1 hy).1 λe=>?_).trans hy;rcases e with e|e
   ·obtain⟨z,hz,am⟩:=CV o e;rw[hy]at hz;cases hz;rw[hc]at am;cases am
   ·omega
  ·refine B.same k (Nat.lt_of_lt_of_le G q.size) λe=>?_;rcases e with e|e
   ·exact Nat.lt_asymm (lo k e) G
   ·omega
  ·refine am4 q B λi e=>?_;rcases e with e|e
   ·exact anI (lo i e)
   ·exact anc e.symm
 ·intro D xs W hD bi M hK;obtain⟨s,o,v,q,lo,O⟩:=M;subst bi
  refine wpIn_seq (iU (ro:=none) (n:=5) bP gn (c:=rQ6) κ (env:=[none,none,none,some (.ptr (PT w.heap.size)),none,none,none,none,none,none,none,none,none,none,none,none,none,none,none])
   (Q:=λenv h=>env=[none,none,some (.slice s),some (.ptr (PT w.heap.size)),none,none,none,none,none,none,none,none,none,none,none,none,none,none,some (.slice s)]/\h=W.heap) ?_ ?_ ?_)
  ·rw[aeK];exact⟨s,v.ah rfl,rfl,rfl⟩
  ·exact Y.weak ⟨rfl,trivial⟩
  rintro al T U ab ac g ⟨rfl,ao⟩;refine wpIn_ret ?_;show LeavesInM Fence.wide 5 Tryz.prog Tryz.f125 T.tmps _ T.defers .returning U;rw[ac];have bj:U.heap[D]? =some (.deferred (some [])):=by rw[ao];exact hK
  have wr:=run_takeDeferred (P:=Tryz.prog) bj;have t2:=ab.eval (x:=.tmp 2) rfl;rw[dd4];refine⟨by simp,.inl ⟨D,_,rfl,wr,_,results_tmp (t:=2) κ _ _ _,?_⟩⟩;have gr:=grownBy_putObj' U D (.deferred none);have f:=En gr
  have nD:∀i,In s i->¬some D=some i:=λi d e=>by
   cases e;obtain⟨x,Z,hc⟩:=CV o d;rw[hK]at Z;cases Z;cases hc
  refine⟨Ny gr (O.trans g),_,rfl,?_⟩;have e2:T.tmps.getD 2 undef=(anF s).val:=t2;rw[e2];rw[<-ao]at o q;exact hr _ s (o.keep f nD) (am4 q f λi d=>by cases d;have:=C.size;omega) λi d=>anI (lo i d)
 ·intro D c pre W _ _ hf;exact hf.elim
end
end Gate
namespace Gate
open Board (Vd Cf Vt aq wI)
open Pool (rts eM Dw)
section
variable{R:Rq}{h h':af}{b r:Nat}{A:Sl}{N:List Nd}{most:Int}
theorem Ut(p:AP h b r A N most){root:Bs 32}(Z:place root N<0->∀h',Ext h h'->R (anl [.ptr none,.i 7]).val h')
 (hr:∀k:Nat,place root N=(k:Int)->∀h' c S',l9 h' c (eX N most k) most S'->Ext h h'->(∀i,S' i->h.size<=i)->R (anl [.ptr (PT c),.i 0]).val h'):
 Cl 244 [.ptr (PT b),.bytes 32 root] h R:=by
 apply GV;delta zP Dq fk Dp cu cr cE jW bz aN bJ aT bA;have aw:=p.ok.len;have F:=p.ok.most;refine aa λh1 v1 G s1=>am7 ⟨root,v1.bytes,dM (p.ext G) λh2 q=>⟨_,rfl,?_⟩⟩;have H:=G.trans q;refine dg (p.ext H) λh3 s=>⟨_,_,_,_,rfl,?_⟩;have ab:=H.trans s;refine aa λh4 v4 x4 s4=>aq v4 rfl rfl λh5 I f5 s5=>?_;have t:=am4 x4 f5 λi a=>anc (anf a);have f:=ab.trans t;by_cases g:0<=place root N
 ·obtain⟨k,x,q1,J,q3,q4,q5⟩:=fG g;have u:c8 N (place root N)=(x,true):=by simp_all [sW]
  rw[u]at I⊢;have ac:=I;refine am7 ⟨root,((v1.ext q).ext s|>.ext t).bytes,x.slot,ac.at.2.1,?_⟩;refine Bw (p.ext f) ⟨_,rfl,am8 _,Gl (p.ext f) ⟨_,rfl,am8 _,?_⟩⟩;rw[wrap_i64 ω ω,show N.length+(most-N.length)=most by omega];have K:=p.ok.slots x (ant q3);refine Fw (λhc=>absurd ⟨F.1,F.2,K.1,K.2⟩ hc) λ_ h6 c l A' p6 L ad=>⟨_,_,rfl,root,(((v1.ext q).ext s|>.ext t).ext L).bytes,?_⟩;have M:=f.trans L;refine dM (p.ext M) λh7 O=>⟨_,rfl,?_⟩;have ae:=M.trans O;dsimp only;rw[J,wrap_i64 ω ω]
  refine⟨λσ P=>∃d:Nat,σ=(k+1+d:Nat)/\k+1+d<=N.length/\Ext h P/\∃l A',AP P c l A' (kQ N most k d) most/\∀i,lH c l A' i->h.size<=i,λσ _=>(N.length-σ).toNat,
   ⟨0,ω,ω,ae,l,A',?_,λi a=>by have:=ad i a;have:=f.size;omega⟩,?_⟩
  ·have e:kQ N most k 0=[⟨root,x.slot,-1⟩]:=by simp_all [sW,kQ]
   rw[e];exact p6.ext O
  rintro σ h8 ⟨d,rfl,hd,j,v,Q,p8,m⟩;refine Bw (p.ext j) ⟨_,rfl,ID (λa=>?_) λa=>?_⟩
  ·have n:N[k+1+d]? =some N[k+1+d]:=anb ω;obtain⟨y,hy⟩:∃y,y=N[k+1+d]'ω:=⟨_,rfl⟩;rw[<-hy]at n;have S:=p.ok.up _ _ n ω;obtain⟨z,T⟩:∃z,N[y.par.toNat]? =some z:=⟨_,anb ω⟩;refine dg (p.ext j) λh9 x9=>⟨_,_,_,_,rfl,aa λaE v10 al a0=>aq v10 rfl rfl λa1 v11 f11 a2=>?_⟩;rw[sW n]at v11;have w:=v11;have am:=am4 al f11 λi a=>anc (anf a);have U:=x9.trans am;refine⟨y.par,w.at.2.2,dg (p.ext (j.trans U)) λa3 B=>⟨_,_,_,_,rfl,aa λa4 ao ap a5=>aq ao rfl rfl λa6 V f14 a7=>?_⟩⟩;rw[ig S.1 T]at V;have W:=V;have C:=am4 ap f14 λi a=>anc (anf a);have X:=U.trans (B.trans C);refine⟨z.root,W.at.1,dM (p8.ext X) λa8 o=>⟨_,rfl,?_⟩⟩;have D:=X.trans o;have E:=j.trans D
   have e:kQ N most k (d+1)=if 0<=place z.root (kQ N most k d)then gw (kQ N most k d) most y.root z.root y.slot else kQ N most k d:=by
    show BX N most (kQ N most k d) (k+1+d:Nat)=_;unfold BX;rw[sW n,ig S.1 T]
   have wr:am9 .i64 ((k+1+d:Nat)+1)=(k+1+(d+1):Nat):=by grind [wrap_i64]
   rw[wr];refine ID (λg=>?_) λg=>?_
   ·rw[if_pos g]at e;refine⟨y.root,((w.ext (B.trans C)).ext o).at.1,z.root,(W.ext o).at.1,y.slot,((w.ext (B.trans C)).ext o).at.2.1,QN (p8.ext D) λa9 ar a' Y=>⟨_,rfl,?_⟩⟩;refine⟨⟨d+1,rfl,ω,am4 E Y.only λi a=>m i a,v,ar,by simp_all,λi a=>(Y.new i a).elim (m i) λh=>by have:=E.size;omega⟩,by grind⟩
   ·rw[if_neg g]at e;exact⟨⟨d+1,rfl,ω,E,v,Q,by rw[e];exact p8.ext D,m⟩,by grind⟩
  ·have:d=N.length-(k+1):=ω;refine hr k J h8 c _ ⟨v,Q,?_,rfl⟩ j m;simp_all [eX]
 ·have u:(c8 N (place root N)).2=false:=by
   simp_all [if_neg,c8,nodeAt]
  rw[u];exact anq (Z ω h5 f)
def FJ(st:List Int)(t:Tb)(L:List Nd)(j:Nat):Nat->Int:=λi=>if i<j then bZ st t L i else 0
def Iz(st:List Int)(t:Tb)(x:Nd):Dl:=(x.root,pW t st x.root)
theorem X7{st:List Int}{t:Tb}{L:List Nd}:FJ st t L L.length=bZ st t L:=by
 grind [FJ,j7]
theorem Nz{st:List Int}{t:Tb}{L:List Nd}(q:wR st)(B:(L.map Nd.root).Nodup):∀n j,j+n=L.length->Gr L ((L.drop j).map (Iz st t)) (FJ st t L j)/\laid L ((L.drop j).map (Iz st t)) (FJ st t L j)=bZ st t L
 |0,j,h=>by
  rw[anS ω,show j=L.length by omega,X7];exact⟨⟨λi _=>rE q i,uC q B⟩,rfl⟩
 |n+1,j,h=>by
  have a:j<L.length:=ω;obtain⟨e,f⟩:=Nz q B n (j+1) ω;rw[List.drop_eq_getElem_cons a,List.map_cons];have b:=anb a;have c:place (Iz st t L[j]).1 L=j:=gX B b;have g:(Iz st t L[j]).2=bZ st t L j:=(yE b).symm;have k:=rE (t:=t) (L:=L) q j;have l:=ZR (t:=t) q B j
  have d:bump (FJ st t L j) (place (Iz st t L[j]).1 L).toNat (Iz st t L[j]).2=FJ st t L (j+1):=by
   rw[c,anu];funext i;unfold bump FJ
   grind
  have m:FJ st t L j (place (Iz st t L[j]).1 L).toNat=0:=by
   exact if_neg ω
  refine⟨⟨ω,ω,ω,ω,ω,by rw[d];omega⟩,?_⟩;simp_all [laid,List.foldl_cons]
theorem X9{st:List Int}{t:Tb}{L:List Nd}{r:Bs 32}(h:0<=place r L):bZ st t L (place r L).toNat=pW t st r:=by
 grind [fG,anu,yE]
theorem Sd:(ctx.ti 314).bytes=40:=κ
theorem acL:(ctx.ti 314).size=33:=κ
theorem aa4:(ctx.ti 314).z.size=33:=κ
theorem ag6{h:af}{s:Sl}{L:List Dl}{x:Dl}{K:Sl->af->Prop}(o:Vc.Own 314 33 h s (L.map z_))(q:L.length<100000)(B:∀a h',Vc.Own 314 33 h' a ((L++[x]).map z_)->ag (In s) h h'->(∀i,In a i->In s i\/h.size<=i)->K a h'):
 ∃new,cn (h.push (row (ank [anm [.bytes 32 x.1,.i x.2]]) 314)) (ang (some (Vc.Loc.mk h.size 0)) 1 1) 33 new/\(∀v∈new,bU v=true)/\au ctx 314 s 1 new (h.push (row (ank [anm [.bytes 32 x.1,.i x.2]]) 314)) K:=by
 have c:=o.len;rw[am6]at c;refine cD (x:=z_ x) acL aa4 (by simp[Sd]) (by rw[Sd];omega) o (MP x) (Tq x) λa h' g d e=>B a h' (by simp_all) d λi⟨l,q,j⟩=>?_;rcases e l q with⟨f,b,k⟩|b
 ·exact .inl ⟨f,b,ω⟩
 omega
theorem acM{k:Nat}(o:rz N most)(q:k<N.length){x:Nd}(B:x∈eX N most k):0<=place x.root N:=by
 have:x.root∈(eX N most k).map Nd.root:=anT.2 ⟨x,B,rfl⟩;rw[HH o q]at this;obtain⟨i,a,b⟩:=anT.1 this;have a:=(rZ.1 a).1;rw[oG (anb a)]at b;rw[<-b,gX o.nodup (anb a)];omega
theorem X_{we:Nat}{st:List Int}{t:Tb}{S0 S1:Nat->Prop}(so:wR st)(am:l9 h b N most S0)(ao:eZ h we b N (bZ st t N) S1){root:Bs 32}(ap:place root N<0->∀h',Ext h h'->R (anl [.ptr none,.ptr none,.i 7]).val h')
 (q:∀k:Nat,place root N=(k:Int)->∀h' f T g d,l9 h' f (eX N most k) most g->eZ h' T f (eX N most k) (bZ st t (eX N most k)) d->Ext h h'->(∀i,g i->h.size<=i)->(∀i,d i->h.size<=i)->(∀i,g i->¬d i)->
  R (anl [.ptr (PT f),.ptr (PT T),.i 0]).val h'):
 Cl 178 [.ptr (PT b),.ptr (PT we),.bytes 32 root] h R:=by
 apply Iy;delta js uR jr cr dD eW bz eU bJ bK aT bA;obtain⟨r,A,p,a3⟩:=am;refine aa λh1 v1 s s1=>⟨root,v1.bytes,Ut (p.ext s) (λhn C E=>⟨_,_,rfl,anq (ap hn C (s.trans E))⟩) λk hk C f g t2 E n2=>⟨_,_,rfl,am7 ?_⟩⟩;have F:=s.trans E;obtain⟨L,H⟩:∃L,L=eX N most k:=⟨_,rfl⟩;have ar:k<N.length:=by have:=(pQ root N).2.1;omega
 have aw:∀x∈L,0<=place x.root N:=λx I=>acM p.ok ar (H▸I);rw[<-H]at t2;have q:=q k hk;rw[<-H]at q;have J:=t2.lt;obtain⟨U,V,p2,K⟩:=t2;have a4:=p2.ok.len;have a5:=p2.ok.most;refine MQ p2 λh3 w3 O3 X3 B3 G3 aE M m=>⟨_,rfl,?_⟩;have W:=F.trans M;refine Ll (p2.ext M) λY sl Z u m4=>⟨_,rfl,?_⟩;have a0:=W.trans u;have ol:=Z.len;rw[pE,am6]at ol;refine⟨λσ hh=>∃i:Nat,σ.2=i/\i<=L.length/\Vc.Own 314 33 hh σ.1 (((L.take i).map (Iz st t)).map z_)/\Ext Y hh/\∀j,In σ.1 j->Y.size<=j,λσ _=>(L.length-σ.2).toNat,⟨0,rfl,ω,Vc.Own.nil _ _ _,am8 _,λj⟨l,hl,_⟩=>(by cases hl)⟩,?_⟩;rintro⟨D,ii⟩ h5 ⟨i,a,ab,v,e,w⟩;dsimp only at a v w⊢;subst a;have a1:=a0.trans e;refine ID (λa6=>?_) λa7=>?_
 ·have y:L[i]? =some (L[i]'ω):=anb ω;obtain⟨x,I⟩:∃x,x=L[i]'ω:=⟨_,rfl⟩;rw[<-I]at y;have ac:=aw x (ant y);refine lM (Z.ext e).elems ω (by rw[anu,anh,y];rfl) ?_;refine aa λh6 v6 x6 s6=>aq v6 eM.symm (eM.trans eM.symm) λh7 v7 f7 s7=>?_;have ad:=am4 x6 f7 λi a=>anc (anf a);have ae:=a1.trans ad;refine⟨_,v7.bytes,_,v7.bytes,?_⟩;obtain⟨O,X,B,G,wp,_⟩:=ao;refine aaf (WP.ext wp ae) (p.ext ae) λh8 x8=>⟨_,rfl,x8,?_⟩;have P:=ad.trans x8;have c:mV N (bZ st t N) x.root=pW t st x.root:=by unfold mV;rw[if_pos ac,X9 ac]
  rw[c];have a2:(L.take i).length=i:=by rw[anG];omega
  refine ag6 (x:=Iz st t x) (v.ext P) (by rw[am6,a2];omega) λs9 h9 o9 f9 n9=>?_;rw[wrap_i64 (n:=(i:Int)+1) ω ω];refine⟨⟨i+1,by simp,ω,?_,am4 (e.trans P) f9 λj o=>w j o,λj o=>?_⟩,ω⟩
  ·have:(L.take (i+1)).map (Iz st t)=(L.take i).map (Iz st t)++[Iz st t x]:=by rw[anH,y,anL];rfl
   rw[this];exact o9
  ·exact(n9 j o).elim (w j) λh=>by have:=e.size;have:=P.size;omega
 ·have ab:i=L.length:=ω;rw[ab,anA]at v;have z:=Nz (t:=t) so p2.ok.nodup L.length 0 ω;rw[anJ]at z;have pz:FJ st t L 0=λ_=>0:=rfl;rw[pz]at z;have Q:=(M.trans u).trans e;have al:=u.trans e;refine KO (own:=λ_=>0) ⟨U,V,p2.ext Q,rfl⟩ ⟨O3,X3,B3,G3,WP.ext aE al,rfl⟩ (λi a c=>?_) (λ_ _=>anj _) ?_ v.elems (λj o c=>?_) (by rw[am6];omega) z.1 λh6 d w6 S=>⟨_,rfl,?_⟩
  ·have:=J i (K▸a);have:=(m i c).1;omega
  ·unfold tot;rw[pP λ_ _=>rfl];decide
  ·have:=w j o;have:=(m j c).2;have:=u.size;omega
  ·rw[z.2]at w6;have n6:∀i,d i->C.size<=i:=λi a=>(S.new i a).elim (λh=>(m i h).1) λh=>by have:=Q.size;omega
   refine q h6 f w3 g d ⟨U,V,(p2.ext Q).only S.only λi a c=>?_,K⟩ w6 (am4 (W.trans al) S.only λi a=>?_) (λi a=>?_) (λi a=>?_) λi a c=>?_
   ·have:=J i (K▸a);have:=(m i c).1;omega
   ·have:=(m i a).1;have:=F.size;omega
   ·have:=n2 i a;have:=s.size;omega
   ·have:=n6 i a;have:=F.size;omega
   ·have:=J i a;have:=n6 i c;omega
theorem Sep.aeL{F:Nat->Nat->Prop}{q B:Nat->Prop}(s:Sep h F)(n0:∀i,q i->h.size<=i)(E:∀i,B i->h.size<=i)(qx:∀i,q i->¬B i)(H:∀i,q i->i<h'.size)(I:∀i,B i->i<h'.size)(sz:h.size<=h'.size):
 Sep h' (nT (nT F 0 q) 1 B):=by
 have e:∀j i,nT (nT F 0 q) 1 B j i->(j=1/\B i)\/(j=0/\q i)\/F j i:=λj i f=>by
  by_cases g:j=1
  ·simp_all [bY]
  ·rw[aB g]at f;by_cases n:j=0<;>simp_all [aB,bY]
 refine⟨λa b i k l=>?_,λj i f=>?_⟩
 ·rcases e a i k with⟨g,c⟩|⟨g,c⟩|c<;>rcases e b i l with⟨m,d⟩|⟨m,d⟩|d
  ·omega
  ·simp_all
  ·have:=E i c;have:=s.lt _ _ d;omega
  ·simp_all
  ·omega
  ·have:=n0 i c;have:=s.lt _ _ d;omega
  ·have:=E i d;have:=s.lt _ _ c;omega
  ·have:=n0 i d;have:=s.lt _ _ c;omega
  ·exact s.qx _ _ _ c d
 ·rcases e j i f with⟨_,c⟩|⟨_,c⟩|c
  ·simp_all
  ·simp_all
  ·have:=s.lt _ _ c;omega
theorem Uu{g:Nat}{a:Ad}{c:Cf}{V:List Vd}{s:St}{q:Nat->Nat->Prop}(p:aR h g a c V s q){root:Bs 32}(O:place root s.N<0->∀h',Ext h h'->R (TV.i 7).val h')
 (U:∀k:Nat,place root s.N=(k:Int)->∀h' z G,aR h' g z c V {s with N:=eX s.N c.no k} G->z.kd=a.kd->z.bk=a.bk->Step (dm q) h (dm G) h'->R (TV.i 0).val h'):
 Cl 115 [.ptr (PT a.bk),.bytes 32 root] h R:=by
 apply AL;delta j3 aD cr dJ bz dX bJ aT bA
 refine aa λn v1 f s1=>am7 ⟨_,(p.ext f).bk.ah rfl,_,(p.ext f).bk.ah rfl,root,v1.bytes,X_ p.st (p.ext f).tree (p.ext f).FP (λQ o A=>⟨_,_,_,rfl,anq (O Q o (f.trans A))⟩)
  λk B o r C u v t2 S A n0 T W=>⟨_,_,_,rfl,am7 ?_⟩⟩
 have D:=f.trans A;have p2:=p.ext D;refine aI p2.bk (i:=1) (t:=.ptr (PT r)) rfl rfl rfl rfl λh3 X f3 Y=>aI X (i:=2) (t:=.ptr (PT C)) rfl rfl rfl rfl λl v4 f4 Z=>?_;have f24:ag (·=a.bk) o l:=f3.trans f4;have ab:l.size=o.size:=Z.trans Y;have H:q 3 a.bk:=by rw[p.f3]
 have ac:=p.sep.lt 3 _ H;have ad:=D.size;have z1:=f.size;have E:∀i,u i->h.size<=i:=λi b=>by have:=n0 i b;omega
 have F:∀i,v i->h.size<=i:=λi b=>by have:=T i b;omega
 have m:∀k,k≠3->∀i,q k i->i≠a.bk:=λk B i b e=>p.sep.off B i b (e▸H);obtain⟨F',w⟩:∃F',F'=nT (nT q 0 u) 1 v:=⟨_,rfl⟩;have I:F' 0=u:=by rw[w,aB δ,bY]
 have J:F' 1=v:=by rw[w,bY]
 have d:∀k,k≠0->k≠1->F' k=q k:=λk x n=>by rw[w,aB n,aB x]
 have t4:l9 l r (eX s.N c.no k) c.no u:=t2.only f24 λi b e=>by have:=E i b;omega
 have K:eZ l C r (eX s.N c.no k) (bZ (aL V) s.tb (eX s.N c.no k)) v:=S.only f24 λi b e=>by have:=F i b;omega
 have L:∀j i,F' j i->q j i\/h.size<=i:=λj i b=>by
  by_cases n:j=1
  ·rw[n,J]at b;exact .inr (F i b)
  ·by_cases x:j=0
   ·rw[x,I]at b;exact .inr (E i b)
   ·rw[d j x n]at b;exact .inl b
 have P:aR l g {a with tr:=r,we:=C} c V {s with N:=eX s.N c.no k} F':=by
  refine⟨?_,by rw[I];exact t4,by rw[J];exact K,?_,v4,?_,?_,?_,?_,?_,?_,?_,?_,?_,?_,p.can⟩
  ·rw[w];exact p.sep.aeL E F W t4.lt K.lt ω
  ·rw[d 2 δ δ];exact p2.gH.only f24 (m 2 δ)
  ·rw[d 3 δ δ];exact p.f3
  ·rw[d 4 δ δ];exact p2.kids.only f24 (m 4 δ)
  ·rw[d 5 δ δ];exact p2.wait.only f24 (m 5 δ)
  ·rw[d 6 δ δ];exact p2.who.only f24 (m 6 δ)
  ·exact p2.kz.only f24 (m 7 δ _ (by rw[p.f7]))
  ·rw[d 7 δ δ];exact p.f7
  ·exact p2.var.only f24 (m 8 δ _ (by rw[p.f8]))
  ·rw[d 8 δ δ];exact p.f8
  ·exact TV.ck f24 p2.vals λi b e=>p.off 3 i (by rw[p.f3];exact e) b
  ·exact λj i b M=>(L j i b).elim (λy=>p.off j i y M) λy=>by have:=p.x.SF i M;omega
 refine U k B l _ F' P rfl rfl ⟨(ag.an D).trans (f24.mono λi e=>⟨3,by rw[p.f3];exact e⟩),λi⟨j,hj⟩=>(L j i hj).imp (λy=>⟨j,y⟩) id⟩
theorem Uv{g:Nat}{a:Ad}{c:Cf}{V:List Vd}{s:St}{q:Nat->Nat->Prop}(p:aR h g a c V s q)(E:∀h',Ext h h'->R (anv 32 (mU s.N (bZ (aL V) s.tb s.N))).val h'):
 Cl 121 [.ptr (PT a.bk)] h R:=by
 apply nN;refine aa λl v1 b m=>am7 ⟨_,(p.ext b).bk.ah rfl,?_⟩;obtain⟨r,A,e,n⟩:=(p.ext b).tree;obtain⟨O,X,B,G,f,o⟩:=(p.ext b).FP;refine TU f e λt d=>⟨_,rfl,aq (v1.ext d) eM.symm (eM.trans eM.symm) λj k f3 u=>⟨_,k.bytes,E j (am4 (b.trans d) f3 λi v=>?_)⟩⟩;omega
end
end Gate
namespace Gate
open Board (Vd Cf aq wI)
open Pool (It WL dV Fit)
def aX(c:Cf)(s:St)(root:Bs 32):Int×St:=
 if place root s.N<0 then(7,s)
 else(0,{s with N:=eX s.N c.no (place root s.N).toNat,kids:=s.kids.filter λx=>!decide (x.slot<=(bT {s with N:=eX s.N c.no (place root s.N).toNat}).slot)})
section
variable{R:Rq}{h h':af}{g:Nat}{a:Ad}{c:Cf}{V:List Vd}{s:St}{Fp:Nat->Nat->Prop}
theorem vF(p:aR h g a c V s Fp){root:Bs 32}
 (q:∀h' f m,aR h' g f c V (aX c s root).2 m->Step (dm Fp) h (dm m) h'->R (TV.i (aX c s root).1).val h'):
 Cl 41 [.ptr (PT g),.bytes 32 root] h R:=by
 apply lg;delta aD i_ cu cr dJ jW bz dX eU bJ aT bA;refine aa λj v1 b L=>am7 ⟨_,(p.ext b).var.ah rfl,root,v1.bytes,Uu (p.ext b) (λA n o=>⟨_,rfl,anq ?_⟩) λk B n f C p2 M O D=>⟨_,rfl,am7 ?_⟩⟩
 ·have e:aX c s root=(7,s):=by unfold aX;rw[if_pos A]
  rw[e]at q;exact q n a Fp (p.ext (b.trans o)) (.an (b.trans o))
 ·have e:aX c s root=(0,{s with N:=eX s.N c.no k,kids:=s.kids.filter λx=>!decide (x.slot<=(bT {s with N:=eX s.N c.no k}).slot)}):=by
   unfold aX;rw[if_neg ω,B,anu]
  rw[e]at q;refine Ef p2 λE F=>⟨_,_,rfl,aa λP v4 G Q=>aH v4 (t:=.bytes 32 (bT {s with N:=eX s.N c.no k}).root) wI λr S f5 T=>?_⟩;have H:Ext E r:=am4 G f5 λi d=>anc (anf d);have u:=F.trans H;have l:=p2.ext u;obtain⟨v,U,I,J⟩:=l.kids;refine⟨_,l.var.ah rfl,Pool.TP I λw y K z=>⟨_,rfl,?_⟩⟩
  have st:Step (C 4) r (λi=>i=f.kd\/dV v y i) w:=by
   rw[J]
   exact⟨z.only.mono λi d=>.inr d,λi d=>by
    rcases d with j|j
    ·exact .inl (.inl j)
    ·exact(z.new i j).imp .inr id⟩
  exact q w f _ (l.tj ⟨v,y,K,rfl⟩ st) (.cut b ((D.trans (.an u)).trans (Step.all st)))
theorem Uw{k:Nat}(q:Kept c s k){root:Bs 32}:Kept c (aX c s root).2 k:=by
 unfold aX;split
 ·exact q
 ·have b:=q.left;have:=anz (λx:It=>!decide (x.slot<=(bT {s with N:=eX s.N c.no (place root s.N).toNat}).slot)) s.kids;have d:=q.Cd;exact⟨q.now,q.AG,by dsimp only;omega,q.AH,λx a=>q.Ek x (List.mem_filter.1 a).1,by dsimp only;omega,q.gone⟩
end
end Gate
namespace Gate
open Board (Vd Cf Vt Ms Dm jx aq aY bh jG Et bB fR cv)
open Pool (It qw RL fq Fit Bk lK eM Dw rts)
def DA(Q S:Nat->Prop)(h:af):Prop:=∀i,Q i->¬S i/\i<h.size
theorem DA.step{Q S S':Nat->Prop}{h h':af}(q:DA Q S h)(st:Step S h S' h'):DA Q S' h':=λi a=>by
 obtain⟨d,e⟩:=q i a;have:=st.only.size;refine⟨λb=>?_,ω⟩;rcases st.new i b with c|c<;>grind
theorem DA.elems{Q S:Nat->Prop}{h h':af}(q:DA Q S h)(f:ag S h h'){sz:Nat}{s:Sl}{ts:List TV}(e:aj sz h s ts)(A:∀i,In s i->Q i):aj sz h' s ts:=
 TV.ck f e λi a=>(q i (A i a)).1
theorem Se(t:Tb)(v:Vt):(c_ t v).2.first.length<=t.first.length+1:=by
 grind [List.length_singleton,List.length_append,c_]
theorem Sf(N:List Nd)(t:Tb)(v:Vt):(iS N t v).2.first.length<=t.first.length+1:=by
 grind [Se,iS]
theorem vG(N:List Nd):∀(W:List Vt)(t:Tb),(iw N t W).first.length<=t.first.length+W.length
 |[],t=>by simp[iw]
 |v::W,t=>by
  have a:=Sf N t v;have b:=vG N W (iS N t v).2
  grind [iw,List.length_cons,iS]
theorem Lm{c:Cf}{V:List Vd}(q:V.length<=64)(x:It):(qQ c V x).length<=65:=by
 grind [row,Board.si,Board.jG,lK,qQ,am6,am5]
theorem vH{c:Cf}{V:List Vd}(q:V.length<=64)(N:List Nd):∀(L:List It)(t:Tb),(f_ c V N t L).first.length<=t.first.length+65*L.length
 |[],t=>by simp[f_]
 |x::L,t=>by
  have a:=vG N (qQ c V x) t;have b:=vH (c:=c) q N L (iw N t (qQ c V x))
  grind [List.length_cons,qQ,f_,iw,Lm]
def SG(s:St)(k:Nat):Prop:=s.tb.first.length+65*s.wait.length<=65*k
section
variable{R:Rq}{h h':af}{g:Nat}{a:RAd}{c:Cf}{V:List Vd}{s:St}{Fp:Nat->Nat->Prop}
theorem Sg(p:aZ h g a c V s Fp)(q:s.tb.first.length<49999){v:Vt}
 (E:∀h' S',aZ h' g a c V {s with tb:=(iS s.N s.tb v).2} (nT Fp 1 S')->Step (Fp 1) h S' h'->R (TV.i (iS s.N s.tb v).1).val h'):
 Cl 112 [.ptr (PT a.bk),v.tv] h R:=by
 obtain⟨A,B,D,b,l⟩:=p.tree;obtain⟨m,d,Ha,e,tb,f⟩:=p.gH;refine RZ p.bk b tb q λi j k st=>?_;rw[<-f]at st;exact E i _ (p.FD ⟨j,d,Ha,e,k,rfl⟩ st) st
theorem Ea(p:aZ h g a c V s Fp){k:Nat}(O:Kept c s k)(fw:SG s k)(q:k<700)
 (U:∀h' am,aZ h' g a c V (fC c V s).2 am->Step (dm Fp) h (dm am) h'->R (ani (fC c V s).1).val h'):
 Cl 40 [.ptr (PT g)] h R:=by
 apply rN;delta aF gL aO cu cE fE bK aT lq;have kn:=O.now;have cw:=Clock.CP c.win;have cp:=p.can.pe;have cd:=p.can.dec;have hg:=p.good;obtain⟨ti,ba,E⟩:=p.var;refine⟨_,E.ah rfl,?_⟩;by_cases ao:1073741824<=s.now
 ·have e:fC c V s=(false,s):=by unfold fC;rw[if_pos ao]
  rw[e]at U;exact Clock.XD p.kz (show s.now=1073741824 by omega) ⟨_,rfl,anq (U h Fp p (.an (am8 _)))⟩
 refine Clock.Ea p.kz ω kn.1 λC c1 f1 s1=>⟨_,rfl,am7 ?_⟩;obtain⟨N,bd⟩:=p.Pd c1 f1;obtain⟨n,hn⟩:∃n,n=s.now+1:=⟨_,rfl⟩;rw[<-hn]at N;obtain⟨ti,ba,E⟩:=N.var;obtain⟨A,B,rp,hP⟩:=N.who;refine⟨_,E.ah rfl,Peers.Ul Peers.Po rp (by grind) hg.1.low cd λJ A2 B2 bi g2=>⟨rfl,?_⟩⟩
 have ap:Step (Fp 5) C (Peers.dV a.wh A2 B2) J:=by
  rw[hP];exact⟨g2.1,g2.2⟩
 have gt:Peers.Good (Peers.tick c.dec s.sc)/\(Peers.tick c.dec s.sc).length<=c.pe:=⟨hg.1.tick cd.1,by grind [Peers.BZ]⟩;have p2:=N.CR ⟨A2,B2,bi,rfl⟩ gt ap;have ar:=bd.trans (Step.all ap);obtain⟨P,bj⟩:∃P,P=nT Fp 5 (Peers.dV a.wh A2 B2):=⟨_,rfl⟩;rw[<-bj]at p2 ar;obtain⟨ti,ba,E⟩:=p2.var;obtain⟨wA,wp,hW⟩:=p2.wait;refine⟨_,E.ah rfl,_,E.ah rfl,n,p2.kz.now,?_⟩;refine Pool.Px wp (λx r=>(O.AH x r).1) λh3 A3 t bs w3 g3 ad o3 K3 bk=>⟨_,rfl,?_⟩
 have aw:Step (P 4) J (λi=>i=a.wt\/In A3 i) h3:=by
  simp_all [xJ]
 have S:=p2.B_ ⟨A3,w3,rfl⟩ aw;have aE:=ar.trans (Step.all aw);obtain⟨G,a0⟩:∃G,G=nT P 4 (λi=>i=a.wt\/In A3 i):=⟨_,rfl⟩;rw[<-a0]at S aE;have bl:=o3.lt;obtain⟨L,hL⟩:∃L,L=s.wait.filter λx=>decide (x.slot<n):=⟨_,rfl⟩;have ad:bs.map Bk.of=L.map λx=>(x.root,lK x.text):=by simp_all
 have cl:bs.length=L.length:=by have:=congrArg List.length ad;simpa using this
 have hwl:=O.AG;have cs:L.length<=s.wait.length:=by rw[hL];exact anz _ _
 have ce:=p.can.eH;have tl:=o3.elems.len;rw[am6]at tl;have a1:=p.can.len;have el:=p.el;have bm:=FH p.can el;obtain⟨Q,hQ⟩:∃Q:Nat->Prop,Q=λi=>In t i\/∃k∈bs,In k.b i:=⟨_,rfl⟩
 have a2:∀i,G 1 i->i<J.size:=λi b=>by
  rw[a0,aB δ]at b;exact p2.sep.lt 1 i b
 have bo:DA Q (G 1) h3:=λi b=>by
  rw[hQ]at b;rcases b with⟨l,u,e⟩|⟨y,T,l,u,e⟩
  ·have C:=bk l u;have J:=bl l u;exact⟨λr=>by have:=a2 i r;omega,ω⟩
  ·have C:=(K3 y T).2 l u;exact⟨λr=>by have:=a2 i r;omega,ω⟩
 obtain⟨o,K⟩:∃o:St,o={s with now:=n,sc:=Peers.tick c.dec s.sc,gone:=s.gone,wait:=s.wait.filter λx=>!decide (x.slot<n)}:=⟨_,rfl⟩;have S:aZ h3 g a c V o G:=by rw[K];exact S
 have hT:fC c V s=(true,{o with tb:=dW (f_ c V s.N s.tb L) (Vc.mx (n-Clock.fB c.win) 0)}):=by unfold fC;rw[if_neg ao,hL,K,hn]
 rw[hT]at U;have hN:o.N=s.N:=by rw[K]
 have bp:o.tb=s.tb:=by rw[K]
 have ct:s.tb.first.length+65*s.wait.length<=65*k:=fw
 have tf:∀i,i<=L.length->(f_ c V s.N s.tb (L.take i)).first.length+65*(L.length-i)<=65*k:=λi b=>by
  have C:=vH (c:=c) a1.2 s.N (L.take i) s.tb;rw[anG]at C;have:min i L.length=i:=ω;rw[this]at C;omega
 refine⟨λσ f=>∃i:Nat,σ=i/\i<=bs.length/\∃F,aZ f g a c V {o with tb:=f_ c V s.N s.tb (L.take i)} F/\Step (dm Fp) h (dm F) f/\DA Q (F 1) f/\aj 53 f t (bs.map Bk.Xj)/\∀k∈bs,aj 1 f k.b (aY k.d.row),
  λσ _=>(bs.length-σ).toNat,⟨0,rfl,Nat.zero_le _,G,by rw[anN];unfold f_;rw[List.foldl_nil,<-bp];exact S,aE,bo,o3.elems,λk q=>(K3 k q).1⟩,?_⟩
 rintro σ h4 ⟨i,rfl,b,F4,z,a3,br,e4,k4⟩;refine ID (λa4=>?_) λa4=>?_
 ·have bt:i<bs.length:=ω;obtain⟨x,r⟩:∃x,L[i]? =some x:=⟨_,anb ω⟩;refine e4.read ω a4 λl1 t1 ha1 a5 bx=>?_;rw[anu,anh]at a5;obtain⟨y,T,rfl⟩:=Option.map_eq_some_iff.1 a5
  have a6:y.d=lK x.text:=by
   have X:(bs.map Bk.of)[i]? =some y.of:=by rw[anh,T];rfl
   rw[ad,anh,r]at X;injection X with X;injection X with cx bN;exact bN.symm
  have b0:=ant T;refine⟨y.ms.kind,y.ms.slot,y.ms.target,y.ms.ax,y.ms.body,y.ms.bits,y.ms.tag,bx,?_⟩;refine aa λh5 v5 x5 s5=>aq (t0:=bh.tv) v5 (t:=y.ms.tv) cv fR λh6 v6 f6 s6=>?_;have Y:Ext h4 h6:=am4 x5 f6 λi b=>anc (anf b);have p6:=z.ext Y;have cy:=Y.size;obtain⟨cA,cB,b1⟩:=p6.var;refine⟨c.vals,c.ep,c.aQ,c.no,c.eV,c.eH,c.quo,c.pe,c.iy,c.win,c.bH,c.dec,b1.at.1,bB (m:=y.ms) v6 ?_⟩
  have b2:y.d.row.length<500:=by
   have b3:x∈s.wait:=by
    have:=ant r;rw[hL]at this;exact(List.mem_filter.1 this).1
   obtain⟨_,d,hd,_,_⟩:=O.AH x b3;rw[a6,Pool.rY hd];exact Pool.oF hd
  refine Board.Lh (c:=c) (m:=y.ms) (row:=y.d.row) bm ((k4 y b0).ext Y) b2 λh7 w Z x7 b5=>⟨_,rfl,?_⟩;have ab:=Y.trans x7;have z7:=x7.size;have p7:=p6.ext x7;obtain⟨W,a7⟩:∃W,W=jG c.vals.len c.aQ y.ms y.d.row:=⟨_,rfl⟩;rw[<-a7]at Z
  have a8:W=qQ c V x:=by
   rw[a7];unfold qQ Bk.ms;rw[K4,<-a6,el]
  have cC:W.length<=65:=by rw[a8];exact Lm a1.2 x
  obtain⟨B',hB⟩:∃B',B'=f_ c V s.N s.tb (L.take i):=⟨_,rfl⟩;have b6:=tf i ω;rw[<-hB]at p7 b6;have a9:=Z.len;unfold Et at a9;rw[am6]at a9
  have b7:∀l,W≠[]->w.a=some l->l.b<h7.size:=λl D u=>by
   obtain⟨v,hv⟩:∃v,W[0]? =some v:=⟨_,anb (List.length_pos_iff.2 D)⟩;have b8:=Z.get l u 0 v.tv (by unfold Et;rw[anh,hv];rfl);exact xY (show ah h7 l.b (l.o+0*34) (.i v.who)from b8.1)
  have b9:DA (λi=>Q i\/(W≠[]/\In w i)) (F4 1) h7:=λj hj=>by
   rcases hj with hj|⟨D,l,u,e⟩
   ·have:=br j hj;exact⟨this.1,by have:=ab.size;omega⟩
   ·have C:=b5 l u;have J:=b7 l D u;exact⟨λq=>by have:=z.sep.lt 1 j q;omega,ω⟩
  refine⟨λσ f=>∃j:Nat,σ=j/\j<=W.length/\∃F,aZ f g a c V {o with tb:=iw s.N B' (W.take j)} F/\Step (dm Fp) h (dm F) f/\DA (λi=>Q i\/(W≠[]/\In w i)) (F 1) f/\aj 53 f t (bs.map Bk.Xj)/\(∀k∈bs,aj 1 f k.b (aY k.d.row))/\(W≠[]->aj 34 f w (Et W)),
   λσ _=>(W.length-σ).toNat,⟨0,rfl,Nat.zero_le _,F4,by rw[anN];exact p7,a3.trans (.an ab),b9,e4.ext ab,λk q=>(k4 k q).ext ab,λ_=>Z⟩,?_⟩
  rintro σ h8 ⟨j,rfl,hj,F8,p8,a',ae,e8,k8,w8⟩;refine ID (λb'=>?_) λb'=>?_
  ·have H:j<W.length:=ω;have D:W≠[]:=λe=>by rw[e]at H;simp at H
   obtain⟨v,hv⟩:∃v,W[j]? =some v:=⟨_,anb H⟩;refine VP (w8 D) hv ?_;refine aa λh9 v9 x9 s9=>aq (t:=v.tv) v9 rfl rfl λh10 v10 f10 cI=>?_;have I:Ext h8 h10:=am4 x9 f10 λi b=>anc (anf b);have bb:=p8.ext I;obtain⟨cJ,cK,ca⟩:=bb.var
   have cc:(iw s.N B' (W.take j)).first.length<49999:=by
    have:=vG s.N (W.take j) B';rw[anG]at this;omega
   refine⟨_,ca.ah rfl,v.who,v.slot,v.target,v10.at,Sg bb cc λcM S11 cf M=>⟨_,rfl,?_⟩⟩;have cP:=I.size;have ac:DA (λi=>Q i\/(W≠[]/\In w i)) (F8 1) h10:=λi b=>⟨(ae i b).1,by have:=(ae i b).2;omega⟩
   have eT:iw s.N B' (W.take (j+1))=(iS s.N (iw s.N B' (W.take j)) v).2:=by
    unfold iw;rw[anH,hv,List.foldl_append];rfl
   rw[show am9 .i64 ((j:Int)+1)=((j+1:Nat):Int) by rw[wrap_i64 ω ω];omega]
   refine⟨⟨j+1,rfl,H,nT F8 1 S11,?_,(a'.trans (.an I)).trans (Step.all M),by rw[bY];exact ac.step M,ac.elems M.only (e8.ext I) λi b=>.inl (by rw[hQ];exact .inl b),λk q=>ac.elems M.only ((k8 k q).ext I) λi b=>.inl (by rw[hQ];exact .inr ⟨k,q,b⟩),
    λ_=>ac.elems M.only ((w8 D).ext I) λi b=>.inr ⟨D,b⟩⟩,by dsimp only;omega⟩
   rw[eT,show iS s.N=iS o.N by rw[hN]];exact cf
  ·have H:j=W.length:=ω;rw[H,anA]at p8;rw[show am9 .i64 ((i:Int)+1)=((i+1:Nat):Int) by rw[wrap_i64 ω ω];omega];refine⟨⟨i+1,rfl,bt,F8,?_,a',λi b=>ae i (.inl b),e8,k8⟩,by dsimp only;omega⟩
   have eT:f_ c V s.N s.tb (L.take (i+1))=iw s.N B' (qQ c V x):=by
    rw[hB];unfold f_;rw[anH,r,List.foldl_append];rfl
   rw[eT,<-a8];exact p8
 ·have ch:i=L.length:=ω;rw[ch,anA]at z;have n3:o.now=n:=by rw[K]
  obtain⟨cR,cS,bc⟩:=z.var;refine⟨_,bc.ah rfl,_,z.bk.ah rfl,_,bc.ah rfl,Clock.HK z.kz (by dsimp only;omega) (by dsimp only;omega) cw.1 cw.2 ⟨_,rfl,am8 _,?_⟩⟩;obtain⟨Fi,La,Ha,Ou,tb,hB⟩:=z.gH;refine Pb tb ?_ λh5 ci cj al=>⟨rfl,?_⟩
  ·dsimp only;rw[n3];unfold Vc.mx;split<;>omega
  ·rw[<-hB]at al;have p5:=z.FD ⟨ci,La,Ha,Ou,cj,rfl⟩ al;refine U h5 _ ?_ (a3.trans (Step.all al));dsimp only at p5⊢;rw[n3]at p5⊢;exact p5
theorem Ux(p:aZ h g a c V s Fp){root:Bs 32}(H:place root s.N<0->∀h',Ext h h'->R (TV.i 7).val h')
 (I:∀k:Nat,place root s.N=(k:Int)->∀h' r C,aZ h' g r c V {s with N:=eX s.N c.no k} C->r.kd=a.kd->r.bk=a.bk->Step (dm Fp) h (dm C) h'->R (TV.i 0).val h'):
 Cl 118 [.ptr (PT a.bk),.bytes 32 root] h R:=by
 obtain⟨A,B,D,G,L⟩:=p.tree;refine Ui p.bk G H λk t q u A' B' D' t4 v4 f4 lo=>?_;have J:Fp 2 a.bk:=by rw[p.f2]
 have f:∀k,k≠2->∀i,Fp k i->¬i=a.bk:=λk t i n e=>p.sep.off t i n (e▸J);have z:=f4.size;obtain⟨o,E⟩:∃o,o=Dx u A' B' D':=⟨_,rfl⟩;have v:=λi n=>lo i (E▸n);have K:zl q u (eX s.N c.no k) c.no o:=⟨A',B',D',t4,E⟩
 have st:Step (dm Fp) h (dm (nT Fp 0 o)) q:=⟨f4.mono λi e=>⟨2,by rw[p.f2];exact e⟩,λi⟨j,b⟩=>by
  by_cases e:j=0
  ·simp_all [bY]
  ·rw[aB e]at b;exact .inl ⟨j,b⟩⟩
 have P:aZ q g {a with tr:=u} c V {s with N:=eX s.N c.no k} (nT Fp 0 o):=by
  refine⟨⟨λx y i l m=>?_,λj i b=>?_⟩,by simp_all [bY],?_,v4,?_,?_,?_,?_,p.good,?_,?_,?_,?_,?_,?_,p.can⟩
  ·by_cases d:x=0<;>by_cases w:y=0
   ·omega
   ·rw[d]at l;rw[aB w]at m;have:=v i l;have:=p.sep.lt y i m;omega
   ·rw[w]at m;rw[aB d]at l;have:=v i m;have:=p.sep.lt x i l;omega
   ·rw[aB d]at l;rw[aB w]at m;exact p.sep.qx _ _ _ l m
  ·by_cases d:j=0
   ·rw[d]at b;exact K.lt i b
   ·rw[aB d]at b;have:=p.sep.lt j i b;omega
  ·exact p.gH.only f4 (f 1 δ)
  ·exact p.f2
  ·exact p.kids.only f4 (f 3 δ)
  ·exact p.wait.only f4 (f 4 δ)
  ·exact p.who.only f4 (f 5 δ)
  ·exact p.kz.only f4 (f 6 δ _ (by rw[p.f6]))
  ·exact p.f6
  ·exact qs p.var f4 (f 7 δ _ (by rw[p.f7]))
  ·exact p.f7
  ·exact TV.ck f4 p.vals λi n e=>p.off 2 i (by rw[p.f2];exact e) n
  ·intro j i b F;by_cases d:j=0
   ·rw[d]at b;have:=v i b;have:=p.SF i F;omega
   ·rw[aB d]at b;exact p.off j i b F
 exact I k t q _ _ P rfl rfl st
theorem Ln(p:aZ h g a c V s Fp){root:Bs 32}
 (q:∀h' d j,aZ h' g d c V (aX c s root).2 j->Step (dm Fp) h (dm j) h'->R (TV.i (aX c s root).1).val h'):
 Cl 42 [.ptr (PT g),.bytes 32 root] h R:=by
 apply nt;refine aa λF v1 b G=>?_;obtain⟨H,I,v⟩:=(p.ext b).var;refine⟨_,v.ah rfl,root,v1.bytes,Ux (p.ext b) (λw f l=>⟨_,rfl,am7 ?_⟩) λk J f d y p2 K L z=>⟨_,rfl,anq ?_⟩⟩
 ·have e:aX c s root=(7,s):=by unfold aX;rw[if_pos w]
  rw[e]at q;exact q f a Fp (p.ext (b.trans l)) (.an (b.trans l))
 ·have e:aX c s root=(0,{s with N:=eX s.N c.no k,kids:=s.kids.filter λx=>!decide (x.slot<=(bT {s with N:=eX s.N c.no k}).slot)}):=by
   simp_all [if_neg,anu,aX]
  rw[e]at q;obtain⟨M,A,O,m,P⟩:=p2.tree;have B:=p2.tok.Gf;obtain⟨u,n⟩:∃u,(eX s.N c.no k)[(0:Int).toNat]? =some u:=⟨_,anb B⟩;have C:bT {s with N:=eX s.N c.no k}=u:=by unfold bT;rw[ig (anj 0) n]
  rw[C]at q;obtain⟨Q,S,o⟩:=p2.var;obtain⟨T,D,U⟩:=p2.kids;refine⟨_,o.ah rfl,_,o.ah rfl,_,p2.bk.ah rfl,A,m.var.ah rfl,qL m.b.elems (anj 0) (CL n) (Pool.OZ D λr t E W=>⟨_,rfl,?_⟩)⟩;have st:Step (y 3) f (λi=>i=d.kd\/In t i) r:=by simp_all [xJ]
  exact q r d _ (p2.tj ⟨t,E,rfl⟩ st) (.cut b (z.trans (Step.all st)))
theorem Uy(p:aZ h g a c V s Fp)(q:∀h',Ext h h'->R (anv 32 (mU s.N (bZ (aL V) s.tb s.N))).val h'):
 Cl 123 [.ptr (PT g)] h R:=by
 apply rO;refine aa λo v1 f r=>?_;have b:=p.ext f;have d:=Ka p.can;obtain⟨t,u,l⟩:=b.var;obtain⟨A,B,D,j,v⟩:=b.tree;obtain⟨x,y,Ha,z,tb,C⟩:=b.gH;refine⟨_,l.ah rfl,L7 b.bk j tb b.vals d λE w O m e=>⟨_,rfl,TX (j.ext e) m (λi _=>rE d i) (uC d p.tok.nodup) λF k=>⟨_,rfl,?_⟩⟩⟩;refine aq ((v1.ext e).ext k) eM.symm (eM.trans eM.symm) λn v4 f4 G=>⟨_,v4.bytes,q n (am4 ((f.trans e).trans k) f4 λi H=>?_)⟩;omega
end
end Gate
namespace Gate
open Board (Vd Cf Ms)
open Pool (It Fit)
def gh(s:St)(P:List (Int×Int)):St:={s with sc:=P}
section
variable{c:Cf}{V:List Vd}{s:St}{P:List (Int×Int)}
theorem Uz{no:Int}{r:Bs 32}{q:List (Bs 32)}{x:It}:aW no r (gh s P,q) x=(gh (aW no r (s,q) x).1 P,(aW no r (s,q) x).2):=by
 unfold aW;have e:(gh s P).N=s.N:=rfl;simp only[e];split
 ·rfl
 ·split
  ·rfl
  ·rfl
theorem Lo{no:Int}{r:Bs 32}:∀(L:List It)(s:St)(q:List (Bs 32)),L.foldl (aW no r) (gh s P,q)=(gh (L.foldl (aW no r) (s,q)).1 P,(L.foldl (aW no r) (s,q)).2)
 |[],_,_=>rfl
 |x::L,s,q=>by
  rw[List.foldl_cons,List.foldl_cons,Uz];obtain⟨p,A⟩:∃p,p=aW no r (s,q) x:=⟨_,rfl⟩;rw[<-A];exact Lo L p.1 p.2
theorem FK{no:Int}:∀(f:Nat)(q:List (Bs 32))(s:St),fZ no f q (gh s P)=gh (fZ no f q s) P
 |0,_,_=>rfl
 |_+1,[],_=>rfl
 |f+1,r::q,s=>by
  unfold fZ;have e:(gh s P).kids=s.kids:=rfl;rw[e,show({gh s P with kids:=s.kids.filter λx=>!decide (x.fr=r)}:St)=gh {s with kids:=s.kids.filter λx=>!decide (x.fr=r)} P from rfl,Lo];exact FK f _ _
theorem Si{peer:Int}{m:Ms}{row:List Bool}{text:LU}:c5 c (gh s P) peer m row text=((c5 c s peer m row text).1,gh (c5 c s peer m row text).2 P):=by
 unfold c5;have e:(gh s P).N=s.N:=rfl;have a:(gh s P).kids=s.kids:=rfl;rw[e,a];split
 ·rfl
 split
 ·rfl
 split
 ·rfl
 ·unfold lQ;rw[show({gh s P with N:=gw (gh s P).N c.no (Board.bw m row) m.target m.slot}:St)=gh {s with N:=gw s.N c.no (Board.bw m row) m.target m.slot} P from rfl,a,FK]
theorem Sj{m:Ms}{row:List Bool}:dw c V (gh s P) m row=dw c V s m row:=rfl
theorem HU{peer:Int}{text:LU}(q:Peers.score P peer=Peers.score s.sc peer):aG c V (gh s P) peer text=((aG c V s peer text).1,gh (aG c V s peer text).2 P):=by
 unfold aG;have e:(gh s P).sc=P:=rfl;rw[e,q];split
 ·rfl
 split
 ·rfl
 split
 ·rfl
 ·rw[Sj];split
  ·rfl
  split
  ·exact Si
  ·rfl
theorem UA:fC c V (gh s P)=((fC c V s).1,gh (fC c V s).2 (if 1073741824<=s.now then P else Peers.tick c.dec P)):=by
 unfold fC;have e:(gh s P).now=s.now:=rfl;rw[e];split
 ·rfl
 ·rfl
theorem Sk{root:Bs 32}:aX c (gh s P) root=((aX c s root).1,gh (aX c s root).2 P):=by
 unfold aX;have e:(gh s P).N=s.N:=rfl;rw[e];split
 ·rfl
 ·rfl
theorem lR{q:Sl}{peer:Int}{text:LU}:aG {c with vals:=q} V s peer text=aG c V s peer text:=rfl
theorem NA{q:Sl}:fC {c with vals:=q} V s=fC c V s:=rfl
theorem Eo{q:Sl}{root:Bs 32}:aX {c with vals:=q} s root=aX c s root:=rfl
theorem NB{k:Nat}(q:Kept c s k):Kept c s (k+1):=⟨q.now,q.AG,q.Cd,q.AH,q.Ek,by have:=q.left;omega,by have:=q.gone;omega⟩
theorem aa5{k:Nat}(f:SG s k):SG s (k+1):=by unfold SG at*;omega
theorem UB{k:Nat}{Q:List (Int×Int)}{n:Int}(f:SG s k):SG {s with sc:=Q,gone:=n} k:=f
theorem PD{k:Nat}{Q:List (Int×Int)}(q:Kept c s k):Kept c (gh s Q) k:=⟨q.now,q.AG,q.Cd,q.AH,q.Ek,q.left,q.gone⟩
theorem GW{k:Nat}(q:Kept c s k)(f:SG s k){peer:Int}{text:LU}(A:text.length<1000):SG (aG c V s peer text).2 (k+1):=by
 have a:∀m row,(c5 c s peer m row text).2.wait=s.wait/\(c5 c s peer m row text).2.tb=s.tb:=λm row=>by
  have:=(KX (c:=c) q (peer:=peer) A (m:=m) (row:=row)).2;exact⟨this.wait,this.tb⟩
 unfold SG at*;unfold aG;split
 ·dsimp only;omega
 split
 ·dsimp only;omega
 split
 ·dsimp only;omega
 split
 ·dsimp only;omega
 split
 ·rw[(a _ _).1,(a _ _).2];omega
 ·have:=VO (want:=zU) (most:=c.eH) (quota:=c.quo) (peer:=peer) (text:=text) (S:=s.wait);dsimp only;omega
theorem mZ{k:Nat}(q:Kept c s k){peer:Int}{text:LU}(A:text.length<1000){Q:List (Int×Int)}{n:Int}(B:0<=n/\n<=1):Kept c {(aG c V s peer text).2 with sc:=Q,gone:=s.gone+n} (k+1):=by
 obtain⟨a,_,_,_,_⟩:=zj (V:=V) q (peer:=peer) A;have:=q.gone;exact⟨a.now,a.AG,a.Cd,a.AH,a.Ek,a.left,by dsimp only;omega⟩
theorem NC{k:Nat}(q:Kept c s k):Kept c (fC c V s).2 (k+1):=by
 unfold fC;split
 ·exact NB q
 ·have:=anz (λx:It=>!decide (x.slot<s.now+1)) s.wait;have b:=q.AG;have d:=q.now;have e:=q.left;have f:=q.gone;exact⟨by dsimp only;omega,by dsimp only;omega,q.Cd,λx a=>q.AH x (List.mem_filter.1 a).1,q.Ek,by dsimp only;omega,by dsimp only;omega⟩
theorem aa6{k:Nat}(q:V.length<=64)(f:SG s k):SG (fC c V s).2 (k+1):=by
 unfold SG at*;unfold fC;split
 ·dsimp only;omega
 ·have a:=vH (c:=c) q s.N (s.wait.filter λx=>decide (x.slot<s.now+1)) s.tb;have b:=zi s.wait λx=>decide (x.slot<s.now+1)
  have d:(dW (f_ c V s.N s.tb (s.wait.filter λx=>decide (x.slot<s.now+1))) (Vc.mx (s.now+1-Clock.fB c.win) 0)).first.length<=(f_ c V s.N s.tb (s.wait.filter λx=>decide (x.slot<s.now+1))).first.length:=by
   unfold dW;split
   ·exact anD _
   ·exact anz _ _
  dsimp only;omega
theorem Ya{k:Nat}(f:SG s k){root:Bs 32}:SG (aX c s root).2 k:=by
 unfold aX;split
 ·exact f
 ·exact f
end
end Gate
namespace Gate
open Board (Vd Cf Ms aq)
open Pool (It Fit eM Dw)
def vJ(F1 F2:Nat->Nat->Prop)(i:Nat):Prop:=dm F1 i\/dm F2 i
structure Co(h:af)(g m:Nat)(a:Ad)(b:RAd)(c:Cf)(q:Sl)(V:List Vd)(s t:St)(F1 F2:Nat->Nat->Prop):Prop where
 G:aR h g a {c with vals:=q} V s F1
 D:aZ h m b c V t F2
 qx:∀i,dm F1 i->¬dm F2 i
 d1:∀i,In c.vals i->¬dm F1 i
 d2:∀i,In q i->¬dm F2 i
section
variable{R:Rq}{h h':af}{g m:Nat}{a a':Ad}{b b':RAd}{c:Cf}{q:Sl}{V:List Vd}{s s' t t':St}{F1 F2 F1' F2':Nat->Nat->Prop}
theorem Co.lt1(p:Co h g m a b c q V s t F1 F2):∀i,dm F1 i->i<h.size:=λi⟨k,d⟩=>p.G.sep.lt k i d
theorem Co.lt2(p:Co h g m a b c q V s t F1 F2):∀i,dm F2 i->i<h.size:=λi⟨k,d⟩=>p.D.sep.lt k i d
theorem Co.lt(p:Co h g m a b c q V s t F1 F2):∀i,vJ F1 F2 i->i<h.size:=λi d=>d.elim (p.lt1 i) (p.lt2 i)
theorem Co.ext(p:Co h g m a b c q V s t F1 F2)(x:Ext h h'):Co h' g m a b c q V s t F1 F2:=⟨p.G.ext x,p.D.ext x,p.qx,p.d1,p.d2⟩
theorem Co.left(p:Co h g m a b c q V s t F1 F2)(G:aR h' g a' {c with vals:=q} V s' F1')(st:Step (dm F1) h (dm F1') h'):Co h' g m a' b c q V s' t F1' F2/\Step (vJ F1 F2) h (vJ F1' F2) h':=by
 refine⟨⟨G,p.D.only st.only (λk i d e=>p.qx i e ⟨k,d⟩) p.d1,λi d e=>?_,λi d e=>?_,p.d2⟩,⟨st.only.mono λi d=>.inl d,λi d=>?_⟩⟩
 ·rcases st.new i d with f|f
  ·exact p.qx i f e
  ·have:=p.lt2 i e;omega
 ·rcases st.new i e with f|f
  ·exact p.d1 i d f
  ·have:=p.D.SF i d;omega
 ·rcases d with d|d
  ·exact(st.new i d).imp .inl id
  ·exact .inl (.inr d)
theorem Co.right(p:Co h g m a b c q V s t F1 F2)(D:aZ h' m b' c V t' F2')(st:Step (dm F2) h (dm F2') h'):Co h' g m a b' c q V s t' F1 F2'/\Step (vJ F1 F2) h (vJ F1 F2') h':=by
 refine⟨⟨p.G.only st.only (λk i d e=>p.qx i ⟨k,d⟩ e) p.d2,D,λi d e=>?_,p.d1,λi d e=>?_⟩,⟨st.only.mono λi d=>.inr d,λi d=>?_⟩⟩
 ·rcases st.new i e with f|f
  ·exact p.qx i d f
  ·have:=p.lt1 i d;omega
 ·rcases st.new i e with f|f
  ·exact p.d2 i d f
  ·have:=p.G.SF i d;omega
 ·rcases d with d|d
  ·exact .inl (.inl d)
  ·exact(st.new i d).imp .inr id
structure Alike(h:af)(g m:Nat)(a:Ad)(b:RAd)(c:Cf)(q:Sl)(V:List Vd)(s:St)(P:List (Int×Int))(F1 F2:Nat->Nat->Prop)(k:Nat):Prop where
 p:Co h g m a b c q V s (gh s P) F1 F2
 perm:s.sc.Perm P
 kept:Kept c s k
 iz:SG s k
theorem Alike.ext{P:List (Int×Int)}{k:Nat}(p:Alike h g m a b c q V s P F1 F2 k)(x:Ext h h'):Alike h' g m a b c q V s P F1 F2 k:=⟨p.p.ext x,p.perm,p.kept,p.iz⟩
theorem Alike.good{P:List (Int×Int)}{k:Nat}(p:Alike h g m a b c q V s P F1 F2 k):Peers.Good s.sc:=Peers.Good.perm p.p.D.good.1 p.perm.symm
def zz(c:Cf)(V:List Vd)(s:St)(kind peer:Int)(text:LU)(root:Bs 32)(s':St):Prop:=
 if kind=2 then s'=(fC c V s).2 else if kind=3 then s'=(aX c s root).2
 else∃P n,s'={(aG c V s peer text).2 with sc:=P,gone:=s.gone+n}/\Peers.lN c.pe s.sc peer (iu (aG c V s peer text).1) P n
theorem GX{most k pts n:Int}{L L':List (Int×Int)}(f:Peers.lN most L k pts L' n):0<=n/\n<=1:=by
 rcases f with⟨_,_,rfl⟩|⟨_,_,rfl,_⟩|⟨_,_,_,rfl,_⟩<;>omega
theorem PE{P:List (Int×Int)}{k:Nat}(p:Alike h g m a b c q V s P F1 F2 k)(B:k<100000){peer:Int}(E:(anw .i64 peer).wf=true){text:LU}(A:text.length<1000){R2:Int->Rq}
 (H:∀e P' n Q F1' F2',Alike e g m a b c q V {(aG c V s peer text).2 with sc:=P',gone:=s.gone+n} Q F1' F2' (k+1)->Step (vJ F1 F2) h (vJ F1' F2') e->
  Peers.lN c.pe s.sc peer (iu (aG c V s peer text).1) P' n->R2 (aG c V s peer text).1 (TV.i (aG c V s peer text).1).val e):
 Cl 20 [.ptr (PT g),.i peer,.str text] h λv f=>v=(TV.i (aG c V s peer text).1).val/\ag (vJ F1 F2) h f/\
  Cl 43 [.ptr (PT m),.i peer,.str text] f (R2 (aG c V s peer text).1):=by
 have d:=p.kept;have u:=(Peers.oL p.perm p.good.one peer).symm;have w:=HU (c:=c) (V:=V) (text:=text) u;have x:Kept {c with vals:=q} s k:=⟨d.now,d.AG,d.Cd,d.AH,d.Ek,d.left,d.gone⟩;refine k_ p.p.G x B E A λf P1 y F1' z C j=>?_;obtain⟨l,o⟩:=p.p.left z C;refine⟨rfl,o.only,?_⟩;refine Dz l.D (PD d) B E A λe D M F2' r F t=>?_;rw[w]at r t⊢;obtain⟨G,I⟩:=Peers.Ci p.perm p.good.one j t;subst I;obtain⟨J,K⟩:=l.right r F;have L:=GX j;exact H e P1 y D F1' F2' ⟨J,G,mZ d A L,UB (GW d p.iz A)⟩ (o.trans K) j
theorem Yb{P:List (Int×Int)}{k:Nat}(p:Alike h g m a b c q V s P F1 F2 k)(A:k<700){R2:Bool->Rq}
 (B:∀e Q F1' F2',Alike e g m a b c q V (fC c V s).2 Q F1' F2' (k+1)->Step (vJ F1 F2) h (vJ F1' F2') e->R2 (fC c V s).1 (ani (fC c V s).1).val e):
 Cl 39 [.ptr (PT g)] h λv f=>v=(ani (fC c V s).1).val/\ag (vJ F1 F2) h f/\
  Cl 40 [.ptr (PT m)] f (R2 (fC c V s).1):=by
 have d:=p.kept;have n:=UA (c:=c) (V:=V) (s:=s) (P:=P);have o:Kept {c with vals:=q} s k:=⟨d.now,d.AG,d.Cd,d.AH,d.Ek,d.left,d.gone⟩;have r:=p.p.G.can.len.2;refine K5 p.p.G o λf F1' t u=>?_;obtain⟨i,j⟩:=p.p.left t u;refine⟨rfl,j.only,Ea i.D (PD d) p.iz A λe F2' l w=>?_⟩;rw[n]at l⊢;obtain⟨x,y⟩:=i.right l w;refine B e _ F1' F2' ⟨x,?_,NC d,aa6 r p.iz⟩ (j.trans y);unfold fC;split
 ·exact p.perm
 ·exact Peers.Xt p.perm
theorem UC{P:List (Int×Int)}{k:Nat}(p:Alike h g m a b c q V s P F1 F2 k){root:Bs 32}{R2:Int->Rq}
 (A:∀d a' b' F1' F2',Alike d g m a' b' c q V (aX c s root).2 P F1' F2' k->Step (vJ F1 F2) h (vJ F1' F2') d->R2 (aX c s root).1 (TV.i (aX c s root).1).val d):
 Cl 41 [.ptr (PT g),.bytes 32 root] h λv e=>v=(TV.i (aX c s root).1).val/\ag (vJ F1 F2) h e/\
  Cl 42 [.ptr (PT m),.bytes 32 root] e (R2 (aX c s root).1):=by
 have l:=p.kept;have n:=Sk (c:=c) (s:=s) (P:=P) (root:=root);refine vF p.p.G λe a' F1' o r=>?_;obtain⟨f,i⟩:=p.p.left o r;refine⟨rfl,i.only,Ln f.D λd b' F2' j t=>?_⟩;rw[n]at j⊢;obtain⟨u,w⟩:=f.right j t;have x:(aX c s root).2.sc=s.sc:=by grind [aX]
 exact A d a' b' F1' F2' ⟨u,by rw[x];exact p.perm,Uw l,Ya p.iz⟩ (i.trans w)
theorem Lp{P:List (Int×Int)}{k:Nat}(p:Alike h g m a b c q V s P F1 F2 k):Alike h g m a b c q V s P F1 F2 (k+1):=⟨p.p,p.perm,NB p.kept,aa5 p.iz⟩
structure Act where
 kind:Int
 peer:Int
 text:LU
 qy:Ms
 which:Int
 sign:Bool
def Act.tv(x:Act):TV:=.agg [.i x.kind,.i x.peer,.str x.text,x.qy.tv,.i x.which,.bool x.sign]
theorem acN{P:List (Int×Int)}{k:Nat}(p:Alike h g m a b c q V s P F1 F2 k)(M:k<700){x:Act}(O:(anw .i64 x.peer).wf=true){text:LU}(U:text.length<1000){root:Bs 32}
 (A:∀d a' b' s' Q F1' F2',Alike d g m a' b' c q V s' Q F1' F2' (k+1)->Step (vJ F1 F2) h (vJ F1' F2') d->zz c V s x.kind x.peer text root s'->R (ani true).val d):
 Cl 29 [.ptr (PT g),.ptr (PT m),x.tv,.str text,.bytes 32 root] h R:=by
 apply Cn (PT g) (PT m) x.kind x.peer x.text x.qy.kind x.qy.slot x.qy.target x.qy.ax x.qy.body x.qy.bits x.qy.tag x.which x.sign text root;refine aa λy v1 K L=>aa λB C D N=>?_;have v1:=v1;have w:=K.trans D;have p2:=p.ext w;have E:=v1.ext D;have F:∀i,h.size<=i->¬vJ F1 F2 i:=λi G l=>by have:=p.p.lt i l;omega
 refine⟨x.kind,E.at.1,ID (λz=>?_) λz=>If.dec.2 ⟨λH=>?_,λH=>?_⟩⟩
 ·refine(Yb (R2:=λb v j=>∃(I:Bool),v=ana (ani I)/\R (ana (ani (b==I))) j) p2 M λd Q F1' F2' o r=>⟨_,rfl,?_⟩).mono λv j⟨e,_,t⟩=>⟨_,e,t⟩;rw[show((fC c V s).1==(fC c V s).1)=true by simp];exact A d a b _ Q F1' F2' o (.cut w r) (by unfold zz;rw[if_pos z])
 ·refine⟨Vc.keeps (·=y.size) B,jT,root,(C.keeps (S:=(·=y.size)) rfl).bytes,root,(C.keeps (S:=(·=y.size)) rfl).bytes,?_⟩;refine(UC (R2:=λn v j=>∃(u:Int),v=ana (TV.i u)/\R (ana (ani (decide (n=u)))) j) p2 λd a' b' F1' F2' o r=>⟨_,rfl,?_⟩).mono λv j⟨e,f,t⟩=>⟨_,e,vV f (λi G l=>F i ω l),t⟩;rw[decide_eq_true rfl];exact A d a' b' _ P F1' F2' (Lp o) (.cut w r) (by unfold zz;rw[if_neg z,if_pos H])
 ·have J:=E.keeps (S:=(·=h.size)) rfl;refine⟨Vc.keeps (·=h.size) B,jT,x.peer,J.at.2.1,x.peer,J.at.2.1,?_⟩;refine(PE (R2:=λn v j=>∃(u:Int),v=ana (TV.i u)/\R (ana (ani (decide (n=u)))) j) p2 ω O U λd P' n Q F1' F2' o r T=>⟨_,rfl,?_⟩).mono λv j⟨e,f,t⟩=>⟨_,e,vV f (λi G l=>F i ω l),t⟩;rw[decide_eq_true rfl];exact A d a b _ Q F1' F2' o (.cut w r) (by unfold zz;grind)
def xP(n:Nat)(A:Int):Nat:=(ano (am9 .u64 A) (n:Int)).toNat
theorem aa7{n:Nat}(B:0<n)(A:Int):xP n A<n/\0<=ano (am9 .u64 A) (n:Int):=by
 have a:=Board.gC A;have b:ano (am9 .u64 A) n<n:=Int.tmod_lt_of_pos _ ω;have c:0<=ano (am9 .u64 A) n:=Int.tmod_nonneg _ a.1;simp_all [xP]
theorem VY{l:Sl}{L:List (Bs 32)}{B:af}(e:aj 32 B l (Pool.rts L))(E:L≠[])(I:L.length<100000){A:Int}{K:Bs 32->Prop}(H:K (L.getD (xP L.length A) (ann 32))):
 am9 .u64 (l.len:Int)≠0/\0<=am9 .i64 (ano (am9 .u64 A) (am9 .u64 (l.len:Int)))/\am9 .i64 (ano (am9 .u64 A) (am9 .u64 (l.len:Int)))<(l.len:Int)/\
  Nn l.a λp=>∃b:Bs 32,av B p.b (p.o+(am9 .i64 (ano (am9 .u64 A) (am9 .u64 (l.len:Int)))).toNat*32) 32 b/\K b:=by
 have el:=e.len;rw[pE]at el;have a:=List.length_pos_iff.2 E;have c:am9 .u64 l.len=L.length:=by grind [Board.bW]
 obtain⟨i,p2⟩:=aa7 a A;rw[c];have j:ano (am9 .u64 A) L.length<L.length:=by simp_all [xP]
 rw[wrap_i64 ω ω]
 have d:L[(ano (am9 .u64 A) L.length).toNat]? =some (L.getD (xP L.length A) (ann 32)):=by
  have k:(ano (am9 .u64 A) L.length).toNat=xP L.length A:=rfl;simp_all
 obtain⟨f,g,h⟩:=lM e p2 d H;exact⟨ω,f,g,h⟩
theorem Gv{l:Sl}{L:List (Bs 32)}(e:aj 32 h l (Pool.rts L))(B:L≠[])(E:L.length<100000){A:Int}(H:∀h',Ext h h'->R (anv 32 (L.getD (xP L.length A) (ann 32))).val h'):
 Cl 30 [.slice l,.i A] h R:=by
 apply zx;refine aa λf v1 a g=>VY (e.ext a) B E ?_;refine aq v1 eM.symm (eM.trans eM.symm) λb c f2 j=>⟨_,c.bytes,H b (am4 a f2 λi d=>anc (anf d))⟩
end
end Gate
namespace Board
section
variable{R:Rq}{h:af}
theorem rS{c:Cf}{m:Ms}{row:List Bool}{L:List Vd}(f:Gw c)(E:aj 2 h c.vals (jx L))(H:∀v∈L,v.key.length<=64)(e:aj 1 h m.bits (aY row))(I:row.length<500)(J:j9 m)
 (A:∀y,Ext h y->R (anl [(mX c.vals.len c.aQ L m row).1.tv,.bool (mX c.vals.len c.aQ L m row).2]).val y):Cl 88 [c.tv,m.tv] h R:=by
 apply zA c.vals c.ep c.aQ c.no c.eV c.eH c.quo c.pe c.iy c.win c.bH c.dec m.kind m.slot m.target m.ax m.body m.bits m.tag;delta dK eY rD LN;refine aa λk v1 z S=>aa λl d n T=>aa λo p g U=>?_;have v1:Var 24 o h.size c.tv:=(Var.ext (t:=c.tv) v1 n).ext g;have d:Var 58 o k.size m.tv:=Var.ext (t:=m.tv) d g;have p:Var 58 o l.size bh.tv:=p;have q:=(z.trans n).trans g;refine td v1 (bB d (HS f (E.ext q) H (e.ext q) I J λD j=>⟨_,_,rfl,?_⟩));have V:=z.size;have W:=n.size;have X:=g.size;have Y:=j.size;refine aa λZ F G s5=>aq F (t:=.bytes 16 (mB c.vals.len c.aQ L m row).1) rfl rfl λr v6 f6 s6=>?_;have s:Ext D r:=am4 G f6 λi u=>ω;have B:=(q.trans j).trans s;have K:Var 58 r k.size m.tv:=(d.ext j).ext s;have C:Var 58 r l.size bh.tv:=(p.ext j).ext s;refine anU (λw=>?_) λw=>⟨_,v6.bytes,?_⟩
 ·have x:mX c.vals.len c.aQ L m row=(bh,false):=by
   unfold mX;rw[if_neg (by simpa using w)]
  refine aq C (t:=bh.tv) cv fR λa b f7 M=>bB b ?_;have:=A a (am4 B f7 λi u=>ω);rw[x]at this;exact this
 ·have x:mX c.vals.len c.aQ L m row=({m with tag:=(mB c.vals.len c.aQ L m row).1},true):=by
   unfold mX;rw[if_pos (by simpa using w)]
  refine aI (i:=6) (t:=.bytes 16 (mB c.vals.len c.aQ L m row).1) (t0:=.bytes 16 m.tag) K rfl rfl rfl rfl λa b f7 M=>?_;have b:Var 58 a k.size ({m with tag:=(mB c.vals.len c.aQ L m row).1}:Ms).tv:=b;have N:Ext h a:=am4 B f7 λi u=>ω;refine bB b ?_;have O:Var 58 a l.size bh.tv:=C.only f7 ω;refine aq O (t:=({m with tag:=(mB c.vals.len c.aQ L m row).1}:Ms).tv) cv fR λP Q f8 s8=>bB Q ?_;have:=A P (am4 N f8 λi u=>ω);rw[x]at this;exact this
end
end Board
namespace Gate
open Board (Vd Cf Ms mX dU bw oD)
noncomputable def IA(c:Cf)(V:List Vd)(q:List (Bs 32))(x:Act)(row:List Bool):Ms:=
 if x.kind=1/\x.sign=true/\(mX V.length c.aQ V {x.qy with target:=q.getD (xP q.length x.which) (ann 32)} row).2=true
 then(mX V.length c.aQ V {x.qy with target:=q.getD (xP q.length x.which) (ann 32)} row).1
 else{x.qy with target:=q.getD (xP q.length x.which) (ann 32)}
noncomputable def eD(c:Cf)(V:List Vd)(p:List (Bs 32)×List (LU))(x:Act×List Bool):List (Bs 32)×List (LU):=
 if x.1.kind=1/\dU (IA c V p.1 x.1 x.2) x.2=true then
  (if(IA c V p.1 x.1 x.2).kind=1 then p.1++[bw (IA c V p.1 x.1 x.2) x.2]else p.1,p.2++[Board.yO (IA c V p.1 x.1 x.2) x.2])
 else(p.1,p.2++[x.1.text])
noncomputable def iE(c:Cf)(V:List Vd)(q:List (Act×List Bool)):List (Bs 32)×List (LU):=q.foldl (eD c V) ([wP c V],[])
def ND(x:Act×List Bool):Prop:=x.1.text.length<=400/\x.2.length<=40/\(anw .i64 x.1.peer).wf=true/\Board.j9 x.1.qy
theorem PF{c:Cf}{V:List Vd}{p:List (Bs 32)×List (LU)}{x:Act×List Bool}:(eD c V p x).2.length=p.2.length+1/\p.1.length<=(eD c V p x).1.length/\(eD c V p x).1.length<=p.1.length+1:=by
 unfold eD;split
 ·dsimp only;refine⟨by simp,?_⟩;split
  ·simp
  ·omega
 ·simp
theorem Mb{c:Cf}{V:List Vd}{p:List (Bs 32)×List (LU)}{x:Act×List Bool}(ok:ND x)(q:∀t∈p.2,t.length<1000):∀t∈(eD c V p x).2,t.length<1000:=by
 intro t a;unfold eD at a;split at a
 ·rcases anP.1 a with h|h
  ·exact q t h
  ·rw[anQ.1 h];have b:=oD (IA c V p.1 x.1 x.2) x.2;have d:=ok.2.1;omega
 ·rcases anP.1 a with h|h
  ·exact q t h
  ·rw[anQ.1 h];have:=ok.1;omega
end Gate
namespace Gate
open Board (Vd Cf Ms Gw mX dU bw oD aY bh bB fR cv jx aq lY J_)
open Pool (eM Dw rts)
structure vK(h:af)(A:Sl)(xs:List (Act×List Bool)):Prop where
 el:aj 58 h A (xs.map λx=>x.1.tv)
 bits:∀x∈xs,aj 1 h x.1.qy.bits (aY x.2)
abbrev strs(l:List (LU)):List TV:=l.map anx
def sj:TV:=.agg [.i 0,.i 0,.str [],bh.tv,.i 0,.bool false]
theorem FL(x:Act):x.tv.size=sj.size:=by rfl
theorem CW:58=sj.size:=by rfl
section
variable{R:Rq}{h h':af}{c:Cf}{V:List Vd}{A:Sl}{xs:List (Act×List Bool)}
theorem vK.ext(p:vK h A xs)(x:Ext h h'):vK h' A xs:=⟨p.el.ext x,λy a=>(p.bits y a).ext x⟩
theorem vK.len(p:vK h A xs):xs.length=A.len:=by have:=p.el.len;simp_all
theorem UD(p:vK h A xs){i:Int}(Z:0<=i){x:Act×List Bool}(q:xs[i.toNat]? =some x)
 {K:Int->Int->LU->Int->Int->Bs 32->Int->Int->Sl->Bs 16->Int->Bool->Prop}(hk:K x.1.kind x.1.peer x.1.text x.1.qy.kind x.1.qy.slot x.1.qy.target x.1.qy.ax x.1.qy.body x.1.qy.bits x.1.qy.tag x.1.which x.1.sign):
 0<=i/\i<(A.len:Int)/\Nn A.a λl=>∃(n:Int),∃(B:Int),∃(s:LU),∃(E:Int),∃(H:Int),∃(b:Bs 32),∃(I:Int),∃(J:Int),∃(M:Sl),∃(O:Bs 16),∃(U:Int),∃(W:Bool),
  (ah h l.b (l.o+i.toNat*58) (.i n)/\ah h l.b (l.o+i.toNat*58+1) (.i B)/\ah h l.b (l.o+i.toNat*58+1+1) (.string (anK s.toArray))/\
   (ah h l.b (l.o+i.toNat*58+1+1+1) (.i E)/\ah h l.b (l.o+i.toNat*58+1+1+1+1) (.i H)/\av h l.b (l.o+i.toNat*58+1+1+1+1+1) 32 b/\ah h l.b (l.o+i.toNat*58+1+1+1+1+1+32) (.i I)/\
    ah h l.b (l.o+i.toNat*58+1+1+1+1+1+32+1) (.int .u64 J)/\ah h l.b (l.o+i.toNat*58+1+1+1+1+1+32+1+1) (bu M)/\av h l.b (l.o+i.toNat*58+1+1+1+1+1+32+1+1+1) 16 O)/\
   ah h l.b (l.o+i.toNat*58+1+1+1+53) (.i U)/\ah h l.b (l.o+i.toNat*58+1+1+1+53+1) (.bool W))/\K n B s E H b I J M O U W:=by
 have d:=p.len;have:=(anB.1 q).1;refine p.el.read Z ω λl t _ a c=>?_;rw[anh,q]at a;obtain rfl:=Option.some.inj a;exact⟨_,_,_,_,_,_,_,_,_,_,_,_,c,hk⟩
theorem acO{x:Act}{b:Nat}(v:Var 60 h b x.tv){K:Int->Int->LU->Int->Int->Bs 32->Int->Int->Sl->Bs 16->Int->Bool->Prop}(W:K x.kind x.peer x.text x.qy.kind x.qy.slot x.qy.target x.qy.ax x.qy.body x.qy.bits x.qy.tag x.which x.sign):
 ∃(n:Int),∃(q:Int),∃(s:LU),∃(B:Int),∃(E:Int),∃(t:Bs 32),∃(H:Int),∃(I:Int),∃(J:Sl),∃(M:Bs 16),∃(O:Int),∃(U:Bool),
  (ah h b 0 (.i n)/\ah h b 1 (.i q)/\ah h b 2 (.string (anK s.toArray))/\
   (ah h b 3 (.i B)/\ah h b 4 (.i E)/\av h b 5 32 t/\ah h b 37 (.i H)/\ah h b 38 (.int .u64 I)/\ah h b 39 (bu J)/\av h b 40 16 M)/\
   ah h b 56 (.i O)/\ah h b 57 (.bool U))/\K n q s B E t H I J M O U:=
 ⟨_,_,_,_,_,_,_,_,_,_,_,_,v.at,W⟩
theorem CX{b:Nat}(v:Var 42 h b (.agg [c.tv,.slice A])){K:Sl->Int->Int->Int->Int->Int->Int->Int->Int->Int->Int->Int->Prop}(Z:K c.vals c.ep c.aQ c.no c.eV c.eH c.quo c.pe c.iy c.win c.bH c.dec):
 ∃(s:Sl),∃(n:Int),∃(q:Int),∃(B:Int),∃(E:Int),∃(H:Int),∃(I:Int),∃(J:Int),∃(M:Int),∃(O:Int),∃(U:Int),∃(W:Int),(ah h b 0 (bu s)/\ah h b 1 (.i n)/\ah h b 2 (.i q)/\ah h b 3 (.i B)/\ah h b 4 (.i E)/\ah h b 5 (.i H)/\ah h b 6 (.i I)/\ah h b 7 (.i J)/\ah h b 8 (.i M)/\ah h b 9 (.i O)/\ah h b 10 (.i U)/\ah h b 11 (.i W))/\K s n q B E H I J M O U W:=
 ⟨c.vals,c.ep,c.aQ,c.no,c.eV,c.eH,c.quo,c.pe,c.iy,c.win,c.bH,c.dec,v.at.1,Z⟩
theorem CY{b:Nat}(v:Var 42 h b (.agg [c.tv,.slice A])){K:Sl->Int->Int->Int->Int->Int->Int->Int->Int->Int->Int->Int->Sl->Prop}(hk:K c.vals c.ep c.aQ c.no c.eV c.eH c.quo c.pe c.iy c.win c.bH c.dec A):
 ∃(s:Sl),∃(n:Int),∃(q:Int),∃(B:Int),∃(E:Int),∃(H:Int),∃(I:Int),∃(J:Int),∃(M:Int),∃(O:Int),∃(U:Int),∃(W:Int),∃(Z:Sl),((ah h b 0 (bu s)/\ah h b 1 (.i n)/\ah h b 2 (.i q)/\ah h b 3 (.i B)/\ah h b 4 (.i E)/\ah h b 5 (.i H)/\ah h b 6 (.i I)/\ah h b 7 (.i J)/\ah h b 8 (.i M)/\ah h b 9 (.i O)/\ah h b 10 (.i U)/\ah h b 11 (.i W))/\ah h b 12 (bu Z))/\K s n q B E H I J M O U W Z:=
 ⟨c.vals,c.ep,c.aQ,c.no,c.eV,c.eH,c.quo,c.pe,c.iy,c.win,c.bH,c.dec,A,v.at,hk⟩
theorem ag7{s:Sl}{L:List (LU)}{x:LU}{K:Sl->af->Prop}(o:Vc.Own 9 1 h s (strs L))(q:L.length<100000)(B:∀a h',Vc.Own 9 1 h' a (strs (L++[x]))->ag (In s) h h'->(∀i,In a i->In s i\/h.size<=i)->K a h'):
 ∃new,cn (h.push (row (ank [anx x]) 9)) (ang (some (Vc.Loc.mk h.size 0)) 1 1) 1 new/\(∀v∈new,bU v=true)/\au ctx 9 s 1 new (h.push (row (ank [anx x]) 9)) K:=by
 have c:=o.len;rw[am6]at c;refine cD Board.adz Board.ZT (by simp[Board.OI]) (by grind [Board.OI]) o rfl rfl λa h' g d e=>B a h' (by simp_all) d λi⟨l,q,j⟩=>?_;rcases e l q with⟨f,b,k⟩|b
 ·exact .inl ⟨f,b,ω⟩
 omega
theorem UE{i:Nat}{x:Act×List Bool}(q:xs[i]? =some x):iE c V (xs.take (i+1))=eD c V (iE c V (xs.take i)) x:=by
 simp_all [anH,List.foldl_append,iE]
theorem NF:∀(L:List (Act×List Bool))(p:List (Bs 32)×List (LU)),(L.foldl (eD c V) p).2.length=p.2.length+L.length/\p.1.length<=(L.foldl (eD c V) p).1.length/\(L.foldl (eD c V) p).1.length<=p.1.length+L.length
 |[],p=>by simp
 |x::L,p=>by
  obtain⟨q,B,E⟩:=PF (c:=c) (V:=V) (p:=p) (x:=x);obtain⟨a,b,d⟩:=NF L (eD c V p x)
  grind
theorem Ep(L:List (Act×List Bool)):(iE c V L).2.length=L.length/\1<=(iE c V L).1.length/\(iE c V L).1.length<=1+L.length:=by
 have:=NF (c:=c) (V:=V) L ([wP c V],[]);simp only[List.length_nil,Nat.zero_add]at this;exact this
theorem NG:∀(L:List (Act×List Bool))(p:List (Bs 32)×List (LU)),(∀x∈L,ND x)->(∀t∈p.2,t.length<1000)->∀t∈(L.foldl (eD c V) p).2,t.length<1000
 |[],_,_,q=>q
 |x::L,p,ok,q=>NG L (eD c V p x) (λy B=>ok y (List.mem_cons_of_mem _ B)) (Mb (ok x (List.mem_cons_self ..)) q)
theorem UF(ok:∀x∈xs,ND x):∀t∈(iE c V xs).2,t.length<1000:=NG xs _ ok λ_ h=>by cases h
theorem aa8{q:List (Bs 32)}{x:Act}{row:List Bool}:(IA c V q x row).bits=x.qy.bits:=by
 unfold IA;split
 ·rename_i a;have:=a.2.2;unfold mX at this⊢
  grind
 ·rfl
theorem aa9{q:List (Bs 32)}{x:Act}{row:List Bool}:(IA c V q x row).body=x.qy.body:=by
 unfold IA;split
 ·rename_i a;have:=a.2.2;unfold mX at this⊢
  grind
 ·rfl
structure aba(h hh:af)(c:Cf)(V:List Vd)(A:Sl)(xs:List (Act×List Bool))(σ:Sl×Sl×Int):Prop where
 i0:0<=σ.2.2
 i1:σ.2.2<=xs.length
 on:Vc.Own 52 32 hh σ.1 (rts (iE c V (xs.take σ.2.2.toNat)).1)
 ot:Vc.Own 9 1 hh σ.2.1 (strs (iE c V (xs.take σ.2.2.toNat)).2)
 x:Ext h hh
 v:Var 42 hh h.size (.agg [c.tv,.slice A])
 fn:∀i,In σ.1 i->h.size<i
 ft:∀i,In σ.2.1 i->h.size<i
 qx:∀i,In σ.1 i->¬In σ.2.1 i
theorem UG(ev:aj 2 h c.vals (jx V))(k:Can c V)(p:vK h A xs)(ok:∀x∈xs,ND x)(bt:xs.length<=200)
 (hr:∀h' T Q,Vc.Own 9 1 h' T (strs (iE c V xs).2)->Vc.Own 52 32 h' Q (rts (iE c V xs).1)->Ext h h'->(∀i,In T i->h.size<=i)->(∀i,In Q i->h.size<=i)->R (anl [.slice T,.slice Q]).val h'):
 Cl 28 [.agg [c.tv,.slice A]] h R:=by
 apply qX c.vals c.ep c.aQ c.no c.eV c.eH c.quo c.pe c.iy c.win c.bH c.dec A;delta Ve jY wu eY C2 dD d_ aN bJ bK fD;have el:=by have:=ev.len;rwa [am6]at this
 have bx:=k.len;have keys:=wS k;have bb:=FH k el;have al:=p.len;refine aa λF v1 x1 s1=>?_;have v1:=v1;refine CX v1 (cW (ev.ext x1) ω (λv hv=>(keys v hv).2) λu x2=>⟨_,rfl,?_⟩);have z1:=x1.size;have z2:=x2.size;have bc:=x1.trans x2;have a0:=anE u (row (ank [anv 32 (wP c V)]) 52);have oq:=Vc.Own.new (T:=52) (sz:=32) u (rts [wP c V]) λt ht=>by simp_all [rts,eM]
 have bd:=bc.trans a0;have v3:=(v1.ext x2).ext a0;refine⟨A,v3.at.2,?_⟩;refine⟨λσ b=>aba h b c V A xs σ,λσ _=>(xs.length-σ.2.2).toNat,⟨anj 0,by simp_all,oq,Vc.Own.nil _ _ _,bd,v3,λi⟨l,hl,a⟩=>?_,λi⟨l,hl,a⟩=>(by cases hl),λi _⟨l,hl,a⟩=>(by cases hl)⟩,?_⟩
 ·grind
 rintro⟨N,T,i⟩ b ⟨i0,i1,G,M,H,vh,fn,X,ac⟩;dsimp only at i0 i1 G M fn X ac⊢;refine ID (λa=>?_) λa=>?_;rotate_left
 ·have e:i.toNat=xs.length:=ω;rw[e,anA]at G M;exact hr b T N M G H (λi a=>anI (X i a)) λi a=>anI (fn i a)
 have bi:i.toNat<xs.length:=ω;obtain⟨x,hx⟩:∃x,xs[i.toNat]? =some x:=⟨_,anb bi⟩;have am:=ant hx;obtain⟨t1,t2,t3,t4⟩:=ok x am;obtain⟨l1,l2,l3⟩:=Ep (xs.take i.toNat);have l4:(xs.take i.toNat).length<=xs.length:=by simp_all
 have ao:=UE (c:=c) (V:=V) hx;obtain⟨P,hP⟩:∃P,P=iE c V (xs.take i.toNat):=⟨_,rfl⟩;rw[<-hP]at G M l1 l2 l3 ao;have e1:(i+1).toNat=i.toNat+1:=ω;refine UD (p.ext H) i0 hx (aa λO v4 x4 s4=>aq (t0:=sj) v4 (t:=x.1.tv) CW (FL _) λY v5 f5 s5=>?_);have a1:Ext b Y:=am4 x4 f5 λi a=>anc (anf a);refine⟨x.1.text,v5.at.2.2.1,x.1.qy.kind,x.1.qy.slot,x.1.qy.target,x.1.qy.ax,x.1.qy.body,x.1.qy.bits,x.1.qy.tag,v5.at.2.2.2.1,aa λh6 v6 x6 s6=>aq (t0:=bh.tv) v6 (t:=x.1.qy.tv) cv fR λh7 v7 f7 s7=>?_⟩;have ap:Ext Y h7:=am4 x6 f7 λi a=>anc (anf a);have a2:=a1.trans ap;have a3:=v5.ext ap;have bN:=a1.size;have b0:=ap.size;refine⟨x.1.which,a3.at.2.2.2.2.1,VY (L:=P.1) (G.elems.ext a2) (λZ=>by rw[Z]at l2;simp at l2) ω ?_⟩;obtain⟨w,ar⟩:∃w,w=P.1.getD (xP P.1.length x.1.which) (ann 32):=⟨_,rfl⟩;rw[<-ar];refine aI (i:=2) (t:=.bytes 32 w) (t0:=.bytes 32 x.1.qy.target) v7 rfl rfl rfl rfl λz B f8 s8=>?_;have B:Var 58 z Y.size ({x.1.qy with target:=w}:Ms).tv:=B;have C:Ext b z:=am4 a2 f8 λi a=>ω;have S:Var 60 z b.size x.1.tv:=a3.only f8 ω;obtain⟨q,I⟩:∃q,q=IA c V P.1 x.1 x.2:=⟨_,rfl⟩;have mb:q.bits=x.1.qy.bits:=by rw[I,aa8]
 have mo:Board.j9 q:=by unfold Board.j9;rw[I,aa9];exact t4
 intro J HJ
 have a4:∀g,Var 58 g Y.size q.tv->Var 60 g b.size x.1.tv->Ext b g->J PUnit.unit g:=by
  intro g vm va D;refine HJ _ g ?_;have em:∀f,Ext g f->aj 1 f q.bits (aY x.2):=λf x'=>by rw[mb];exact(p.bits x am).ext ((H.trans D).trans x')
  have a5:∀f,Ext g f->Vc.Own 52 32 f N (rts P.1):=λf x'=>G.ext (D.trans x');have bj:∀f,Ext g f->Vc.Own 9 1 f T (strs P.2):=λf x'=>M.ext (D.trans x');have zg:=D.size;have bk:∀i,In N i->i<b.size:=λi a=>G.g_ i a;have a6:∀i,In T i->i<b.size:=λi a=>M.g_ i a
  have a7:∀(d:af)(N1:Sl)(Q:List (Bs 32))(s:LU),Ext g d->∀(y:af),Vc.Own 52 32 y N1 (rts Q)->ag (In N) d y->(∀i,In N1 i->In N i\/d.size<=i)->(Q,P.2++[s])=eD c V P x->
   ∃new,cn (y.push (row (ank [anx s]) 9)) (ang (some (Vc.Loc.mk y.size 0)) 1 1) 1 new/\(∀v∈new,bU v=true)/\au ctx 9 T 1 new (y.push (row (ank [anx s]) 9)) λU h'=>
    aba h h' c V A xs (N1,U,am9 .i64 (i+1))/\((xs.length:Int)-(am9 .i64 (i+1))).toNat<((xs.length:Int)-i).toNat:=by
   intro d N1 Q s j y oN f2 n2 ad;have z1:=j.size;have z2:=f2.size;have oT:Vc.Own 9 1 y T (strs P.2):=(bj d j).keep f2 λi F u=>ac i u F;refine ag7 oT ω λU h' o' f' n'=>⟨⟨?_,?_,?_,?_,?_,?_,?_,?_,?_⟩,?_⟩
   all_goals try rw[wrap_i64 (n:=i+1) ω ω]
   all_goals try dsimp only
   ·omega
   ·omega
   ·rw[e1,ao,<-ad];refine oN.keep f' λi F u=>?_;rcases n2 i F with r|r
    ·exact ac i r u
    ·have:=a6 i u;omega
   ·rw[e1,ao,<-ad];exact o'
   ·exact am4 (am4 (H.trans (D.trans j)) f2 λi a=>anI (fn i a)) f' λi a=>anI (X i a)
   ·exact(((vh.ext (D.trans j)).only f2 λa=>by have:=fn _ a;omega).only f' λa=>by have:=X _ a;omega)
   ·intro i a;rcases n2 i a with r|r
    ·exact fn i r
    ·have:=H.size;have:=v3.lt;have:=vh.lt;omega
   ·intro i a;rcases n' i a with r|r
    ·exact X i r
    ·have:=vh.lt;omega
   ·intro i F u;rcases n2 i F with r|r
    ·rcases n' i u with O|O
     ·exact ac i r O
     ·have:=bk i r;omega
    ·rcases n' i u with O|O
     ·have:=a6 i O;omega
     ·have:=oN.g_ i F;omega
   ·omega
  have a8:∀(d:af)(s:LU),Ext g d->(P.1,P.2++[s])=eD c V P x->
   ∃new,cn (d.push (row (ank [anx s]) 9)) (ang (some (Vc.Loc.mk d.size 0)) 1 1) 1 new/\(∀v∈new,bU v=true)/\au ctx 9 T 1 new (d.push (row (ank [anx s]) 9)) λU h'=>
    aba h h' c V A xs (N,U,am9 .i64 (i+1))/\((xs.length:Int)-(am9 .i64 (i+1))).toNat<((xs.length:Int)-i).toNat:=
   λd s j ad=>a7 d N P.1 s j d (a5 d j) (ag.refl _ _) (λi a=>.inl a) ad
  intro J2 ab;have no:∀f,Ext g f->¬(x.1.kind=1/\dU q x.2=true)->J2 false f:=λf x' Z=>ab false f (am7 (a8 f _ x' (by unfold eD;rw[<-I,if_neg Z])));refine⟨x.1.kind,va.at.1,ID (λE=>bB vm (Board.yJ (row:=x.2) (em g (am8 _)) ω λd j=>⟨_,rfl,?_⟩)) λE=>no g (am8 _) λb=>E b.1⟩;by_cases K:dU q x.2=true
  ·rw[K];refine ab true d (anq ?_);have aw:=vm.ext j;refine bB aw (Board.jE (row:=x.2) (em d j) ω (lY K) mo λy ae=>⟨_,rfl,q.kind,(aw.ext ae).at.1,ID (λk2=>?_) λk2=>?_⟩)
   ·have aE:=j.trans ae;refine bB (aw.ext ae) (Board.cW (row:=x.2) (em y aE) ω (lY K) mo λg3 a9=>⟨_,rfl,?_⟩);refine TR (a5 g3 (aE.trans a9)) ω λU h' o' f' n'=>?_;exact a7 g3 U _ _ (aE.trans a9) h' o' f' n' (by unfold eD;rw[<-I,if_pos ⟨E,K⟩,if_pos k2])
   ·exact a8 y _ (j.trans ae) (by unfold eD;rw[<-I,if_pos ⟨E,K⟩,if_neg k2])
  ·have bl:dU q x.2=false:=by simpa using K
   rw[bl];exact no d j λb=>K b.2
 clear HJ;intro J2 ab
 have plain:∀g,Var 58 g Y.size ({x.1.qy with target:=w}:Ms).tv->Var 60 g b.size x.1.tv->Ext b g->¬(x.1.kind=1/\x.1.sign=true/\(mX V.length c.aQ V {x.1.qy with target:=w} x.2).2=true)->J PUnit.unit g:=by
  intro g vm va D Z;refine a4 g ?_ va D
  have:q={x.1.qy with target:=w}:=by
   rw[I];unfold IA;rw[<-ar,if_neg Z]
  rw[this];exact vm
 refine⟨x.1.kind,S.at.1,ID (λE=>⟨x.1.sign,S.at.2.2.2.2.2,ab _ z (anU (λhs=>?_) λhs=>plain z B S C λb=>by rw[hs]at b;cases b.2.1)⟩) λE=>ab _ z (am7 (plain z B S C λb=>E b.1))⟩;have bm:Var 42 z h.size (.agg [c.tv,.slice A]):=vh.ext C;refine CX bm (bB B (Board.rS (c:=c) (m:={x.1.qy with target:=w}) (row:=x.2) bb (ev.ext (H.trans C)) (λv hv=>by have:=(keys v hv).2;omega) ((p.bits x am).ext (H.trans C)) ω t4 λh9 x9=>?_));rw[<-el];obtain⟨o,hsg⟩:∃o,o=mX V.length c.aQ V {x.1.qy with target:=w} x.2:=⟨_,rfl⟩;rw[<-hsg];rw[<-hsg]at plain;refine⟨o.1.kind,o.1.slot,o.1.target,o.1.ax,o.1.body,o.1.bits,o.1.tag,o.2,rfl,?_⟩;refine aa λb1 v10 bo b2=>aq (t0:=bh.tv) v10 (t:=o.1.tv) cv fR λa' v11 f11 b3=>?_;have ba:Ext h9 a':=am4 bo f11 λi a=>anc (anf a);have W:=x9.trans ba;have z9:=x9.size;have b5:=ba.size;have b6:=C.size;refine anU (λhb=>?_) λhb=>plain a' (B.ext W) (S.ext W) (C.trans W) λb=>by rw[hb]at b;cases b.2.2
 have b7:=B.lt;refine bB v11 (aq (t0:=({x.1.qy with target:=w}:Ms).tv) (B.ext W) (t:=o.1.tv) cv fR λbp br f12 b8=>?_);refine a4 bp ?_ ((S.ext W).only f12 ω) (am4 (C.trans W) f12 λi a=>ω)
 have:q=o.1:=by
  rw[I,hsg];unfold IA;rw[<-ar,if_pos ⟨E,hs,by rw[<-hsg];exact hb⟩]
 rw[this];exact br
theorem ku(B:aj 2 h c.vals (jx V))(p:vK h A xs){most:Int}(H:most<=1000)(q:∀h',Ext h h'->R (ani true).val h')
 (E:∀h',Ext h h'->c.vals.len<=100->(xs.length:Int)<=most->(∀x∈xs,x.1.text.length<=400/\x.2.length<=40)->R (ani false).val h'):
 Cl 26 [.agg [c.tv,.slice A],.i most] h R:=by
 apply qY c.vals c.ep c.aQ c.no c.eV c.eH c.quo c.pe c.iy c.win c.bH c.dec A most;delta gz fH jM gL mq fE dz bK lq;have D:=p.len;refine aa λF v1 d G=>?_;have v1:=v1;intro I s;refine CX v1 (J_ (B.ext d) (λe a=>⟨_,rfl,anq (q e (d.trans a))⟩) λe a u=>⟨_,rfl,am7 ⟨A,(v1.ext a).at.2,ID (λ_=>q e (d.trans a)) λJ=>s _ e ?_⟩⟩);refine⟨A,(v1.ext a).at.2,?_⟩;refine⟨λσ g=>0<=σ.2/\σ.2<=xs.length/\Ext h g/\(∀x∈xs.take σ.2.toNat,x.1.text.length<=400/\x.2.length<=40),λσ _=>((xs.length:Int)-σ.2).toNat,⟨anj 0,by dsimp only;omega,d.trans a,λx b=>by simp at b⟩,?_⟩;rintro⟨f,i⟩ g ⟨o,v,j,ok⟩;dsimp only at o v ok⊢;refine ID (λk=>?_) λk=>E g j u ω (by rw[show i.toNat=xs.length by omega,anA]at ok;exact ok);have w:i.toNat<xs.length:=ω;obtain⟨x,b⟩:∃x,xs[i.toNat]? =some x:=⟨_,anb w⟩;have z:=((p.bits x (ant b)).len);rw[am6]at z;refine UD (p.ext j) o b (aa λK v4 C L=>aq (t0:=sj) v4 (t:=x.1.tv) CW (FL _) λl r f5 M=>?_);have m:Ext h l:=j.trans (am4 C f5 λi k=>anc (anf k));refine⟨x.1.text,r.at.2.2.1,ID (λ_=>q l m) λN=>⟨x.1.qy.bits,r.at.2.2.2.1.2.2.2.2.2.1,ID (λ_=>q l m) λO=>?_⟩⟩;rw[wrap_i64 (n:=i+1) ω ω];refine⟨⟨Ω,Ω,m,?_⟩,Ω⟩
 try dsimp only
 rw[show(i+1).toNat=i.toNat+1 by omega,anH,b];intro y q;rcases anP.1 q with h|h
 ·exact ok y h
 ·simp only[Option.toList,anQ]at h;subst h;omega
end
end Gate
namespace Gate
open Board (Vd Cf Ms jx aq Vt Et)
open Pool (It qw Fit eM Dw rts)
open Peers (IS GK dL score)
theorem Sm{c:Cf}{V:List Vd}(k:Can c V):Kept c (iq c V) 0:=by
 have ce:=k.eH;have co:=k.eV;refine⟨⟨anj 0,show(0:Int)<=1073741824 by decide⟩,?_,?_,λx a=>(by cases a),λx a=>(by cases a),⟨anj 0,show(0:Int)+((0:Nat):Int)<=((0:Nat):Int) by decide⟩,⟨anj 0,show(0:Int)<=((0:Nat):Int) by decide⟩⟩
 ·show((0:Nat):Int)<=c.eH;omega
 ·show((0:Nat):Int)<=c.eV;omega
section
variable{R:Rq}{h h':af}{g:Nat}{a:Ad}{c:Cf}{V:List Vd}{s:St}{Fp:Nat->Nat->Prop}
theorem zB(p:aR h g a c V s Fp)(q:∀h',Ext h h'->R (anv 32 (mU s.N (bZ (aL V) s.tb s.N))).val h'):
 Cl 48 [.ptr (PT g)] h R:=by
 apply qt;delta cQ uR qD bz eU bJ;obtain⟨b,e⟩:∃b,b=mU s.N (bZ (aL V) s.tb s.N):=⟨_,rfl⟩;rw[<-e]at q;refine aa λm v1 d n=>(p.ext d).book ⟨_,rfl,Uv (p.ext d) λo f=>⟨b,by rw[e],?_⟩⟩;exact aq (t:=.bytes 32 b) (v1.ext f) eM.symm (eM.trans eM.symm) λj k f3 r=>⟨_,k.bytes,q j (am4 (d.trans f) f3 λi l=>anc (anf l))⟩
theorem Cp(p:aR h g a c V s Fp)(q:∀h',Ext h h'->R (anv 32 (bT s).root).val h'):Cl 47 [.ptr (PT g)] h R:=by
 apply nP;delta zM cQ i_ qD bz eU bJ;refine aa λr v1 b u=>am7 (Ef (p.ext b) λj d=>⟨_,_,rfl,aa λv k l w=>?_⟩);have x:=b.size;have y:=d.size;refine aq (t:=.bytes 32 (bT s).root) k eM.symm (eM.trans eM.symm) λm v4 f4 z=>⟨_,v4.bytes,?_⟩;have f:Ext j m:=am4 l f4 λi e=>anc (anf e);refine aq (t:=.bytes 32 (bT s).root) ((v1.ext d).ext f) eM.symm (eM.trans eM.symm) λn o f5 A=>⟨_,o.bytes,?_⟩;exact q n (am4 ((b.trans d).trans f) f5 λi e=>anc (anf e))
theorem GY(p:aR h g a c V s Fp)(q:R (TV.i s.now).val h):Cl 31 [.ptr (PT g)] h R:=by
 apply q_;delta QJ aD fk dJ dX aT bA;exact am7 ⟨_,p.var.ah rfl,Clock.Fz p.kz ⟨_,rfl,q⟩⟩
theorem UH(p:aR h g a c V s Fp)(q:R (TV.i s.left).val h):Cl 53 [.ptr (PT g)] h R:=by
 apply qj;delta aD dJ dX aT bA;exact am7 ⟨_,p.var.ah rfl,q⟩
end
section
variable{h:af}{s:Sl}
theorem af4{L:List Vt}(e:aj 34 h s (Et L)){i:Int}(A:0<=i){x:Vt}(q:L[i.toNat]? =some x){K:Int->Int->Bs 32->Prop}(B:K x.who x.slot x.target):
 0<=i/\i<(s.len:Int)/\Nn s.a λl=>∃(n:Int),∃(m:Int),∃(b:Bs 32),(ah h l.b (l.o+i.toNat*34) (.i n)/\ah h l.b (l.o+i.toNat*34+1) (.i m)/\av h l.b (l.o+i.toNat*34+1+1) 32 b)/\K n m b:=by
 have c:=e.len;have:=(anB.1 q).1;rw[am6]at c;refine e.read A ω λl t _ a d=>?_;rw[anh,q]at a;obtain rfl:=Option.some.inj a;exact⟨_,_,_,d,B⟩
theorem adM{L:List Bool}(e:aj 1 h s (WM L)){i:Int}(A:0<=i){x:Bool}(q:L[i.toNat]? =some x){K:Bool->Prop}(B:K x):
 0<=i/\i<(s.len:Int)/\Nn s.a λl=>∃(b:Bool),ah h l.b (l.o+i.toNat*1) (.bool b)/\K b:=by
 have c:=e.len;have:=(anB.1 q).1;rw[am6]at c;refine e.read A ω λl t _ a d=>?_;rw[anh,q]at a;obtain rfl:=Option.some.inj a;exact⟨_,d,B⟩
theorem aeM{L:List Int}(e:aj 1 h s (L.map dL)){i:Int}(A:0<=i){x:Int}(q:L[i.toNat]? =some x){K:Int->Prop}(B:K x):
 0<=i/\i<(s.len:Int)/\Nn s.a λl=>∃(n:Int),ah h l.b (l.o+i.toNat*1) (.i n)/\K n:=by
 have b:=e.len;have:=(anB.1 q).1;rw[am6]at b;refine e.read A ω λl t _ a c=>?_;rw[anh,q]at a;obtain rfl:=Option.some.inj a;exact⟨_,c,B⟩
theorem Er{L:List (LU)}(e:aj 1 h s (L.map anx)){i:Int}(A:0<=i){x:LU}(q:L[i.toNat]? =some x){K:LU->Prop}(B:K x):
 0<=i/\i<(s.len:Int)/\Nn s.a λl=>∃(t:LU),ah h l.b (l.o+i.toNat*1) (.string (anK t.toArray))/\K t:=by
 have b:=e.len;have:=(anB.1 q).1;rw[am6]at b;refine e.read A ω λl t _ a c=>?_;rw[anh,q]at a;obtain rfl:=Option.some.inj a;exact⟨_,c,B⟩
theorem aeN{t:Tb}{n:Nat}(o:wQ t n){i:Int}(q:0<=i)(A:i<n):(AB t)[i.toNat]? =some (kI t i).1/\(FE t)[i.toNat]? =some (kI t i).2:=by
 have b:=o.Ac;obtain⟨x,a⟩:∃x,t.bE[i.toNat]? =some x:=⟨_,anb ω⟩;unfold AB FE kI eB;rw[anh,anh,a,if_pos q,List.getD_eq_getElem?_getD,a];cases x<;>exact⟨rfl,rfl⟩
end
end Gate
namespace Gate
open Board (Vd Cf Ms jx aq Vt Et)
open Pool (It qw Fit eM Dw rts)
open Peers (IS GK dL score keys)
section
variable{R:Rq}{h h':af}{g m:Nat}{a:Ad}{b:RAd}{c:Cf}{q:Sl}{V:List Vd}{s:St}{P:List (Int×Int)}{F1 F2:Nat->Nat->Prop}{k:Nat}
theorem kE(p:Alike h g m a b c q V s P F1 F2 k)(hr:∀h',Ext h h'->R (ani true).val h'):
 Cl 54 [.ptr (PT g),.ptr (PT m)] h R:=by
 apply zC;delta nE jM fk gK aO yh uR mw cu mq bK aT lq;have can:=p.p.D.can;have aw:=can.pe;have aE:=can.len;have el:V.length=c.vals.len:=by have:=p.p.D.vals.len;rwa [am6]at this
 have a0:(s.sc.length:Int)<=c.pe:=by rw[p.perm.length_eq];exact p.p.D.good.2
 have Pl:(P.length:Int)<=c.pe:=p.p.D.good.2;intro G B;obtain⟨C,O⟩:∃C,C=mU s.N (bZ (aL V) s.tb s.N):=⟨_,rfl⟩;refine zB p.p.G λh1 Q=>⟨C,by rw[O],Uy (p.ext Q).p.D λh2 x2=>⟨C,by rw[O];rfl,?_⟩⟩;dsimp only;rw[decide_eq_true rfl];refine am7 ?_;have S:=Q.trans x2;have p2:=p.ext S;obtain⟨T,tB,tD,tr,_⟩:=p2.p.D.tree;obtain⟨u,bn,d⟩:=p2.p.D.var;have ok:rz s.N c.no:=tr.ok;obtain⟨n0,U⟩:∃x,s.N[0]? =some x:=⟨_,anb ok.Gf⟩;have al:bT s=n0:=by unfold bT;rw[ig (anj 0) U]
 refine⟨_,d.ah rfl,_,p2.p.D.bk.ah rfl,_,tr.var.ah rfl,lM (i:=0) tr.a.elems (anj 0) (x:=n0.root) (by show(s.N.map Nd.root)[0]? =_;rw[anh,U];rfl) ?_⟩;refine Cp p2.p.G λh3 W=>⟨n0.root,by rw[al],W,?_⟩;rw[decide_eq_true rfl];refine am7 ?_;have X:=S.trans W;have e:=p.ext X;obtain⟨u,bn,d⟩:=e.p.D.var;refine⟨_,d.ah rfl,s.now,e.p.D.kz.now,GY e.p.G ⟨_,rfl,am8 _,?_⟩⟩;rw[decide_eq_true rfl];refine am7 ⟨s.left,d.ah rfl,UH e.p.G ⟨_,rfl,am8 _,?_⟩⟩;rw[decide_eq_true rfl];refine am7 ?_;obtain⟨wA,Y,_⟩:=e.p.D.wait;obtain⟨wb,wB,wp,_⟩:=e.p.G.wait;have wl:s.wait.length=wA.len:=by have:=Y.el.len;rw[am6]at this;exact this
 refine⟨_,d.ah rfl,_,Y.var.ah rfl,e.p.G.early ⟨_,rfl,am8 _,Pool.Nb wp ⟨_,rfl,am8 _,?_⟩⟩⟩;rw[wl,decide_eq_true rfl];refine am7 (B _ h3 ?_);clear B G;intro G B;obtain⟨T,tB,tD,tr,_⟩:=e.p.D.tree;obtain⟨r3,A3,tp,_⟩:=e.p.G.tree;have nl:s.N.length<100000:=by have:=ok.len;have:=can.no;omega
 refine⟨_,d.ah rfl,_,e.p.D.bk.ah rfl,_,tr.var.ah rfl,e.p.G.book ⟨_,rfl,am8 _,e.p.G.Dy ⟨_,rfl,am8 _,Ll tp λh4 sl o4 H _=>⟨_,rfl,H,?_⟩⟩⟩⟩;have am:aj 32 h4 T (rts (s.N.map Nd.root)):=tr.a.elems.ext H;refine Pool.HE o4.elems am (by rw[am6];omega) ⟨_,rfl,?_⟩;rw[decide_eq_true rfl];refine am7 ?_;have Z:=X.trans H;have D:=p.ext Z;obtain⟨u,bn,d⟩:=D.p.D.var;obtain⟨kA,kr,_⟩:=D.p.D.kids;obtain⟨kb,kB,kp,_⟩:=D.p.G.kids;refine⟨_,d.ah rfl,D.p.G.agZ ⟨_,rfl,am8 _,Pool.Rv kp λh5 s5 o5 I _=>⟨_,rfl,I,Pool.LY (kr.ext I) λh6 s6 o6 x6 _=>⟨_,rfl,?_⟩⟩⟩⟩;have kf:s.kids.length<900:=kr.iz;refine Pool.HE (o5.elems.ext x6) o6.elems (by rw[am6];omega) ⟨_,rfl,?_⟩;rw[decide_eq_true (show s.kids.map It.root=(gh s P).kids.map It.root from rfl)];refine am7 ?_;have ab:=(Z.trans I).trans x6;have E:=p.ext ab;obtain⟨u,bn,d⟩:=E.p.D.var;obtain⟨F,pB,z,_⟩:=E.p.D.who;obtain⟨pb,J,_⟩:=E.p.G.who;refine⟨_,d.ah rfl,E.p.G.aaq ⟨_,rfl,am8 _,Peers.KA J λh7 s7 K o7 _=>⟨_,rfl,K,Peers.R8 (z.ext K) (by show P.length<1000;omega) λh8 s8 x8 o8=>⟨_,rfl,?_⟩⟩⟩⟩;refine Peers.XS (o7.elems.ext x8) o8.elems (GK p.perm) (by rw[Peers.Kx];omega) ⟨_,rfl,am7 (B _ h8 ?_)⟩;clear B G;have ac:=(ab.trans K).trans x8;have p8:=p.ext ac;obtain⟨u,bn,d⟩:=p8.p.D.var;refine⟨c.vals,d.ah rfl,?_⟩;refine⟨λσ L=>0<=σ.2/\σ.2<=c.vals.len/\Ext h L,λσ _=>((c.vals.len:Int)-σ.2).toNat,⟨anj 0,Ω,ac⟩,?_⟩;rintro⟨f,i⟩ h9 ⟨A,i1,M⟩;dsimp only at A i1⊢;have v:=p.ext M;refine ID (λN=>?_) λN=>?_
 ·obtain⟨a1,La,Ou,ps,gH,_⟩:=v.p.G.gH;refine v.p.G.book ⟨_,rfl,v.p.G.aew ⟨_,rfl,CD gH λad w=>⟨_,_,_,_,rfl,?_⟩⟩⟩;obtain⟨x,hx⟩:∃x,x=(kI s.tb i).1:=⟨_,rfl⟩;rw[<-hx];refine aa λa2 v11 ao a3=>aq (t:=x.tv) v11 rfl rfl λap ar f12 a4=>Vs ar ?_;have ae:Ext h9 ap:=w.trans (am4 ao f12 λi N=>anc (anf N));have o:=v.ext ae;obtain⟨u,bn,d⟩:=o.p.D.var;obtain⟨Fi,Lb,Ha,Ob,l,_⟩:=o.p.D.gH;have tok:wQ s.tb V.length:=l.ok;obtain⟨e1,e2⟩:=aeN tok A ω;rw[<-hx]at e1;refine⟨_,d.ah rfl,_,o.p.D.bk.ah rfl,_,l.var.ah rfl,af4 l.la.elems A e1 ?_⟩;rw[show(decide (x.who=x.who)&&(decide (x.slot=x.slot)&&(decide (x.target.l=x.target.l)&&true)))=true by simp];refine am7 ⟨_,d.ah rfl,_,o.p.D.bk.ah rfl,_,l.var.ah rfl,adM l.ha.elems A e2 ?_⟩;rw[show((kI s.tb i).2==(kI s.tb i).2)=true by simp];refine am7 ⟨_,d.ah rfl,_,o.p.D.bk.ah rfl,_,l.var.ah rfl,adM (x:=uA s.tb i) l.ou.elems A (OG tok A ω) ?_⟩;obtain⟨a5,La,Ou,ps,gH,_⟩:=o.p.G.gH;refine o.p.G.book ⟨_,rfl,am8 _,o.p.G.aew ⟨_,rfl,am8 _,HA gH ⟨_,rfl,am8 _,?_⟩⟩⟩
  have hc:uB s.tb V.length i=!uA s.tb i:=by
   unfold uB Ra;rw[decide_eq_true (show 0<=i/\i<(V.length:Int) by omega),Bool.true_and]
  rw[hc,show((!uA s.tb i)==uA s.tb i)=false by cases uA s.tb i<;>rfl];refine am7 ?_;rw[wrap_i64 (n:=i+1) ω ω];exact⟨⟨Ω,Ω,M.trans ae⟩,Ω⟩
 ·obtain⟨u,bn,d⟩:=v.p.D.var;obtain⟨F,pB,z,_⟩:=v.p.D.who;have kl:(keys P).length=F.len:=by have:=z.a.len;rwa [am6]at this
  have kP:(keys P).length=P.length:=by simp[keys]
  refine⟨_,d.ah rfl,_,z.var.ah rfl,?_⟩;refine⟨λσ L=>0<=σ.2/\σ.2<=F.len/\Ext h9 L,λσ _=>((F.len:Int)-σ.2).toNat,⟨anj 0,Ω,am8 _⟩,?_⟩;rintro⟨f,j⟩ ad ⟨j0,j1,w⟩;dsimp only at j0 j1⊢;have r:=v.ext w;obtain⟨u,bn,d⟩:=r.p.D.var;refine ID (λhj=>?_) λhj=>?_
  ·obtain⟨y,hy⟩:∃y,(keys P)[j.toNat]? =some y:=⟨_,anb ω⟩;obtain⟨pb,J,_⟩:=r.p.G.who;refine aeM (z.a.elems.ext w) j0 hy ⟨_,d.ah rfl,r.p.G.aaq ⟨_,rfl,am8 _,Peers.D_ J ⟨_,rfl,am8 _,?_⟩⟩⟩;refine Peers.HO (z.ext w) (by show P.length<1000000;omega) ⟨_,rfl,?_⟩;dsimp only;rw[decide_eq_true (show score s.sc y=score (gh s P).sc y from Peers.oL p.perm p.good.one y)];refine am7 ?_;rw[wrap_i64 (n:=j+1) ω ω];exact⟨⟨Ω,Ω,w⟩,Ω⟩
  ·obtain⟨Fi,Lb,Ha,Ob,l,_⟩:=r.p.D.gH;obtain⟨a6,La,Ou,ps,gH,_⟩:=r.p.G.gH;have fl:s.tb.first.length=Fi.len:=by have:=l.f.len;rw[am6]at this;exact this
   refine⟨_,d.ah rfl,_,r.p.D.bk.ah rfl,_,l.var.ah rfl,r.p.G.book ⟨_,rfl,am8 _,r.p.G.aew ⟨_,rfl,am8 _,Ty gH ⟨_,rfl,am8 _,?_⟩⟩⟩⟩;rw[decide_eq_true ω];exact hr ad (M.trans w)
end
end Gate
section
set_option linter.unusedVariables false
def rj(n k:Int)(T:TypeId)(z:TV)(h:af)(K:Sl->af->Prop):Prop:=
 0<=n/\n<=n/\k*n<=281474976710656/\n<9223372036854775808/\K (ang (some (Loc.mk (anr h) 0)) (Int.toNat n) (Int.toNat n)) (Array.push h (row (cq z (Int.toNat n)) T))
def tw:TV:=.agg [.i 0,.i 0,.bytes 32 (ann 32)]
def lS(q:Int)(B:Int)(h:af)(A:Rq):Prop:=
 bM (λ(s:OL×Bool)(h:af)=>rj q 48 124 tw h (λa g=>rj q 1 4 (.bool false) g (λb e=>rj q 1 4 (.bool false) e λc d=>Vc.Bind (iW d (.agg [.i q,.i B,.slice am5,.slice a,.slice b,.slice c]) 192) λf=>A (ana (.bg [.ptr (some (Loc.mk (anr d) 0)),.bool true])) f)/\
  rj q 1 4 (.bool false) g (λc e=>rj q 1 4 (.bool false) e λb d=>Vc.Bind (iW d (.agg [.i q,.i B,.slice am5,.slice a,.slice b,.slice c]) 192) λf=>A (ana (.bg [.ptr (some (Loc.mk (anr d) 0)),.bool true])) f))/\
  rj q 1 4 (.bool false) h (λb g=>rj q 48 124 tw g (λa e=>rj q 1 4 (.bool false) e λc d=>Vc.Bind (iW d (.agg [.i q,.i B,.slice am5,.slice a,.slice b,.slice c]) 192) λf=>A (ana (.bg [.ptr (some (Loc.mk (anr d) 0)),.bool true])) f)/\
   rj q 1 4 (.bool false) g (λc e=>rj q 48 124 tw e λa d=>Vc.Bind (iW d (.agg [.i q,.i B,.slice am5,.slice a,.slice b,.slice c]) 192) λf=>A (ana (.bg [.ptr (some (Loc.mk (anr d) 0)),.bool true])) f))/\
  rj q 1 4 (.bool false) h (λc g=>rj q 48 124 tw g (λa e=>rj q 1 4 (.bool false) e λb d=>Vc.Bind (iW d (.agg [.i q,.i B,.slice am5,.slice a,.slice b,.slice c]) 192) λf=>A (ana (.bg [.ptr (some (Loc.mk (anr d) 0)),.bool true])) f)/\
   rj q 1 4 (.bool false) g (λb e=>rj q 48 124 tw e λa d=>Vc.Bind (iW d (.agg [.i q,.i B,.slice am5,.slice a,.slice b,.slice c]) 192) λf=>A (ana (.bg [.ptr (some (Loc.mk (anr d) 0)),.bool true])) f))) λ(j:OL×Bool->af->Prop)=>
 If (decide (q<1)) (A (ana (.bg [.ptr none,.bool false])) h) (If (decide (64<q)) (A (ana (.bg [.ptr none,.bool false])) h) (If (decide (B<1)) (A (ana (.bg [.ptr none,.bool false])) h) (If (decide (32<B)) (A (ana (.bg [.ptr none,.bool false])) h) (j (none,false) h))))
theorem AM(q:Int)(A:Int)(h:af)(B:Rq)(H:lS q A h B):bC Tryz.prog 161 (anC [.i q,.i A]) h B:=
 DM (C:=ctx) bP (fn:=Tryz.f161) Tryz.func161 ((by kernel_rfl:lS q A h B=Qm ctx Tryz.f161 [.i q,.i A] h B)▸H)
end
namespace Gate
open Board (Vd Cf Vt jx Et aq)
open Pool (It qw RL eM Dw rts)
section
variable{R:Rq}{h h':af}
theorem UI{v A:Int}(can:Fu v A)
 (M:∀h' b E F Ha G,Lx h' b E F Ha G (iQ v.toNat A) v.toNat->Ext h h'->(∀i,jP b E F Ha G i->h.size<=i)->R (anl [.ptr (PT b),.bool true]).val h'):
 Cl 161 [.i v,.i A] h R:=by
 apply AM;obtain⟨V,N,W,X⟩:=can;intro Y O;refine ID (λ_=>ω) λ_=>If.dec.2 ⟨λ_=>ω,λ_=>ID (λ_=>ω) λ_=>If.dec.2 ⟨λ_=>ω,λ_=>O _ h ?_⟩⟩
 have n:∀(g:af)(d f m:Nat),Ext h g->g[d]? =some (row (cq tw v.toNat) 124)->g[f]? =some (row (cq (ani false) v.toNat) 4)->g[m]? =some (row (cq (ani false) v.toNat) 4)->h.size<=d/\h.size<=f/\h.size<=m/\d≠f/\d≠m/\f≠m->
  Vc.Bind (iW g (.agg [.i v,.i A,.slice am5,.slice (ang (some (Vc.Loc.mk d 0)) v.toNat v.toNat),.slice (ang (some (Vc.Loc.mk f 0)) v.toNat v.toNat),.slice (ang (some (Vc.Loc.mk m 0)) v.toNat v.toNat)]) 192) λC=>R (ana (.bg [.ptr (some (Vc.Loc.mk (anr g) 0)),.bool true])) C:=by
  rintro g d f m H P I J ⟨Z,n2,n3,n4,n5,n6⟩;have l1:=kO P;have l2:=kO I;have l3:=kO J;refine aa λC v4 B s4=>?_
  have Q:Vc.Own 124 34 g (ang (some (Vc.Loc.mk d 0)) v.toNat v.toNat) (Et (AB (iQ v.toNat A))):=by
   have e:Et (AB (iQ v.toNat A))=List.replicate v.toNat tw:=by
    unfold Et AB iQ;simp only[List.map_replicate];rfl
   rw[e];exact⟨λt D=>by rw[(List.mem_replicate.1 D).2];rfl,by simp,anD _,.inr ⟨d,[],rfl,by simp_all [gR],by simp⟩⟩
  have L:∀q,g[q]? =some (row (cq (ani false) v.toNat) 4)->Vc.Own 4 1 g (ang (some (Vc.Loc.mk q 0)) v.toNat v.toNat) (WM (List.replicate v.toNat false)):=λq eq=>
   ⟨λt D=>by obtain⟨x,_,rfl⟩:=anT.1 D;rfl,by simp,anD _,.inr ⟨q,[],rfl,by simp_all [gR,WM],by simp⟩⟩
  have o:∀{q i:Nat},In (ang (some (Vc.Loc.mk q 0)) v.toNat v.toNat) i->i=q:=λ⟨l,hl,hi⟩=>by grind
  have p:FE (iQ v.toNat A)=List.replicate v.toNat false:=by simp[iQ,FE]
  have S:(v.toNat:Nat)=v:=ω;refine M C g.size am5 (ang (some (Vc.Loc.mk d 0)) v.toNat v.toNat) (ang (some (Vc.Loc.mk f 0)) v.toNat v.toNat) (ang (some (Vc.Loc.mk m 0)) v.toNat v.toNat) ⟨by rw[S];exact v4,Vc.Own.nil _ _ _,Q.ext B,by rw[p];exact(L f I).ext B,(L m J).ext B,Q9 ⟨ω,ω⟩ ⟨ω,ω⟩,by simp[iQ],⟨λj k i c a=>?_,λj i c=>?_⟩⟩ (H.trans B) λi⟨k,a⟩=>?_
  ·match j,k with
   |0,0|2,2|3,3|4,4=>rfl
   |1,_=>exact(q8 c).elim
   |0,1|2,1|3,1|4,1=>exact(q8 a).elim
   |0,2|0,3|0,4=>have c:i=g.size:=c;have:=o a;omega
   |2,0|3,0|4,0=>have a:i=g.size:=a;have:=o c;omega
   |2,3|2,4|3,2|3,4|4,2|4,3=>have h1:=o c;have h2:=o a;omega
   |_+5,_=>exact c.elim
   |0,_+5|2,_+5|3,_+5|4,_+5=>exact a.elim
  ·match j with
   |0=>have c:i=g.size:=c;omega
   |1=>exact(q8 c).elim
   |2|3|4=>have:=o c;omega
   |_+5=>exact c.elim
  ·match k with
   |0=>have a:i=g.size:=a;have:=H.size;omega
   |1=>exact(q8 a).elim
   |2|3|4=>have:=o a;omega
   |_+5=>exact a.elim
 have mk:∀{k:Int}{T:TypeId}{z:TV}{p:af}{K:Sl->af->Prop},0<=k->k<=48->K (ang (some (Vc.Loc.mk (anr p) 0)) v.toNat v.toNat) (Array.push p (row (cq z v.toNat) T))->rj v k T z p K:=λ{k T z p K} k0 U a=>by
  refine⟨ω,anj _,?_,ω,a⟩;have:k*v<=48*64:=Int.mul_le_mul U N ω δ;omega
 have r:∀x y z:Obj,Ext h (((h.push x).push y).push z):=λx y z=>((anE h x).trans (anE _ y)).trans (anE _ z);have s:∀x y z:Obj,(((h.push x).push y).push z)[((h.push x).push y).size]? =some z:=λx y z=>cO _ _;have u:∀x y z:Obj,(((h.push x).push y).push z)[(h.push x).size]? =some y:=λx y z=>((anE ((h.push x).push y) z).same _ (by simp)).trans (cO _ _);have w:∀x y z:Obj,(((h.push x).push y).push z)[h.size]? =some x:=λx y z=>((anE ((h.push x).push y) z).same _ (by simp;omega)).trans (((anE (h.push x) y).same _ (by simp)).trans (cO _ _))
 refine⟨mk δ δ ⟨mk δ δ (mk δ δ (n _ _ _ _ (r _ _ _) (w _ _ _) (u _ _ _) (s _ _ _) (by simp;omega))),mk δ δ (mk δ δ (n _ _ _ _ (r _ _ _) (w _ _ _) (s _ _ _) (u _ _ _) (by simp;omega)))⟩,
  mk δ δ ⟨mk δ δ (mk δ δ (n _ _ _ _ (r _ _ _) (u _ _ _) (w _ _ _) (s _ _ _) (by simp;omega))),mk δ δ (mk δ δ (n _ _ _ _ (r _ _ _) (s _ _ _) (w _ _ _) (u _ _ _) (by simp;omega)))⟩,
  mk δ δ ⟨mk δ δ (mk δ δ (n _ _ _ _ (r _ _ _) (u _ _ _) (s _ _ _) (w _ _ _) (by simp;omega))),mk δ δ (mk δ δ (n _ _ _ _ (r _ _ _) (s _ _ _) (u _ _ _) (w _ _ _) (by simp;omega)))⟩⟩
variable{c:Cf}{V:List Vd}
theorem UJ(e:aj 2 h c.vals (jx V))(E:∀v∈V,v.cF<9223372036854775808)(H:c.vals.len<100000)(I:uz c V=false->∀h',Ext h h'->R (anl [.ptr none,.bool false]).val h')
 (J:Can c V->∀h' tr t a g u w,Var 134 h' a (Nr c tr t)->zl h' tr [⟨wP c V,0,-1⟩] c.no u->HQ h' t (iQ V.length c.ep) V.length w->Ext h h'->(∀i,u i->h.size<=i/\i<g)->(∀i,w i->g<=i/\i<a)->h.size<=g->g<=a->a<h'.size->
  R (anl [.ptr (PT a),.bool true]).val h'):
 Cl 92 [c.tv] h R:=by
 apply AO c.vals c.ep c.aQ c.no c.eV c.eH c.quo c.pe c.iy c.win c.bH c.dec;delta nG fH Bo fW aN bJ bK aT bA fD;have el:=by have:=e.len;rwa [am6]at this
 refine aa λF v1 n Y=>?_;have v1:Var 24 F h.size c.tv:=v1;refine⟨c.vals,c.ep,c.aQ,c.no,c.eV,c.eH,c.quo,c.pe,c.iy,c.win,c.bH,c.dec,v1.at,vu (e.ext n) E H λG o=>⟨_,rfl,anU (λx=>I (by simp_all) G (n.trans o)) λx=>?_⟩⟩;have k:=mR.1 (by simpa using x);have Z:=k.len;have keys:=wS k;have y:=n.trans o;have p:=v1.ext o;refine⟨c.vals,c.ep,c.aQ,c.no,c.eV,c.eH,c.quo,c.pe,c.iy,c.win,c.bH,c.dec,p.at,c.no,p.ah rfl,cW (e.ext y) ω (λv K=>(keys v K).2) λh3 q=>⟨_,rfl,q,?_⟩⟩;have z:=y.trans q;have r:=p.ext q;refine GJ k.no ⟨anj 0,δ⟩ λL m A B D C d M=>⟨_,_,rfl,c.vals,(r.ext d).ah rfl,c.ep,(r.ext d).ah rfl,?_⟩;have N:=z.trans d;rw[<-el];refine UI ⟨ω,ω,k.ep.1,k.ep.2⟩ λO b P Q Ha S s j T=>⟨_,_,rfl,?_⟩;have U:=N.trans j;have W:=(r.ext d).ext j;refine⟨c.vals,c.ep,c.aQ,c.no,c.eV,c.eH,c.quo,c.pe,c.iy,c.win,c.bH,c.dec,W.at,aa λX v6 l s6=>?_⟩;rw[anu]at s;have ab:=z.size;have z4:=d.size;have z5:=j.size;have z6:=l.size;exact J k X m b O.size L.size _ _ v6 ⟨A,B,D,(C.ext j).ext l,rfl⟩ ⟨P,Q,Ha,S,s.ext l,rfl⟩ (U.trans l) (λi f=>⟨by have:=M i f;omega,C.lt f⟩) (λi f=>⟨T i f,s.lt f⟩) ω ω ω
def loR(a b c d e f g h:Nat):Nat->Nat
 |0=>a
 |1=>b
 |2=>c
 |3=>d
 |4=>e
 |5=>f
 |6=>g
 |7=>h
 |_=>h+1
def abc(q A:Nat->Prop)(B E wt H I g:Nat):Nat->Nat->Prop
 |0=>q
 |1=>A
 |2=>(·=B)
 |3=>(·=E)
 |4=>(·=wt)
 |5=>(·=H)
 |6=>(·=I)
 |7=>(·=g)
 |_=>λ_=>False
theorem Sn{c:Cf}{V:List Vd}(e:aj 2 h c.vals (jx V))(q:1<=V.length):∀i,In c.vals i->i<h.size:=λi⟨l,a,f⟩=>by
 obtain⟨v,g⟩:∃v,V[0]? =some v:=⟨_,anb ω⟩;have b:=e.get l a 0 v.tv (by simp_all);have d:=b.1;have:=xY d;omega
theorem Lq(e:aj 2 h c.vals (jx V))(A:∀v∈V,v.cF<9223372036854775808)(B:c.vals.len<100000)(ab:uz c V=false->∀h',Ext h h'->R (anl [.ptr none,.bool false]).val h')
 (hr:Can c V->∀h' g a K,aZ h' g a c V (iq c V) K->Ext h h'->(∀k i,K k i->h.size<=i)->R (anl [.ptr (PT g),.bool true]).val h'):
 Cl 27 [c.tv] h R:=by
 apply AN c.vals c.ep c.aQ c.no c.eV c.eH c.quo c.pe c.iy c.win c.bH c.dec;refine aa λh1 v1 w s1=>?_;have v1:=v1;refine⟨c.vals,c.ep,c.aQ,c.no,c.eV,c.eH,c.quo,c.pe,c.iy,c.win,c.bH,c.dec,v1.at,UJ (e.ext w) A B (λhn f t=>⟨_,_,rfl,anq (ab hn f (w.trans t))⟩) λk f tr L l m1 M N vb t2 q2 t O r1 l0 l1 l2=>⟨_,_,rfl,am7 ?_⟩⟩;have ac:=w.trans t;have y:=v1.ext t;refine⟨c.eV,y.ah rfl,c.quo,y.ah rfl,Pool.CG λm b3 P S _=>⟨_,_,rfl,?_⟩⟩;have z:=y.ext S;refine⟨c.eH,z.ah rfl,c.quo,z.ah rfl,Pool.CG λn b4 T C _=>⟨_,_,rfl,?_⟩⟩;have v4:=z.ext C;refine⟨c.pe,v4.ah rfl,c.bH,v4.ah rfl,c.dec,v4.ah rfl,Peers.GJ λo b5 u p5 s5 _=>⟨_,_,rfl,?_⟩⟩;have D:=v4.ext u;have ad:=(S.trans C).trans u;have z3:=P.var.lt;have z4:=T.var.lt;refine⟨c.vals,c.ep,c.aQ,c.no,c.eV,c.eH,c.quo,c.pe,c.iy,c.win,c.bH,c.dec,D.at,c.win,D.ah rfl,c.vals,c.ep,c.aQ,c.no,c.eV,c.eH,c.quo,c.pe,c.iy,c.win,c.bH,c.dec,D.at,Clock.CG λE c6 s s6=>⟨_,rfl,s,?_⟩⟩;have U:=ad.trans s;have F:=ac.trans U;have W:uz c V=true:=mR.2 k
 have X:∀(d:af)(g:Nat),Ext E d->E.size<=g->Var 80 d g (zn c ⟨tr,L,l,f.size,m.size,n.size,o.size⟩ 0 false false)->R (anl [.ptr (PT g),.bool true]).val d:=by
  intro d g p ae Y;have G:=U.trans p;have gl:=Y.lt
  have bound:∀j i,abc M N l f.size m.size n.size o.size g j i->h.size<=i:=by
   intro j i b
   match j,b with
   |0,b=>have:=O i b;omega
   |1,b=>have:=r1 i b;omega
   |2,b=>have b:i=l:=b;omega
   |3,b=>have b:i=f.size:=b;omega
   |4,b=>have b:i=m.size:=b;omega
   |5,b=>have b:i=n.size:=b;omega
   |6,b=>have b:i=o.size:=b;omega
   |7,b=>have b:i=g:=b;omega
   |_+8,b=>exact b.elim
  refine hr k d g ⟨tr,L,l,f.size,m.size,n.size,o.size⟩ (abc M N l f.size m.size n.size o.size g) ⟨Sep.made (lo:=loR h1.size m1 l f.size m.size n.size o.size g) ?_ ?_ ?_,t2.only (Q:=λ_=>False) (.an G) λ_ _ H=>H,q2.only (Q:=λ_=>False) (.an G) λ_ _ H=>H,vb.ext G,rfl,
   ⟨am5,((P.ext C).ext u).ext (s.trans p),?_⟩,⟨am5,(T.ext u).ext (s.trans p),?_⟩,⟨am5,am5,p5.ext (s.trans p),?_⟩,⟨⟨List.nodup_nil,(λx I=>by cases I),λx I=>by cases I⟩,by have:=k.pe.1;simp only[iq,List.length_nil];omega⟩,c6.ext p,rfl,⟨false,false,Y⟩,rfl,e.ext (F.trans p),?_,k⟩ (F.trans p) ?_
  ·intro j i b
   match j,b with
   |0,b=>exact O i b
   |1,b=>exact r1 i b
   |2,b=>have b:i=l:=b;simp only[loR];omega
   |3,b=>have b:i=f.size:=b;simp only[loR];omega
   |4,b=>have b:i=m.size:=b;simp only[loR];omega
   |5,b=>have b:i=n.size:=b;simp only[loR];omega
   |6,b=>have b:i=o.size:=b;simp only[loR];omega
   |7,b=>have b:i=g:=b;simp only[loR];omega
   |_+8,b=>exact b.elim
  ·intro j
   match j with
   |0|1|2|3|4|5|6|7|8=>simp only[loR];omega
   |_+9=>simp only[loR];omega
  ·intro j
   match j with
   |0|1|2|3|4|5|6|7|8=>simp only[loR];omega
   |_+9=>simp only[loR];omega
  ·exact funext λi=>propext ⟨.inl,λd=>d.elim id λd=>(q8 d).elim⟩
  ·exact funext λi=>propext ⟨.inl,λd=>d.elim id λd=>(q8 d).elim⟩
  ·exact funext λi=>propext ⟨.inl,λd=>d.elim id λd=>d.elim (λd=>(q8 d).elim) λd=>(q8 d).elim⟩
  ·intro j i b hv;have:=Sn e (by have:=k.len;omega) i hv;have:=bound j i b;omega
  ·exact bound
 have vals:=e.ext F;refine⟨aa λZ v7 q s7=>⟨q,vu (vals.ext q) A B λJ r=>⟨_,rfl,r,?_⟩⟩,vu vals A B λZ q=>⟨_,rfl,q,aa λJ v8 r s8=>⟨r,?_⟩⟩⟩
 ·rw[W];exact X J E.size (q.trans r) (anD _) (v7.ext r)
 ·rw[W];exact X J Z.size (q.trans r) q.size v8
end
end Gate
namespace Gate
open Board (Vd Cf Ms jx aq)
open Pool (It Fit eM Dw rts)
structure At(h1 hL hh:af)(mid:Nat)(F1 F2:Nat->Nat->Prop):Prop where
 ext:Ext h1 hL
 only:ag (λi=>h1.size<=i/\i<mid) hL hh
 uT:∀i,vJ F1 F2 i->h1.size<=i/\(i<mid\/hL.size<=i)
structure Told(hL:af)(mid:Nat)(T Q:Sl)(tx:List (LU))(nm:List (Bs 32)):Prop where
 t:aj 1 hL T (strs tx)
 n:aj 32 hL Q (rts nm)
 tm:∀i,In T i->mid<=i
 nm:∀i,In Q i->mid<=i
section
variable{h1 hL hh h':af}{mid:Nat}{F1 F2 F1' F2':Nat->Nat->Prop}
theorem At.base(a:At h1 hL hh mid F1 F2):Ext h1 hh:=am4 a.ext a.only λ_ b=>b.1
theorem At.step(a:At h1 hL hh mid F1 F2)(st:Step (vJ F1 F2) hh (vJ F1' F2') h'):At h1 hL h' mid F1' F2':=by
 have g:=a.ext.size;have h:=a.only.size;have j:=st.only.size;refine⟨a.ext,⟨ω,λb e c=>(st.only.same b ω λd=>?_).trans (a.only.same b e c)⟩,λi f=>(st.new i f).elim (a.uT i) λd=>⟨ω,ω⟩⟩;have:=a.uT b d;exact c ⟨this.1,ω⟩
theorem At.more(a:At h1 hL hh mid F1 F2)(x:Ext hh h'):At h1 hL h' mid F1 F2:=a.step (.an x)
theorem Told.ah{T Q:Sl}{q:List (LU)}{nm:List (Bs 32)}(t:Told hL mid T Q q nm)(a:At h1 hL hh mid F1 F2):aj 1 hh T (strs q):=TV.ck a.only t.t λi b c=>by have:=t.tm i b;omega
theorem Told.Rr{T Q:Sl}{q:List (LU)}{nm:List (Bs 32)}(t:Told hL mid T Q q nm)(a:At h1 hL hh mid F1 F2):aj 32 hh Q (rts nm):=TV.ck a.only t.n λi b c=>by have:=t.nm i b;omega
theorem Sq{E A B:af}{g m:Nat}{a:Ad}{b:RAd}{c:Cf}{q:Sl}{V:List Vd}(k:Can c V)(e:aj 2 E c.vals (jx V))(p:aR A g a {c with vals:=q} V (iq c V) F1)(lo:∀k i,F1 k i->E.size<=i)
 (I:Ext A B)(d:aZ B m b c V (iq c V) F2)(H:∀k i,F2 k i->A.size<=i):Alike B g m a b c q V (iq c V) [] F1 F2 0:=by
 have j:=k.len;refine⟨⟨p.ext I,d,λi⟨f,h1⟩⟨l,n⟩=>?_,λi h⟨f,h1⟩=>?_,λi h⟨f,h1⟩=>?_⟩,List.Perm.refl _,?_,?_⟩
 ·have:=p.sep.lt f i h1;have:=H l i n;omega
 ·have:=Sn e j.1 i h;have:=lo f i h1;omega
 ·have:=p.SF i h;have:=H f i h1;omega
 ·exact Sm k
 ·show 0+65*0<=65*0;omega
end
end Gate
namespace Gate
open Board (Vd Cf Ms jx aq bh)
open Pool (It Fit eM Dw rts)
def dc(h1 hL hh:af)(mid g m:Nat)(c:Cf)(q:Sl)(V:List Vd)(s:St)(k:Nat):Prop:=
 ∃a b P d e,Alike hh g m a b c q V s P d e k/\At h1 hL hh mid d e
structure qu(h:af)(c:Cf)(V:List Vd)(A:Sl)(xs:List (Act×List Bool)):Prop where
 ev:aj 2 h c.vals (jx V)
 sm:∀v∈V,v.cF<9223372036854775808
 Cq:vK h A xs
 fit:∀x∈xs,(anw .i64 x.1.peer).wf=true/\Board.j9 x.1.qy
section
variable{R:Rq}{h h1 hL hh h':af}{mid g m:Nat}{c:Cf}{q:Sl}{V:List Vd}{s:St}{k:Nat}{A:Sl}{xs:List (Act×List Bool)}
theorem qu.ext(p:qu h c V A xs)(x:Ext h h'):qu h' c V A xs:=⟨p.ev.ext x,p.sm,p.Cq.ext x,p.fit⟩
theorem dc.ext(p:dc h1 hL hh mid g m c q V s k)(x:Ext hh h'):dc h1 hL h' mid g m c q V s k:=by
 obtain⟨a,b,P,d,e,f,h⟩:=p;exact⟨a,b,P,d,e,f.ext x,h.more x⟩
theorem dc.base(p:dc h1 hL hh mid g m c q V s k):Ext h1 hh:=by
 obtain⟨a,b,P,e,f,h,d⟩:=p;exact d.base
theorem dc.told(p:dc h1 hL hh mid g m c q V s k){T Q:Sl}{B:List (LU)}{E:List (Bs 32)}(t:Told hL mid T Q B E):aj 1 hh T (strs B)/\aj 32 hh Q (rts E):=by
 obtain⟨a,b,P,e,f,h,d⟩:=p;exact⟨t.ah d,t.Rr d⟩
theorem dc.more(p:dc h1 hL hh mid g m c q V s k):dc h1 hL hh mid g m c q V s (k+1):=by
 obtain⟨a,b,P,d,e,f,h⟩:=p;exact⟨a,b,P,d,e,Lp f,h⟩
theorem tC{E:af}{B:Nat}(v3:Var 42 E B (.agg [c.tv,.slice A]))(p:qu E c V A xs)(lc:c.vals.len<=100){K:OL->Int->OL->Bool->af->Prop}
 (am:uz c V=false->∀d,Ext E d->K none 1 none false d)
 (ao:Can c V->∀d g m a b q h l,Alike d g m a b c q V (iq c V) [] h l 0->Ext E d->(∀i,vJ h l i->E.size<=i)->K (PT g) 0 (PT m) true d):
 ∃(s:Sl),∃(n:Int),∃(I:Int),∃(J:Int),∃(M:Int),∃(O:Int),∃(U:Int),∃(W:Int),∃(Z:Int),∃(ab:Int),∃(ac:Int),∃(ad:Int),(ah E B 0 (bu s)/\ah E B 1 (.i n)/\ah E B 2 (.i I)/\ah E B 3 (.i J)/\ah E B 4 (.i M)/\ah E B 5 (.i O)/\ah E B 6 (.i U)/\ah E B 7 (.i W)/\ah E B 8 (.i Z)/\ah E B 9 (.i ab)/\ah E B 10 (.i ac)/\ah E B 11 (.i ad))/\
  Cl 19 [anm [.slice s,.i n,.i I,.i J,.i M,.i O,.i U,.i W,.i Z,.i ab,.i ac,.i ad]] E λv H=>∃(p:OL),∃(ae:Int),v=ana (anl [.ptr p,.i ae])/\
   ∃(s:Sl),∃(n:Int),∃(I:Int),∃(J:Int),∃(M:Int),∃(O:Int),∃(U:Int),∃(W:Int),∃(Z:Int),∃(ab:Int),∃(ac:Int),∃(ad:Int),(ah H B 0 (bu s)/\ah H B 1 (.i n)/\ah H B 2 (.i I)/\ah H B 3 (.i J)/\ah H B 4 (.i M)/\ah H B 5 (.i O)/\ah H B 6 (.i U)/\ah H B 7 (.i W)/\ah H B 8 (.i Z)/\ah H B 9 (.i ab)/\ah H B 10 (.i ac)/\ah H B 11 (.i ad))/\
    Cl 27 [anm [.slice s,.i n,.i I,.i J,.i M,.i O,.i U,.i W,.i Z,.i ab,.i ac,.i ad]] H λv d=>∃(al:OL),∃(b:Bool),v=ana (anl [.ptr al,.bool b])/\K p ae al b d:=by
 refine CX v3 (Nl (c:=c) (V:=V) p.ev ω (λf H e=>⟨_,_,rfl,CX (v3.ext e) (Lq (c:=c) (V:=V) (p.ev.ext e) p.sm ω (λ_ d o=>⟨_,_,rfl,am f d (e.trans o)⟩) λk=>?_)⟩) λk H g a q h u e lo x=>⟨_,_,rfl,CX (v3.ext e) (Lq (c:=c) (V:=V) (p.ev.ext e) p.sm ω (λf=>?_) λ_ d m b l d5 o t=>⟨_,_,rfl,ao k d g m a b q h l (Sq k p.ev u lo o d5 t) (e.trans o) λi w=>?_⟩)⟩)
 ·rw[mR.2 k]at f;cases f
 ·rw[mR.2 k]at f;cases f
 ·have:=e.size;rcases w with⟨j,r⟩|⟨j,r⟩
  ·exact lo j i r
  ·have:=t j i r;omega
theorem xQ{B:af}{E:Nat}(v6:Var 42 B E (.agg [c.tv,.slice A]))(p:qu B c V A xs)(can:Can c V)(am:xs.length<=200)(ok:∀x∈xs,x.1.text.length<=400/\x.2.length<=40){K:Sl->Sl->af->Prop}
 (hk:∀a T Q,Told a B.size T Q (iE c V xs).2 (iE c V xs).1->Ext B a->Var 42 a E (.agg [c.tv,.slice A])->K T Q a):
 ∃(s:Sl),∃(n:Int),∃(H:Int),∃(I:Int),∃(J:Int),∃(M:Int),∃(O:Int),∃(U:Int),∃(W:Int),∃(Z:Int),∃(ab:Int),∃(ac:Int),∃(ad:Sl),((ah B E 0 (bu s)/\ah B E 1 (.i n)/\ah B E 2 (.i H)/\ah B E 3 (.i I)/\ah B E 4 (.i J)/\ah B E 5 (.i M)/\ah B E 6 (.i O)/\ah B E 7 (.i U)/\ah B E 8 (.i W)/\ah B E 9 (.i Z)/\ah B E 10 (.i ab)/\ah B E 11 (.i ac))/\ah B E 12 (bu ad))/\
  Cl 28 [anm [anm [.slice s,.i n,.i H,.i I,.i J,.i M,.i O,.i U,.i W,.i Z,.i ab,.i ac],.slice ad]] B λv a=>∃(ae:Sl),∃(al:Sl),v=ana (anl [.slice ae,.slice al])/\K ae al a:=
 CY v6 (UG p.ev can p.Cq (λx b=>⟨(ok x b).1,(ok x b).2,(p.fit x b).1,(p.fit x b).2⟩) am λa T Q e f d g h=>⟨_,_,rfl,hk a T Q ⟨e.elems,f.elems,g,h⟩ d (v6.ext d)⟩)
theorem tE(p:vK hh A xs){i:Int}(i0:0<=i){x:Act×List Bool}(hx:xs[i.toNat]? =some x){K:af->Prop}(hk:∀a,Var 60 a hh.size x.1.tv->Ext hh a->K a):
 0<=i/\i<(A.len:Int)/\Nn A.a λl=>∃(n:Int),∃(B:Int),∃(s:LU),∃(E:Int),∃(H:Int),∃(b:Bs 32),∃(I:Int),∃(J:Int),∃(M:Sl),∃(O:Bs 16),∃(U:Int),∃(W:Bool),
  (ah hh l.b (l.o+i.toNat*58) (.i n)/\ah hh l.b (l.o+i.toNat*58+1) (.i B)/\ah hh l.b (l.o+i.toNat*58+1+1) (.string (anK s.toArray))/\
   (ah hh l.b (l.o+i.toNat*58+1+1+1) (.i E)/\ah hh l.b (l.o+i.toNat*58+1+1+1+1) (.i H)/\av hh l.b (l.o+i.toNat*58+1+1+1+1+1) 32 b/\ah hh l.b (l.o+i.toNat*58+1+1+1+1+1+32) (.i I)/\
    ah hh l.b (l.o+i.toNat*58+1+1+1+1+1+32+1) (.int .u64 J)/\ah hh l.b (l.o+i.toNat*58+1+1+1+1+1+32+1+1) (bu M)/\av hh l.b (l.o+i.toNat*58+1+1+1+1+1+32+1+1+1) 16 O)/\
   ah hh l.b (l.o+i.toNat*58+1+1+1+53) (.i U)/\ah hh l.b (l.o+i.toNat*58+1+1+1+53+1) (.bool W))/\
  Vc.Bind (iW hh sj 60) λZ=>gT Z hh.size 0 58/\Vc.Bind (anR Z hh.size 0 (anm [.i n,.i B,.str s,anm [.i E,.i H,.bytes 32 b,.i I,.int .u64 J,.slice M,.bytes 16 O],.i U,.bool W])) K:=by
 refine UD p i0 hx (aa λg c d h=>aq (t0:=sj) c (t:=x.1.tv) CW (FL _) λa e f9 j=>?_);exact hk a e (am4 d f9 λi f=>anc (anf f))
theorem Cr{i:Int}(B:0<=i)(E:i<(xs.length:Int))(ok:∀x∈xs,ND x):∃t,(iE c V xs).2[i.toNat]? =some t/\t.length<1000:=by
 obtain⟨b,_,_⟩:=Ep (c:=c) (V:=V) xs;obtain⟨t,a⟩:∃t,(iE c V xs).2[i.toNat]? =some t:=⟨_,anb ω⟩;exact⟨t,a,UF ok t (ant a)⟩
noncomputable def rootOf(c:Cf)(V:List Vd)(xs:List (Act×List Bool))(B:Int):Bs 32:=(iE c V xs).1.getD (xP (iE c V xs).1.length B) (ann 32)
theorem Cs{B:af}{E:Nat}(p:dc h1 hL B mid g m c q V s k)(hk:k<700){T Q:Sl}(told:Told hL mid T Q (iE c V xs).2 (iE c V xs).1)(ao:xs.length<=200){x:Act}(H:Var 60 B E x.tv)(hp:(anw .i64 x.peer).wf=true){i:Int}(i0:0<=i){t:LU}(ht:(iE c V xs).2[i.toNat]? =some t)(tl:t.length<1000){K:Bool->af->Prop}
 (hr:∀h' d,dc h1 hL h' mid g m c q V d (k+1)->Ext h1 h'->zz c V s x.kind x.peer t (rootOf c V xs x.which) d->K true h'):
 ∃(n:Int),∃(I:Int),∃(s:LU),∃(J:Int),∃(M:Int),∃(b:Bs 32),∃(O:Int),∃(U:Int),∃(W:Sl),∃(Z:Bs 16),∃(ab:Int),∃(ac:Bool),
  (ah B E 0 (.i n)/\ah B E 1 (.i I)/\ah B E 2 (.string (anK s.toArray))/\
   (ah B E 3 (.i J)/\ah B E 4 (.i M)/\av B E 5 32 b/\ah B E 37 (.i O)/\ah B E 38 (.int .u64 U)/\ah B E 39 (bu W)/\av B E 40 16 Z)/\
   ah B E 56 (.i ab)/\ah B E 57 (.bool ac))/\0<=i/\i<(T.len:Int)/\Nn T.a λl=>∃(ad:LU),ah B l.b (l.o+i.toNat*1) (.string (anK ad.toArray))/\∃(ae:Int),ah B E 56 (.i ae)/\
    Cl 30 [.slice Q,.i ae] B λv h=>∃(al:Bs 32),v=ana (.bytes 32 al)/\Ext B h/\
     Cl 29 [.ptr (PT g),.ptr (PT m),anm [.i n,.i I,.str s,anm [.i J,.i M,.bytes 32 b,.i O,.int .u64 U,.slice W,.bytes 16 Z],.i ab,.bool ac],.str ad,.bytes 32 al] h λv h=>∃(am:Bool),v=ana (.bool am)/\K am h:=by
 obtain⟨j,o⟩:=p.told told;obtain⟨N,l2,R⟩:=Ep (c:=c) (V:=V) xs;obtain⟨a,b,P,S,X,r,u⟩:=p;refine acO H (Er j i0 ht ⟨x.which,H.at.2.2.2.2.1,Gv o (λw=>by rw[w]at l2;simp at l2) ω λY e=>⟨_,rfl,e,?_⟩⟩);refine acN (r.ext e) hk (x:=x) hp tl λy z A d P' C D F G L=>⟨true,rfl,?_⟩;have f:=(u.more e).step G;exact hr y d ⟨z,A,P',C,D,F,f⟩ f.base L
theorem abd(H:Kept c s k){kind peer:Int}{t:LU}{r:Bs 32}{E:St}(B:zz c V s kind peer t r E)(I:t.length<1000)(J:s.now<1073741824):E.now=if kind=2 then s.now+1 else s.now:=by
 unfold zz at B;split at B
 ·rename_i a;rw[B,if_pos a];unfold fC;rw[if_neg ω]
 ·rename_i a;rw[if_neg a];split at B
  ·rw[B];unfold aX;split<;>rfl
  ·obtain⟨P,n,e,_⟩:=B;rw[e];exact(zj (V:=V) H I).2.2.2.1
theorem dc.kept(p:dc h1 hL hh mid g m c q V s k):Kept c s k:=by
 obtain⟨a,b,P,e,f,d,h⟩:=p;exact d.kept
theorem dc.Fz(p:dc h1 hL hh mid g m c q V s k)(B:R (TV.i s.now).val hh):Cl 31 [.ptr (PT g)] hh R:=by
 obtain⟨a,b,P,e,f,d,h⟩:=p;exact GY d.p.G B
theorem dc.kE(p:dc h1 hL hh mid g m c q V s k)(B:∀h',Ext hh h'->dc h1 hL h' mid g m c q V s k->R (ani true).val h'):Cl 54 [.ptr (PT g),.ptr (PT m)] hh R:=by
 have d:=p;obtain⟨a,b,P,f,h,e,i⟩:=p;exact Gate.kE e λh' x=>B h' x (d.ext x)
theorem Jw(p:qu h c V A xs)(ok:∀x∈xs,x.1.text.length<=400/\x.2.length<=40):∀x∈xs,ND x:=λx a=>⟨(ok x a).1,(ok x a).2,(p.fit x a).1,(p.fit x a).2⟩
end
end Gate
namespace Board
theorem aeO{n:Int}(h:(anw .i64 n).wf=true):n<9223372036854775808:=by
 have h:(decide (IntKind.min .i64<=n)&&decide (n<=IntKind.max .i64))=true:=h;have a:=of_decide_eq_true (Bool.and_eq_true_iff.1 h).2;have b:IntKind.max .i64=9223372036854775807:=by rfl
 omega
section
variable{H:Type}{enc:TypeId×Value->H}{w:World}{base fuel:Nat}{spare:Nat->Bool}{held:Bool}
theorem af5{q:List Value}{x:DataW H×List MemPlace}(h:anp enc Tryz.prog w base spare held fuel 137 q=some x):∃v:Vd,q=v.tv.cells/\v.cF<9223372036854775808:=by
 have e:∃f0 f1:Field,Tryz.prog.underlying 137=some (.struct #[f0,f1])/\f0.type=3/\f0.offset=0/\f1.type=9/\f1.offset=1:=⟨_,_,Tryz.underlying137,rfl,rfl,rfl,rfl⟩;obtain⟨f0,f1,f,g,i,j,k⟩:=e;obtain⟨l,n,_,rfl,a,m,b⟩:=anO f h;have o:Tryz.prog.cellsOf 3=1:=κ;have p:Tryz.prog.cellsOf 9=1:=κ;have r:Tryz.prog.cellsOf 137=2:=κ
 match l,m with
 |[u,y],_=>
  have t0:=b 0 f0 rfl;have t1:=b 1 f1 rfl;rw[g,i,o]at t0;rw[j,k,p]at t1;obtain⟨n0,c,w0,t⟩:=ane Tryz.underlying3 t0;obtain⟨s,d,_,_⟩:=DataW.trod_string Tryz.underlying9 t1;rw[r]at a
  match q,a with
  |[v0,v1],_=>
   simp only[anJ,List.take_succ_cons,anN,List.drop_succ_cons,List.cons.injEq,and_true]at c d;subst c;subst d
   exact⟨⟨n0,s.data.toList⟩,by simp[Vd.tv,anV,ank],by
    exact aeO t⟩
theorem abe{α:Type}[Inhabited α]{Q:α->Prop}{tv:α->TV}{sz t e:Nat}(A:Tryz.prog.underlying t=some (.slice e))(B:Tryz.prog.cellsOf e=sz)(I:∀x,(tv x).size=sz)
 (J:∀{fuel:Nat}{q:List Value}{x:DataW H×List MemPlace},anp enc Tryz.prog w base spare held fuel e q=some x->∃v:α,q=(tv v).cells/\Q v)
 {a:Option Addr}{len cap:Nat}{x:DataW H×List MemPlace}(M:∀x,a=some x->x.spot=none)(h:anp enc Tryz.prog w base spare held fuel t [.slice a len cap]=some x):
 ∃(E:Sl)(q:List α),Value.slice a len cap=(anF E).val/\aj sz w.heap E (q.map tv)/\∀c∈q,Q c:=by
 rcases Deep.open_slice A h with⟨b,_⟩|⟨d,R,S,m,n,D,Pl,b,_,T,_,y,_,z⟩
 ·simp only[List.cons.injEq,Value.slice.injEq,and_true]at b;obtain⟨rfl,rfl,rfl⟩:=b;exact⟨am5,[],rfl,aj.Bf sz _,λc b=>by cases b⟩
 ·simp only[List.cons.injEq,Value.slice.injEq,and_true]at b;obtain⟨rfl,rfl,rfl⟩:=b;have o:=M d rfl;have U:len<=m:=by rw[y];split<;>omega
  have C:∀i,i<len->∃c:α,(tv c).at w.heap d.block (d.off+i*sz)/\Q c:=by
   intro i p;obtain⟨V,s,F⟩:=z i ω;rw[B]at s;obtain⟨_,W,G⟩:=World.cells?_some s;obtain⟨c,rfl,K⟩:=J F;refine⟨c,?_,K⟩;rw[TV.mD];intro j g;have L:j<sz:=by rw[I]at g;exact g
   have:=G j L;rw[Deep.add_add]at this
   have N:=Qo o (i:=i*sz+j) (v:=(tv c).cells[j]'(by rw[TV.ai];exact g)) (by
    rw[this];simp[TV.ai,g])
   rw[anb (by rw[TV.ai];exact g),<-N,Nat.add_assoc]
  obtain⟨f,u⟩:=Deep.choose_lt C
  refine⟨⟨some ⟨d.block,d.off⟩,len,cap⟩,(List.range len).map f,?_,⟨?_,?_,?_⟩,λc b=>by
   obtain⟨k,r,rfl⟩:=anT.1 b;exact(u k (List.mem_range.1 r)).2⟩
  ·cases d;simp only at o;subst o;rfl
  ·simp
  ·intro O;cases O
  ·rintro l ⟨rfl⟩ i t A;rw[anh,Option.map_eq_some_iff]at A;obtain⟨c,b,rfl⟩:=A;rw[anh,Option.map_eq_some_iff]at b;obtain⟨k,r,rfl⟩:=b;have P:=anB.1 r;obtain⟨p,B⟩:=P;simp only[List.length_range]at p;simp only[List.getElem_range]at B;subst B;exact(u i p).1
end
end Board
namespace Gate
open Go Go.Vc Go.ChangeShapes Go.WideShapes
open Board (Vd Cf Ms jx aY bh)
instance:Inhabited Act:=⟨⟨0,0,[],bh,0,false⟩⟩
theorem gG{α:Type}(l:List α)(a k:Nat):l.drop a=(l.drop a).take k++l.drop (a+k):=by
 rw[<-List.drop_drop,List.take_append_drop]
section
variable{H:Type}{enc:TypeId×Value->H}{w:World}{base fuel:Nat}{held:Bool}
theorem GZ{α:Type}[Inhabited α]{Q:α->Prop}{tv:α->TV}{sz t e:Nat}(A:Tryz.prog.underlying t=some (.slice e))(B:Tryz.prog.cellsOf e=sz)(I:0<sz)(J:∀x,(tv x).size=sz)
 (M:∀{fuel:Nat}{q:List Value}{x:DataW H×List MemPlace},anp enc Tryz.prog w base (λ_=>true) held fuel e q=some x->∃v:α,q=(tv v).cells/\Q v)
 {v:Value}{x:DataW H×List MemPlace}(h:anp enc Tryz.prog w base (λ_=>true) held fuel t [v]=some x):
 ∃(E:Sl)(q:List α),v=(anF E).val/\aj sz w.heap E (q.map tv)/\∀c∈q,Q c:=by
 have p:∃a len cap,v=Value.slice a len cap:=by
  rcases Deep.open_slice A h with⟨b,_⟩|⟨r,s,u,m,n,D,Pl,b,_⟩
  ·exact⟨_,_,_,by simpa using b⟩
  ·exact⟨_,_,_,by simpa using b⟩
 obtain⟨a,len,cap,rfl⟩:=p;by_cases d:∀x,a=some x->x.spot=none
 ·exact Board.abe (spare:=λ_=>true) A B J M d h
 ·have z:∃x,a=some x/\x.spot≠none:=by
   cases a with
   |none=>exact absurd (λx f=>by cases f) d
   |some x=>exact⟨x,rfl,λf=>d λy g=>by cases g;exact f⟩
  obtain⟨y,rfl,g⟩:=z;rcases Deep.open_slice A h with⟨b,_⟩|⟨r,s,u,m,n,D,Pl,b,_,i,_,C,_,F⟩
  ·simp at b
  ·simp only[List.cons.injEq,Value.slice.injEq,and_true,Option.some.injEq]at b;obtain⟨rfl,rfl,rfl⟩:=b;have N:m=cap:=by rw[C];rfl
   have G:cap=0:=by
    rcases Nat.eq_zero_or_pos cap with j|j
    ·exact j
    ·obtain⟨O,k,_⟩:=F 0 ω;rw[B,Nat.zero_mul]at k;obtain⟨_,P,K⟩:=World.cells?_some k;have o:=K 0 I;rw[anb ω]at o;exact absurd (World.cell?_spot o) g
   subst G;have L:len=0:=ω;subst L;exact⟨@ang none 0 0 ⟨some y⟩,[],rfl,⟨rfl,λ_=>rfl,λl i=>by cases i⟩,λc b=>by cases b⟩
theorem HV{t e n:Nat}(A:Tryz.prog.underlying t=some (.array n e))(B:Tryz.prog.underlying e=some (.int .u8))(ce:Tryz.prog.cellsOf e=1)(E:Tryz.prog.cellsOf t=n){spare:Nat->Bool}{q:List Value}{x:DataW H×List MemPlace}
 (h:anp enc Tryz.prog w base spare held fuel t q=some x):∃b:Bs n,q=b.l.map λc=>Value.int .u8 (c.toNat:Int):=by
 obtain⟨u,m,_,_,g,v,j⟩:=DataW.trod_array A h;rw[E]at g
 have l:∀i,i<n->∃c:UInt8,q[i]? =some (.int .u8 (c.toNat:Int)):=λi a=>by
  have d:=j i a;rw[ce,Nat.mul_one,anb ω]at d;obtain⟨k,o,_,p⟩:=ane B d;have y:=wf_u8 p
  have r:q[i]? =some (.int .u8 k):=by
   have:((q.drop i).take 1)[0]? =some (Value.int .u8 k):=by rw[o];rfl
   simpa using this
  refine⟨UInt8.ofNat k.toNat,?_⟩;rw[r,UInt8.toNat_ofNat'];congr 2;omega
 obtain⟨f,s⟩:=Deep.choose_lt l;refine⟨⟨(List.range n).map f,by simp⟩,?_⟩;apply List.ext_getElem?;intro i;by_cases a:i<n
 ·rw[s i a];simp[a]
 ·rw[List.getElem?_eq_none ω,List.getElem?_eq_none (by simp;omega)]
theorem abf{q:List Value}{x:DataW H×List MemPlace}(h:anp enc Tryz.prog w base (λ_=>true) held fuel 24 q=some x):
 ∃(c:Cf)(V:List Vd),q=c.tv.cells/\aj 2 w.heap c.vals (jx V)/\∀v∈V,v.cF<9223372036854775808:=by
 have J:∃f0 f1 f2 f3 f4 f5 f6 f7 f8 f9 f10 f11:Field,Tryz.prog.underlying 24=some (.struct #[f0,f1,f2,f3,f4,f5,f6,f7,f8,f9,f10,f11])/\(f0.type=22/\f0.offset=0)/\(f1.type=3/\f1.offset=1)/\(f2.type=3/\f2.offset=2)/\
  (f3.type=3/\f3.offset=3)/\(f4.type=3/\f4.offset=4)/\(f5.type=3/\f5.offset=5)/\(f6.type=3/\f6.offset=6)/\(f7.type=3/\f7.offset=7)/\(f8.type=3/\f8.offset=8)/\(f9.type=3/\f9.offset=9)/\
  (f10.type=3/\f10.offset=10)/\(f11.type=3/\f11.offset=11):=⟨_,_,_,_,_,_,_,_,_,_,_,_,Tryz.underlying24,⟨rfl,rfl⟩,⟨rfl,rfl⟩,⟨rfl,rfl⟩,⟨rfl,rfl⟩,⟨rfl,rfl⟩,⟨rfl,rfl⟩,⟨rfl,rfl⟩,⟨rfl,rfl⟩,⟨rfl,rfl⟩,⟨rfl,rfl⟩,⟨rfl,rfl⟩,⟨rfl,rfl⟩⟩
 obtain⟨f0,f1,f2,f3,f4,f5,f6,f7,f8,f9,f10,f11,K,d,f,g,i,j,k,l,m,o,p,r,s⟩:=J;have M:Tryz.prog.cellsOf 24=12:=κ;have b:Tryz.prog.cellsOf 3=1:=κ;have N:Tryz.prog.cellsOf 22=1:=κ;obtain⟨O,n,_,_,t,P,a⟩:=anO K h;rw[M]at t
 match O,P with
 |[y0,y1,y2,y3,y4,y5,y6,y7,y8,y9,ae,al],_=>
  have t0:=a 0 f0 rfl;have t1:=a 1 f1 rfl;have t2:=a 2 f2 rfl;have t3:=a 3 f3 rfl;have t4:=a 4 f4 rfl;have t5:=a 5 f5 rfl;have t6:=a 6 f6 rfl;have t7:=a 7 f7 rfl;have t8:=a 8 f8 rfl;have t9:=a 9 f9 rfl;have t10:=a 10 f10 rfl;have t11:=a 11 f11 rfl;rw[d.1,d.2,N]at t0;rw[f.1,f.2,b]at t1;rw[g.1,g.2,b]at t2;rw[i.1,i.2,b]at t3;rw[j.1,j.2,b]at t4;rw[k.1,k.2,b]at t5;rw[l.1,l.2,b]at t6;rw[m.1,m.2,b]at t7;rw[o.1,o.2,b]at t8;rw[p.1,p.2,b]at t9;rw[r.1,r.2,b]at t10;rw[s.1,s.2,b]at t11;clear a h;obtain⟨R,u,_,_⟩:=ane Tryz.underlying3 t1;obtain⟨S,y,_,_⟩:=ane Tryz.underlying3 t2;obtain⟨T,z,_,_⟩:=ane Tryz.underlying3 t3;obtain⟨U,A,_,_⟩:=ane Tryz.underlying3 t4;obtain⟨W,B,_,_⟩:=ane Tryz.underlying3 t5;obtain⟨X,C,_,_⟩:=ane Tryz.underlying3 t6;obtain⟨Y,D,_,_⟩:=ane Tryz.underlying3 t7;obtain⟨Z,E,_,_⟩:=ane Tryz.underlying3 t8;obtain⟨n9,F,_,_⟩:=ane Tryz.underlying3 t9;obtain⟨ab,G,_,_⟩:=ane Tryz.underlying3 t10;obtain⟨ac,I,_,_⟩:=ane Tryz.underlying3 t11;clear t1 t2 t3 t4 t5 t6 t7 t8 t9 t10 t11
  match q,t with
  |[v0,v1,v2,v3,v4,v5,v6,v7,v8,v9,v10,v11],_=>
   simp only[anJ,List.take_succ_cons,anN,List.drop_succ_cons,List.cons.injEq,and_true]at u y z A B C D E F G I t0;subst u;subst y;subst z;subst A;subst B;subst C;subst D;subst E;subst F;subst G;subst I;obtain⟨sl,L,e,ad,hq⟩:=GZ (Q:=λv=>v.cF<9223372036854775808) (tv:=Vd.tv) (sz:=2) Tryz.underlying22 κ δ Vd.size (λ{fuel q x} h=>Board.af5 h) t0;subst e;exact⟨⟨sl,R,S,T,U,W,X,Y,Z,n9,ab,ac⟩,L,rfl,ad,hq⟩
theorem abg{q:List Value}{x:DataW H×List MemPlace}(h:anp enc Tryz.prog w base (λ_=>true) held fuel 58 q=some x):
 ∃(m:Ms)(row:List Bool),q=m.tv.cells/\aj 1 w.heap m.bits (aY row)/\Board.j9 m:=by
 have t:∃f0 f1 f2 f3 f4 f5 f6:Field,Tryz.prog.underlying 58=some (.struct #[f0,f1,f2,f3,f4,f5,f6])/\(f0.type=3/\f0.offset=0)/\(f1.type=3/\f1.offset=1)/\(f2.type=52/\f2.offset=2)/\
  (f3.type=3/\f3.offset=34)/\(f4.type=53/\f4.offset=35)/\(f5.type=54/\f5.offset=36)/\(f6.type=56/\f6.offset=37):=⟨_,_,_,_,_,_,_,Tryz.underlying58,⟨rfl,rfl⟩,⟨rfl,rfl⟩,⟨rfl,rfl⟩,⟨rfl,rfl⟩,⟨rfl,rfl⟩,⟨rfl,rfl⟩,⟨rfl,rfl⟩⟩
 obtain⟨f0,f1,f2,f3,f4,f5,f6,u,g,i,j,k,l,o,p⟩:=t;have y:Tryz.prog.cellsOf 58=53:=κ;have d:Tryz.prog.cellsOf 3=1:=κ;have z:Tryz.prog.cellsOf 53=1:=κ;have A:Tryz.prog.cellsOf 54=1:=κ;have r:Tryz.prog.cellsOf 52=32:=κ;have cG:Tryz.prog.cellsOf 56=16:=κ;have s:Tryz.prog.cellsOf 5=1:=κ;obtain⟨B,n,_,_,C,D,a⟩:=anO u h;rw[y]at C
 match B,D with
 |[T,U,V,W,X,Y,Z],_=>
  have t0:=a 0 f0 rfl;have t1:=a 1 f1 rfl;have t2:=a 2 f2 rfl;have t3:=a 3 f3 rfl;have t4:=a 4 f4 rfl;have t5:=a 5 f5 rfl;have t6:=a 6 f6 rfl;rw[g.1,g.2,d]at t0;rw[i.1,i.2,d]at t1;rw[j.1,j.2,r]at t2;rw[k.1,k.2,d]at t3;rw[l.1,l.2,z]at t4;rw[o.1,o.2,A]at t5;rw[p.1,p.2,cG]at t6;clear a h;obtain⟨n0,f,_,_⟩:=ane Tryz.underlying3 t0;obtain⟨E,F,_,_⟩:=ane Tryz.underlying3 t1;obtain⟨G,I⟩:=HV Tryz.underlying52 Tryz.underlying5 s r t2;obtain⟨J,K,_,_⟩:=ane Tryz.underlying3 t3;obtain⟨L,M,_,N⟩:=ane Tryz.underlying53 t4;obtain⟨O,P⟩:=HV Tryz.underlying56 Tryz.underlying5 s cG t6
  have c:∃v,(q.drop 36).take 1=[v]:=by
   refine⟨q[36],?_⟩;rw[List.drop_eq_getElem_cons ω];rfl
  obtain⟨v5,c⟩:=c;rw[c]at t5
  obtain⟨R,row,e,S,_⟩:=GZ (Q:=λ_=>True) (tv:=ani) (sz:=1) Tryz.underlying54 κ δ (λ_=>rfl) (λ{fuel q x} h=>by
   obtain⟨b,f,_⟩:=DataW.trod_bool Tryz.underlying4 h;exact⟨b,by rw[f];rfl,trivial⟩) t5
  refine⟨⟨n0,E,G,J,L,R,O⟩,row,?_,S,wf_u64 N⟩;have d0:=gG q 0 1;have d1:=gG q 1 1;have d2:=gG q 2 32;have d3:=gG q 34 1;have d4:=gG q 35 1;have d5:=gG q 36 1;have d6:=gG q 37 16;have d7:q.drop (37+16)=[]:=anS ω;rw[f]at d0;rw[F]at d1;rw[I]at d2;rw[K]at d3;rw[M]at d4;rw[c]at d5;rw[P,d7]at d6;rw[anJ]at d0;rw[d0,show(0+1)=1 from rfl,d1,show(1+1)=2 from rfl,d2,show(2+32)=34 from rfl,d3,show(34+1)=35 from rfl,d4,show(35+1)=36 from rfl,d5,show(36+1)=37 from rfl,d6,e];simp[Ms.tv,anV,ank,ana]
theorem Yc{q:List Value}{x:DataW H×List MemPlace}(h:anp enc Tryz.prog w base (λ_=>true) held fuel 60 q=some x):
 ∃v:Act×List Bool,q=v.1.tv.cells/\(aj 1 w.heap v.1.qy.bits (aY v.2)/\(anw .i64 v.1.peer).wf=true/\Board.j9 v.1.qy):=by
 have j:∃f0 f1 f2 f3 f4 f5:Field,Tryz.prog.underlying 60=some (.struct #[f0,f1,f2,f3,f4,f5])/\(f0.type=3/\f0.offset=0)/\(f1.type=3/\f1.offset=1)/\(f2.type=9/\f2.offset=2)/\
  (f3.type=58/\f3.offset=3)/\(f4.type=3/\f4.offset=56)/\(f5.type=4/\f5.offset=57):=⟨_,_,_,_,_,_,Tryz.underlying60,⟨rfl,rfl⟩,⟨rfl,rfl⟩,⟨rfl,rfl⟩,⟨rfl,rfl⟩,⟨rfl,rfl⟩,⟨rfl,rfl⟩⟩
 obtain⟨f0,f1,f2,f3,f4,f5,k,c,d,e,f,g,i⟩:=j;have l:Tryz.prog.cellsOf 60=58:=κ;have b:Tryz.prog.cellsOf 3=1:=κ;have m:Tryz.prog.cellsOf 9=1:=κ;have o:Tryz.prog.cellsOf 4=1:=κ;have p:Tryz.prog.cellsOf 58=53:=κ;obtain⟨r,n,_,_,s,t,a⟩:=anO k h;rw[l]at s
 match r,t with
 |[M,N,O,P,Q,R],_=>
  have t0:=a 0 f0 rfl;have t1:=a 1 f1 rfl;have t2:=a 2 f2 rfl;have t3:=a 3 f3 rfl;have t4:=a 4 f4 rfl;have t5:=a 5 f5 rfl;rw[c.1,c.2,b]at t0;rw[d.1,d.2,b]at t1;rw[e.1,e.2,m]at t2;rw[f.1,f.2,p]at t3;rw[g.1,g.2,b]at t4;rw[i.1,i.2,o]at t5;clear a h;obtain⟨n0,u,_,_⟩:=ane Tryz.underlying3 t0;obtain⟨y,z,_,A⟩:=ane Tryz.underlying3 t1;obtain⟨B,C,_,_⟩:=DataW.trod_string Tryz.underlying9 t2;obtain⟨D,row,E,F,G⟩:=abg t3;obtain⟨I,J,_,_⟩:=ane Tryz.underlying3 t4;obtain⟨K,L,_⟩:=DataW.trod_bool Tryz.underlying4 t5;refine⟨(⟨n0,y,B.data.toList,D,I,K⟩,row),?_,F,A,G⟩;have d0:=gG q 0 1;have d1:=gG q 1 1;have d2:=gG q 2 1;have d3:=gG q 3 53;have d4:=gG q 56 1;have d5:=gG q 57 1;have d6:q.drop (57+1)=[]:=anS ω;rw[u]at d0;rw[z]at d1;rw[C]at d2;rw[E]at d3;rw[J]at d4;rw[L,d6]at d5;rw[anJ]at d0;rw[d0,show(0+1)=1 from rfl,d1,show(1+1)=2 from rfl,d2,show(2+1)=3 from rfl,d3,show(3+53)=56 from rfl,d4,show(56+1)=57 from rfl,d5];simp[Act.tv,anV,ank]
structure FM where
 c:Cf
 A:Sl
def FM.tv(p:FM):TV:=.agg [p.c.tv,.slice p.A]
theorem FN{r:Reach}{E:Nat}{v:Value}{d:DataW H}{p:List MemPlace}(A:Value.okWide Tryz.prog w r E 42 v)(h:DataW.Trod enc Tryz.prog w base (λ_=>true) held 42 v d p):
 ∃q:FM,(∃V B,qu w.heap q.c V q.A B)/\v=q.tv.val:=by
 have t:∃f0 f1:Field,Tryz.prog.underlying 42=some (.struct #[f0,f1])/\(f0.type=24/\f0.offset=0)/\(f1.type=40/\f1.offset=12):=⟨_,_,Tryz.underlying42,⟨rfl,rfl⟩,⟨rfl,rfl⟩⟩;obtain⟨f0,f1,i,j,k⟩:=t;have u:Tryz.prog.cellsOf 42=13:=κ;have y:Tryz.prog.cellsOf 24=12:=κ;have z:Tryz.prog.cellsOf 40=1:=κ;unfold Value.okWide at A;rw[i]at A;simp only at A;obtain⟨a,rfl,K,_⟩:=A;obtain⟨fuel,l⟩:=h;have m:anp enc Tryz.prog w base (λ_=>true) held fuel 42 a.toList=some (d,p):=l;obtain⟨B,n,_,_,C,D,f⟩:=anO i m;rw[u]at C
 match B,D with
 |[M,N],_=>
  have t0:=f 0 f0 rfl;have t1:=f 1 f1 rfl;rw[j.1,j.2,y]at t0;rw[k.1,k.2,z]at t1;clear f l m;obtain⟨c,V,F,G,I⟩:=abf t0
  have b:∃v,(a.toList.drop 12).take 1=[v]:=by
   refine⟨a.toList[12],?_⟩;rw[List.drop_eq_getElem_cons ω];rfl
  obtain⟨v1,b⟩:=b;rw[b]at t1;obtain⟨o,L,e,J,s⟩:=GZ (Q:=λv:Act×List Bool=>aj 1 w.heap v.1.qy.bits (aY v.2)/\(anw .i64 v.1.peer).wf=true/\Board.j9 v.1.qy) (tv:=λv=>v.1.tv) (sz:=58) Tryz.underlying40 κ δ (λv=>by rw[FL,<-CW]) (λ{fuel a x} h=>Yc h) t1;refine⟨⟨c,o⟩,⟨V,L,G,I,⟨J,λx g=>(s x g).1⟩,λx g=>(s x g).2⟩,?_⟩;have d0:=gG a.toList 0 12;have d1:=gG a.toList 12 1;have d2:a.toList.drop (12+1)=[]:=anS ω;rw[F]at d0;rw[b,d2]at d1;rw[anJ]at d0;rw[show(0+12)=12 from rfl,d1,e]at d0;have:a=(c.tv.cells++([(anF o).val]++[])).toArray:=by rw[<-d0]
  rw[this];simp[FM.tv,ana,anV,ank]
end
end Gate
namespace Gate
open Board (Vd Cf Ms bw mB ud yO)
def aV:List Vd:=[⟨5,[107]⟩]
def aC(s:Sl):Cf:=⟨s,4,1,9,1,1,1,1,99,1,9,1⟩
def m_:Bs 32:=wP (aC am5) aV
def aM(t:Bs 16):Ms:=⟨1,1,m_,0,0,am5,t⟩
def ag8:Bs 16:=ud aV (aM (ann 16)) [] 0
end Gate
end Go.Proofs.YtennbinbffdimaaGreat

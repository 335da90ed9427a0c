/- The law SizeBounds holds for every input. -/
import Derived.Test.YtennbinbffdimaaGreatRows
import Derived.WalkKit
import Derived.ProofKit
import Derived.OpenShut
import Derived.ShutString
import Derived.ChangeOld
import Derived.Below
import Derived.Test.YtennbinbffdimaaGreatPk2
import Derived.Test.YtennbinbffdimaaGreatQk12
set_option maxRecDepth 100000
open Go.Vc.TV renaming val->anL
open Int renaming tdiv->anM,toNat->anN
open Nat renaming le_of_eq->anO
open List renaming range->anP,mem_map->anQ
namespace Go.Proofs.YtennbinbffdimaaGreat
open Go Go.Vc
namespace Gate
open Board (Vd Cf Ms Vt dF)
open Pool (It Fit lK rY)
structure Mk(c:Cf)(s:St):Prop where
 sl:s.tb.slots=c.ep
 lo:∀e∈s.tb.first,anM (mx (s.now-Clock.fB c.win) 0) c.ep<=e.1.2
 hi:∀e∈s.tb.first,1<=s.now/\e.1.2<=anM (s.now-1) c.ep
theorem take_mk{t:Tb}{v:Vt}:(c_ t v).2.slots=t.slots/\∀e∈(c_ t v).2.first,e∈t.first\/(0<=v.slot/\e.1.2=anM v.slot t.slots):=by
 unfold c_;by_cases b:0<=v.who/\v.who<t.bE.length/\0<=v.slot/\v.slot<=1073741824
 ·rw[if_neg (λh=>h b)]
  have more:∀e∈t.first++[((v.who,aP t v.slot),v.target)],e∈t.first\/(0<=v.slot/\e.1.2=anM v.slot t.slots):=λe a=>by
   rcases List.mem_append.1 a with h|h
   ·exact .inl h
   ·rw[List.mem_singleton.1 h];exact .inr ⟨b.2.2.1,rfl⟩
  repeat' split
  all_goals first|exact⟨rfl,λe a=>.inl a⟩|exact⟨rfl,more⟩
 ·rw[if_pos b];exact⟨rfl,λe a=>.inl a⟩
theorem agq{N:List Nd}{t:Tb}{v:Vt}:(iS N t v).2.slots=t.slots/\∀e∈(iS N t v).2.first,e∈t.first\/(0<=v.slot/\e.1.2=anM v.slot t.slots):=by
 unfold iS;split
 ·exact⟨rfl,λe a=>.inl a⟩
 ·split
  ·exact⟨rfl,λe a=>.inl a⟩
  ·exact take_mk
theorem ac8{N:List Nd}{E m:Int}:∀(W:List Vt)(t:Tb),t.slots=E->(∀v∈W,v.slot<=m)->(iw N t W).slots=E/\∀e∈(iw N t W).first,e∈t.first\/∃x,0<=x/\x<=m/\e.1.2=anM x E
 |[],t,q,_=>⟨q,λe A=>.inl A⟩
 |v::W,t,q,a=>by
  obtain⟨B,G⟩:=agq (N:=N) (t:=t) (v:=v);obtain⟨b,c⟩:=ac8 W (iS N t v).2 (B.trans q) λx d=>a x (List.mem_cons_of_mem _ d);refine⟨b,λe A=>?_⟩;rcases c e A with h|h
  ·rcases G e h with h|⟨h,f⟩
   ·exact .inl h
   ·exact .inr ⟨v.slot,h,a v (List.mem_cons_self ..),by rw[f,q]⟩
  ·exact .inr h
theorem afy{c:Cf}{V:List Vd}{x:It}(A:Fit zU x){v:Vt}(q:v∈qQ c V x):v.slot=x.slot:=by
 obtain⟨_,d,a,_,e⟩:=A;have b:x.slot=d.slot:=by rw[e];rfl
 unfold qQ Board.jG at q;split at q
 ·cases q
 ·obtain⟨i,_,rfl⟩:=anQ.1 q;rw[b,rY a];rfl
theorem ac9{c:Cf}{V:List Vd}{N:List Nd}{E m:Int}:∀(L:List It)(t:Tb),t.slots=E->(∀x∈L,Fit zU x/\x.slot<=m)->(f_ c V N t L).slots=E/\∀e∈(f_ c V N t L).first,e∈t.first\/∃x,0<=x/\x<=m/\e.1.2=anM x E
 |[],t,q,_=>⟨q,λe A=>.inl A⟩
 |x::L,t,q,a=>by
  have b:=a x (List.mem_cons_self ..);obtain⟨d,f⟩:=ac8 (N:=N) (m:=m) (qQ c V x) t q λv g=>by rw[afy b.1 g];exact b.2
  obtain⟨i,j⟩:=ac9 (c:=c) (V:=V) (N:=N) (m:=m) L (iw N t (qQ c V x)) d λy k=>a y (List.mem_cons_of_mem _ k);refine⟨i,λe A=>?_⟩;rcases j e A with h|h
  ·exact f e h
  ·exact .inr h
theorem aeq{a b E:Int}(q:0<=a)(h:a<=b)(A:1<=E):anM a E<=anM b E:=by
 rw[Int.tdiv_eq_ediv_of_nonneg q,Int.tdiv_eq_ediv_of_nonneg ω];exact Int.ediv_le_ediv ω h
section
variable{c:Cf}{V:List Vd}{s s':St}{k:Nat}
theorem age(q:1<=c.ep)(m:Mk c s)(A:Kept c s k):Mk c (fC c V s).2:=by
 unfold fC;split
 ·exact m
 ·have f:¬mx (s.now+1-Clock.fB c.win) 0<0:=by unfold mx;split<;>omega
  obtain⟨g,i⟩:=ac9 (c:=c) (V:=V) (N:=s.N) (m:=s.now) (s.wait.filter λx=>decide (x.slot<s.now+1)) s.tb m.sl λx j=>by
   obtain⟨a,b⟩:=List.mem_filter.1 j;have:=of_decide_eq_true b;exact⟨A.AH x a,ω⟩
  have p:=A.now.1;dsimp only;refine⟨?_,λe d=>?_,λe d=>?_⟩
  ·unfold dW;rw[if_neg f];exact g
  ·unfold dW at d;rw[if_neg f]at d;have:=of_decide_eq_true (List.mem_filter.1 d).2;unfold aP at this;rw[g]at this;exact this
  ·unfold dW at d;rw[if_neg f]at d;refine⟨by dsimp only;omega,?_⟩;dsimp only;rw[show s.now+1-1=s.now by omega];rcases i e (List.mem_filter.1 d).1 with h|⟨x,l,n,o⟩
   ·have:=m.hi e h;exact Int.le_trans this.2 (aeq ω ω q)
   ·rw[o];exact aeq l n q
theorem agf(B:1<=c.ep)(m:Mk c s)(A:Kept c s k){kind peer:Int}{t:LU}{r:Bs 32}(E:t.length<1000)(q:zz c V s kind peer t r s'):Mk c s':=by
 unfold zz at q;split at q
 ·subst q;exact age B m A
 split at q
 ·subst q;unfold aX;split
  ·exact m
  ·exact⟨m.sl,m.lo,m.hi⟩
 ·obtain⟨P,n,rfl,_⟩:=q;obtain⟨_,_,_,d,b⟩:=zj (V:=V) A (peer:=peer) E;exact⟨by dsimp only;rw[b];exact m.sl,λe a=>by dsimp only at a⊢;rw[b]at a;rw[d];exact m.lo e a,λe a=>by dsimp only at a⊢;rw[b]at a;rw[d];exact m.hi e a⟩
theorem ahw:Mk c (iq c V):=⟨rfl,λe a=>(by cases a),λe a=>(by cases a)⟩
end
theorem ae2{α:Type}[DecidableEq α]:∀(l L:List α),l.Nodup->(∀x∈l,x∈L)->l.length<=L.length
 |[],_,_,_=>Nat.zero_le _
 |x::l,L,a,b=>by
  rw[List.nodup_cons]at a;have c:=b x (List.mem_cons_self ..);have:=ae2 l (L.erase x) a.2 λy d=>(List.mem_erase_of_ne λe=>a.1 (by rw[<-e];exact d)).2 (b y (List.mem_cons_of_mem _ d));rw[List.length_erase_of_mem c]at this;have f:0<L.length:=List.length_pos_of_mem c;simp only[List.length_cons];omega
theorem ahk(n m:Nat)(lo:Int):((anP n).flatMap λ(i:Nat)=>(anP m).map λ(j:Nat)=>((i:Int),lo+(j:Int))).length=n*m:=by
 have h:∀n:Nat,((anP n).map λ_=>m).sum=n*m:=λn=>by
  induction n with
  |zero=>simp
  |succ k a=>rw[List.range_succ,List.map_append,List.sum_append,a,Nat.succ_mul];simp
 simp[List.length_flatMap,h]
theorem agr{t:Tb}{n m:Nat}{lo:Int}(o:wQ t n)(h:∀e∈t.first,lo<=e.1.2/\e.1.2<lo+m):t.first.length<=n*m:=by
 have:=ae2 (nC t.first) ((anP n).flatMap λ(i:Nat)=>(anP m).map λ(j:Nat)=>((i:Int),lo+(j:Int))) o.one λx b=>by
  obtain⟨e,a,rfl⟩:=anQ.1 b;have c:=o.fst e a;have d:=h e a;refine List.mem_flatMap.2 ⟨e.1.1.toNat,List.mem_range.2 ω,anQ.2 ⟨(e.1.2-lo).toNat,List.mem_range.2 ω,?_⟩⟩;rw[Int.toNat_of_nonneg c.1,Int.toNat_of_nonneg ω];exact Prod.ext rfl (by dsimp only;omega)
 rw[ahk]at this;have e:(nC t.first).length=t.first.length:=by unfold nC;simp
 omega
end Gate
section
open Go Go.Vc _root_.Go.Proofs.Tryz
open Go.IntKind (wrap)
set_option linter.unusedVariables false
variable{h:af}{R:Rt}
theorem aaP(q:Sl)(H:cL h (acS) 34 λa=>(0:Int)<=0/\0<(↑q.len:Int)/\Nn q.a λl=>nW a l.b (l.o+anN 0*1) λn=>(0:Int)<=1/\1<(↑q.len:Int)/\Nn q.a λl=>nW a l.b (l.o+anN 1*1) λc=>(0:Int)<=2/\2<(↑q.len:Int)/\Nn q.a λl=>nW a l.b (l.o+anN 2*1) λd=>(0:Int)<=3/\3<(↑q.len:Int)/\Nn q.a λl=>nW a l.b (l.o+anN 3*1) λe=>(0:Int)<=4/\4<(↑q.len:Int)/\Nn q.a λl=>nW a l.b (l.o+anN 4*1) λf=>(0:Int)<=5/\5<(↑q.len:Int)/\Nn q.a λl=>nW a l.b (l.o+anN 5*1) λg=>bS a h.size 0 6 (eN n c d e f g) λb=>ac3 b h.size 0 λn i j k m o=>R (anL (eN n i j k m o)) b):Cl 44 [.slice q] h R:=vi func44 H
theorem acg(g:OL)(H:fe g 13 h λp=>fe p 13 h λp=>fV p 4 h λs=>Go.Vc.Loop (0,0) h λ(a:Int×Int) h K=>If (decide (a.snd<(↑s.len:Int))) (DT a.snd s 1 0 h λb=>If b (K (wrap .i64 (a.fst+1),wrap .i64 (a.snd+1)) h) (K (a.fst,wrap .i64 (a.snd+1)) h)) (fe g 13 h λp=>fe p 12 h λp=>fV p 0 h λs=>fe g 14 h λp=>fV p 0 h λc=>fe g 15 h λp=>fV p 0 h λd=>fe g 16 h λp=>fV p 0 h λe=>fe g 13 h λp=>fe p 13 h λp=>fV p 2 h λf=>R (anL (.slice (Sl.mk (some (Loc.mk h.size 0)) 6 6))) (Array.push h (row (ak.cells [.i (↑s.len:Int),.i (↑c.len:Int),.i (↑d.len:Int),.i (↑e.len:Int),.i a.fst,.i (↑f.len:Int)]) 3)))):Cl 45 [.ptr g] h R:=vi func45 H
end
namespace Gate
open Board (Vd Cf Ms Vt Et)
open Pool (It Fit)
theorem afB{t:Tb}{n k:Nat}(o:wQ t n)(h:n<=k):eB t (k:Int)=none:=by
 unfold eB;rw[if_pos (Int.natCast_nonneg k),Int.toNat_natCast,List.getD_eq_getElem?_getD,List.getElem?_eq_none (by rw[o.Ac];exact h)];rfl
theorem ach{t:Tb}{n:Nat}(o:wQ t n):∀d,bN t (n+d)=bN t n
 |0=>rfl
 |d+1=>by
  rw[<-Nat.add_assoc,abQ,afB o ω,ach o d];rfl
section
variable{R:Rq}{h:af}{m:Nat}{b:RAd}{c:Cf}{V:List Vd}{s:St}{F:Nat->Nat->Prop}
theorem ags(p:aZ h m b c V s F)(E:∀f g,Ext h f->aj 1 f g ([(s.N.length:Int),s.kids.length,s.wait.length,s.sc.length,bN s.tb V.length,s.tb.first.length].map (TV.i))->g.len=6->R (TV.slice g).val f):
 Cl 45 [.ptr (PT m)] h R:=by
 apply acg;obtain⟨S,U,a⟩:=p.var;obtain⟨A,B,D,u,_⟩:=p.tree;obtain⟨v,W,Ha,X,tb,_⟩:=p.gH;obtain⟨j,w,_⟩:=p.kids;obtain⟨k,y,_⟩:=p.wait;obtain⟨P1,P2,z,_⟩:=p.who;have G:=u.la;have l2:=tb.lf;have Y:=tb.lha;have H:=w.el.len;have I:=y.el.len;have l:=z.a.len;have Z:=tb.ok.nn;rw[List.length_map]at H I l;refine⟨_,a.ah rfl,_,p.bk.ah rfl,_,tb.var.ah rfl,?_⟩;refine⟨λσ d=>d=h/\0<=σ.2/\σ.2<=V.length/\σ.1=bN s.tb σ.2.toNat,λσ _=>((V.length:Int)-σ.2).toNat,⟨rfl,Int.le_refl 0,Ω,rfl⟩,?_⟩;rintro⟨n,i⟩ d ⟨rfl,q,J,e⟩;dsimp only at q J e⊢;subst e;have ab:=acV s.tb i.toNat;refine ID (λK=>?_) λK=>?_
 ·have ac:i.toNat<V.length:=ω;obtain⟨_,C⟩:=aeN tb.ok q ω;rw[KI]at C;have vs:=abQ s.tb i.toNat;rw[show((i.toNat:Nat):Int)=i by omega]at vs;refine VN tb.ha.elems q C (If.split (λr=>?_) λr=>?_)
  ·rw[if_pos r]at vs;rw[wrap_i64 (n:=bN s.tb i.toNat+1) ω ω,wrap_i64 (n:=i+1) ω ω];exact⟨⟨rfl,Ω,Ω,by rw[show(i+1).toNat=i.toNat+1 by omega,vs]⟩,Ω⟩
  ·rw[if_neg (by rw[r];decide)]at vs;rw[wrap_i64 (n:=i+1) ω ω];exact⟨⟨rfl,Ω,Ω,by rw[show(i+1).toNat=i.toNat+1 by omega,vs]⟩,Ω⟩
 ·have L:i.toNat=V.length:=ω;refine⟨_,a.ah rfl,_,p.bk.ah rfl,A,u.var.ah rfl,_,a.ah rfl,j,w.var.ah rfl,_,a.ah rfl,k,y.var.ah rfl,_,a.ah rfl,P1,z.var.ah rfl,_,a.ah rfl,_,p.bk.ah rfl,v,tb.var.ah rfl,?_⟩
  have o:=(Vc.Own.new (T:=3) (sz:=1) d ([(s.N.length:Int),s.kids.length,s.wait.length,s.sc.length,bN s.tb V.length,s.tb.first.length].map (TV.i)) λt M=>by
   obtain⟨x,_,rfl⟩:=anQ.1 M;rfl).elems
  have N:=Ext.push d (row (ak.cells [TV.i (A.len:Int),TV.i (j.len:Int),TV.i (k.len:Int),TV.i (P1.len:Int),TV.i (bN s.tb i.toNat),TV.i (v.len:Int)]) 3);refine E _ _ N ?_ rfl;have O:j.len=s.kids.length:=ω;have P:k.len=s.wait.length:=ω;have Q:P1.len=s.sc.length:=by unfold Peers.keys at l;rw[List.length_map]at l;omega
  rw[G,l2,O,P,Q,L];exact o
end
end Gate
section
open Go Go.Vc _root_.Go.Proofs.Tryz
open Go.IntKind (wrap)
set_option linter.unusedVariables false
abbrev ah5(h:af)(b o:Nat)(K:Int->Int->Int->Int->Int->Int->Prop):Prop:=∃(a:Int)(c:Int)(d:Int)(e:Int)(f:Int)(g:Int),(ah h b o (.i a)/\ah h b (o+1) (.i c)/\ah h b (o+1+1) (.i d)/\ah h b (o+1+1+1) (.i e)/\ah h b (o+1+1+1+1) (.i f)/\ah h b (o+1+1+1+1+1) (.i g))/\K a c d e f g
abbrev ah6(p:OL)(k:Nat)(h:af)(K:Int->Int->Int->Int->Int->Int->Prop):Prop:=Nn p λl=>ah5 h l.b (l.o+k) K
variable{h:af}{R:Rt}
theorem kB(al:Sl)(am ao:Int)(ap ar:Int)(aw aE:Int)(a0 a1:Int)(a2 a3:Int)(a4:Int)(a5:Sl)(H:cL h (rC al am ao ap ar aw aE a0 a1 a2 a3 a4 a5) 42 λa9=>bR 17 [] a9 λb Y=>If (!b) (R (anL (.bool false)) Y) (LM Y h.size 0 λs n a' ba bb bc bd bi bj bk bl bm bo=>bR 26 [(rC s n a' ba bb bc bd bi bj bk bl bm bo),.i 100] Y λbp Z=>If bp (R (anL (.bool true)) Z) (gy Z h.size 0 λbr bt bx b0 b1 b2 b3 b5 b6 b7 b8 b9=>Oj 19 [bD br bt bx b0 b1 b2 b3 b5 b6 b7 b8 b9] Z λp ca a6=>gy a6 h.size 0 λcd ce cf ch ci cj cl cp cs ct cw cx=>H6 27 [bD cd ce cf ch ci cj cl cp cs ct cw cx] a6 λJ cy ab=>bM (λ(cA:Bool) f=>bM (λ(k:Int×OL×Int) a=>LM a h.size 0 λcB L M N O P Q S T U V x cC=>Y6 28 [rC cB L M N O P Q S T U V x cC] a λa7 m o=>S_ o h.size 12 λa8=>Go.Vc.Loop (cA,0) o λ(q:Bool×Int) d K=>If (decide (q.snd<(↑a8.len:Int))) (Tc q.snd a8 58 0 d λy z cI A B cJ C D cK cM E cP=>nX d (JJ) 60 58 (ur y z cI A B cJ C D cK cM E cP) λF=>nW F d.size 56 λg=>wrap .u64 (↑m.len:Int)≠0/\0<=wrap .i64 (Int.tmod (wrap .u64 g) (wrap .u64 (↑m.len:Int)))/\wrap .i64 (Int.tmod (wrap .u64 g) (wrap .u64 (↑m.len:Int)))<(↑m.len:Int)/\Nn m.a λl=>CZ F l.b (l.o+anN (wrap .i64 (Int.tmod (wrap .u64 g) (wrap .u64 (↑m.len:Int))))*32) λcR=>nX F (.bytes 32 (Bs.zero 32)) 52 32 (.bytes 32 cR) λj=>bM (λ(dT:PUnit) cS=>adb 21 [.ptr p] cS λG I r t u v W=>nX W (acS) 34 6 (eN G I r t u v) λac=>ac3 ac W.size 0 λw c cT cU cX cY=>ah6 k.snd.fst 0 ac λc1 c2 c3 c6 c9 c'=>bR 22 [(eN w c cT cU cX cY),(eN c1 c2 c3 c6 c9 c')] ac λda ad=>If (!da) (R (anL (.bool false)) ad) (ac3 ad W.size 0 λdb dd de df di dj=>jK 24 [eN db dd de df di dj] ad λdk X=>If (decide (k.snd.snd<dk)) (R (anL (.bool false)) X) (ac3 X W.size 0 λn dl dp dq dr ds=>uO 45 [.ptr J] X λs h=>Ext X h/\adb 44 [.slice s] h λdt du dv dC dE dS ae=>Ext h ae/\If (!(decide (n=dt)&&(decide (dl=du)&&(decide (dp=dv)&&(decide (dq=dC)&&(decide (dr=dE)&&(decide (ds=dS)&&true))))))) (R (anL (.bool false)) ae) (K (q.fst,wrap .i64 (q.snd+1)) ae)))) λe=>nW j d.size 0 λn=>If (decide (n=2)) (bR 39 [.ptr p] j λb h=>bR 40 [.ptr J] h λb h=>e PUnit.unit h) (If (decide (n=3)) (CZ j F.size 0 λb=>jK 41 [.ptr p,.bytes 32 b] j λn h=>CZ h F.size 0 λb=>jK 42 [.ptr J,.bytes 32 b] h λn h=>e PUnit.unit h) (nW j d.size 1 λn=>sB q.snd a7 1 0 j λs=>jK 20 [.ptr p,.i n,.str s] j λn h=>nW h d.size 1 λn=>sB q.snd a7 1 0 h λs=>jK 43 [.ptr J,.i n,.str s] h λn h=>e PUnit.unit h))) (R (anL (.bool true)) d)) λe=>gy f h.size 0 λs n L M N O P Q S T U V=>gy f h.size 0 λk x y z A B C D E g G I=>(adb 23 [bD s n L M N O P Q S T U V] f λn r t u v w h=>Ext f h/\(jK 38 [bD k x y z A B C D E g G I] h λc h=>cL h (acS) 34 λa=>Ext h a/\bS a h.size 0 6 (eN n r t u v w) λo=>e (c,some (Loc.mk h.size 0),c) o)/\cL h (acS) 34 λa=>Ext h a/\jK 38 [bD k x y z A B C D E g G I] a λc o=>bS o h.size 0 6 (eN n r t u v w) λd=>e (c,some (Loc.mk h.size 0),c) d)/\cL f (acS) 34 λh=>Ext f h/\adb 23 [bD s n L M N O P Q S T U V] h λn r t u v w a=>Ext h a/\jK 38 [bD k x y z A B C D E g G I] a λc h=>bS h f.size 0 6 (eN n r t u v w) λh=>e (c,some (Loc.mk f.size 0),c) h) λe=>If (!decide (ca=0)) (R (anL (.bool true)) ab) (If (!cy) (R (anL (.bool true)) ab) (e false ab))))):Cl 6 [rC al am ao ap ar aw aE a0 a1 a2 a3 a4 a5] h R:=vi func6 H
end
namespace Gate
open Board (Vd Cf Ms jx aq bh)
open Pool (It Fit eM Dw rts)
section
variable{R:Rq}{h h1 hL hh:af}{mid g m k:Nat}{c:Cf}{q:Sl}{V:List Vd}{s:St}{A:Sl}{xs:List (Act×List Bool)}
theorem aeT{B:Sl}{x:Pt}(e:aj 1 h B ([x.n,x.o,x.e,x.p,x.v,x.m].map (TV.i)))(G:B.len=6)(E:∀a,Ext h a->R x.tv.val a):Cl 44 [.slice B] h R:=by
 apply aaP;refine aa λh1 v1 b q=>?_;have d:=e.ext b
 have rd:∀(i:Int)(n:Int){K:Int->Prop},0<=i->i<6->[x.n,x.o,x.e,x.p,x.v,x.m][i.toNat]? =some n->K n->0<=i/\i<(B.len:Int)/\Nn B.a λl=>∃n:Int,ah h1 l.b (l.o+i.toNat*1) (.i n)/\K n:=λi n K f r g j=>by
  refine d.read f ω λl t _ c k=>?_;rw[List.getElem?_map,g]at c;cases c;exact⟨n,k,j⟩
 refine rd 0 x.n δ δ rfl (rd 1 x.o δ δ rfl (rd 2 x.e δ δ rfl (rd 3 x.p δ δ rfl (rd 4 x.v δ δ rfl (rd 5 x.m δ δ rfl ?_)))));refine aq (t0:=Pt.zero.tv) v1 (t:=x.tv) (by rfl) (by rfl) λm o f2 s=>?_;have w:=o.at;exact⟨_,_,_,_,_,_,w,E m (ag.cut b f2 λi p=>anO (Eq.symm p))⟩
theorem dc.ahl(p:dc h1 hL hh mid g m c q V s k){T:TypeId}{b:Nat}{t:TV}(v:Var T hL b t)(B:mid<=b):Var T hh b t:=by
 obtain⟨a,b',P,e,f,h,d⟩:=p;exact v.only d.only λi=>ω
theorem agt(p:dc h1 hL hh mid g m c q V s k)(mk:Mk c s):ac2 (cc s) (eR c V)=true/\xN (cc s)<=xN (eR c V):=by
 obtain⟨a,b,P,B,C,d,D⟩:=p;have can:=d.p.D.can;have o:rz s.N c.no:=d.p.D.tok;have f:=d.kept;obtain⟨E,F,Ha,G,tb,_⟩:=d.p.D.gH;have ok:wQ s.tb V.length:=tb.ok;have h:=d.p.D.good.2;have H:s.sc.length=P.length:=d.perm.length_eq;have h:(P.length:Int)<=c.pe:=h;have I:=ok.nn
 have j:bN s.tb 64=bN s.tb V.length:=by
  have:=ach ok (64-V.length)
  rwa [show V.length+(64-V.length)=64 by omega]at this
 have J:=acV s.tb V.length;have len:=o.len;have K:=f.AG;have L:=f.Cd;have N:=can.ep;have l:=can.win;have O:=can.no;have Q:=can.eV;have R:=can.eH;have S:=can.pe
 have n:Clock.fB c.win=c.win:=by
  unfold Clock.fB Vc.mn Vc.mx
  repeat' split
  all_goals omega
 have d0:0<=c.win/c.ep:=Int.ediv_nonneg ω ω;have d1:c.win/c.ep<=64:=Int.le_trans (Int.ediv_le_self _ ω) l.2;obtain⟨w,r⟩:∃w:Nat,c.win/c.ep=w:=⟨(c.win/c.ep).toNat,ω⟩
 have t:s.tb.first.length<=V.length*(w+2):=by
  rcases List.eq_nil_or_concat s.tb.first with e|⟨_,_,_⟩
  ·rw[e];exact Nat.zero_le _
  refine agr (lo:=anM (mx (s.now-Clock.fB c.win) 0) c.ep) ok λe i=>⟨mk.lo e i,?_⟩;obtain⟨T,u⟩:=mk.hi e i;have U:0<=mx (s.now-Clock.fB c.win) 0:=by unfold Vc.mx;split<;>omega
  have v:s.now-1<=mx (s.now-Clock.fB c.win) 0+c.win:=by rw[n];unfold Vc.mx;split<;>omega
  generalize mx (s.now-Clock.fB c.win) 0=z at*;rw[Int.tdiv_eq_ediv_of_nonneg ω]at u⊢;have W:(s.now-1)/c.ep<=(z+c.win)/c.ep:=Int.ediv_le_ediv ω v
  have X:(z+c.win)/c.ep<=z/c.ep+c.win/c.ep+1:=by
   have Y:=Int.mul_ediv_add_emod z c.ep;have Z:=Int.mul_ediv_add_emod c.win c.ep;have b1:=Int.emod_lt_of_pos z (show 0<c.ep by omega);have b2:=Int.emod_lt_of_pos c.win (show 0<c.ep by omega);apply Int.lt_add_one_iff.1;apply Int.ediv_lt_of_lt_mul ω
   have x:(z/c.ep+c.win/c.ep+1+1)*c.ep=c.ep*(z/c.ep)+c.ep*(c.win/c.ep)+2*c.ep:=by
    rw[Int.add_mul,Int.add_mul,Int.add_mul,Int.mul_comm c.ep,Int.mul_comm c.ep];omega
   rw[x];omega
  omega
 have ab:(s.tb.first.length:Int)<=V.length*(c.win/c.ep+2):=by
  rw[r,show((w:Int)+2)=((w+2:Nat):Int) by omega,<-Int.natCast_mul];exact Int.ofNat_le.2 t
 have hb:(V.length:Int)*(c.win/c.ep+2)<=64*66:=Int.mul_le_mul ω ω ω δ;have y:eR c V=⟨c.no,c.eV,c.eH,c.pe,V.length,V.length*(c.win/c.ep+2)⟩:=if_pos (mR.2 can);have A:cc s=⟨s.N.length,s.kids.length,s.wait.length,s.sc.length,bN s.tb V.length,s.tb.first.length⟩:=by unfold cc;rw[j]
 rw[y,A];generalize(V.length:Int)*(c.win/c.ep+2)=M at*;refine⟨?_,?_⟩
 ·unfold ac2;simp only[Bool.and_eq_true,decide_eq_true_eq];refine⟨ω,ω,ω,ω,ω,ω⟩
 ·unfold xN afv;dsimp only;rw[wrap_i64 ω ω,wrap_i64 ω ω];omega
theorem dc.both(p:dc h1 hL hh mid g m c q V s k):∃a b F F',aR hh g a {c with vals:=q} V s F/\∃P,aZ hh m b c V (gh s P) F'/\s.sc.length=P.length:=by
 obtain⟨a,b,P,e,f,d,h⟩:=p;exact⟨a,b,e,f,d.p.G,P,d.p.D,d.perm.length_eq⟩
theorem dc.ah7(p:dc h1 hL hh mid g m c q V s k)(B:k<700){K:af->Prop}(E:∀f h,dc h1 hL f mid g m c q V h (k+1)->h=(fC c V s).2->K f):
 Cl 39 [.ptr (PT g)] hh λv i=>∃b:Bool,v=anL (.bool b)/\Cl 40 [.ptr (PT m)] i λv d=>∃b:Bool,v=anL (.bool b)/\K d:=by
 obtain⟨a,b,P,w,x,j,l⟩:=p;exact(Yb (R2:=λ_ v d=>∃b:Bool,v=anL (.bool b)/\K d) j B λd Q n o r t=>⟨_,rfl,E d _ ⟨a,b,Q,n,o,r,l.step t⟩ rfl⟩).mono λv i⟨e,_,u⟩=>⟨_,e,u⟩
theorem dc.ahx{E:af}(p:dc h1 hL E mid g m c q V s k)(x:Ext E hh){root:Bs 32}{B:Nat}(J:E.size<=B)(v:Var 52 hh B (.bytes 32 root)){K:af->Prop}(G:∀j l,dc h1 hL j mid g m c q V l (k+1)->l=(aX c s root).2->K j):
 Cl 41 [.ptr (PT g),.bytes 32 root] hh λv h=>∃n:Int,v=anL (.i n)/\∃b:Bs 32,av h B 0 32 b/\Cl 42 [.ptr (PT m),.bytes 32 b] h λv d=>∃n:Int,v=anL (.i n)/\K d:=by
 obtain⟨a,b,P,r,t,o,u⟩:=p;have y:¬vJ r t B:=λz=>by have:=o.p.lt _ z;omega
 exact(UC (R2:=λ_ v d=>∃n:Int,v=anL (.i n)/\K d) (o.ext x) λd A b' C D F H=>⟨_,rfl,G d _ ⟨A,b',P,C,D,Lp F,(u.more x).step H⟩ rfl⟩).mono λw h⟨e,f,I⟩=>⟨_,e,root,(v.only f y).bytes,I⟩
theorem ac1{h:af}(p:qu h c V A xs)(hr:∀C,Ext h C->R (TV.bool true).val C):Cl 6 [.agg [c.tv,.slice A]] h R:=by
 apply kB c.vals c.ep c.aQ c.no c.eV c.eH c.quo c.pe c.iy c.win c.bH c.dec A;refine aa λh1 v1 x1 s1=>afw λh2 x2=>⟨_,rfl,If.no ?_⟩;have v2:Var 42 h2 h.size (.agg [c.tv,.slice A]):=Var.ext (t:=.agg [c.tv,.slice A]) v1 x2;have ab:=x1.trans x2;have p2:=p.ext ab;refine CY v2 (ku p2.ev p2.Cq δ (λJ O=>⟨_,rfl,If.yes (hr J (ab.trans O))⟩) λJ O lc bo ok=>⟨_,rfl,If.no ?_⟩);have ac:=ab.trans O;have v3:=v2.ext O;have p3:=p2.ext O;refine tC v3 p3 lc (λhb z K=>?_) λk z g m a b q F1 F2 al K lo=>?_
 ·intro F E;exact If.yes (hr z (ac.trans K))
 intro F E;refine If.no (If.no (E _ z ?_));clear E F;have bp:=ac.trans K;have v5:=v3.ext K;have L:=p3.ext K;have a3:=Jw p ok;intro F E
 have leaf:∀(hh:af)(X:Nat),Ext z hh->z.size<=X->Var 34 hh X (eR c V).tv->F (xN (eR c V),some ⟨X,0⟩,xN (eR c V)) hh:=by
  intro hm X S lm vm;refine E _ _ ?_;clear E F;have vp:=v5.ext S;have pp:=L.ext S;refine xQ vp pp k ω ok λH T Q told x6 v6=>⟨A,v6.at.2,?_⟩;have told:Told H z.size T Q (iE c V xs).2 (iE c V xs).1:=⟨told.t,told.n,λi j=>by have:=told.tm i j;have:=S.size;omega,λi j=>by have:=told.nm i j;have:=S.size;omega⟩;have ap:=S.trans x6;have a4:At J H H z.size F1 F2:=⟨K.trans ap,ag.refl _ _,λi j=>⟨lo i j,.inl (al.p.lt i j)⟩⟩;have a5:dc J H H z.size g m c q V (iq c V) 0:=⟨a,b,[],F1,F2,al.ext ap,a4⟩;have br:=p.Cq.len;have a6:=vm.ext x6;refine⟨λσ hh=>0<=σ.2/\σ.2<=xs.length/\∃s,dc J H hh z.size g m c q V s σ.2.toNat/\Mk c s,λσ _=>((xs.length:Int)-σ.2).toNat,⟨Int.le_refl 0,Ω,iq c V,a5,ahw⟩,?_⟩;rintro⟨f,i⟩ hh ⟨U,i1,s,I,mk⟩;dsimp only at U i1 I⊢;have xb:=I.base;refine ID (λj=>?_) λj=>hr hh (ac.trans xb);have a7:i.toNat<xs.length:=ω;obtain⟨x,hx⟩:∃x,xs[i.toNat]? =some x:=⟨_,List.getElem?_eq_getElem a7⟩;have a8:=List.mem_of_getElem? hx;have hp:=(p.fit x a8).1;obtain⟨t,ht,tl⟩:=Cr (c:=c) (V:=V) U ω a3;refine tE (p3.Cq.ext xb) U hx λY Z l=>?_;have ad:=I.ext l;obtain⟨l1,l2,l3⟩:=Ep (c:=c) (V:=V) xs;refine⟨x.1.which,Z.at.2.2.2.2.1,VY (ad.told told).2 (λhn=>by rw[hn]at l2;simp at l2) ω ?_⟩;obtain⟨root,a9⟩:∃r,r=(iE c V xs).1.getD (xP (iE c V xs).1.length x.1.which) (Bs.zero 32):=⟨_,rfl⟩;rw[<-a9];refine aa λM v10 x10 ae=>aq (t:=.bytes 32 root) v10 eM.symm (eM.trans eM.symm) λba v11 f11 bt=>?_;have W:Ext Y ba:=ag.cut x10 f11 λi j=>anO (Eq.symm j);have w9:=Z.ext W;have ar:=ad.ext W;have z9:=l.size;have bx:=W.size;intro F E
  have go:∀C d,dc J H C z.size g m c q V d (i.toNat+1)->Mk c d->F PUnit.unit C:=by
   intro bb d B mk';refine E _ _ ?_;obtain⟨bc,b0⟩:=agt B mk';obtain⟨a',b',Fa,Fb,G,P,D,hP⟩:=B.both;have bd:=B.ahl a6 lm;obtain⟨Fi,La,Ha,Ou,tb,_⟩:=D.gH;have tok:wQ d.tb V.length:=tb.ok;have hn:=tok.nn
   have hv:bN d.tb 64=bN d.tb V.length:=by
    have:=ach tok (64-V.length)
    rwa [show V.length+(64-V.length)=64 by omega]at this
   refine acX G λb1 bi=>⟨_,_,_,_,_,_,rfl,aa λb2 bj IJ b3=>aq (t0:=Pt.zero.tv) bj (t:=(cc d).tv) (by rfl) (by rfl) λbk v17 f17 b5=>?_⟩;have aw:Ext bb bk:=bi.trans (ag.cut IJ f17 λi j=>anO (Eq.symm j));refine⟨_,_,_,_,_,_,v17.at,_,_,_,_,_,_,(bd.ext aw).at,aeW (x:=cc d) (y:=eR c V) λb6 am=>⟨_,rfl,?_⟩⟩;rw[bc];refine If.no ⟨_,_,_,_,_,_,(v17.ext am).at,acz (x:=cc d) λb7 aE=>⟨_,rfl,ID (λhh=>absurd hh ω) λ_=>⟨_,_,_,_,_,_,((v17.ext am).ext aE).at,?_⟩⟩⟩;have a0:=(aw.trans am).trans aE;refine ags (D.ext a0) λb8 sl a1 el hl=>⟨_,rfl,a1,aeT (x:=cc d) ?_ hl λb9 a2=>⟨_,_,_,_,_,_,rfl,a2,If.no' (by simp) ?_⟩⟩
   ·rw[show([(cc d).n,(cc d).o,(cc d).e,(cc d).p,(cc d).v,(cc d).m]:List Int)=[((gh d P).N.length:Int),(gh d P).kids.length,(gh d P).wait.length,(gh d P).sc.length,bN (gh d P).tb V.length,(gh d P).tb.first.length]from by
     unfold cc gh;dsimp only;rw[hP,hv]]
    exact el
   ·rw[wrap_i64 (n:=i+1) ω ω];refine⟨⟨Ω,Ω,d,?_,mk'⟩,Ω⟩
    try dsimp only
    rw[show(i+1).toNat=i.toNat+1 by omega];exact B.ext ((a0.trans a1).trans a2)
  have ao:=k.ep.1;refine⟨x.1.kind,w9.at.1,ID (λk2=>ar.ah7 ω λC d B e=>go C d B (by rw[e];exact age ao mk I.kept)) λk2=>If.dec.2 ⟨λk3=>?_,λk3=>?_⟩⟩
  ·exact⟨root,v11.bytes,ad.ahx W (Nat.le_refl _) v11 λC d B e=>go C d B (by rw[e];exact agf (V:=V) (kind:=3) (peer:=0) (t:=[]) (r:=root) ao mk I.kept δ (by unfold zz;rw[if_neg δ,if_pos rfl]))⟩
  ·refine⟨x.1.peer,w9.at.2.1,Er (ar.told told).1 U ht (I.left (l.trans W) ω hp tl λca ha va=>⟨_,rfl,?_⟩)⟩;have bl:=va (Nat.le_refl _) w9;refine⟨x.1.peer,bl.at.2.1,Er (ha.told told) U ht (ha.right (Ext.refl _) ω hp tl λbm d B x' nx=>⟨_,rfl,go bm d B ?_⟩)⟩;exact agf (kind:=x.1.kind) (peer:=x.1.peer) (t:=t) (r:=root) ao mk I.kept tl (by unfold zz;rw[if_neg k2,if_neg k3];exact nx)
 clear E;refine CX v5 (CX v5 ⟨?_,?_⟩)
 ·refine acn L.ev ω λh7 u=>⟨_,_,_,_,_,_,rfl,u,?_,?_⟩
  ·exact abv (L.ev.ext u) ω λh8 w=>⟨_,rfl,aa λY Z l s9=>⟨l,aq (t0:=Pt.zero.tv) Z (t:=(eR c V).tv) (by rfl) (by rfl) λM v10 f10 ae=>leaf M _ ((u.trans w).trans (ag.cut l f10 λi j=>anO (Eq.symm j))) (by have:=u.size;have:=w.size;omega) v10⟩⟩
  ·exact aa λh8 v8 w s8=>⟨w,abv ((L.ev.ext u).ext w) ω λY l=>⟨_,rfl,aq (t0:=Pt.zero.tv) (v8.ext l) (t:=(eR c V).tv) (by rfl) (by rfl) λM v10 f10 ae=>leaf M _ (u.trans (ag.cut (w.trans l) f10 λi j=>anO (Eq.symm j))) (by have:=u.size;omega) v10⟩⟩
 ·exact aa λh7 v7 u s7=>⟨u,acn (L.ev.ext u) ω λh8 w=>⟨_,_,_,_,_,_,rfl,w,abv ((L.ev.ext u).ext w) ω λY l=>⟨_,rfl,aq (t0:=Pt.zero.tv) ((v7.ext w).ext l) (t:=(eR c V).tv) (by rfl) (by rfl) λM v10 f10 ae=>leaf M _ (ag.cut ((u.trans w).trans l) f10 λi j=>anO (Eq.symm j)) (Nat.le_refl _) v10⟩⟩⟩
theorem acW{h:af}{q:FM}(p:∃V xs,qu h q.c V q.A xs)(B:∀a,Ext h a->R (TV.bool true).val a):Cl 6 [q.tv] h R:=by
 obtain⟨V,xs,p⟩:=p;exact ac1 p B
end
end Gate
namespace sizeBounds
open Go.Vc
open Go.ChangeShapes Go.WideShapes Go.ChangeAt Go.RowKit
open Go.ChangeMaps (open_string shut_string)
set_option linter.unusedVariables false
theorem own:ownKnob Tryz.prog.godebug=none:=κ
theorem laidOut:laidOutB Tryz.prog=true:=κ
theorem lifted(A:Os)(B:A.Started)(H:Type)(enc:TypeId×Value->H):
 ReturnsInHanded {} Tryz.checked A 6 .any (Rows.sizeBoundsSpec.pre6 enc Tryz.prog Tryz.f6 Rows.sizeBoundsRow.domain false) (Rows.sizeBoundsSpec.post enc Tryz.prog Tryz.f6 false true false false):=by
 refine returnsInHanded_of_change (C:=Tryz.checked) own B κ Tryz.func6
  (ChangeSpec.witness6 (enc:=enc) (C:=Tryz.checked) false ⟨#[],#[.agg #[.slice none 0 0,.i 0,.i 0,.i 0,.i 0,.i 0,.i 0,.i 0,.i 0,.i 0,.i 0,.i 0,.slice none 0 0]],[]⟩ 8 κ κ κ κ) ?_
 intro W base args n G I a b J _;have c:∀(j:Nat) t v,Tryz.f6.params[j]? =some t->args[j]? =some v->Value.okWide Tryz.prog W .any base t v:=a;have o:=b;obtain⟨p,q,d,r,rfl,K,L⟩:=b;have f:DataW.TrodAll enc Tryz.prog W 0 (λ_=>true) true Tryz.f6.params.toList args.toList n p:=d;rw[Tryz.params6]at f c;obtain⟨v0,M,d0,N,s,O,P,rfl,rfl,g,u⟩:=trodAll_cons f;obtain⟨rfl,rfl,rfl⟩:=trodAll_nil u;obtain rfl:args=#[v0]:=by cases args;simp_all
 obtain⟨rfl,rfl⟩:=trodVars_none r;obtain⟨c0,w,rfl⟩:=Go.Proofs.YtennbinbffdimaaGreat.Gate.FN (c 0 42 v0 rfl rfl) g;have k:=g;have y:∀x∈s,x.block<W.heap.size:=by obtain⟨m,z⟩:=k;exact DataW.trod_lt m _ _ _ z
 clear d a
 have D:Calls Tryz.prog 6 #[c0.tv.val] W λe E=>e=.returned (.bool true)/\Below W.heap.size W E:=by
  exact(bC.fin (args:=ak.vals [c0.tv]) (Go.Proofs.YtennbinbffdimaaGreat.Gate.acW w λQ e=>⟨rfl,e⟩))
 refine D.mono λe W'⟨F,l⟩=>?_;subst F;exact⟨_,rfl,_,_,_,[],_,[],o,trodAll_mk1 (shut_bool Tryz.underlying4 _),(trodAll_cons_mk (Below.trod laidOut κ (of_decide_eq_true κ) k l y) trodAll_mk0),rfl,l.frame _,λh=>by cases h⟩
theorem j1:Rows.sizeBoundsRow.wf (OpenSpec.ofChange Rows.sizeBoundsSpec)=true:=κ
theorem j4:Tryz.f6.params.all (Tryz.prog.readableRec ·)=true:=κ
theorem j5:namedTie Tryz.prog Rows.sizeBoundsRow.named Rows.sizeBoundsSpec.vars=true:=κ
theorem j6:(Rows.sizeBoundsRow.stops==[])=true:=κ
theorem j8:(Rows.sizeBoundsRow.knobs==[])=true:=κ
theorem j10:(Rows.sizeBoundsRow.inPlace==Tryz.prog.inPlace 6)=true:=κ
theorem j11:(Rows.sizeBoundsRow.unfollowed==Tryz.prog.unfollowed 6)=true:=κ
theorem j12:(Rows.sizeBoundsRow.recurses==Tryz.prog.recurses 6)=true:=κ
theorem j13:(Rows.sizeBoundsRow.named==Tryz.prog.varsNamed 6)=true:=κ
theorem Sb:(Rows.sizeBoundsRow.maps==(Tryz.f6.params.toList++Rows.sizeBoundsSpec.plain.varTypes Tryz.prog).any (Tryz.prog.mapsRec ·))=true:=κ
theorem j15:(Rows.sizeBoundsRow.ifaces==(Tryz.f6.params.toList++Rows.sizeBoundsSpec.plain.varTypes Tryz.prog).any (Tryz.prog.ifacesRec ·))=true:=κ
theorem j16:(Rows.sizeBoundsRow.mapsOut==Tryz.prog.mapsAmong Tryz.f6.resultTypes.toList)=true:=κ
theorem j17:(Rows.sizeBoundsRow.loops==(Tryz.f6.params.toList++Rows.sizeBoundsSpec.plain.varTypes Tryz.prog).any (Tryz.prog.loopsFrom ·))=true:=κ
theorem j18:(Rows.sizeBoundsRow.wideKeys==(Tryz.f6.params.toList++Rows.sizeBoundsSpec.plain.varTypes Tryz.prog++Tryz.f6.resultTypes.toList).any (Tryz.prog.wideKeysFrom ·))=true:=κ
theorem j19:Rows.sizeBoundsSpec.vars.all (Tryz.prog.varReadable ·)=true:=κ
theorem j20:Tryz.f6.resultTypes.all (λt=>Tryz.prog.readableRec t&&decide (t<Tryz.prog.types.size))=true:=κ
theorem j21:(Rows.sizeBoundsRow.ifacesOut==Tryz.f6.resultTypes.toList.any (Tryz.prog.ifacesRec ·))=true:=κ
theorem j22:(Rows.sizeBoundsRow.loopsOut==Tryz.f6.resultTypes.toList.any (Tryz.prog.loopsFrom ·))=true:=κ
theorem j24:Rows.sizeBoundsRow.shortTexts.isNone=true:=κ
theorem j29:(Rows.sizeBoundsRow.kinds==(if Rows.sizeBoundsRow.domain.isEmpty then[]else Tryz.f6.params.toList.map λt=>match Tryz.prog.underlying t with|some (.int k)=>some k|_=>none))=true:=κ
theorem j30:(Rows.sizeBoundsRow.pinned==Rows.sizeBoundsRow.pinnedBy)=true:=κ
theorem j31:(Rows.sizeBoundsRow.veiled==(Tryz.f6.params.toList++Rows.sizeBoundsSpec.plain.varTypes Tryz.prog++Tryz.f6.resultTypes.toList).any (Tryz.prog.veiledRec ·))=true:=κ
theorem j32:Rows.sizeBoundsRow.veiledFits Tryz.prog Tryz.f6.params.toList (Tryz.f6.params.toList++Rows.sizeBoundsSpec.plain.varTypes Tryz.prog++Tryz.f6.resultTypes.toList)=true:=κ
theorem j23:(Rows.sizeBoundsRow.plainKeys==Tryz.prog.plainKeys)=true:=by rw[AV];rfl
theorem j27:(Rows.sizeBoundsRow.lifted==Tryz.prog.liftsFinal)=true:=by rw[AU];rfl
theorem j28:(Tryz.prog.make==some Rows.sizeBoundsRow.make)=true:=Ev
theorem closed:joinedFacts Tryz.prog 6 Tryz.f6 Rows.sizeBoundsSpec Rows.sizeBoundsRow=true:=vM j1 Eu AQ j4 j5 j6 AR j8 AS j10 j11 j12 j13 Sb j15 j16 j17 j18 j19 j20 j21 j22 j23 j24 AT I4 j27 j28 j29 j30 j31 j32
theorem zD:Tryz.pinned.checked.prog.funcNamed Rows.sizeBoundsRow.func=some 6:=κ
theorem inst:Tryz.f6.isInstance Tryz.pinned.checked.prog Rows.sizeBoundsRow.origin Rows.sizeBoundsRow.targs:=of_decide_eq_true κ
theorem wrapper:Tryz.f6.isWrapper Tryz.pinned.checked.prog Rows.sizeBoundsRow.wrapper Rows.sizeBoundsRow.mainSum:=by unfold Func.isWrapper;first|(rw[if_pos (by decide+kernel)];kernel_rfl)|(rw[if_neg (by decide+kernel)];exact⟨rfl,rfl⟩)
theorem rL:Rows.sizeBoundsRow.holds Tryz.pinned (OpenSpec.ofChange Rows.sizeBoundsSpec):=
 OpenClaim.holds_of_wide 6 Tryz.f6 rfl rfl rfl rfl rfl rfl rfl ⟨rfl,rfl,rfl,rfl,rfl⟩ rfl rfl rfl rfl rfl zD Tryz.func6 closed
  inst wrapper
  (λa b H enc _=>lifted a b H enc)
theorem proved:Rows.SizeBoundsSaid:=rL
end sizeBounds
end Go.Proofs.YtennbinbffdimaaGreat

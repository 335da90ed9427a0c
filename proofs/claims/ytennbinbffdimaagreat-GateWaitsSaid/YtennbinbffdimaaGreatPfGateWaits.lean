/- The law GateWaits holds for every input. -/
import Derived.Test.YtennbinbffdimaaGreatRows
import Derived.WalkKit
import Derived.ProofKit
import Derived.OpenShut
import Derived.ShutString
import Derived.ChangeOld
import Derived.Below
import Derived.Test.YtennbinbffdimaaGreatPk2
import Derived.Test.YtennbinbffdimaaGreatQk12
set_option maxRecDepth 100000
open Go.Vc.Sl renaming nil->anA
open List renaming mem_map->anB,map_append->anC,mem_append->anD,mem_cons->anE,mem_filter->anF
namespace Go.Proofs.YtennbinbffdimaaGreat
open Go Go.Vc
namespace Gate
open Board (Vd Cf Ms dF bw)
open Pool (It dY cV has bq)
structure Wt(N:List Nd)(K:List It)(q:List (Bs 32)):Prop where
 nd:(K.map It.root).Nodup
 out:∀x∈K,x.root∉N.map Nd.root
 par:∀x∈K,x.fr∉N.map Nd.root\/x.fr∈q
section
variable{no:Int}{r:Bs 32}
theorem aeX:∀(L:List It)(s:St)(q:List (Bs 32)),∃X:List Nd,(L.foldl (aW no r) (s,q)).1.N=s.N++X/\(L.foldl (aW no r) (s,q)).1.kids=s.kids/\(L.foldl (aW no r) (s,q)).2=q++X.map Nd.root/\(∀y∈X,∃x∈L,y.root=x.root)/\X.length<=L.length
 |[],_,_=>⟨[],by simp⟩
 |x::L,s,q=>by
  rw[List.foldl_cons];obtain⟨p,A⟩:∃p,p=aW no r (s,q) x:=⟨_,rfl⟩
  have:∃Y:List Nd,p.1.N=s.N++Y/\p.1.kids=s.kids/\p.2=q++Y.map Nd.root/\(∀y∈Y,y.root=x.root)/\Y.length<=1:=by
   rw[A];unfold aW;split
   ·rename_i b;exact⟨[⟨x.root,x.slot,place r s.N⟩],by simp only[gw,if_pos b],rfl,rfl,λy a=>by rw[List.mem_singleton.1 a],Nat.le_refl 1⟩
   split
   ·exact⟨[],by simp⟩
   ·exact⟨[],by simp⟩
  rw[<-A];obtain⟨X,c,d,f,g,m⟩:=aeX L p.1 p.2;obtain⟨Y,h,i,j,k,n⟩:=this;refine⟨Y++X,by rw[c,h,List.append_assoc],by rw[d,i],by rw[f,j,anC,List.append_assoc],λy a=>?_,by simp only[List.length_append,List.length_cons];omega⟩;rcases anD.1 a with e|e
  ·exact⟨x,List.mem_cons_self ..,k y e⟩
  ·obtain⟨z,l,e⟩:=g y e;exact⟨z,List.mem_cons_of_mem _ l,e⟩
theorem agh{K:List It}(h:(K.map It.root).Nodup){x y:It}(q:x∈K)(A:y∈K)(e:x.root=y.root):x=y:=by
 induction K with
 |nil=>cases q
 |cons a l d=>
  rw[List.map_cons,List.nodup_cons]at h;rcases anE.1 q with rfl|c
  ·rcases anE.1 A with rfl|b
   ·rfl
   ·exact absurd (anB.2 ⟨y,b,e.symm⟩) h.1
  ·rcases anE.1 A with rfl|b
   ·exact absurd (anB.2 ⟨x,c,e⟩) h.1
   ·exact d h.2 c b
theorem adZ:∀(f:Nat)(q:List (Bs 32))(s:St),Wt s.N s.kids q->q.length+s.kids.length<=f->Wt (fZ no f q s).N (fZ no f q s).kids []
 |0,q,s,w,i=>by
  have:q=[]:=List.eq_nil_of_length_eq_zero ω;subst this;exact w
 |_+1,[],s,w,_=>w
 |f+1,r::q,s,w,i=>by
  unfold fZ;obtain⟨X,n,j,k,o,C⟩:=aeX (no:=no) (r:=r) (s.kids.filter λx=>decide (x.fr=r)) {s with kids:=s.kids.filter λx=>!decide (x.fr=r)} q;refine adZ f _ _ ?_ ?_
  ·rw[n,j,k]
   have sub:∀x∈(s.kids.filter λx=>!decide (x.fr=r)),x∈s.kids/\x.fr≠r:=λx c=>by
    obtain⟨a,b⟩:=anF.1 c;exact⟨a,by simpa using b⟩
   refine⟨(List.Sublist.map _ List.filter_sublist).nodup w.nd,λx c d=>?_,λx c=>?_⟩
   ·obtain⟨g,h⟩:=sub x c;rw[anC]at d;rcases anD.1 d with e|e
    ·exact w.out x g e
    ·obtain⟨y,p,e⟩:=anB.1 e;obtain⟨z,t,u⟩:=o y p;obtain⟨v,A⟩:=anF.1 t;have:=agh w.nd g v (e.symm.trans u);subst this;exact h (by simpa using A)
   ·obtain⟨g,h⟩:=sub x c;rw[anC];by_cases m:x.fr∈X.map Nd.root
    ·exact .inr (List.mem_append_right _ m)
    ·rcases w.par x g with e|e
     ·exact .inl λd=>(anD.1 d).elim e m
     ·rcases anE.1 e with e|e
      ·exact absurd e h
      ·exact .inr (List.mem_append_left _ e)
  ·rw[j,k];simp only[List.length_append,List.length_map,List.length_cons]at i⊢
   have:∀L:List It,(L.filter λx=>decide (x.fr=r)).length+(L.filter λx=>!decide (x.fr=r)).length=L.length:=λL=>by
    induction L with
    |nil=>rfl
    |cons a l D=>
     by_cases B:a.fr=r<;>simp[B]<;>omega
   have:=this s.kids;omega
end
section
variable{c:Cf}{V:List Vd}{s s':St}
theorem ago{N:List Nd}{r:Bs 32}(h:(c8 N (place r N)).2=false):r∉N.map Nd.root:=by
 rw[<-lV];apply Decidable.byContradiction;intro a;obtain⟨i,x,_,e,b,_,_⟩:=fG (Int.not_lt.1 a);rw[e,sW b]at h;cases h
theorem aht{r:Bs 32}{S:List It}(h:has r S=false){x:It}(q:x∈S):x.root≠r:=λe=>Pool.CF h x q e.symm
theorem agp{peer:Int}{t:LU}(w:Wt s.N s.kids [])(q:((aG c V s peer t).2.kids.map It.root).Nodup):Wt (aG c V s peer t).2.N (aG c V s peer t).2.kids []:=by
 revert q;unfold aG;split
 ·exact λ_=>w
 split
 ·exact λ_=>w
 split
 ·exact λ_=>w
 rename_i d k;split
 ·exact λ_=>w
 rename_i m;split
 ·rename_i n
  have f:iD s (d.ms anA).kind (bw (d.ms anA) d.row)=false:=by
   apply Decidable.byContradiction;intro e;apply m;have o:iD s (d.ms anA).kind (bw (d.ms anA) d.row)=true:=by simpa using e
   unfold dw;rw[o]
   repeat' split
   all_goals first|decide|exact absurd rfl ‹¬true=true›
  unfold iD at f;rw[if_pos (show(d.ms anA).kind=1 from n),Bool.or_eq_false_iff]at f;obtain⟨g,p⟩:=f
  have g:bw (d.ms anA) d.row∉s.N.map Nd.root:=by
   rw[<-lV];have:=of_decide_eq_false g;omega
  unfold c5;split
  ·rename_i r;intro q;dsimp only at q⊢;refine⟨q,λx a=>?_,λx a=>.inl ?_⟩
   ·rcases adi a with e|⟨u,b,rfl⟩
    ·exact w.out x e
    ·rw[k]at b;cases b;exact g
   ·rcases adi a with e|⟨u,b,rfl⟩
    ·exact(w.par x e).resolve_right λh=>by cases h
    ·rw[k]at b;cases b;exact ago r
  split
  ·exact λ_=>w
  split
  ·exact λ_=>w
  ·intro _;refine adZ _ _ _ ?_ (by simp only[List.length_cons,List.length_nil];omega)
   have l:∀x:Bs 32,x∈(gw s.N c.no (bw (d.ms anA) d.row) (d.ms anA).target (d.ms anA).slot).map Nd.root->x∈s.N.map Nd.root\/x=bw (d.ms anA) d.row:=λx a=>by
    unfold gw at a;split at a
    ·rw[anC]at a;exact(anD.1 a).imp id λh=>by simpa using h
    ·exact .inl a
   refine⟨w.nd,λx a i=>?_,λx a=>?_⟩
   ·rcases l _ i with e|e
    ·exact w.out x a e
    ·exact aht p a e
   ·by_cases e:x.fr=bw (d.ms anA) d.row
    ·exact .inr (by rw[e];exact List.mem_cons_self ..)
    ·refine .inl λi=>?_;rcases l _ i with j|j
     ·exact(w.par x a).elim (λh=>h j) λh=>by cases h
     ·exact e j
 ·exact λ_=>w
theorem ahg(o:rz s.N c.no)(w:Wt s.N s.kids [])(A:(s'.kids.map It.root).Nodup){kind peer:Int}{t:LU}{r:Bs 32}(q:zz c V s kind peer t r s'):Wt s'.N s'.kids []:=by
 unfold zz at q;split at q
 ·subst q;unfold fC;split
  ·exact w
  ·exact w
 split at q
 ·subst q;unfold aX;split
  ·exact w
  ·rename_i e;have f:=pQ r s.N
   have sub:∀x:Bs 32,x∈(eX s.N c.no (place r s.N).toNat).map Nd.root->x∈s.N.map Nd.root:=λx a=>by
    rw[HH o ω]at a;obtain⟨i,b,rfl⟩:=anB.1 a;have b:=(rZ.1 b).1;rw[oG (List.getElem?_eq_getElem b)];exact anB.2 ⟨_,List.getElem_mem b,rfl⟩
   refine⟨(List.Sublist.map _ List.filter_sublist).nodup w.nd,λx a d=>w.out x (anF.1 a).1 (sub _ d),λx a=>.inl λd=>?_⟩;exact(w.par x (anF.1 a).1).elim (λh=>h (sub _ d)) λh=>by cases h
 ·obtain⟨P,n,rfl,_⟩:=q;exact agp (V:=V) w A
theorem ahu:Wt (iq c V).N (iq c V).kids []:=⟨List.Pairwise.nil,λx a=>(by cases a),λx a=>(by cases a)⟩
end
end Gate
section
open Go Go.Vc _root_.Go.Proofs.Tryz
open Go.IntKind (wrap)
set_option linter.unusedVariables false
variable{h:af}{R:Rt}
theorem kN(q:Sl)(A B:Int)(E G:Int)(I p_C_Quota:Int)(M O:Int)(U W:Int)(Z:Int)(ab:Sl)(H:cL h (rC q A B E G I p_C_Quota M O U W Z ab) 42 λz=>bR 25 [] z λb g=>If (!b) (R (TV.val (.bool false)) g) (LM g h.size 0 λs n C D F L N P Q S T V X=>bR 26 [(rC s n C D F L N P Q S T V X),.i 60] g λb j=>If b (R (TV.val (.bool true)) j) (gy j h.size 0 λs n Y ac ad ae al am ao ap ar aw=>Oj 19 [bD s n Y ac ad ae al am ao ap ar aw] j λp n r=>gy r h.size 0 λs aE a0 a1 a2 a3 a4 a5 a6 a7 a8 a9=>H6 27 [bD s aE a0 a1 a2 a3 a4 a5 a6 a7 a8 a9] r λt b k=>bM (λ(s:Bool) u=>LM u h.size 0 λa' n ba bb bc bd bi bj bk bl bm bo bp=>Y6 28 [rC a' n ba bb bc bd bi bj bk bl bm bo bp] u λbr bt v=>S_ v h.size 12 λw=>Go.Vc.Loop (s,0) v λ(d:Bool×Int) h K=>If (decide (d.snd<(↑w.len:Int))) (Tc d.snd w 58 0 h λn bx b0 b1 b2 b b3 b5 b6 b7 b8 b9=>nX h (JJ) 60 58 (ur n bx b0 b1 b2 b b3 b5 b6 b7 b8 b9) λe=>Qz e h.size 0 λn ca cd ce cf b ch ci cj cl cp cs=>sB d.snd br 1 0 e λct=>nW e h.size 56 λcw=>fh 30 [.slice bt,.i cw] e λcx h=>Ext e h/\bR 29 [.ptr p,.ptr t,(ur n ca cd ce cf b ch ci cj cl cp cs),.str ct,.bytes 32 cx] h λb h=>tJ 32 [.ptr p] h λcy h=>tJ 33 [.ptr cy] h λl h=>Qx 34 [.ptr l,.i 0] h λb n cA cP h=>nX h (Wl) 69 34 (ES b n cA) λm=>fe t 14 m λcB=>fV cB 0 m λx=>Go.Vc.Loop (d.fst,0) m λ(f:Bool×Int) a cC=>If (decide (f.snd<(↑x.len:Int))) (zY f.snd x 67 0 a λn b cI cJ cK=>nX a (tK) 82 67 (cg n b cI cJ cK) λy=>CZ y a.size 1 λb=>jK 35 [.ptr l,.bytes 32 b] y λn o=>If (decide (0<=n)) (R (TV.val (.bool false)) o) (CZ o a.size 34 λb=>jK 35 [.ptr l,.bytes 32 b] o λn c=>If (decide (0<=n)) (R (TV.val (.bool false)) c) (nW c a.size 0 λn=>nW c h.size 32 λcM=>If (decide (n<=cM)) (R (TV.val (.bool false)) c) (CZ c a.size 1 λb=>tJ 36 [.ptr p] c λp h=>Ext c h/\bR 37 [.ptr p,.bytes 32 b] h λb h=>If (!b) (R (TV.val (.bool false)) h) (cC (f.fst,wrap .i64 (f.snd+1)) h))))) (K (f.fst,wrap .i64 (d.snd+1)) a)) (R (TV.val (.bool true)) h)) λJ=>If (!decide (n=0)) (R (TV.val (.bool true)) k) (If (!b) (R (TV.val (.bool true)) k) (J false k))))):Cl 5 [rC q A B E G I p_C_Quota M O U W Z ab] h R:=vi func5 H
end
namespace Gate
open Board (Vd Cf Ms jx aq bh)
open Pool (It qw gE Fit eM Dw rts RL has)
section
variable{R:Rq}{h h1 hL hh:af}{mid g m k:Nat}{c:Cf}{q:Sl}{V:List Vd}{s:St}{A:Sl}{xs:List (Act×List Bool)}
theorem dc.ahh(p:dc h1 hL hh mid g m c q V s k):rz s.N c.no/\(s.kids.map It.root).Nodup:=by
 obtain⟨a,b,P,f,h,d,i⟩:=p;obtain⟨j,l,e,_⟩:=d.p.G.kids;exact⟨d.p.G.tok,e.pl.names⟩
theorem ac5(p:qu h c V A xs)(O:∀h',Ext h h'->R (TV.bool true).val h'):Cl 5 [.agg [c.tv,.slice A]] h R:=by
 apply kN c.vals c.ep c.aQ c.no c.eV c.eH c.quo c.pe c.iy c.win c.bH c.dec A;refine aa λh1 v1 x1 s1=>nc λh2 x2=>⟨_,rfl,If.no ?_⟩;have v2:Var 42 h2 h.size (.agg [c.tv,.slice A]):=Var.ext (t:=.agg [c.tv,.slice A]) v1 x2;have N:=x1.trans x2;have S:=p.ext N;refine CY v2 (ku S.ev S.Cq δ (λw z=>⟨_,rfl,If.yes (O w (N.trans z))⟩) λw z lc bi ok=>⟨_,rfl,If.no ?_⟩);have U:=N.trans z;have v3:=v2.ext z;have W:=S.ext z;refine tC v3 W lc (λhb o u=>?_) λk o g m a b q X Y C u lo=>?_
 ·intro J Z;exact If.yes (O o (U.trans u))
 intro J Z;refine If.no (If.no (Z _ o ?_));clear Z J;have bj:=U.trans u;have v5:=v3.ext u;have p5:=W.ext u;have aE:=Jw p ok;refine xQ v5 p5 k ω ok λE T Q told x6 v6=>⟨A,v6.at.2,?_⟩;have a0:At w E E o.size X Y:=⟨u.trans x6,ag.refl _ _,λi e=>⟨lo i e,.inl (C.p.lt i e)⟩⟩;have a1:dc w E E o.size g m c q V (iq c V) 0:=⟨a,b,[],X,Y,C.ext x6,a0⟩;have bk:=p.Cq.len;refine⟨λσ hh=>0<=σ.2/\σ.2<=xs.length/\∃s,dc w E hh o.size g m c q V s σ.2.toNat/\HW s/\Wt s.N s.kids [],λσ _=>((xs.length:Int)-σ.2).toNat,⟨Int.le_refl 0,Ω,iq c V,a1,Yk,ahu⟩,?_⟩;rintro⟨f,i⟩ hh ⟨I,i1,s,F,lt,wt⟩;dsimp only at I i1 F⊢;have xb:=F.base;refine ID (λe=>?_) λe=>O hh (U.trans xb);have a2:i.toNat<xs.length:=ω;obtain⟨x,hx⟩:∃x,xs[i.toNat]? =some x:=⟨_,List.getElem?_eq_getElem a2⟩;have a3:=List.mem_of_getElem? hx;obtain⟨t,ht,tl⟩:=Cr (c:=c) (V:=V) I ω aE;refine tE (W.Cq.ext xb) I hx λh9 v9 x9=>?_;refine Cs (F.ext x9) ω told ω v9 (p.fit x a3).1 I ht tl λa4 d ab x' nx=>?_;have ao:=UL F.ahh.1 lt nx;have ac:=ahg F.ahh.1 wt ab.ahh.2 nx;have ap:=ab;have o':=ap.ahh.1;obtain⟨a,b,P,X,Y,C,bl⟩:=ab;have G:=C.p.G;have D:=C.p.D;obtain⟨r,B,tp,hS⟩:=G.tree;refine G.book ⟨_,rfl,G.Dy ⟨_,rfl,dg tp λa5 a6=>⟨_,_,_,_,rfl,aa λbm a7 a8 bo=>aq (t0:=(⟨Bs.zero 32,0,0⟩:Nd).tv) a7 (t:=(c8 d.N 0).1.tv) (Nd.size _).symm ((Nd.size _).trans (Nd.size _).symm) λh13 ad f13 bp=>?_⟩⟩⟩;have ae:Ext a4 h13:=a6.trans (ag.cut a8 f13 λi e=>Nat.le_of_eq (Eq.symm e));have ad:Var 69 h13 a5.size (c8 d.N 0).1.tv:=ad;have D3:=D.ext ae;obtain⟨rA,v,hR⟩:=D3.kids;have v:RL h13 b.kd rA d.kids c.eV c.quo:=v;obtain⟨ti,ba,vg⟩:=D3.var;have br:=v.iz;have hl:(rA.len:Int)=d.kids.length:=by have:=v.el.len;rw[List.length_map]at this;omega
 refine⟨_,vg.ah rfl,rA,v.var.ah rfl,?_⟩;refine⟨λK hk=>Ext h13 hk/\0<=K.2/\K.2<=d.kids.length,λK _=>((d.kids.length:Int)-K.2).toNat,⟨Ext.refl _,Int.le_refl 0,Ω⟩,?_⟩;rintro⟨f2,j⟩ hk ⟨H,j0,j1⟩;dsimp only at j0 j1⊢;refine ID (λhj=>?_) λhj=>?_
 ·refine gE (v.el.ext H) j0 ω λl y bt hy=>aa λbx a9 a' b0=>aq (t0:=It.zero.tv) a9 (t:=y.tv) (by rfl) (by rfl) λh15 al f15 b1=>?_;have L:=List.mem_of_getElem? hy;have am:Ext hk h15:=ag.cut a' f15 λi e=>Nat.le_of_eq (Eq.symm e);have bb:=al.at;have n1:place y.root d.N<0:=lV.2 (ac.out y L);have n2:place y.fr d.N<0:=lV.2 ((ac.par y L).resolve_right λh=>by cases h);have n3:=ao y L;have xa:=(ae.trans H).trans am;refine⟨y.root,bb.2.1,dM (tp.ext xa) λb2 IJ=>⟨_,rfl,ID (λhh=>absurd hh ω) λ_=>?_⟩⟩;refine⟨y.fr,(al.ext IJ).at.2.2.2.1,dM (tp.ext (xa.trans IJ)) λb3 M=>⟨_,rfl,ID (λhh=>absurd hh ω) λ_=>?_⟩⟩;have ar:=(al.ext IJ).ext M;have aw:=(xa.trans IJ).trans M;have bc:=((ad.ext H).ext am).ext (IJ.trans M);refine⟨y.slot,ar.at.1,(c8 d.N 0).1.slot,bc.at.2.1,ID (λhh=>absurd hh (by have:(c8 d.N 0).1.slot<y.slot:=n3;omega)) λ_=>⟨y.root,ar.at.2.1,(G.ext aw).agZ ⟨_,rfl,Ext.refl _,?_⟩⟩⟩;obtain⟨kb,kA,kp,hK⟩:=(G.ext aw).kids;refine Pool.Xe kp λb5 bd=>⟨_,rfl,?_⟩
  try dsimp only
  rw[show has y.root d.kids=true from adf L rfl];refine If.no ?_
  try dsimp only
  rw[wrap_i64 (n:=j+1) ω ω];exact⟨⟨((H.trans am).trans (IJ.trans M)).trans bd,Ω,Ω⟩,Ω⟩
 ·try dsimp only
  rw[wrap_i64 (n:=i+1) ω ω];refine⟨⟨Ω,Ω,d,?_,ao,ac⟩,Ω⟩
  try dsimp only
  rw[show(i+1).toNat=i.toNat+1 by omega];exact ap.ext (ae.trans H)
theorem acZ{q:FM}(p:∃V xs,qu h q.c V q.A xs)(B:∀a,Ext h a->R (TV.bool true).val a):Cl 5 [q.tv] h R:=by
 obtain⟨V,xs,p⟩:=p;exact ac5 p B
end
end Gate
namespace gateWaits
open Go.Vc
open Go.ChangeShapes Go.WideShapes Go.ChangeAt Go.RowKit
open Go.ChangeMaps (open_string shut_string)
set_option linter.unusedVariables false
theorem own:ownKnob Tryz.prog.godebug=none:=κ
theorem laidOut:laidOutB Tryz.prog=true:=κ
theorem lifted(A:Os)(B:A.Started)(H:Type)(enc:TypeId×Value->H):
 ReturnsInHanded {} Tryz.checked A 5 .any (Rows.gateWaitsSpec.pre6 enc Tryz.prog Tryz.f5 Rows.gateWaitsRow.domain false) (Rows.gateWaitsSpec.post enc Tryz.prog Tryz.f5 false true false false):=by
 refine returnsInHanded_of_change (C:=Tryz.checked) own B κ Tryz.func5
  (ChangeSpec.witness6 (enc:=enc) (C:=Tryz.checked) false ⟨#[],#[.agg #[.slice none 0 0,.i 0,.i 0,.i 0,.i 0,.i 0,.i 0,.i 0,.i 0,.i 0,.i 0,.i 0,.slice none 0 0]],[]⟩ 8 κ κ κ κ) ?_
 intro W base args n G I a b J _;have c:∀(j:Nat) t v,Tryz.f5.params[j]? =some t->args[j]? =some v->Value.okWide Tryz.prog W .any base t v:=a;have o:=b;obtain⟨p,q,d,r,rfl,K,L⟩:=b;have f:DataW.TrodAll enc Tryz.prog W 0 (λ_=>true) true Tryz.f5.params.toList args.toList n p:=d;rw[Tryz.params5]at f c;obtain⟨v0,M,d0,N,s,O,P,rfl,rfl,g,u⟩:=trodAll_cons f;obtain⟨rfl,rfl,rfl⟩:=trodAll_nil u;obtain rfl:args=#[v0]:=by cases args;simp_all
 obtain⟨rfl,rfl⟩:=trodVars_none r;obtain⟨c0,w,rfl⟩:=Go.Proofs.YtennbinbffdimaaGreat.Gate.FN (c 0 42 v0 rfl rfl) g;have k:=g;have y:∀x∈s,x.block<W.heap.size:=by obtain⟨m,z⟩:=k;exact DataW.trod_lt m _ _ _ z
 clear d a
 have D:Calls Tryz.prog 5 #[c0.tv.val] W λe E=>e=.returned (.bool true)/\Below W.heap.size W E:=by
  exact(bC.fin (args:=ak.vals [c0.tv]) (Go.Proofs.YtennbinbffdimaaGreat.Gate.acZ w λQ e=>⟨rfl,e⟩))
 refine D.mono λe W'⟨F,l⟩=>?_;subst F;exact⟨_,rfl,_,_,_,[],_,[],o,trodAll_mk1 (shut_bool Tryz.underlying4 _),(trodAll_cons_mk (Below.trod laidOut κ (of_decide_eq_true κ) k l y) trodAll_mk0),rfl,l.frame _,λh=>by cases h⟩
theorem j1:Rows.gateWaitsRow.wf (OpenSpec.ofChange Rows.gateWaitsSpec)=true:=κ
theorem j4:Tryz.f5.params.all (Tryz.prog.readableRec ·)=true:=κ
theorem j5:namedTie Tryz.prog Rows.gateWaitsRow.named Rows.gateWaitsSpec.vars=true:=κ
theorem j6:(Rows.gateWaitsRow.stops==[])=true:=κ
theorem j8:(Rows.gateWaitsRow.knobs==[])=true:=κ
theorem j10:(Rows.gateWaitsRow.inPlace==Tryz.prog.inPlace 5)=true:=κ
theorem j11:(Rows.gateWaitsRow.unfollowed==Tryz.prog.unfollowed 5)=true:=κ
theorem j12:(Rows.gateWaitsRow.recurses==Tryz.prog.recurses 5)=true:=κ
theorem j13:(Rows.gateWaitsRow.named==Tryz.prog.varsNamed 5)=true:=κ
theorem Sb:(Rows.gateWaitsRow.maps==(Tryz.f5.params.toList++Rows.gateWaitsSpec.plain.varTypes Tryz.prog).any (Tryz.prog.mapsRec ·))=true:=κ
theorem j15:(Rows.gateWaitsRow.ifaces==(Tryz.f5.params.toList++Rows.gateWaitsSpec.plain.varTypes Tryz.prog).any (Tryz.prog.ifacesRec ·))=true:=κ
theorem j16:(Rows.gateWaitsRow.mapsOut==Tryz.prog.mapsAmong Tryz.f5.resultTypes.toList)=true:=κ
theorem j17:(Rows.gateWaitsRow.loops==(Tryz.f5.params.toList++Rows.gateWaitsSpec.plain.varTypes Tryz.prog).any (Tryz.prog.loopsFrom ·))=true:=κ
theorem j18:(Rows.gateWaitsRow.wideKeys==(Tryz.f5.params.toList++Rows.gateWaitsSpec.plain.varTypes Tryz.prog++Tryz.f5.resultTypes.toList).any (Tryz.prog.wideKeysFrom ·))=true:=κ
theorem j19:Rows.gateWaitsSpec.vars.all (Tryz.prog.varReadable ·)=true:=κ
theorem j20:Tryz.f5.resultTypes.all (λt=>Tryz.prog.readableRec t&&decide (t<Tryz.prog.types.size))=true:=κ
theorem j21:(Rows.gateWaitsRow.ifacesOut==Tryz.f5.resultTypes.toList.any (Tryz.prog.ifacesRec ·))=true:=κ
theorem j22:(Rows.gateWaitsRow.loopsOut==Tryz.f5.resultTypes.toList.any (Tryz.prog.loopsFrom ·))=true:=κ
theorem j24:Rows.gateWaitsRow.shortTexts.isNone=true:=κ
theorem j29:(Rows.gateWaitsRow.kinds==(if Rows.gateWaitsRow.domain.isEmpty then[]else Tryz.f5.params.toList.map λt=>match Tryz.prog.underlying t with|some (.int k)=>some k|_=>none))=true:=κ
theorem j30:(Rows.gateWaitsRow.pinned==Rows.gateWaitsRow.pinnedBy)=true:=κ
theorem j31:(Rows.gateWaitsRow.veiled==(Tryz.f5.params.toList++Rows.gateWaitsSpec.plain.varTypes Tryz.prog++Tryz.f5.resultTypes.toList).any (Tryz.prog.veiledRec ·))=true:=κ
theorem j32:Rows.gateWaitsRow.veiledFits Tryz.prog Tryz.f5.params.toList (Tryz.f5.params.toList++Rows.gateWaitsSpec.plain.varTypes Tryz.prog++Tryz.f5.resultTypes.toList)=true:=κ
theorem j23:(Rows.gateWaitsRow.plainKeys==Tryz.prog.plainKeys)=true:=by rw[AV];rfl
theorem j27:(Rows.gateWaitsRow.lifted==Tryz.prog.liftsFinal)=true:=by rw[AU];rfl
theorem j28:(Tryz.prog.make==some Rows.gateWaitsRow.make)=true:=Ev
theorem closed:joinedFacts Tryz.prog 5 Tryz.f5 Rows.gateWaitsSpec Rows.gateWaitsRow=true:=vM j1 Eu AQ j4 j5 j6 AR j8 AS j10 j11 j12 j13 Sb j15 j16 j17 j18 j19 j20 j21 j22 j23 j24 AT I4 j27 j28 j29 j30 j31 j32
theorem zD:Tryz.pinned.checked.prog.funcNamed Rows.gateWaitsRow.func=some 5:=κ
theorem inst:Tryz.f5.isInstance Tryz.pinned.checked.prog Rows.gateWaitsRow.origin Rows.gateWaitsRow.targs:=of_decide_eq_true κ
theorem wrapper:Tryz.f5.isWrapper Tryz.pinned.checked.prog Rows.gateWaitsRow.wrapper Rows.gateWaitsRow.mainSum:=by unfold Func.isWrapper;first|(rw[if_pos (by decide+kernel)];kernel_rfl)|(rw[if_neg (by decide+kernel)];exact⟨rfl,rfl⟩)
theorem rL:Rows.gateWaitsRow.holds Tryz.pinned (OpenSpec.ofChange Rows.gateWaitsSpec):=
 OpenClaim.holds_of_wide 5 Tryz.f5 rfl rfl rfl rfl rfl rfl rfl ⟨rfl,rfl,rfl,rfl,rfl⟩ rfl rfl rfl rfl rfl zD Tryz.func5 closed
  inst wrapper
  (λa b H enc _=>lifted a b H enc)
theorem proved:Rows.GateWaitsSaid:=rL
end gateWaits
end Go.Proofs.YtennbinbffdimaaGreat

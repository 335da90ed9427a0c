/- The law GateHeads holds for every input. -/
import Derived.Test.YtennbinbffdimaaGreatRows
import Derived.WalkKit
import Derived.ProofKit
import Derived.OpenShut
import Derived.ShutString
import Derived.ChangeOld
import Derived.Below
import Derived.Test.YtennbinbffdimaaGreatPk2
import Derived.Test.YtennbinbffdimaaGreatQk12
set_option maxRecDepth 100000
open List renaming getElem?_eq_getElem->anG,range->anI,getElem?_map->anK
open Go.IntKind renaming wrap->anH
open Int renaming le_refl->anJ
namespace Go.Proofs.YtennbinbffdimaaGreat
open Go Go.Vc
namespace Gate
open Board (Vd Cf aq)
open Pool (eM Dw rts)
section
variable{n:Nat}{par:Nat->Nat}{s:Nat->Int}{r:Nat->LU}
theorem aeY:∀(f k i:Nat),vX n par s r f k=i->i≠k->∃B b,vX n par s r B k=b/\iL n par s r b=some i
 |0,k,i,h,a=>absurd h.symm a
 |f+1,k,i,h,a=>by
  unfold vX at h;cases q:iL n par s r k with
  |none=>rw[q]at h;exact absurd h.symm a
  |some b=>
   rw[q]at h;by_cases e:i=b
   ·exact⟨0,k,rfl,by rw[q,e]⟩
   ·obtain⟨B,c,E,G⟩:=aeY f b i h e;refine⟨B+1,c,?_,G⟩;unfold vX;rw[q];exact E
end
section
variable{R:Rq}{h h':af}{b r:Nat}{A:Sl}{N:List Nd}{most:Int}
theorem afx(p:AP h b r A N most){rL root:Bs 32}(q:place rL N=0)(B:0<=place root N)(E:∀h',Ext h h'->R (TV.bool true).val h'):
 Cl 46 [.ptr (PT b),.bytes 32 rL,.bytes 32 root] h R:=by
 apply abw;delta aO cr jW fE bz bJ lq;have z:=p.len;have lt:=(pQ root N).2.1;refine aa λC v1 o D=>aa λF s j G=>?_;have a:=o.trans j;refine⟨rL,(v1.ext j).bytes,dM (p.ext a) λH c=>⟨_,rfl,?_⟩⟩;rw[q];refine ID (λd=>absurd d δ) λ_=>⟨root,(s.ext c).bytes,dM (p.ext (a.trans c)) λu k=>⟨_,rfl,?_⟩⟩;have e:=p.ext ((a.trans c).trans k);refine⟨λσ d=>d=u/\0<=σ.2/\σ.2<N.length,λσ _=>σ.2.toNat,⟨rfl,B,lt⟩,?_⟩;rintro⟨f,i⟩ d ⟨rfl,g,v⟩;dsimp only at g v⊢;refine ID (λ_=>ID (λ_=>E _ ((a.trans c).trans k)) λm=>⟨A,e.var.ah rfl,?_⟩) λm=>absurd g m;refine e.own.elems.read g ω λl t I n w=>?_;rw[anK]at n;obtain⟨x,y,rfl⟩:=Option.map_eq_some_iff.1 n;have up:=e.ok.up i.toNat x y ω;exact⟨x.par,w.2.2,⟨rfl,up.1,ω⟩,Ω⟩
theorem aek(p:AP h b r A N most){root:Bs 32}{j:Nat}(G:place root N=(j:Int))
 (H:∀h' s,Ext h h'->aj 32 h' s (rts ((kids N.length (bQ N) j).map (HF N)))->s.len=(kids N.length (bQ N) j).length->R (TV.slice s).val h'):
 Cl 49 [.ptr (PT b),.bytes 32 root] h R:=by
 apply abU;delta sD jr cr cE dD eW jW bz bJ bK;have y:=p.len;have lt:=(pQ root N).2.1;have Y:=p.ok.len;have Z:=p.ok.most;refine aa λh1 v1 z s1=>⟨root,v1.bytes,dM (p.ext z) λd I=>⟨_,rfl,?_⟩⟩;have B:=z.trans I;have p2:=p.ext B;dsimp only;rw[G,wrap_i64 (n:=(j:Int)+1) ω ω]
 refine⟨λσ v=>(j:Int)+1<=σ.2/\σ.2<=N.length/\Ext d v/\(∀k,In σ.1 k->d.size<=k)/\Vc.Own 52 32 v σ.1 (rts (((anI σ.2.toNat).filter (We N.length (bQ N) j)).map (HF N))),λσ _=>((N.length:Int)-σ.2).toNat,
  ⟨anJ _,Ω,Ext.refl _,λk⟨l,y,_⟩=>(by cases y),?_⟩,?_⟩
 ·dsimp only;rw[show((j:Int)+1).toNat=j+1 by omega,Xq p.ok.tree];exact Vc.Own.nil 52 32 d
 rintro⟨s,i⟩ v ⟨K,L,u,w,o⟩;dsimp only at K L w o⊢;intro J M;have g:=p2.ext u;refine ID (λ_=>⟨A,g.var.ah rfl,ID (λO=>M _ _ ?_) λO=>?_⟩) λP=>absurd (Int.natCast_nonneg j) P
 ·have C:i.toNat<N.length:=ω;have m:N[i.toNat]? =some N[i.toNat]:=anG C;have up:=g.ok.up i.toNat _ m ω
  have next:∀{q:Sl}{h':af},Ext d h'->(∀k,In q k->d.size<=k)->Vc.Own 52 32 h' q (rts (((anI (i.toNat+1)).filter (We N.length (bQ N) j)).map (HF N)))->
   ((j:Int)+1<=anH .i64 (i+1)/\anH .i64 (i+1)<=N.length/\Ext d h'/\(∀k,In q k->d.size<=k)/\Vc.Own 52 32 h' q (rts (((anI (anH .i64 (i+1)).toNat).filter (We N.length (bQ N) j)).map (HF N))))/\
     ((N.length:Int)-anH .i64 (i+1)).toNat<((N.length:Int)-i).toNat:=λ{q h'} a b c=>by
   rw[wrap_i64 (n:=i+1) ω ω,show(i+1).toNat=i.toNat+1 by omega];exact⟨⟨ω,ω,a,b,c⟩,ω⟩
  have D:bQ N i.toNat=N[i.toNat].par.toNat:=by unfold bQ;rw[m];rfl
  refine⟨A,g.var.ah rfl,g.own.elems.read ω ω λl t ha E Q=>?_⟩;rw[anK,m]at E;cases E;refine⟨N[i.toNat].par,Q.2.2,ID (λe=>⟨A,g.var.ah rfl,g.own.elems.read ω ω λl2 t2 ab F S=>?_⟩) λe=>?_⟩
  ·rw[anK,m]at F;cases F;refine⟨N[i.toNat].root,S.1,TR (x:=N[i.toNat].root) o (by have:=List.length_filter_le (We N.length (bQ N) j) (anI i.toNat);rw[List.length_range]at this;rw[List.length_map];omega) λq h' T U V=>?_⟩;have W:Ext d h':=ag.cut u U λk f=>w k f;refine next W (λk f=>(V k f).elim (w k) λm=>by have:=u.size;omega) ?_
   have f:We N.length (bQ N) j i.toNat=true:=by
    unfold We;rw[D];exact decide_eq_true ⟨ω,C,ω⟩
   rw[Xp,if_pos f,List.map_append,List.map_cons,List.map_nil,oG m];exact T
  ·have f:¬We N.length (bQ N) j i.toNat=true:=by
    unfold We;rw[D];intro X;have:=of_decide_eq_true X;omega
   refine next u w ?_
   rw[Xp,if_neg f,List.append_nil];exact o
 ·have e:i.toNat=N.length:=ω;rw[e]at o;have ol:=o.len;refine H v s (B.trans u) o.elems ?_;rw[pE,List.length_map]at ol;exact ol.symm
end
end Gate
section
open Go Go.Vc _root_.Go.Proofs.Tryz
open Go.IntKind (wrap)
set_option linter.unusedVariables false
variable{h:af}{R:Rt}
theorem kP(E:Sl)(G I:Int)(J M:Int)(O U:Int)(W Z:Int)(ab ac:Int)(ad:Int)(ae:Sl)(H:cL h (rC E G I J M O U W Z ab ac ad ae) 42 λal=>bR 25 [] al λb q=>If (!b) (R (TV.val (.bool false)) q) (LM q h.size 0 λs n am ao ap ar aw aE a0 a1 a2 a3 a4=>bR 26 [(rC s n am ao ap ar aw aE a0 a1 a2 a3 a4),.i 60] q λa5 r=>If a5 (R (TV.val (.bool true)) r) (gy r h.size 0 λa6 a7 a8 a9 a' ba bb bc bd bi bj bk=>Oj 19 [bD a6 a7 a8 a9 a' ba bb bc bd bi bj bk] r λp bl C=>gy C h.size 0 λbm bo bp br bt bx b0 b1 b2 b3 b5 b6=>H6 27 [bD bm bo bp br bt bx b0 b1 b2 b3 b5 b6] C λb7 b8 t=>bM (λ(b9:Bool) D=>LM D h.size 0 λca cd ce cf ch ci cj cl cp cs ct cw cx=>Y6 28 [rC ca cd ce cf ch ci cj cl cp cs ct cw cx] D λcy cA F=>S_ F h.size 12 λL=>Go.Vc.Loop (b9,0) F λ(a:Bool×Int) e K=>If (decide (a.snd<(↑L.len:Int))) (Tc a.snd L 58 0 e λcB cC cI cJ cK cM cP cR cS cT cU cX=>nX e (JJ) 60 58 (ur cB cC cI cJ cK cM cP cR cS cT cU cX) λf=>Qz f e.size 0 λcY c1 c2 c3 c6 c9 c' da db dd de df=>sB a.snd cy 1 0 f λdi=>nW f e.size 56 λdj=>fh 30 [.slice cA,.i dj] f λdk N=>Ext f N/\bR 29 [.ptr p,.ptr b7,(ur cY c1 c2 c3 c6 c9 c' da db dd de df),.str di,.bytes 32 dk] N λek dl=>tJ 32 [.ptr p] dl λdp dq=>tJ 33 [.ptr dp] dq λd dr=>bM (λ(ds:Bool) dt=>fh 48 [.ptr p] dt λu du=>jK 35 [.ptr d,.bytes 32 u] du λv dv=>Go.Vc.Loop (ds,v,0) dv λ(c:Bool×Int×Int) P dC=>If (decide (c.snd.snd<300)) (Qx 34 [.ptr d,.i c.snd.fst] P λdE dS dT d' g=>nX g (Wl) 69 34 (ES dE dS dT) λm=>bM (λ(en:PUnit) Q=>nW Q g.size 33 λw=>Qx 34 [.ptr d,.i w] Q λea eb ec eo S=>nX S (Wl) 69 34 (ES ea eb ec) λT=>CZ T S.size 0 λed=>uO 49 [.ptr d,.bytes 32 ed] T λV ef=>Go.Vc.Loop (c.fst,0) ef λ(j:Bool×Int) k K=>If (decide (j.snd<(↑V.len:Int))) (C0 j.snd V 32 0 k λeg=>nX k (.bytes 32 (Bs.zero 32)) 52 32 (.bytes 32 eg) λo=>CZ o k.size 0 λeh=>CZ o g.size 0 λei=>tJ 32 [.ptr p] o λx y=>Ext o y/\jK 50 [.ptr x,.bytes 32 eh] y λz A=>Ext y A/\tJ 32 [.ptr p] A λB X=>Ext A X/\jK 50 [.ptr B,.bytes 32 ei] X λej Y=>If (decide (ej<z)) (R (TV.val (.bool false)) Y) (K (j.fst,wrap .i64 (j.snd+1)) Y)) (nW k g.size 33 λz=>dC (j.fst,z,wrap .i64 (c.snd.snd+1)) k)) λl=>If (!d') (K (c.fst,wrap .i64 (a.snd+1)) m) (nW m g.size 33 λw=>If (decide (w<0)) (K (c.fst,wrap .i64 (a.snd+1)) m) (l PUnit.unit m))) (K (c.fst,wrap .i64 (a.snd+1)) P)) λl=>fh 47 [.ptr p] dr λb h=>fh 48 [.ptr p] h λu h=>bR 46 [.ptr d,.bytes 32 b,.bytes 32 u] h λb h=>If (!b) (R (TV.val (.bool false)) h) (fh 48 [.ptr p] h λb h=>uO 49 [.ptr d,.bytes 32 b] h λs h=>If (!decide ((↑s.len:Int)=0)) (R (TV.val (.bool false)) h) (tJ 32 [.ptr p] h λx h=>fh 47 [.ptr p] h λb h=>jK 50 [.ptr x,.bytes 32 b] h λn h=>tJ 32 [.ptr p] h λB h=>fh 48 [.ptr p] h λb h=>jK 50 [.ptr B,.bytes 32 b] h λv h=>If (decide (n<v)) (R (TV.val (.bool false)) h) (l a.fst h)))) (R (TV.val (.bool true)) e)) λl=>If (!decide (bl=0)) (R (TV.val (.bool true)) t) (If (!b8) (R (TV.val (.bool true)) t) (l false t))))):Cl 7 [rC E G I J M O U W Z ab ac ad ae] h R:=vi func7 H
end
namespace Gate
open Board (Vd Cf Ms jx aq bh)
open Pool (Fit eM Dw rts)
structure ahv(N:List Nd)(f:Nat->Int)(hd:Bs 32)(j:Nat):Prop where
 lt:j<N.length
 rt:hd=HF N j
 way:∃k,vX N.length (bQ N) f (c7 N) k 0=j
 none:kids N.length (bQ N) j=[]
 top:f j<=f 0
section
variable{c:Cf}{V:List Vd}{s:St}{N:List Nd}
theorem ac6(o:rz N c.no){i:Nat}(q:i<N.length):place (HF N i) N=(i:Int):=by
 rw[oG (anG q)];exact gX o.nodup (anG q)
theorem agj(o:rz N c.no){f:Nat->Int}{i:Nat}(q:i<N.length):mV N f (HF N i)=f i:=by
 unfold mV;rw[ac6 o q,if_pos (Int.natCast_nonneg i),Int.toNat_natCast]
theorem ahi(q:wR (aL V))(o:rz s.N c.no):∃j,ahv s.N (dh s.N (bZ (aL V) s.tb s.N)) (mU s.N (bZ (aL V) s.tb s.N)) j:=by
 obtain⟨j,a⟩:∃j,j=uq s.N.length (bQ s.N) (dh s.N (bZ (aL V) s.tb s.N)) (c7 s.N) 0:=⟨_,rfl⟩;have b:j<s.N.length:=by rw[a];exact II o.tree o.names _ _ o.Gf
 refine⟨j,b,by rw[a];rfl,⟨_,by rw[a];rfl⟩,?_,?_⟩
 ·have d:iL s.N.length (bQ s.N) (dh s.N (bZ (aL V) s.tb s.N)) (c7 s.N) j=none:=by rw[a];exact Sz o.tree o.names _ _ o.Gf ω
  have:=JG (par:=bQ s.N) (s:=dh s.N (bZ (aL V) s.tb s.N)) o.names j;rw[d]at this;exact this
 ·have f:=(Vk o.tree (own:=bZ (aL V) s.tb s.N) (λi _=>rE q i) b).2
  have g:nU s.N.length (bQ s.N) (bZ (aL V) s.tb s.N) 0=tot s.N.length (bZ (aL V) s.tb s.N):=by
   rw[IL o.tree _ o.Gf];unfold tot;congr 1;refine List.map_congr_left λi e=>?_;rw[abr o i (List.mem_range.1 e)];simp[one]
  unfold dh;omega
theorem ahj(o:rz N c.no){f:Nat->Int}{k a:Nat}(q:iL N.length (bQ N) f (c7 N) k=some a){x:Nat}(B:x∈kids N.length (bQ N) k):f x<=f a:=by
 have:=JG (par:=bQ N) (s:=f) o.names k;rw[q]at this;by_cases e:x=a
 ·rw[e];exact anJ _
 ·rcases yd.1 (this.2 x B e)with h|h
  ·omega
  ·omega
end
section
variable{R:Rq}{h:af}{c:Cf}{V:List Vd}{A:Sl}{xs:List (Act×List Bool)}
theorem dc.gate{E G B:af}{H g m k:Nat}{q:Sl}{s:St}(p:dc E G B H g m c q V s k):∃a F,aR B g a {c with vals:=q} V s F:=by
 obtain⟨a,b,P,d,f,e,h⟩:=p;exact⟨a,d,e.p.G⟩
theorem ac7(p:qu h c V A xs)(hr:∀w,Ext h w->R (TV.bool true).val w):Cl 7 [.agg [c.tv,.slice A]] h R:=by
 apply kP c.vals c.ep c.aQ c.no c.eV c.eH c.quo c.pe c.iy c.win c.bH c.dec A;refine aa λh1 v1 x1 s1=>nc λh2 x2=>⟨_,rfl,If.no ?_⟩;have v2:Var 42 h2 h.size (.agg [c.tv,.slice A]):=Var.ext (t:=.agg [c.tv,.slice A]) v1 x2;have am:=x1.trans x2;have p2:=p.ext am;refine CY v2 (ku p2.ev p2.Cq δ (λJ S=>⟨_,rfl,If.yes (hr J (am.trans S))⟩) λJ S lc cP ok=>⟨_,rfl,If.no ?_⟩);have ao:=am.trans S;have v3:=v2.ext S;have p3:=p2.ext S;refine tC v3 p3 lc (λhb E L=>?_) λk E g m a b q F1 F2 al L lo=>?_
 ·intro M z;exact If.yes (hr E (ao.trans L))
 intro M z;refine If.no (If.no (z _ E ?_));clear z M;have cR:=ao.trans L;have v5:=v3.ext L;have p5:=p3.ext L;have br:=Jw p ok;have so:=Ka k;refine xQ v5 p5 k ω ok λN T Q told x6 v6=>⟨A,v6.at.2,?_⟩;have a5:At J N N E.size F1 F2:=⟨L.trans x6,ag.refl _ _,λi y=>⟨lo i y,.inl (al.p.lt i y)⟩⟩;have a6:dc J N N E.size g m c q V (iq c V) 0:=⟨a,b,[],F1,F2,al.ext x6,a5⟩;have cS:=p.Cq.len;refine⟨λσ C=>0<=σ.2/\σ.2<=xs.length/\∃s,dc J N C E.size g m c q V s σ.2.toNat,λσ _=>((xs.length:Int)-σ.2).toNat,⟨anJ 0,Ω,iq c V,a6⟩,?_⟩;rintro⟨f0,i⟩ C ⟨X,i1,s,pl⟩;dsimp only at X i1 pl⊢;have xb:=pl.base;refine ID (λy=>?_) λy=>hr C (ao.trans xb);have bt:i.toNat<xs.length:=ω;obtain⟨x,hx⟩:∃x,xs[i.toNat]? =some x:=⟨_,anG bt⟩;have bx:=List.mem_of_getElem? hx;obtain⟨t,ht,tl⟩:=Cr (c:=c) (V:=V) X ω br;refine tE (p3.Cq.ext xb) X hx λh9 v9 x9=>?_;refine Cs (pl.ext x9) ω told ω v9 (p.fit x bx).1 X ht tl λY v a7 Z nx=>?_;clear al a6 a5;obtain⟨a,F,G⟩:=a7.gate;have o:rz v.N c.no:=G.tok;obtain⟨r,B,O,hS⟩:=G.tree;have cT:=o.len;have cU:=o.most
 have next:∀{b':Bool}{w:af},Ext Y w->
  (0<=anH .i64 (i+1)/\anH .i64 (i+1)<=xs.length/\∃s,dc J N w E.size g m c q V s (anH .i64 (i+1)).toNat)/\((xs.length:Int)-anH .i64 (i+1)).toNat<((xs.length:Int)-i).toNat:=λ{b' w} U=>by
  rw[wrap_i64 (n:=i+1) ω ω,show(i+1).toNat=i.toNat+1 by omega];exact⟨⟨ω,ω,v,a7.ext U⟩,ω⟩
 obtain⟨j,H⟩:=ahi (V:=V) so o;obtain⟨hd,a8⟩:∃hd,hd=mU v.N (bZ (aL V) v.tb v.N):=⟨_,rfl⟩;obtain⟨f,ef⟩:∃f,f=dh v.N (bZ (aL V) v.tb v.N):=⟨_,rfl⟩;rw[<-a8,<-ef]at H;have a9:place hd v.N=(j:Int):=by rw[H.rt];exact ac6 o H.lt
 have b0:=SA o
 have ft:(bT v).root=HF v.N 0:=by
  unfold bT;rw[show(0:Int)=((0:Nat):Int)from rfl,sW (anG o.Gf),oG (anG o.Gf)]
 have head:∀{D:af}{K:Rq},Ext Y D->(∀w,Ext D w->K (TV.bytes 32 hd).val w)->Cl 48 [.ptr (PT g)] D K:=λU I=>zB (G.ext U) λw Z=>by rw[<-a8];exact I w Z
 have ab:∀{D:af}{K:Rq}{d:Nat},d<v.N.length->Ext Y D->(∀w,Ext D w->K (TV.i (f d)).val w)->Cl 50 [.ptr (PT a.bk),.bytes 32 (HF v.N d)] D K:=λb1 U I=>
  aeS (G.ext U) λw Z=>by rw[<-ef,agj o b1];exact I w Z
 refine G.book ⟨_,rfl,G.Dy ⟨_,rfl,?_⟩⟩;intro M z;refine Cp G λcX ap=>⟨_,rfl,head ap λcY a'=>⟨_,rfl,afx (O.ext (ap.trans a')) b0 ω λc1 b2=>⟨_,rfl,If.no ?_⟩⟩⟩;have ar:=(ap.trans a').trans b2;refine head ar λc2 ba=>⟨_,rfl,aek (O.ext (ar.trans ba)) a9 λc3 sl b3 el b5=>⟨_,rfl,?_⟩⟩;have aw:=(ar.trans ba).trans b3
 try dsimp only
 rw[b5,H.none,decide_eq_true (by rfl)];refine If.no ((G.ext aw).book ⟨_,rfl,Cp (G.ext aw) λc6 IJ=>⟨_,rfl,?_⟩⟩);have ac:=aw.trans IJ
 try dsimp only
 rw[ft];refine ab o.Gf ac λc9 aE=>⟨_,rfl,(G.ext (ac.trans aE)).book ⟨_,rfl,head (ac.trans aE) λc' b6=>⟨_,rfl,?_⟩⟩⟩;have bb:=(ac.trans aE).trans b6
 try dsimp only
 rw[H.rt];refine ab H.lt bb λda b7=>⟨_,rfl,ID (λC=>absurd C (by have:=H.top;omega)) λ_=>z _ _ ?_⟩;clear z M;have a0:=bb.trans b7;refine head a0 λdb bc=>⟨_,rfl,dM (O.ext (a0.trans bc)) λdd b8=>⟨_,rfl,?_⟩⟩;have b9:=(a0.trans bc).trans b8
 try dsimp only
 rw[a9];refine⟨λσ C=>Ext Y C/\0<=σ.2.2/\σ.2.2<=300/\∃d:Nat,σ.2.1=d/\d<v.N.length/\∃k,vX v.N.length (bQ v.N) f (c7 v.N) k 0=d,λσ _=>((300:Int)-σ.2.2).toNat,⟨b9,anJ 0,Ω,j,rfl,H.lt,H.way⟩,?_⟩;rintro⟨f1,de,k1⟩ D ⟨xq,k0,k3,d,rfl,dl,ca⟩;dsimp only at k0 k3⊢;refine ID (λI=>?_) λI=>next (b':=f0) xq
 have W:v.N[d]? =some v.N[d]:=anG dl;refine dg (O.ext xq) λcd ce=>⟨_,_,_,_,rfl,aa λdf cf ch di=>aq (t0:=(⟨Bs.zero 32,0,0⟩:Nd).tv) cf (t:=(c8 v.N (d:Int)).1.tv) (Nd.size _).symm ((Nd.size _).trans (Nd.size _).symm) λa1 P f24 dj=>?_⟩;have P:Var 69 a1 cd.size (c8 v.N (d:Int)).1.tv:=P
 try dsimp only
 rw[sW W]at P⊢;have ci:Ext D a1:=ce.trans (ag.cut ch f24 λi y=>Nat.le_of_eq (Eq.symm y));have a2:=xq.trans ci;intro M z;refine If.no ⟨v.N[d].par,P.at.2.2,ID (λ_=>next (b':=f0) a2) λhp=>z _ _ ?_⟩;clear z M
 have d0:0<d:=by
  rcases Nat.eq_zero_or_pos d with e|e
  ·subst e;have:=o.first _ W;omega
  ·exact e
 have up:=o.up d _ W d0;obtain⟨kw,hw⟩:=ca;obtain⟨cj,e,cl,bd⟩:=aeY kw 0 d hw ω;have eu:=mK o.tree o.names bd;have dk:bQ v.N d=v.N[d].par.toNat:=by unfold bQ;rw[W];rfl
 have ee:e=v.N[d].par.toNat:=ω;have a3:e<v.N.length:=ω;have bi:v.N[e]? =some v.N[e]:=anG a3;have ei:v.N[d].par=(e:Int):=ω;refine⟨_,P.at.2.2,?_⟩
 try dsimp only
 rw[ei];refine dg (O.ext a2) λcp cs=>⟨_,_,_,_,rfl,aa λdp ct cw dq=>aq (t0:=(⟨Bs.zero 32,0,0⟩:Nd).tv) ct (t:=(c8 v.N (e:Int)).1.tv) (Nd.size _).symm ((Nd.size _).trans (Nd.size _).symm) λbj ad f27 dr=>?_⟩;have ad:Var 69 bj cp.size (c8 v.N (e:Int)).1.tv:=ad;rw[sW bi]at ad;have bk:Ext a1 bj:=cs.trans (ag.cut cw f27 λi y=>Nat.le_of_eq (Eq.symm y));have bl:=a2.trans bk;have re:v.N[e].root=HF v.N e:=(oG bi).symm;have rd:v.N[d].root=HF v.N d:=(oG W).symm;refine⟨_,ad.at.1,?_⟩;refine aek (j:=e) (O.ext bl) (by dsimp only;rw[re];exact ac6 o a3) λcx bm bo cy ds=>⟨_,rfl,?_⟩;have cA:=bl.trans bo;have kf:(kids v.N.length (bQ v.N) e).length<=v.N.length:=by have:=List.length_filter_le (We v.N.length (bQ v.N) e) (anI v.N.length);rwa [List.length_range]at this
 refine⟨λτ I=>Ext cx I/\0<=τ.2/\τ.2<=bm.len,λτ _=>((bm.len:Int)-τ.2).toNat,⟨Ext.refl _,anJ 0,Ω⟩,?_⟩;rintro⟨f2,l⟩ hz ⟨xz,l0,l1⟩;dsimp only at l0 l1⊢;have yz:=cA.trans xz;have vz:=(P.ext bk).ext (bo.trans xz);refine ID (λcB=>?_) λcB=>?_
 ·have hc:l.toNat<(kids v.N.length (bQ v.N) e).length:=ω;obtain⟨u,hu⟩:∃u,(kids v.N.length (bQ v.N) e)[l.toNat]? =some u:=⟨_,anG hc⟩;have bp:=List.mem_of_getElem? hu;have cC:=(ew.1 bp).2.1;refine lM (cy.ext xz) l0 (x:=HF v.N u) (by rw[anK,hu];rfl) ?_;refine aa λdt cI cJ du=>aq (t:=.bytes 32 (HF v.N u)) cI eM.symm (eM.trans eM.symm) λcK v30 f30 dv=>?_;have a4:Ext hz cK:=ag.cut cJ f30 λi y=>Nat.le_of_eq (Eq.symm y);have ae:=yz.trans a4;refine⟨_,v30.bytes,_,(vz.ext a4).at.1,(G.ext ae).book ⟨_,rfl,Ext.refl _,?_⟩⟩;refine ab cC ae λdC x31=>⟨_,rfl,x31,(G.ext (ae.trans x31)).book ⟨_,rfl,Ext.refl _,?_⟩⟩
  try dsimp only
  rw[rd];refine ab dl (ae.trans x31) λdE cM=>⟨_,rfl,ID (λC=>absurd C (by have:=ahj o bd bp;omega)) λ_=>?_⟩
  try dsimp only
  rw[wrap_i64 (n:=l+1) ω ω];exact⟨⟨(xz.trans a4).trans (x31.trans cM),Ω,Ω⟩,Ω⟩
 ·refine⟨_,vz.at.2.2,?_⟩
  try dsimp only
  rw[wrap_i64 (n:=k1+1) ω ω];exact⟨⟨yz,Ω,Ω,e,ei,a3,cj,cl⟩,Ω⟩
theorem ac0{q:FM}(p:∃V xs,qu h q.c V q.A xs)(B:∀a,Ext h a->R (TV.bool true).val a):Cl 7 [q.tv] h R:=by
 obtain⟨V,xs,p⟩:=p;exact ac7 p B
end
end Gate
namespace gateHeads
open Go.Vc
open Go.ChangeShapes Go.WideShapes Go.ChangeAt Go.RowKit
open Go.ChangeMaps (open_string shut_string)
set_option linter.unusedVariables false
theorem own:ownKnob Tryz.prog.godebug=none:=κ
theorem laidOut:laidOutB Tryz.prog=true:=κ
theorem lifted(A:Os)(B:A.Started)(H:Type)(enc:TypeId×Value->H):
 ReturnsInHanded {} Tryz.checked A 7 .any (Rows.gateHeadsSpec.pre6 enc Tryz.prog Tryz.f7 Rows.gateHeadsRow.domain false) (Rows.gateHeadsSpec.post enc Tryz.prog Tryz.f7 false true false false):=by
 refine returnsInHanded_of_change (C:=Tryz.checked) own B κ Tryz.func7
  (ChangeSpec.witness6 (enc:=enc) (C:=Tryz.checked) false ⟨#[],#[.agg #[.slice none 0 0,.i 0,.i 0,.i 0,.i 0,.i 0,.i 0,.i 0,.i 0,.i 0,.i 0,.i 0,.slice none 0 0]],[]⟩ 8 κ κ κ κ) ?_
 intro W base args n G I a b J _;have c:∀(j:Nat) t v,Tryz.f7.params[j]? =some t->args[j]? =some v->Value.okWide Tryz.prog W .any base t v:=a;have o:=b;obtain⟨p,q,d,r,rfl,K,L⟩:=b;have f:DataW.TrodAll enc Tryz.prog W 0 (λ_=>true) true Tryz.f7.params.toList args.toList n p:=d;rw[Tryz.params7]at f c;obtain⟨v0,M,d0,N,s,O,P,rfl,rfl,g,u⟩:=trodAll_cons f;obtain⟨rfl,rfl,rfl⟩:=trodAll_nil u;obtain rfl:args=#[v0]:=by cases args;simp_all
 obtain⟨rfl,rfl⟩:=trodVars_none r;obtain⟨c0,w,rfl⟩:=Go.Proofs.YtennbinbffdimaaGreat.Gate.FN (c 0 42 v0 rfl rfl) g;have k:=g;have y:∀x∈s,x.block<W.heap.size:=by obtain⟨m,z⟩:=k;exact DataW.trod_lt m _ _ _ z
 clear d a
 have D:Calls Tryz.prog 7 #[c0.tv.val] W λe E=>e=.returned (.bool true)/\Below W.heap.size W E:=by
  exact(bC.fin (args:=ak.vals [c0.tv]) (Go.Proofs.YtennbinbffdimaaGreat.Gate.ac0 w λQ e=>⟨rfl,e⟩))
 refine D.mono λe W'⟨F,l⟩=>?_;subst F;exact⟨_,rfl,_,_,_,[],_,[],o,trodAll_mk1 (shut_bool Tryz.underlying4 _),(trodAll_cons_mk (Below.trod laidOut κ (of_decide_eq_true κ) k l y) trodAll_mk0),rfl,l.frame _,λh=>by cases h⟩
theorem j1:Rows.gateHeadsRow.wf (OpenSpec.ofChange Rows.gateHeadsSpec)=true:=κ
theorem j4:Tryz.f7.params.all (Tryz.prog.readableRec ·)=true:=κ
theorem j5:namedTie Tryz.prog Rows.gateHeadsRow.named Rows.gateHeadsSpec.vars=true:=κ
theorem j6:(Rows.gateHeadsRow.stops==[])=true:=κ
theorem j8:(Rows.gateHeadsRow.knobs==[])=true:=κ
theorem j10:(Rows.gateHeadsRow.inPlace==Tryz.prog.inPlace 7)=true:=κ
theorem j11:(Rows.gateHeadsRow.unfollowed==Tryz.prog.unfollowed 7)=true:=κ
theorem j12:(Rows.gateHeadsRow.recurses==Tryz.prog.recurses 7)=true:=κ
theorem j13:(Rows.gateHeadsRow.named==Tryz.prog.varsNamed 7)=true:=κ
theorem Sb:(Rows.gateHeadsRow.maps==(Tryz.f7.params.toList++Rows.gateHeadsSpec.plain.varTypes Tryz.prog).any (Tryz.prog.mapsRec ·))=true:=κ
theorem j15:(Rows.gateHeadsRow.ifaces==(Tryz.f7.params.toList++Rows.gateHeadsSpec.plain.varTypes Tryz.prog).any (Tryz.prog.ifacesRec ·))=true:=κ
theorem j16:(Rows.gateHeadsRow.mapsOut==Tryz.prog.mapsAmong Tryz.f7.resultTypes.toList)=true:=κ
theorem j17:(Rows.gateHeadsRow.loops==(Tryz.f7.params.toList++Rows.gateHeadsSpec.plain.varTypes Tryz.prog).any (Tryz.prog.loopsFrom ·))=true:=κ
theorem j18:(Rows.gateHeadsRow.wideKeys==(Tryz.f7.params.toList++Rows.gateHeadsSpec.plain.varTypes Tryz.prog++Tryz.f7.resultTypes.toList).any (Tryz.prog.wideKeysFrom ·))=true:=κ
theorem j19:Rows.gateHeadsSpec.vars.all (Tryz.prog.varReadable ·)=true:=κ
theorem j20:Tryz.f7.resultTypes.all (λt=>Tryz.prog.readableRec t&&decide (t<Tryz.prog.types.size))=true:=κ
theorem j21:(Rows.gateHeadsRow.ifacesOut==Tryz.f7.resultTypes.toList.any (Tryz.prog.ifacesRec ·))=true:=κ
theorem j22:(Rows.gateHeadsRow.loopsOut==Tryz.f7.resultTypes.toList.any (Tryz.prog.loopsFrom ·))=true:=κ
theorem j24:Rows.gateHeadsRow.shortTexts.isNone=true:=κ
theorem j29:(Rows.gateHeadsRow.kinds==(if Rows.gateHeadsRow.domain.isEmpty then[]else Tryz.f7.params.toList.map λt=>match Tryz.prog.underlying t with|some (.int k)=>some k|_=>none))=true:=κ
theorem j30:(Rows.gateHeadsRow.pinned==Rows.gateHeadsRow.pinnedBy)=true:=κ
theorem j31:(Rows.gateHeadsRow.veiled==(Tryz.f7.params.toList++Rows.gateHeadsSpec.plain.varTypes Tryz.prog++Tryz.f7.resultTypes.toList).any (Tryz.prog.veiledRec ·))=true:=κ
theorem j32:Rows.gateHeadsRow.veiledFits Tryz.prog Tryz.f7.params.toList (Tryz.f7.params.toList++Rows.gateHeadsSpec.plain.varTypes Tryz.prog++Tryz.f7.resultTypes.toList)=true:=κ
theorem j23:(Rows.gateHeadsRow.plainKeys==Tryz.prog.plainKeys)=true:=by rw[AV];rfl
theorem j27:(Rows.gateHeadsRow.lifted==Tryz.prog.liftsFinal)=true:=by rw[AU];rfl
theorem j28:(Tryz.prog.make==some Rows.gateHeadsRow.make)=true:=Ev
theorem closed:joinedFacts Tryz.prog 7 Tryz.f7 Rows.gateHeadsSpec Rows.gateHeadsRow=true:=vM j1 Eu AQ j4 j5 j6 AR j8 AS j10 j11 j12 j13 Sb j15 j16 j17 j18 j19 j20 j21 j22 j23 j24 AT I4 j27 j28 j29 j30 j31 j32
theorem zD:Tryz.pinned.checked.prog.funcNamed Rows.gateHeadsRow.func=some 7:=κ
theorem inst:Tryz.f7.isInstance Tryz.pinned.checked.prog Rows.gateHeadsRow.origin Rows.gateHeadsRow.targs:=of_decide_eq_true κ
theorem wrapper:Tryz.f7.isWrapper Tryz.pinned.checked.prog Rows.gateHeadsRow.wrapper Rows.gateHeadsRow.mainSum:=by unfold Func.isWrapper;first|(rw[if_pos (by decide+kernel)];kernel_rfl)|(rw[if_neg (by decide+kernel)];exact⟨rfl,rfl⟩)
theorem rL:Rows.gateHeadsRow.holds Tryz.pinned (OpenSpec.ofChange Rows.gateHeadsSpec):=
 OpenClaim.holds_of_wide 7 Tryz.f7 rfl rfl rfl rfl rfl rfl rfl ⟨rfl,rfl,rfl,rfl,rfl⟩ rfl rfl rfl rfl rfl zD Tryz.func7 closed
  inst wrapper
  (λa b H enc _=>lifted a b H enc)
theorem proved:Rows.GateHeadsSaid:=rL
end gateHeads
end Go.Proofs.YtennbinbffdimaaGreat

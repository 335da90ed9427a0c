/- Texts that the proof needs, joined. -/
import Derived.Deep.Strs
import Derived.OpenShut
import Derived.Test.YtennbinbffdimaaGreatQk11
set_option maxRecDepth 100000
open Go.Vc.ag renaming cut->amK
open Go.Vc.Sl renaming nil->amL,mk->amV
open Go.IntKind renaming wrap->amM
open Go.Vc.TV renaming val->amN,bool->amW,bg->amX,agg->amZ,str->am6,bytes->anh,cells->anz
open Go.Vc.ak renaming cells->amO
open Go.Vc.If renaming no->amP,yes->amY,split->anu
open Go.DataW renaming trod_int->amQ,trod->am7,trod_struct->anm
open Nat renaming le_of_eq->amR,le_refl->ank,le_of_lt->anx
open Eq renaming symm->amS
open List renaming getElem?_eq_getElem->amT,length_map->am0,getElem?_map->am1,mem_of_getElem?->anc,mem_map->anf,drop_zero->ang,take_add_one->ani,take_length->anj,append_nil->ann,drop_eq_nil_of_le->ano,foldl_cons->anp,length_filter_le->anq,mem_filter->anr,take_zero->ant,mem_singleton->anv,length_nil->anw
open Go.Vc.Bs renaming zero->amU
open Int renaming le_refl->am2,tmod->am5,toNat_natCast->ane
open Go.Proofs.YtennbinbffdimaaGreat.Peers renaming score->am3,lN->anl,tick->ans
open Go.Lit renaming int->am4
open ByteArray renaming mk->am8
open Go.Vc.Ext renaming push->am9,refl->anb
open Array renaming size->ana
namespace Go.Proofs.YtennbinbffdimaaGreat
open Go Go.Vc
namespace Gate
open Board (Vd Cf Vt aq wI)
open Pool (rts eM Dw)
section
variable{R:Rq}{h h':af}{b r:Nat}{A:Sl}{N:List Nd}{most:Int}
theorem Ut(p:AP h b r A N most){root:Bs 32}(Z:place root N<0->∀h',Ext h h'->R (amX [.ptr none,.i 7]).val h')
 (hr:∀k:Nat,place root N=(k:Int)->∀h' b' S',l9 h' b' (eX N most k) most S'->Ext h h'->(∀i,S' i->h.size<=i)->R (amX [.ptr (PT b'),.i 0]).val h'):
 Cl 244 [.ptr (PT b),.bytes 32 root] h R:=by
 apply GV;delta zP Dq fk Dp cu cr cE jW bz aN bJ aT bA;have ar:=p.ok.len;have E:=p.ok.most;refine aa λh1 v1 F s1=>amP ⟨root,v1.bytes,dM (p.ext F) λh2 o=>⟨_,rfl,?_⟩⟩;have G:=F.trans o;refine dg (p.ext G) λh3 q=>⟨_,_,_,_,rfl,?_⟩;have Y:=G.trans q;refine aa λh4 v4 x4 s4=>aq v4 rfl rfl λh5 H f5 s5=>?_;have s:=amK x4 f5 λi a=>amR (amS a);have c:=Y.trans s;by_cases f:0<=place root N
 ·obtain⟨k,x,q1,I,q3,q4,q5⟩:=fG f;have t:c8 N (place root N)=(x,true):=by simp_all [sW]
  rw[t]at H⊢;have ab:=H;refine amP ⟨root,((v1.ext o).ext q|>.ext s).bytes,x.slot,ab.at.2.1,?_⟩;refine Bw (p.ext c) ⟨_,rfl,anb _,Gl (p.ext c) ⟨_,rfl,anb _,?_⟩⟩;rw[wrap_i64 ω ω,show N.length+(most-N.length)=most by omega];have J:=p.ok.slots x (anc q3);refine Fw (λhc=>absurd ⟨E.1,E.2,J.1,J.2⟩ hc) λ_ h6 b' j A' p6 K ac=>⟨_,_,rfl,root,(((v1.ext o).ext q|>.ext s).ext K).bytes,?_⟩;have L:=c.trans K;refine dM (p.ext L) λh7 M=>⟨_,rfl,?_⟩;have ad:=L.trans M;dsimp only;rw[I,wrap_i64 ω ω]
  refine⟨λσ O=>∃d:Nat,σ=(k+1+d:Nat)/\k+1+d<=N.length/\Ext h O/\∃j A',AP O b' j A' (kQ N most k d) most/\∀i,lH b' j A' i->h.size<=i,λσ _=>(N.length-σ).toNat,
   ⟨0,ω,ω,ad,j,A',?_,λi a=>by have:=ac i a;have:=c.size;omega⟩,?_⟩
  ·have e:kQ N most k 0=[⟨root,x.slot,-1⟩]:=by simp_all [sW,kQ]
   rw[e];exact p6.ext M
  rintro σ h8 ⟨d,rfl,hd,g,u,P,p8,l⟩;refine Bw (p.ext g) ⟨_,rfl,ID (λa=>?_) λa=>?_⟩
  ·have m:N[k+1+d]? =some N[k+1+d]:=amT ω;obtain⟨y,hy⟩:∃y,y=N[k+1+d]'ω:=⟨_,rfl⟩;rw[<-hy]at m;have Q:=p.ok.up _ _ m ω;obtain⟨z,S⟩:∃z,N[y.par.toNat]? =some z:=⟨_,amT ω⟩;refine dg (p.ext g) λh9 x9=>⟨_,_,_,_,rfl,aa λaw v10 ae aE=>aq v10 rfl rfl λa0 v11 f11 a1=>?_⟩;rw[sW m]at v11;have v:=v11;have al:=amK ae f11 λi a=>amR (amS a);have T:=x9.trans al;refine⟨y.par,v.at.2.2,dg (p.ext (g.trans T)) λa2 w=>⟨_,_,_,_,rfl,aa λa3 am ao a4=>aq am rfl rfl λa5 U f14 a6=>?_⟩⟩;rw[ig Q.1 S]at U;have V:=U;have B:=amK ao f14 λi a=>amR (amS a);have W:=T.trans (w.trans B);refine⟨z.root,V.at.1,dM (p8.ext W) λa7 n=>⟨_,rfl,?_⟩⟩;have C:=W.trans n;have D:=g.trans C
   have e:kQ N most k (d+1)=if 0<=place z.root (kQ N most k d)then gw (kQ N most k d) most y.root z.root y.slot else kQ N most k d:=by
    show BX N most (kQ N most k d) (k+1+d:Nat)=_;unfold BX;rw[sW m,ig Q.1 S]
   have wr:amM .i64 ((k+1+d:Nat)+1)=(k+1+(d+1):Nat):=by grind [wrap_i64]
   rw[wr];refine ID (λf=>?_) λf=>?_
   ·rw[if_pos f]at e;refine⟨y.root,((v.ext (w.trans B)).ext n).at.1,z.root,(V.ext n).at.1,y.slot,((v.ext (w.trans B)).ext n).at.2.1,QN (p8.ext C) λa8 ap a9 X=>⟨_,rfl,?_⟩⟩;refine⟨⟨d+1,rfl,ω,amK D X.only λi a=>l i a,u,ap,by simp_all,λi a=>(X.new i a).elim (l i) λh=>by have:=D.size;omega⟩,by grind⟩
   ·rw[if_neg f]at e;exact⟨⟨d+1,rfl,ω,D,u,P,by rw[e];exact p8.ext C,l⟩,by grind⟩
  ·have:d=N.length-(k+1):=ω;refine hr k I h8 b' _ ⟨u,P,?_,rfl⟩ g l;simp_all [eX]
 ·have t:(c8 N (place root N)).2=false:=by
   simp_all [if_neg,c8,nodeAt]
  rw[t];exact amY (Z ω h5 c)
def FJ(st:List Int)(t:Tb)(L:List Nd)(j:Nat):Nat->Int:=λi=>if i<j then bZ st t L i else 0
def Iz(st:List Int)(t:Tb)(x:Nd):Dl:=(x.root,pW t st x.root)
theorem X7{st:List Int}{t:Tb}{L:List Nd}:FJ st t L L.length=bZ st t L:=by
 grind [FJ,j7]
theorem Nz{st:List Int}{t:Tb}{L:List Nd}(q:wR st)(B:(L.map Nd.root).Nodup):∀n j,j+n=L.length->Gr L ((L.drop j).map (Iz st t)) (FJ st t L j)/\laid L ((L.drop j).map (Iz st t)) (FJ st t L j)=bZ st t L
 |0,j,h=>by
  rw[ano ω,show j=L.length by omega,X7];exact⟨⟨λi _=>rE q i,uC q B⟩,rfl⟩
 |n+1,j,h=>by
  have a:j<L.length:=ω;obtain⟨e,f⟩:=Nz q B n (j+1) ω;rw[List.drop_eq_getElem_cons a,List.map_cons];have b:=amT a;have c:place (Iz st t L[j]).1 L=j:=gX B b;have g:(Iz st t L[j]).2=bZ st t L j:=(yE b).symm;have k:=rE (t:=t) (L:=L) q j;have l:=ZR (t:=t) q B j
  have d:bump (FJ st t L j) (place (Iz st t L[j]).1 L).toNat (Iz st t L[j]).2=FJ st t L (j+1):=by
   rw[c,ane];funext i;unfold bump FJ
   grind
  have m:FJ st t L j (place (Iz st t L[j]).1 L).toNat=0:=by
   exact if_neg ω
  refine⟨⟨ω,ω,ω,ω,ω,by rw[d];omega⟩,?_⟩;simp_all [laid,anp]
theorem X9{st:List Int}{t:Tb}{L:List Nd}{r:Bs 32}(h:0<=place r L):bZ st t L (place r L).toNat=pW t st r:=by
 grind [fG,ane,yE]
theorem Sd:(ctx.ti 314).bytes=40:=κ
theorem acL:(ctx.ti 314).size=33:=κ
theorem aa4:(ctx.ti 314).z.size=33:=κ
theorem ag6{h:af}{s:Sl}{L:List Dl}{x:Dl}{K:Sl->af->Prop}(o:Vc.Own 314 33 h s (L.map z_))(q:L.length<100000)(B:∀a h',Vc.Own 314 33 h' a ((L++[x]).map z_)->ag (In s) h h'->(∀i,In a i->In s i\/h.size<=i)->K a h'):
 ∃new,cn (h.push (row (amO [amZ [.bytes 32 x.1,.i x.2]]) 314)) (amV (some (Vc.Loc.mk h.size 0)) 1 1) 33 new/\(∀v∈new,bU v=true)/\au ctx 314 s 1 new (h.push (row (amO [amZ [.bytes 32 x.1,.i x.2]]) 314)) K:=by
 have c:=o.len;rw[am0]at c;refine cD (x:=z_ x) acL aa4 (by simp[Sd]) (by rw[Sd];omega) o (MP x) (Tq x) λa h' g d e=>B a h' (by simp_all) d λi⟨l,q,j⟩=>?_;rcases e l q with⟨f,b,k⟩|b
 ·exact .inl ⟨f,b,ω⟩
 omega
theorem acM{k:Nat}(o:rz N most)(q:k<N.length){x:Nd}(B:x∈eX N most k):0<=place x.root N:=by
 have:x.root∈(eX N most k).map Nd.root:=anf.2 ⟨x,B,rfl⟩;rw[HH o q]at this;obtain⟨i,a,b⟩:=anf.1 this;have a:=(rZ.1 a).1;rw[oG (amT a)]at b;rw[<-b,gX o.nodup (amT a)];omega
theorem X_{we:Nat}{st:List Int}{t:Tb}{S0 S1:Nat->Prop}(so:wR st)(am:l9 h b N most S0)(ao:eZ h we b N (bZ st t N) S1){root:Bs 32}(ap:place root N<0->∀h',Ext h h'->R (amX [.ptr none,.ptr none,.i 7]).val h')
 (q:∀k:Nat,place root N=(k:Int)->∀h' b' T g e,l9 h' b' (eX N most k) most g->eZ h' T b' (eX N most k) (bZ st t (eX N most k)) e->Ext h h'->(∀i,g i->h.size<=i)->(∀i,e i->h.size<=i)->(∀i,g i->¬e i)->
  R (amX [.ptr (PT b'),.ptr (PT T),.i 0]).val h'):
 Cl 178 [.ptr (PT b),.ptr (PT we),.bytes 32 root] h R:=by
 apply Iy;delta js uR jr cr dD eW bz eU bJ bK aT bA;obtain⟨r,A,p,a3⟩:=am;refine aa λh1 v1 s s1=>⟨root,v1.bytes,Ut (p.ext s) (λhn C E=>⟨_,_,rfl,amY (ap hn C (s.trans E))⟩) λk hk C b' g t2 E n2=>⟨_,_,rfl,amP ?_⟩⟩;have F:=s.trans E;obtain⟨L,H⟩:∃L,L=eX N most k:=⟨_,rfl⟩;have ar:k<N.length:=by have:=(pQ root N).2.1;omega
 have aw:∀x∈L,0<=place x.root N:=λx I=>acM p.ok ar (H▸I);rw[<-H]at t2;have q:=q k hk;rw[<-H]at q;have J:=t2.lt;obtain⟨U,V,d,K⟩:=t2;have a4:=d.ok.len;have a5:=d.ok.most;refine MQ d λh3 w3 O3 X3 B3 G3 aE M m=>⟨_,rfl,?_⟩;have W:=F.trans M;refine Ll (d.ext M) λY sl Z u m4=>⟨_,rfl,?_⟩;have a0:=W.trans u;have ol:=Z.len;rw[pE,am0]at ol;refine⟨λσ hh=>∃i:Nat,σ.2=i/\i<=L.length/\Vc.Own 314 33 hh σ.1 (((L.take i).map (Iz st t)).map z_)/\Ext Y hh/\∀j,In σ.1 j->Y.size<=j,λσ _=>(L.length-σ.2).toNat,⟨0,rfl,ω,Vc.Own.nil _ _ _,anb _,λj⟨l,hl,_⟩=>(by cases hl)⟩,?_⟩;rintro⟨D,ii⟩ h5 ⟨i,a,ab,v,f,w⟩;dsimp only at a v w⊢;subst a;have a1:=a0.trans f;refine ID (λa6=>?_) λa7=>?_
 ·have y:L[i]? =some (L[i]'ω):=amT ω;obtain⟨x,I⟩:∃x,x=L[i]'ω:=⟨_,rfl⟩;rw[<-I]at y;have ac:=aw x (anc y);refine lM (Z.ext f).elems ω (by rw[ane,am1,y];rfl) ?_;refine aa λh6 v6 x6 s6=>aq v6 eM.symm (eM.trans eM.symm) λh7 v7 f7 s7=>?_;have ad:=amK x6 f7 λi a=>amR (amS a);have ae:=a1.trans ad;refine⟨_,v7.bytes,_,v7.bytes,?_⟩;obtain⟨O,X,B,G,wp,_⟩:=ao;refine aaf (WP.ext wp ae) (p.ext ae) λh8 x8=>⟨_,rfl,x8,?_⟩;have P:=ad.trans x8;have c:mV N (bZ st t N) x.root=pW t st x.root:=by unfold mV;rw[if_pos ac,X9 ac]
  rw[c];have a2:(L.take i).length=i:=by rw[List.length_take];omega
  refine ag6 (x:=Iz st t x) (v.ext P) (by rw[am0,a2];omega) λs9 h9 o9 f9 n9=>?_;rw[wrap_i64 (n:=(i:Int)+1) ω ω];refine⟨⟨i+1,by simp,ω,?_,amK (f.trans P) f9 λj o=>w j o,λj o=>?_⟩,ω⟩
  ·have:(L.take (i+1)).map (Iz st t)=(L.take i).map (Iz st t)++[Iz st t x]:=by rw[ani,y,List.map_append];rfl
   rw[this];exact o9
  ·exact(n9 j o).elim (w j) λh=>by have:=f.size;have:=P.size;omega
 ·have ab:i=L.length:=ω;rw[ab,anj]at v;have z:=Nz (t:=t) so d.ok.nodup L.length 0 ω;rw[ang]at z;have pz:FJ st t L 0=λ_=>0:=rfl;rw[pz]at z;have Q:=(M.trans u).trans f;have al:=u.trans f;refine KO (own:=λ_=>0) ⟨U,V,d.ext Q,rfl⟩ ⟨O3,X3,B3,G3,WP.ext aE al,rfl⟩ (λi a c=>?_) (λ_ _=>am2 _) ?_ v.elems (λj o c=>?_) (by rw[am0];omega) z.1 λh6 e w6 S=>⟨_,rfl,?_⟩
  ·have:=J i (K▸a);have:=(m i c).1;omega
  ·unfold tot;rw[pP λ_ _=>rfl];decide
  ·have:=w j o;have:=(m j c).2;have:=u.size;omega
  ·rw[z.2]at w6;have n6:∀i,e i->C.size<=i:=λi a=>(S.new i a).elim (λh=>(m i h).1) λh=>by have:=Q.size;omega
   refine q h6 b' w3 g e ⟨U,V,(d.ext Q).only S.only λi a c=>?_,K⟩ w6 (amK (W.trans al) S.only λi a=>?_) (λi a=>?_) (λi a=>?_) λi a c=>?_
   ·have:=J i (K▸a);have:=(m i c).1;omega
   ·have:=(m i a).1;have:=F.size;omega
   ·have:=n2 i a;have:=s.size;omega
   ·have:=n6 i a;have:=F.size;omega
   ·have:=J i a;have:=n6 i c;omega
theorem Sep.aeL{F:Nat->Nat->Prop}{q B:Nat->Prop}(s:Sep h F)(n0:∀i,q i->h.size<=i)(E:∀i,B i->h.size<=i)(qx:∀i,q i->¬B i)(G:∀i,q i->i<h'.size)(H:∀i,B i->i<h'.size)(sz:h.size<=h'.size):
 Sep h' (nT (nT F 0 q) 1 B):=by
 have e:∀j i,nT (nT F 0 q) 1 B j i->(j=1/\B i)\/(j=0/\q i)\/F j i:=λj i f=>by
  by_cases g:j=1
  ·simp_all [bY]
  ·rw[aB g]at f;by_cases n:j=0<;>simp_all [aB,bY]
 refine⟨λa b i k l=>?_,λj i f=>?_⟩
 ·rcases e a i k with⟨g,c⟩|⟨g,c⟩|c<;>rcases e b i l with⟨m,d⟩|⟨m,d⟩|d
  ·omega
  ·simp_all
  ·have:=E i c;have:=s.lt _ _ d;omega
  ·simp_all
  ·omega
  ·have:=n0 i c;have:=s.lt _ _ d;omega
  ·have:=E i d;have:=s.lt _ _ c;omega
  ·have:=n0 i d;have:=s.lt _ _ c;omega
  ·exact s.qx _ _ _ c d
 ·rcases e j i f with⟨_,c⟩|⟨_,c⟩|c
  ·simp_all
  ·simp_all
  ·have:=s.lt _ _ c;omega
theorem Uu{g:Nat}{a:Ad}{c:Cf}{V:List Vd}{s:St}{q:Nat->Nat->Prop}(p:aR h g a c V s q){root:Bs 32}(O:place root s.N<0->∀h',Ext h h'->R (TV.i 7).val h')
 (U:∀k:Nat,place root s.N=(k:Int)->∀h' z G,aR h' g z c V {s with N:=eX s.N c.no k} G->z.kd=a.kd->z.bk=a.bk->Step (dm q) h (dm G) h'->R (TV.i 0).val h'):
 Cl 115 [.ptr (PT a.bk),.bytes 32 root] h R:=by
 apply AL;delta j3 aD cr dJ bz dX bJ aT bA
 refine aa λo v1 l s1=>amP ⟨_,(p.ext l).bk.ah rfl,_,(p.ext l).bk.ah rfl,root,v1.bytes,X_ p.st (p.ext l).tree (p.ext l).FP (λQ r A=>⟨_,_,_,rfl,amY (O Q r (l.trans A))⟩)
  λk B r b' C u v t2 S A n0 T W=>⟨_,_,_,rfl,amP ?_⟩⟩
 have D:=l.trans A;have d:=p.ext D;refine aI d.bk (i:=1) (t:=.ptr (PT b')) rfl rfl rfl rfl λh3 X f3 Y=>aI X (i:=2) (t:=.ptr (PT C)) rfl rfl rfl rfl λm v4 f4 Z=>?_;have f24:ag (·=a.bk) r m:=f3.trans f4;have ab:m.size=r.size:=Z.trans Y;have H:q 3 a.bk:=by rw[p.f3]
 have ac:=p.sep.lt 3 _ H;have ad:=D.size;have z1:=l.size;have E:∀i,u i->h.size<=i:=λi b=>by have:=n0 i b;omega
 have F:∀i,v i->h.size<=i:=λi b=>by have:=T i b;omega
 have n:∀k,k≠3->∀i,q k i->i≠a.bk:=λk B i b e=>p.sep.off B i b (e▸H);obtain⟨F',w⟩:∃F',F'=nT (nT q 0 u) 1 v:=⟨_,rfl⟩;have I:F' 0=u:=by rw[w,aB δ,bY]
 have J:F' 1=v:=by rw[w,bY]
 have f:∀k,k≠0->k≠1->F' k=q k:=λk x o=>by rw[w,aB o,aB x]
 have t4:l9 m b' (eX s.N c.no k) c.no u:=t2.only f24 λi b e=>by have:=E i b;omega
 have K:eZ m C b' (eX s.N c.no k) (bZ (aL V) s.tb (eX s.N c.no k)) v:=S.only f24 λi b e=>by have:=F i b;omega
 have L:∀j i,F' j i->q j i\/h.size<=i:=λj i b=>by
  by_cases o:j=1
  ·rw[o,J]at b;exact .inr (F i b)
  ·by_cases x:j=0
   ·rw[x,I]at b;exact .inr (E i b)
   ·rw[f j x o]at b;exact .inl b
 have P:aR m g {a with tr:=b',we:=C} c V {s with N:=eX s.N c.no k} F':=by
  refine⟨?_,by rw[I];exact t4,by rw[J];exact K,?_,v4,?_,?_,?_,?_,?_,?_,?_,?_,?_,?_,p.can⟩
  ·rw[w];exact p.sep.aeL E F W t4.lt K.lt ω
  ·rw[f 2 δ δ];exact d.gH.only f24 (n 2 δ)
  ·rw[f 3 δ δ];exact p.f3
  ·rw[f 4 δ δ];exact d.kids.only f24 (n 4 δ)
  ·rw[f 5 δ δ];exact d.wait.only f24 (n 5 δ)
  ·rw[f 6 δ δ];exact d.who.only f24 (n 6 δ)
  ·exact d.kz.only f24 (n 7 δ _ (by rw[p.f7]))
  ·rw[f 7 δ δ];exact p.f7
  ·exact d.var.only f24 (n 8 δ _ (by rw[p.f8]))
  ·rw[f 8 δ δ];exact p.f8
  ·exact TV.ck f24 d.vals λi b e=>p.off 3 i (by rw[p.f3];exact e) b
  ·exact λj i b M=>(L j i b).elim (λy=>p.off j i y M) λy=>by have:=p.x.SF i M;omega
 refine U k B m _ F' P rfl rfl ⟨(ag.an D).trans (f24.mono λi e=>⟨3,by rw[p.f3];exact e⟩),λi⟨j,hj⟩=>(L j i hj).imp (λy=>⟨j,y⟩) id⟩
theorem Uv{g:Nat}{a:Ad}{c:Cf}{V:List Vd}{s:St}{q:Nat->Nat->Prop}(p:aR h g a c V s q)(E:∀h',Ext h h'->R (anh 32 (mU s.N (bZ (aL V) s.tb s.N))).val h'):
 Cl 121 [.ptr (PT a.bk)] h R:=by
 apply nN;refine aa λl v1 b m=>amP ⟨_,(p.ext b).bk.ah rfl,?_⟩;obtain⟨r,A,e,n⟩:=(p.ext b).tree;obtain⟨O,X,B,G,f,o⟩:=(p.ext b).FP;refine TU f e λt d=>⟨_,rfl,aq (v1.ext d) eM.symm (eM.trans eM.symm) λj k f3 u=>⟨_,k.bytes,E j (amK (b.trans d) f3 λi v=>?_)⟩⟩;omega
theorem aeS{g:Nat}{a:Ad}{c:Cf}{V:List Vd}{s:St}{q:Nat->Nat->Prop}(p:aR h g a c V s q){root:Bs 32}(E:∀h',Ext h h'->R (TV.i (mV s.N (dh s.N (bZ (aL V) s.tb s.N)) root)).val h'):
 Cl 50 [.ptr (PT a.bk),.bytes 32 root] h R:=by
 apply Lb;refine aa λj v1 b k=>amP ⟨_,(p.ext b).bk.ah rfl,root,v1.bytes,?_⟩;obtain⟨r,A,d,l⟩:=(p.ext b).tree;obtain⟨O,X,B,G,e,m⟩:=(p.ext b).FP;exact adD e d λf i=>⟨_,rfl,E f (b.trans i)⟩
end
end Gate
namespace Gate
open Board (Vd Cf aq wI)
open Pool (It WL dV Fit)
def aX(c:Cf)(s:St)(root:Bs 32):Int×St:=
 if place root s.N<0 then(7,s)
 else(0,{s with N:=eX s.N c.no (place root s.N).toNat,kids:=s.kids.filter λx=>!decide (x.slot<=(bT {s with N:=eX s.N c.no (place root s.N).toNat}).slot)})
section
variable{R:Rq}{h h':af}{g:Nat}{a:Ad}{c:Cf}{V:List Vd}{s:St}{Fp:Nat->Nat->Prop}
theorem vF(p:aR h g a c V s Fp){root:Bs 32}
 (q:∀h' f m,aR h' g f c V (aX c s root).2 m->Step (dm Fp) h (dm m) h'->R (TV.i (aX c s root).1).val h'):
 Cl 41 [.ptr (PT g),.bytes 32 root] h R:=by
 apply lg;delta aD i_ cu cr dJ jW bz dX eU bJ aT bA;refine aa λj v1 b M=>amP ⟨_,(p.ext b).var.ah rfl,root,v1.bytes,Uu (p.ext b) (λB n o=>⟨_,rfl,amY ?_⟩) λk C n f D r O P E=>⟨_,rfl,amP ?_⟩⟩
 ·have e:aX c s root=(7,s):=by unfold aX;rw[if_pos B]
  rw[e]at q;exact q n a Fp (p.ext (b.trans o)) (.an (b.trans o))
 ·have e:aX c s root=(0,{s with N:=eX s.N c.no k,kids:=s.kids.filter λx=>!decide (x.slot<=(bT {s with N:=eX s.N c.no k}).slot)}):=by
   unfold aX;rw[if_neg ω,C,ane]
  rw[e]at q;refine Ef r λF G=>⟨_,_,rfl,aa λQ v4 H S=>aH v4 (t:=.bytes 32 (bT {s with N:=eX s.N c.no k}).root) wI λu T f5 U=>?_⟩;have I:Ext F u:=amK H f5 λi d=>amR (amS d);have v:=G.trans I;have l:=r.ext v;obtain⟨w,W,J,K⟩:=l.kids;refine⟨_,l.var.ah rfl,Pool.TP J λy z L A=>⟨_,rfl,?_⟩⟩
  have st:Step (D 4) u (λi=>i=f.kd\/dV w z i) y:=by
   rw[K]
   exact⟨A.only.mono λi d=>.inr d,λi d=>by
    rcases d with j|j
    ·exact .inl (.inl j)
    ·exact(A.new i j).imp .inr id⟩
  exact q y f _ (l.tj ⟨w,z,L,rfl⟩ st) (.cut b ((E.trans (.an v)).trans (Step.all st)))
theorem Uw{k:Nat}(q:Kept c s k){root:Bs 32}:Kept c (aX c s root).2 k:=by
 unfold aX;split
 ·exact q
 ·have b:=q.left;have:=anq (λx:It=>!decide (x.slot<=(bT {s with N:=eX s.N c.no (place root s.N).toNat}).slot)) s.kids;have d:=q.Cd;exact⟨q.now,q.AG,by dsimp only;omega,q.AH,λx a=>q.Ek x (anr.1 a).1,by dsimp only;omega,q.gone⟩
end
end Gate
namespace Gate
open Board (Vd Cf Vt Ms Dm jx aq aY bh jG Et bB fR cv)
open Pool (It qw RL fq Fit Bk lK eM Dw rts)
def DA(Q S:Nat->Prop)(h:af):Prop:=∀i,Q i->¬S i/\i<h.size
theorem DA.step{Q S S':Nat->Prop}{h h':af}(q:DA Q S h)(st:Step S h S' h'):DA Q S' h':=λi a=>by
 obtain⟨d,e⟩:=q i a;have:=st.only.size;refine⟨λb=>?_,ω⟩;rcases st.new i b with c|c<;>grind
theorem DA.elems{Q S:Nat->Prop}{h h':af}(q:DA Q S h)(f:ag S h h'){sz:Nat}{s:Sl}{ts:List TV}(e:aj sz h s ts)(A:∀i,In s i->Q i):aj sz h' s ts:=
 TV.ck f e λi a=>(q i (A i a)).1
theorem Se(t:Tb)(v:Vt):(c_ t v).2.first.length<=t.first.length+1:=by
 grind [List.length_singleton,List.length_append,c_]
theorem Sf(N:List Nd)(t:Tb)(v:Vt):(iS N t v).2.first.length<=t.first.length+1:=by
 grind [Se,iS]
theorem vG(N:List Nd):∀(W:List Vt)(t:Tb),(iw N t W).first.length<=t.first.length+W.length
 |[],t=>by simp[iw]
 |v::W,t=>by
  have a:=Sf N t v;have b:=vG N W (iS N t v).2
  grind [iw,List.length_cons,iS]
theorem Lm{c:Cf}{V:List Vd}(q:V.length<=64)(x:It):(qQ c V x).length<=65:=by
 grind [row,Board.si,Board.jG,lK,qQ,am0,amL]
theorem vH{c:Cf}{V:List Vd}(q:V.length<=64)(N:List Nd):∀(L:List It)(t:Tb),(f_ c V N t L).first.length<=t.first.length+65*L.length
 |[],t=>by simp[f_]
 |x::L,t=>by
  have a:=vG N (qQ c V x) t;have b:=vH (c:=c) q N L (iw N t (qQ c V x))
  grind [List.length_cons,qQ,f_,iw,Lm]
def SG(s:St)(k:Nat):Prop:=s.tb.first.length+65*s.wait.length<=65*k
section
variable{R:Rq}{h h':af}{g:Nat}{a:RAd}{c:Cf}{V:List Vd}{s:St}{Fp:Nat->Nat->Prop}
theorem Sg(p:aZ h g a c V s Fp)(q:s.tb.first.length<49999){v:Vt}
 (E:∀h' S',aZ h' g a c V {s with tb:=(iS s.N s.tb v).2} (nT Fp 1 S')->Step (Fp 1) h S' h'->R (TV.i (iS s.N s.tb v).1).val h'):
 Cl 112 [.ptr (PT a.bk),v.tv] h R:=by
 obtain⟨A,B,D,b,l⟩:=p.tree;obtain⟨m,d,Ha,e,tb,f⟩:=p.gH;refine RZ p.bk b tb q λi j k st=>?_;rw[<-f]at st;exact E i _ (p.FD ⟨j,d,Ha,e,k,rfl⟩ st) st
theorem Ea(p:aZ h g a c V s Fp){k:Nat}(O:Kept c s k)(fw:SG s k)(q:k<700)
 (U:∀h' am,aZ h' g a c V (fC c V s).2 am->Step (dm Fp) h (dm am) h'->R (amW (fC c V s).1).val h'):
 Cl 40 [.ptr (PT g)] h R:=by
 apply rN;delta aF gL aO cu cE fE bK aT lq;have kn:=O.now;have cw:=Clock.CP c.win;have cp:=p.can.pe;have cd:=p.can.dec;have hg:=p.good;obtain⟨ti,ba,E⟩:=p.var;refine⟨_,E.ah rfl,?_⟩;by_cases ao:1073741824<=s.now
 ·have e:fC c V s=(false,s):=by unfold fC;rw[if_pos ao]
  rw[e]at U;exact Clock.XD p.kz (show s.now=1073741824 by omega) ⟨_,rfl,amY (U h Fp p (.an (anb _)))⟩
 refine Clock.Ea p.kz ω kn.1 λC c1 f1 s1=>⟨_,rfl,amP ?_⟩;obtain⟨P,bd⟩:=p.Pd c1 f1;obtain⟨n,hn⟩:∃n,n=s.now+1:=⟨_,rfl⟩;rw[<-hn]at P;obtain⟨ti,ba,E⟩:=P.var;obtain⟨A,B,rp,hP⟩:=P.who;refine⟨_,E.ah rfl,Peers.Ul Peers.Po rp (by grind) hg.1.low cd λK A2 B2 bi g2=>⟨rfl,?_⟩⟩
 have ap:Step (Fp 5) C (Peers.dV a.wh A2 B2) K:=by
  rw[hP];exact⟨g2.1,g2.2⟩
 have gt:Peers.Good (ans c.dec s.sc)/\(ans c.dec s.sc).length<=c.pe:=⟨hg.1.tick cd.1,by grind [Peers.BZ]⟩;have G:=P.CR ⟨A2,B2,bi,rfl⟩ gt ap;have ar:=bd.trans (Step.all ap);obtain⟨S,bj⟩:∃S,S=nT Fp 5 (Peers.dV a.wh A2 B2):=⟨_,rfl⟩;rw[<-bj]at G ar;obtain⟨ti,ba,E⟩:=G.var;obtain⟨wA,wp,hW⟩:=G.wait;refine⟨_,E.ah rfl,_,E.ah rfl,n,G.kz.now,?_⟩;refine Pool.Px wp (λx r=>(O.AH x r).1) λh3 A3 t bs w3 g3 ad o3 K3 bk=>⟨_,rfl,?_⟩
 have aw:Step (S 4) K (λi=>i=a.wt\/In A3 i) h3:=by
  simp_all [xJ]
 have T:=G.B_ ⟨A3,w3,rfl⟩ aw;have aE:=ar.trans (Step.all aw);obtain⟨H,a0⟩:∃H,H=nT S 4 (λi=>i=a.wt\/In A3 i):=⟨_,rfl⟩;rw[<-a0]at T aE;have bl:=o3.lt;obtain⟨L,hL⟩:∃L,L=s.wait.filter λx=>decide (x.slot<n):=⟨_,rfl⟩;have ad:bs.map Bk.of=L.map λx=>(x.root,lK x.text):=by simp_all
 have ct:bs.length=L.length:=by have:=congrArg List.length ad;simpa using this
 have hwl:=O.AG;have cx:L.length<=s.wait.length:=by rw[hL];exact anq _ _
 have ce:=p.can.eH;have tl:=o3.elems.len;rw[am0]at tl;have a1:=p.can.len;have el:=p.el;have bm:=FH p.can el;obtain⟨Q,hQ⟩:∃Q:Nat->Prop,Q=λi=>In t i\/∃k∈bs,In k.b i:=⟨_,rfl⟩
 have a2:∀i,H 1 i->i<K.size:=λi b=>by
  rw[a0,aB δ]at b;exact G.sep.lt 1 i b
 have bo:DA Q (H 1) h3:=λi b=>by
  rw[hQ]at b;rcases b with⟨l,u,e⟩|⟨y,X,l,u,e⟩
  ·have C:=bk l u;have K:=bl l u;exact⟨λr=>by have:=a2 i r;omega,ω⟩
  ·have C:=(K3 y X).2 l u;exact⟨λr=>by have:=a2 i r;omega,ω⟩
 obtain⟨o,M⟩:∃o:St,o={s with now:=n,sc:=ans c.dec s.sc,gone:=s.gone,wait:=s.wait.filter λx=>!decide (x.slot<n)}:=⟨_,rfl⟩;have T:aZ h3 g a c V o H:=by rw[M];exact T
 have hT:fC c V s=(true,{o with tb:=dW (f_ c V s.N s.tb L) (Vc.mx (n-Clock.fB c.win) 0)}):=by unfold fC;rw[if_neg ao,hL,M,hn]
 rw[hT]at U;have hN:o.N=s.N:=by rw[M]
 have bp:o.tb=s.tb:=by rw[M]
 have cy:s.tb.first.length+65*s.wait.length<=65*k:=fw
 have tf:∀i,i<=L.length->(f_ c V s.N s.tb (L.take i)).first.length+65*(L.length-i)<=65*k:=λi b=>by
  have C:=vH (c:=c) a1.2 s.N (L.take i) s.tb;rw[List.length_take]at C;have:min i L.length=i:=ω;rw[this]at C;omega
 refine⟨λσ f=>∃i:Nat,σ=i/\i<=bs.length/\∃F,aZ f g a c V {o with tb:=f_ c V s.N s.tb (L.take i)} F/\Step (dm Fp) h (dm F) f/\DA Q (F 1) f/\aj 53 f t (bs.map Bk.Xj)/\∀k∈bs,aj 1 f k.b (aY k.d.row),
  λσ _=>(bs.length-σ).toNat,⟨0,rfl,Nat.zero_le _,H,by rw[ant];unfold f_;rw[List.foldl_nil,<-bp];exact T,aE,bo,o3.elems,λk q=>(K3 k q).1⟩,?_⟩
 rintro σ h4 ⟨i,rfl,b,F4,z,a3,br,e4,k4⟩;refine ID (λa4=>?_) λa4=>?_
 ·have bt:i<bs.length:=ω;obtain⟨x,r⟩:∃x,L[i]? =some x:=⟨_,amT ω⟩;refine e4.read ω a4 λl1 t1 cA a5 bx=>?_;rw[ane,am1]at a5;obtain⟨y,X,rfl⟩:=Option.map_eq_some_iff.1 a5
  have a6:y.d=lK x.text:=by
   have Y:(bs.map Bk.of)[i]? =some y.of:=by rw[am1,X];rfl
   rw[ad,am1,r]at Y;injection Y with Y;injection Y with cB b0;exact b0.symm
  have b1:=anc X;refine⟨y.ms.kind,y.ms.slot,y.ms.target,y.ms.ax,y.ms.body,y.ms.bits,y.ms.tag,bx,?_⟩;refine aa λh5 v5 x5 s5=>aq (t0:=bh.tv) v5 (t:=y.ms.tv) cv fR λh6 v6 f6 s6=>?_;have Z:Ext h4 h6:=amK x5 f6 λi b=>amR (amS b);have p6:=z.ext Z;have cC:=Z.size;obtain⟨cI,cJ,b2⟩:=p6.var;refine⟨c.vals,c.ep,c.aQ,c.no,c.eV,c.eH,c.quo,c.pe,c.iy,c.win,c.bH,c.dec,b2.at.1,bB (m:=y.ms) v6 ?_⟩
  have b3:y.d.row.length<500:=by
   have b5:x∈s.wait:=by
    have:=anc r;rw[hL]at this;exact(anr.1 this).1
   obtain⟨_,d,hd,_,_⟩:=O.AH x b5;rw[a6,Pool.rY hd];exact Pool.oF hd
  refine Board.Lh (c:=c) (m:=y.ms) (row:=y.d.row) bm ((k4 y b1).ext Z) b3 λh7 w e7 x7 b6=>⟨_,rfl,?_⟩;have ab:=Z.trans x7;have z7:=x7.size;have p7:=p6.ext x7;obtain⟨W,a7⟩:∃W,W=jG c.vals.len c.aQ y.ms y.d.row:=⟨_,rfl⟩;rw[<-a7]at e7
  have a8:W=qQ c V x:=by
   rw[a7];unfold qQ Bk.ms;rw[K4,<-a6,el]
  have cK:W.length<=65:=by rw[a8];exact Lm a1.2 x
  obtain⟨B',hB⟩:∃B',B'=f_ c V s.N s.tb (L.take i):=⟨_,rfl⟩;have b7:=tf i ω;rw[<-hB]at p7 b7;have a9:=e7.len;unfold Et at a9;rw[am0]at a9
  have b8:∀l,W≠[]->w.a=some l->l.b<h7.size:=λl D u=>by
   obtain⟨v,hv⟩:∃v,W[0]? =some v:=⟨_,amT (List.length_pos_iff.2 D)⟩;have b9:=e7.get l u 0 v.tv (by unfold Et;rw[am1,hv];rfl);exact xY (show ah h7 l.b (l.o+0*34) (.i v.who)from b9.1)
  have ca:DA (λi=>Q i\/(W≠[]/\In w i)) (F4 1) h7:=λj hj=>by
   rcases hj with hj|⟨D,l,u,e⟩
   ·have:=br j hj;exact⟨this.1,by have:=ab.size;omega⟩
   ·have C:=b6 l u;have K:=b8 l D u;exact⟨λq=>by have:=z.sep.lt 1 j q;omega,ω⟩
  refine⟨λσ f=>∃j:Nat,σ=j/\j<=W.length/\∃F,aZ f g a c V {o with tb:=iw s.N B' (W.take j)} F/\Step (dm Fp) h (dm F) f/\DA (λi=>Q i\/(W≠[]/\In w i)) (F 1) f/\aj 53 f t (bs.map Bk.Xj)/\(∀k∈bs,aj 1 f k.b (aY k.d.row))/\(W≠[]->aj 34 f w (Et W)),
   λσ _=>(W.length-σ).toNat,⟨0,rfl,Nat.zero_le _,F4,by rw[ant];exact p7,a3.trans (.an ab),ca,e4.ext ab,λk q=>(k4 k q).ext ab,λ_=>e7⟩,?_⟩
  rintro σ h8 ⟨j,rfl,hj,F8,p8,a',ae,e8,k8,w8⟩;refine ID (λhjt=>?_) λhjt=>?_
  ·have I:j<W.length:=ω;have D:W≠[]:=λe=>by rw[e]at I;simp at I
   obtain⟨v,hv⟩:∃v,W[j]? =some v:=⟨_,amT I⟩;refine VP (w8 D) hv ?_;refine aa λh9 v9 x9 s9=>aq (t:=v.tv) v9 rfl rfl λh10 v10 f10 cM=>?_;have J:Ext h8 h10:=amK x9 f10 λi b=>amR (amS b);have bb:=p8.ext J;obtain⟨cP,cR,cf⟩:=bb.var
   have ch:(iw s.N B' (W.take j)).first.length<49999:=by
    have:=vG s.N (W.take j) B';rw[List.length_take]at this;omega
   refine⟨_,cf.ah rfl,v.who,v.slot,v.target,v10.at,Sg bb ch λcS ci cj N=>⟨_,rfl,?_⟩⟩;have cT:=J.size;have ac:DA (λi=>Q i\/(W≠[]/\In w i)) (F8 1) h10:=λi b=>⟨(ae i b).1,by have:=(ae i b).2;omega⟩
   have eT:iw s.N B' (W.take (j+1))=(iS s.N (iw s.N B' (W.take j)) v).2:=by
    unfold iw;rw[ani,hv,List.foldl_append];rfl
   rw[show amM .i64 ((j:Int)+1)=((j+1:Nat):Int) by rw[wrap_i64 ω ω];omega]
   refine⟨⟨j+1,rfl,I,nT F8 1 ci,?_,(a'.trans (.an J)).trans (Step.all N),by rw[bY];exact ac.step N,ac.elems N.only (e8.ext J) λi b=>.inl (by rw[hQ];exact .inl b),λk q=>ac.elems N.only ((k8 k q).ext J) λi b=>.inl (by rw[hQ];exact .inr ⟨k,q,b⟩),
    λ_=>ac.elems N.only ((w8 D).ext J) λi b=>.inr ⟨D,b⟩⟩,by dsimp only;omega⟩
   rw[eT,show iS s.N=iS o.N by rw[hN]];exact cj
  ·have I:j=W.length:=ω;rw[I,anj]at p8;rw[show amM .i64 ((i:Int)+1)=((i+1:Nat):Int) by rw[wrap_i64 ω ω];omega];refine⟨⟨i+1,rfl,bt,F8,?_,a',λi b=>ae i (.inl b),e8,k8⟩,by dsimp only;omega⟩
   have eT:f_ c V s.N s.tb (L.take (i+1))=iw s.N B' (qQ c V x):=by
    rw[hB];unfold f_;rw[ani,r,List.foldl_append];rfl
   rw[eT,<-a8];exact p8
 ·have cl:i=L.length:=ω;rw[cl,anj]at z;have n3:o.now=n:=by rw[M]
  obtain⟨cU,cX,bc⟩:=z.var;refine⟨_,bc.ah rfl,_,z.bk.ah rfl,_,bc.ah rfl,Clock.HK z.kz (by dsimp only;omega) (by dsimp only;omega) cw.1 cw.2 ⟨_,rfl,anb _,?_⟩⟩;obtain⟨Fi,La,Ha,Ou,tb,hB⟩:=z.gH;refine Pb tb ?_ λh5 Fi' cs al=>⟨rfl,?_⟩
  ·dsimp only;rw[n3];unfold Vc.mx;split<;>omega
  ·rw[<-hB]at al;have p5:=z.FD ⟨Fi',La,Ha,Ou,cs,rfl⟩ al;refine U h5 _ ?_ (a3.trans (Step.all al));dsimp only at p5⊢;rw[n3]at p5⊢;exact p5
theorem Ux(p:aZ h g a c V s Fp){root:Bs 32}(G:place root s.N<0->∀h',Ext h h'->R (TV.i 7).val h')
 (H:∀k:Nat,place root s.N=(k:Int)->∀h' r C,aZ h' g r c V {s with N:=eX s.N c.no k} C->r.kd=a.kd->r.bk=a.bk->Step (dm Fp) h (dm C) h'->R (TV.i 0).val h'):
 Cl 118 [.ptr (PT a.bk),.bytes 32 root] h R:=by
 obtain⟨A,B,D,I,L⟩:=p.tree;refine Ui p.bk I G λk t q u A' B' D' t4 v4 f4 lo=>?_;have J:Fp 2 a.bk:=by rw[p.f2]
 have f:∀k,k≠2->∀i,Fp k i->¬i=a.bk:=λk t i n e=>p.sep.off t i n (e▸J);have z:=f4.size;obtain⟨o,E⟩:∃o,o=Dx u A' B' D':=⟨_,rfl⟩;have v:=λi n=>lo i (E▸n);have K:zl q u (eX s.N c.no k) c.no o:=⟨A',B',D',t4,E⟩
 have st:Step (dm Fp) h (dm (nT Fp 0 o)) q:=⟨f4.mono λi e=>⟨2,by rw[p.f2];exact e⟩,λi⟨j,b⟩=>by
  by_cases e:j=0
  ·simp_all [bY]
  ·rw[aB e]at b;exact .inl ⟨j,b⟩⟩
 have P:aZ q g {a with tr:=u} c V {s with N:=eX s.N c.no k} (nT Fp 0 o):=by
  refine⟨⟨λx y i l m=>?_,λj i b=>?_⟩,by simp_all [bY],?_,v4,?_,?_,?_,?_,p.good,?_,?_,?_,?_,?_,?_,p.can⟩
  ·by_cases d:x=0<;>by_cases w:y=0
   ·omega
   ·rw[d]at l;rw[aB w]at m;have:=v i l;have:=p.sep.lt y i m;omega
   ·rw[w]at m;rw[aB d]at l;have:=v i m;have:=p.sep.lt x i l;omega
   ·rw[aB d]at l;rw[aB w]at m;exact p.sep.qx _ _ _ l m
  ·by_cases d:j=0
   ·rw[d]at b;exact K.lt i b
   ·rw[aB d]at b;have:=p.sep.lt j i b;omega
  ·exact p.gH.only f4 (f 1 δ)
  ·exact p.f2
  ·exact p.kids.only f4 (f 3 δ)
  ·exact p.wait.only f4 (f 4 δ)
  ·exact p.who.only f4 (f 5 δ)
  ·exact p.kz.only f4 (f 6 δ _ (by rw[p.f6]))
  ·exact p.f6
  ·exact qs p.var f4 (f 7 δ _ (by rw[p.f7]))
  ·exact p.f7
  ·exact TV.ck f4 p.vals λi n e=>p.off 2 i (by rw[p.f2];exact e) n
  ·intro j i b F;by_cases d:j=0
   ·rw[d]at b;have:=v i b;have:=p.SF i F;omega
   ·rw[aB d]at b;exact p.off j i b F
 exact H k t q _ _ P rfl rfl st
theorem Ln(p:aZ h g a c V s Fp){root:Bs 32}
 (q:∀h' f l,aZ h' g f c V (aX c s root).2 l->Step (dm Fp) h (dm l) h'->R (TV.i (aX c s root).1).val h'):
 Cl 42 [.ptr (PT g),.bytes 32 root] h R:=by
 apply nt;refine aa λG v1 d H=>?_;obtain⟨I,J,w⟩:=(p.ext d).var;refine⟨_,w.ah rfl,root,v1.bytes,Ux (p.ext d) (λy j m=>⟨_,rfl,amP ?_⟩) λk K j f z b L M A=>⟨_,rfl,amY ?_⟩⟩
 ·have e:aX c s root=(7,s):=by unfold aX;rw[if_pos y]
  rw[e]at q;exact q j a Fp (p.ext (d.trans m)) (.an (d.trans m))
 ·have e:aX c s root=(0,{s with N:=eX s.N c.no k,kids:=s.kids.filter λx=>!decide (x.slot<=(bT {s with N:=eX s.N c.no k}).slot)}):=by
   simp_all [if_neg,ane,aX]
  rw[e]at q;obtain⟨O,B,P,n,Q⟩:=b.tree;have C:=b.tok.Gf;obtain⟨u,o⟩:∃u,(eX s.N c.no k)[(0:Int).toNat]? =some u:=⟨_,amT C⟩;have D:bT {s with N:=eX s.N c.no k}=u:=by unfold bT;rw[ig (am2 0) o]
  rw[D]at q;obtain⟨S,T,r⟩:=b.var;obtain⟨U,E,W⟩:=b.kids;refine⟨_,r.ah rfl,_,r.ah rfl,_,b.bk.ah rfl,B,n.var.ah rfl,qL n.b.elems (am2 0) (CL o) (Pool.OZ E λt v F X=>⟨_,rfl,?_⟩)⟩;have st:Step (z 3) j (λi=>i=f.kd\/In v i) t:=by simp_all [xJ]
  exact q t f _ (b.tj ⟨v,F,rfl⟩ st) (.cut d (A.trans (Step.all st)))
end
end Gate
namespace Gate
open Board (Vd Cf Ms)
open Pool (It Fit)
def gh(s:St)(P:List (Int×Int)):St:={s with sc:=P}
section
variable{c:Cf}{V:List Vd}{s:St}{P:List (Int×Int)}
theorem Uz{no:Int}{r:Bs 32}{q:List (Bs 32)}{x:It}:aW no r (gh s P,q) x=(gh (aW no r (s,q) x).1 P,(aW no r (s,q) x).2):=by
 unfold aW;have e:(gh s P).N=s.N:=rfl;simp only[e];split
 ·rfl
 ·split
  ·rfl
  ·rfl
theorem Lo{no:Int}{r:Bs 32}:∀(L:List It)(s:St)(q:List (Bs 32)),L.foldl (aW no r) (gh s P,q)=(gh (L.foldl (aW no r) (s,q)).1 P,(L.foldl (aW no r) (s,q)).2)
 |[],_,_=>rfl
 |x::L,s,q=>by
  rw[anp,anp,Uz];obtain⟨p,A⟩:∃p,p=aW no r (s,q) x:=⟨_,rfl⟩;rw[<-A];exact Lo L p.1 p.2
theorem FK{no:Int}:∀(f:Nat)(q:List (Bs 32))(s:St),fZ no f q (gh s P)=gh (fZ no f q s) P
 |0,_,_=>rfl
 |_+1,[],_=>rfl
 |f+1,r::q,s=>by
  unfold fZ;have e:(gh s P).kids=s.kids:=rfl;rw[e,show({gh s P with kids:=s.kids.filter λx=>!decide (x.fr=r)}:St)=gh {s with kids:=s.kids.filter λx=>!decide (x.fr=r)} P from rfl,Lo];exact FK f _ _
theorem Si{peer:Int}{m:Ms}{row:List Bool}{text:LU}:c5 c (gh s P) peer m row text=((c5 c s peer m row text).1,gh (c5 c s peer m row text).2 P):=by
 unfold c5;have e:(gh s P).N=s.N:=rfl;have a:(gh s P).kids=s.kids:=rfl;rw[e,a];split
 ·rfl
 split
 ·rfl
 split
 ·rfl
 ·unfold lQ;rw[show({gh s P with N:=gw (gh s P).N c.no (Board.bw m row) m.target m.slot}:St)=gh {s with N:=gw s.N c.no (Board.bw m row) m.target m.slot} P from rfl,a,FK]
theorem Sj{m:Ms}{row:List Bool}:dw c V (gh s P) m row=dw c V s m row:=rfl
theorem HU{peer:Int}{text:LU}(q:am3 P peer=am3 s.sc peer):aG c V (gh s P) peer text=((aG c V s peer text).1,gh (aG c V s peer text).2 P):=by
 unfold aG;have e:(gh s P).sc=P:=rfl;rw[e,q];split
 ·rfl
 split
 ·rfl
 split
 ·rfl
 ·rw[Sj];split
  ·rfl
  split
  ·exact Si
  ·rfl
theorem UA:fC c V (gh s P)=((fC c V s).1,gh (fC c V s).2 (if 1073741824<=s.now then P else ans c.dec P)):=by
 unfold fC;have e:(gh s P).now=s.now:=rfl;rw[e];split
 ·rfl
 ·rfl
theorem Sk{root:Bs 32}:aX c (gh s P) root=((aX c s root).1,gh (aX c s root).2 P):=by
 unfold aX;have e:(gh s P).N=s.N:=rfl;rw[e];split
 ·rfl
 ·rfl
theorem lR{q:Sl}{peer:Int}{text:LU}:aG {c with vals:=q} V s peer text=aG c V s peer text:=rfl
theorem NA{q:Sl}:fC {c with vals:=q} V s=fC c V s:=rfl
theorem Eo{q:Sl}{root:Bs 32}:aX {c with vals:=q} s root=aX c s root:=rfl
theorem NB{k:Nat}(q:Kept c s k):Kept c s (k+1):=⟨q.now,q.AG,q.Cd,q.AH,q.Ek,by have:=q.left;omega,by have:=q.gone;omega⟩
theorem aa5{k:Nat}(f:SG s k):SG s (k+1):=by unfold SG at*;omega
theorem UB{k:Nat}{Q:List (Int×Int)}{n:Int}(f:SG s k):SG {s with sc:=Q,gone:=n} k:=f
theorem PD{k:Nat}{Q:List (Int×Int)}(q:Kept c s k):Kept c (gh s Q) k:=⟨q.now,q.AG,q.Cd,q.AH,q.Ek,q.left,q.gone⟩
theorem GW{k:Nat}(q:Kept c s k)(f:SG s k){peer:Int}{text:LU}(A:text.length<1000):SG (aG c V s peer text).2 (k+1):=by
 have a:∀m row,(c5 c s peer m row text).2.wait=s.wait/\(c5 c s peer m row text).2.tb=s.tb:=λm row=>by
  have:=(KX (c:=c) q (peer:=peer) A (m:=m) (row:=row)).2;exact⟨this.wait,this.tb⟩
 unfold SG at*;unfold aG;split
 ·dsimp only;omega
 split
 ·dsimp only;omega
 split
 ·dsimp only;omega
 split
 ·dsimp only;omega
 split
 ·rw[(a _ _).1,(a _ _).2];omega
 ·have:=VO (want:=zU) (most:=c.eH) (quota:=c.quo) (peer:=peer) (text:=text) (S:=s.wait);dsimp only;omega
theorem mZ{k:Nat}(q:Kept c s k){peer:Int}{text:LU}(A:text.length<1000){Q:List (Int×Int)}{n:Int}(B:0<=n/\n<=1):Kept c {(aG c V s peer text).2 with sc:=Q,gone:=s.gone+n} (k+1):=by
 obtain⟨a,_,_,_,_⟩:=zj (V:=V) q (peer:=peer) A;have:=q.gone;exact⟨a.now,a.AG,a.Cd,a.AH,a.Ek,a.left,by dsimp only;omega⟩
theorem NC{k:Nat}(q:Kept c s k):Kept c (fC c V s).2 (k+1):=by
 unfold fC;split
 ·exact NB q
 ·have:=anq (λx:It=>!decide (x.slot<s.now+1)) s.wait;have b:=q.AG;have d:=q.now;have e:=q.left;have f:=q.gone;exact⟨by dsimp only;omega,by dsimp only;omega,q.Cd,λx a=>q.AH x (anr.1 a).1,q.Ek,by dsimp only;omega,by dsimp only;omega⟩
theorem aa6{k:Nat}(q:V.length<=64)(f:SG s k):SG (fC c V s).2 (k+1):=by
 unfold SG at*;unfold fC;split
 ·dsimp only;omega
 ·have a:=vH (c:=c) q s.N (s.wait.filter λx=>decide (x.slot<s.now+1)) s.tb;have b:=zi s.wait λx=>decide (x.slot<s.now+1)
  have d:(dW (f_ c V s.N s.tb (s.wait.filter λx=>decide (x.slot<s.now+1))) (Vc.mx (s.now+1-Clock.fB c.win) 0)).first.length<=(f_ c V s.N s.tb (s.wait.filter λx=>decide (x.slot<s.now+1))).first.length:=by
   unfold dW;split
   ·exact ank _
   ·exact anq _ _
  dsimp only;omega
theorem Ya{k:Nat}(f:SG s k){root:Bs 32}:SG (aX c s root).2 k:=by
 unfold aX;split
 ·exact f
 ·exact f
end
end Gate
namespace Gate
open Board (Vd Cf Ms aq)
open Pool (It Fit eM Dw)
def vJ(F1 F2:Nat->Nat->Prop)(i:Nat):Prop:=dm F1 i\/dm F2 i
structure Co(h:af)(g m:Nat)(a:Ad)(b:RAd)(c:Cf)(q:Sl)(V:List Vd)(s t:St)(F1 F2:Nat->Nat->Prop):Prop where
 G:aR h g a {c with vals:=q} V s F1
 D:aZ h m b c V t F2
 qx:∀i,dm F1 i->¬dm F2 i
 d1:∀i,In c.vals i->¬dm F1 i
 d2:∀i,In q i->¬dm F2 i
section
variable{R:Rq}{h h':af}{g m:Nat}{a a':Ad}{b b':RAd}{c:Cf}{q:Sl}{V:List Vd}{s s' t t':St}{F1 F2 F1' F2':Nat->Nat->Prop}
theorem Co.lt1(p:Co h g m a b c q V s t F1 F2):∀i,dm F1 i->i<h.size:=λi⟨k,d⟩=>p.G.sep.lt k i d
theorem Co.lt2(p:Co h g m a b c q V s t F1 F2):∀i,dm F2 i->i<h.size:=λi⟨k,d⟩=>p.D.sep.lt k i d
theorem Co.lt(p:Co h g m a b c q V s t F1 F2):∀i,vJ F1 F2 i->i<h.size:=λi d=>d.elim (p.lt1 i) (p.lt2 i)
theorem Co.ext(p:Co h g m a b c q V s t F1 F2)(x:Ext h h'):Co h' g m a b c q V s t F1 F2:=⟨p.G.ext x,p.D.ext x,p.qx,p.d1,p.d2⟩
theorem Co.left(p:Co h g m a b c q V s t F1 F2)(G:aR h' g a' {c with vals:=q} V s' F1')(st:Step (dm F1) h (dm F1') h'):Co h' g m a' b c q V s' t F1' F2/\Step (vJ F1 F2) h (vJ F1' F2) h':=by
 refine⟨⟨G,p.D.only st.only (λk i d e=>p.qx i e ⟨k,d⟩) p.d1,λi d e=>?_,λi d e=>?_,p.d2⟩,⟨st.only.mono λi d=>.inl d,λi d=>?_⟩⟩
 ·rcases st.new i d with f|f
  ·exact p.qx i f e
  ·have:=p.lt2 i e;omega
 ·rcases st.new i e with f|f
  ·exact p.d1 i d f
  ·have:=p.D.SF i d;omega
 ·rcases d with d|d
  ·exact(st.new i d).imp .inl id
  ·exact .inl (.inr d)
theorem Co.right(p:Co h g m a b c q V s t F1 F2)(D:aZ h' m b' c V t' F2')(st:Step (dm F2) h (dm F2') h'):Co h' g m a b' c q V s t' F1 F2'/\Step (vJ F1 F2) h (vJ F1 F2') h':=by
 refine⟨⟨p.G.only st.only (λk i d e=>p.qx i ⟨k,d⟩ e) p.d2,D,λi d e=>?_,p.d1,λi d e=>?_⟩,⟨st.only.mono λi d=>.inr d,λi d=>?_⟩⟩
 ·rcases st.new i e with f|f
  ·exact p.qx i d f
  ·have:=p.lt1 i d;omega
 ·rcases st.new i e with f|f
  ·exact p.d2 i d f
  ·have:=p.G.SF i d;omega
 ·rcases d with d|d
  ·exact .inl (.inl d)
  ·exact(st.new i d).imp .inr id
structure Alike(h:af)(g m:Nat)(a:Ad)(b:RAd)(c:Cf)(q:Sl)(V:List Vd)(s:St)(P:List (Int×Int))(F1 F2:Nat->Nat->Prop)(k:Nat):Prop where
 p:Co h g m a b c q V s (gh s P) F1 F2
 perm:s.sc.Perm P
 kept:Kept c s k
 iz:SG s k
theorem Alike.ext{P:List (Int×Int)}{k:Nat}(p:Alike h g m a b c q V s P F1 F2 k)(x:Ext h h'):Alike h' g m a b c q V s P F1 F2 k:=⟨p.p.ext x,p.perm,p.kept,p.iz⟩
theorem Alike.good{P:List (Int×Int)}{k:Nat}(p:Alike h g m a b c q V s P F1 F2 k):Peers.Good s.sc:=Peers.Good.perm p.p.D.good.1 p.perm.symm
def zz(c:Cf)(V:List Vd)(s:St)(kind peer:Int)(text:LU)(root:Bs 32)(s':St):Prop:=
 if kind=2 then s'=(fC c V s).2 else if kind=3 then s'=(aX c s root).2
 else∃P n,s'={(aG c V s peer text).2 with sc:=P,gone:=s.gone+n}/\anl c.pe s.sc peer (iu (aG c V s peer text).1) P n
theorem GX{most k pts n:Int}{L L':List (Int×Int)}(f:anl most L k pts L' n):0<=n/\n<=1:=by
 rcases f with⟨_,_,rfl⟩|⟨_,_,rfl,_⟩|⟨_,_,_,rfl,_⟩<;>omega
theorem PE{P:List (Int×Int)}{k:Nat}(p:Alike h g m a b c q V s P F1 F2 k)(B:k<100000){peer:Int}(E:(am4 .i64 peer).wf=true){text:LU}(A:text.length<1000){R2:Int->Rq}
 (G:∀e P' n Q F1' F2',Alike e g m a b c q V {(aG c V s peer text).2 with sc:=P',gone:=s.gone+n} Q F1' F2' (k+1)->Step (vJ F1 F2) h (vJ F1' F2') e->
  anl c.pe s.sc peer (iu (aG c V s peer text).1) P' n->R2 (aG c V s peer text).1 (TV.i (aG c V s peer text).1).val e):
 Cl 20 [.ptr (PT g),.i peer,.str text] h λv f=>v=(TV.i (aG c V s peer text).1).val/\ag (vJ F1 F2) h f/\
  Cl 43 [.ptr (PT m),.i peer,.str text] f (R2 (aG c V s peer text).1):=by
 have d:=p.kept;have u:=(Peers.oL p.perm p.good.one peer).symm;have w:=HU (c:=c) (V:=V) (text:=text) u;have x:Kept {c with vals:=q} s k:=⟨d.now,d.AG,d.Cd,d.AH,d.Ek,d.left,d.gone⟩;refine k_ p.p.G x B E A λf P1 y F1' z C j=>?_;obtain⟨l,o⟩:=p.p.left z C;refine⟨rfl,o.only,?_⟩;refine Dz l.D (PD d) B E A λe D M F2' r F t=>?_;rw[w]at r t⊢;obtain⟨H,I⟩:=Peers.Ci p.perm p.good.one j t;subst I;obtain⟨J,K⟩:=l.right r F;have L:=GX j;exact G e P1 y D F1' F2' ⟨J,H,mZ d A L,UB (GW d p.iz A)⟩ (o.trans K) j
theorem Yb{P:List (Int×Int)}{k:Nat}(p:Alike h g m a b c q V s P F1 F2 k)(A:k<700){R2:Bool->Rq}
 (B:∀e Q F1' F2',Alike e g m a b c q V (fC c V s).2 Q F1' F2' (k+1)->Step (vJ F1 F2) h (vJ F1' F2') e->R2 (fC c V s).1 (amW (fC c V s).1).val e):
 Cl 39 [.ptr (PT g)] h λv f=>v=(amW (fC c V s).1).val/\ag (vJ F1 F2) h f/\
  Cl 40 [.ptr (PT m)] f (R2 (fC c V s).1):=by
 have d:=p.kept;have n:=UA (c:=c) (V:=V) (s:=s) (P:=P);have o:Kept {c with vals:=q} s k:=⟨d.now,d.AG,d.Cd,d.AH,d.Ek,d.left,d.gone⟩;have r:=p.p.G.can.len.2;refine K5 p.p.G o λf F1' t u=>?_;obtain⟨i,j⟩:=p.p.left t u;refine⟨rfl,j.only,Ea i.D (PD d) p.iz A λe F2' l w=>?_⟩;rw[n]at l⊢;obtain⟨x,y⟩:=i.right l w;refine B e _ F1' F2' ⟨x,?_,NC d,aa6 r p.iz⟩ (j.trans y);unfold fC;split
 ·exact p.perm
 ·exact Peers.Xt p.perm
theorem UC{P:List (Int×Int)}{k:Nat}(p:Alike h g m a b c q V s P F1 F2 k){root:Bs 32}{R2:Int->Rq}
 (A:∀d a' b' F1' F2',Alike d g m a' b' c q V (aX c s root).2 P F1' F2' k->Step (vJ F1 F2) h (vJ F1' F2') d->R2 (aX c s root).1 (TV.i (aX c s root).1).val d):
 Cl 41 [.ptr (PT g),.bytes 32 root] h λv e=>v=(TV.i (aX c s root).1).val/\ag (vJ F1 F2) h e/\
  Cl 42 [.ptr (PT m),.bytes 32 root] e (R2 (aX c s root).1):=by
 have l:=p.kept;have n:=Sk (c:=c) (s:=s) (P:=P) (root:=root);refine vF p.p.G λe a' F1' o r=>?_;obtain⟨f,i⟩:=p.p.left o r;refine⟨rfl,i.only,Ln f.D λd b' F2' j t=>?_⟩;rw[n]at j⊢;obtain⟨u,w⟩:=f.right j t;have x:(aX c s root).2.sc=s.sc:=by grind [aX]
 exact A d a' b' F1' F2' ⟨u,by rw[x];exact p.perm,Uw l,Ya p.iz⟩ (i.trans w)
theorem Lp{P:List (Int×Int)}{k:Nat}(p:Alike h g m a b c q V s P F1 F2 k):Alike h g m a b c q V s P F1 F2 (k+1):=⟨p.p,p.perm,NB p.kept,aa5 p.iz⟩
structure Act where
 kind:Int
 peer:Int
 text:LU
 qy:Ms
 which:Int
 sign:Bool
def Act.tv(x:Act):TV:=.agg [.i x.kind,.i x.peer,.str x.text,x.qy.tv,.i x.which,.bool x.sign]
theorem acN{P:List (Int×Int)}{k:Nat}(p:Alike h g m a b c q V s P F1 F2 k)(M:k<700){x:Act}(O:(am4 .i64 x.peer).wf=true){text:LU}(U:text.length<1000){root:Bs 32}
 (A:∀d a' b' s' Q F1' F2',Alike d g m a' b' c q V s' Q F1' F2' (k+1)->Step (vJ F1 F2) h (vJ F1' F2') d->zz c V s x.kind x.peer text root s'->R (amW true).val d):
 Cl 29 [.ptr (PT g),.ptr (PT m),x.tv,.str text,.bytes 32 root] h R:=by
 apply Cn (PT g) (PT m) x.kind x.peer x.text x.qy.kind x.qy.slot x.qy.target x.qy.ax x.qy.body x.qy.bits x.qy.tag x.which x.sign text root;refine aa λy v1 L N=>aa λC D E T=>?_;have v1:=v1;have w:=L.trans E;have z:=p.ext w;have F:=v1.ext E;have G:∀i,h.size<=i->¬vJ F1 F2 i:=λi H l=>by have:=p.p.lt i l;omega
 refine⟨x.kind,F.at.1,ID (λB=>?_) λB=>If.dec.2 ⟨λI=>?_,λI=>?_⟩⟩
 ·refine(Yb (R2:=λb v j=>∃(J:Bool),v=amN (amW J)/\R (amN (amW (b==J))) j) z M λd Q F1' F2' o r=>⟨_,rfl,?_⟩).mono λv j⟨e,_,t⟩=>⟨_,e,t⟩;rw[show((fC c V s).1==(fC c V s).1)=true by simp];exact A d a b _ Q F1' F2' o (.cut w r) (by unfold zz;rw[if_pos B])
 ·refine⟨Vc.keeps (·=y.size) C,jT,root,(D.keeps (S:=(·=y.size)) rfl).bytes,root,(D.keeps (S:=(·=y.size)) rfl).bytes,?_⟩;refine(UC (R2:=λn v j=>∃(u:Int),v=amN (TV.i u)/\R (amN (amW (decide (n=u)))) j) z λd a' b' F1' F2' o r=>⟨_,rfl,?_⟩).mono λv j⟨e,f,t⟩=>⟨_,e,vV f (λi H l=>G i ω l),t⟩;rw[decide_eq_true rfl];exact A d a' b' _ P F1' F2' (Lp o) (.cut w r) (by unfold zz;rw[if_neg B,if_pos I])
 ·have K:=F.keeps (S:=(·=h.size)) rfl;refine⟨Vc.keeps (·=h.size) C,jT,x.peer,K.at.2.1,x.peer,K.at.2.1,?_⟩;refine(PE (R2:=λn v j=>∃(u:Int),v=amN (TV.i u)/\R (amN (amW (decide (n=u)))) j) z ω O U λd P' n Q F1' F2' o r W=>⟨_,rfl,?_⟩).mono λv j⟨e,f,t⟩=>⟨_,e,vV f (λi H l=>G i ω l),t⟩;rw[decide_eq_true rfl];exact A d a b _ Q F1' F2' o (.cut w r) (by unfold zz;grind)
def xP(n:Nat)(A:Int):Nat:=(am5 (amM .u64 A) (n:Int)).toNat
theorem aa7{n:Nat}(B:0<n)(A:Int):xP n A<n/\0<=am5 (amM .u64 A) (n:Int):=by
 have a:=Board.gC A;have b:am5 (amM .u64 A) n<n:=Int.tmod_lt_of_pos _ ω;have c:0<=am5 (amM .u64 A) n:=Int.tmod_nonneg _ a.1;simp_all [xP]
theorem VY{l:Sl}{L:List (Bs 32)}{B:af}(e:aj 32 B l (Pool.rts L))(E:L≠[])(H:L.length<100000){A:Int}{K:Bs 32->Prop}(G:K (L.getD (xP L.length A) (amU 32))):
 amM .u64 (l.len:Int)≠0/\0<=amM .i64 (am5 (amM .u64 A) (amM .u64 (l.len:Int)))/\amM .i64 (am5 (amM .u64 A) (amM .u64 (l.len:Int)))<(l.len:Int)/\
  Nn l.a λp=>∃b:Bs 32,av B p.b (p.o+(amM .i64 (am5 (amM .u64 A) (amM .u64 (l.len:Int)))).toNat*32) 32 b/\K b:=by
 have el:=e.len;rw[pE]at el;have a:=List.length_pos_iff.2 E;have c:amM .u64 l.len=L.length:=by grind [Board.bW]
 obtain⟨j,d⟩:=aa7 a A;rw[c];have k:am5 (amM .u64 A) L.length<L.length:=by simp_all [xP]
 rw[wrap_i64 ω ω]
 have f:L[(am5 (amM .u64 A) L.length).toNat]? =some (L.getD (xP L.length A) (amU 32)):=by
  have m:(am5 (amM .u64 A) L.length).toNat=xP L.length A:=rfl;simp_all
 obtain⟨g,h,i⟩:=lM e d f G;exact⟨ω,g,h,i⟩
theorem Gv{l:Sl}{L:List (Bs 32)}(e:aj 32 h l (Pool.rts L))(B:L≠[])(E:L.length<100000){A:Int}(G:∀h',Ext h h'->R (anh 32 (L.getD (xP L.length A) (amU 32))).val h'):
 Cl 30 [.slice l,.i A] h R:=by
 apply zx;refine aa λf v1 a g=>VY (e.ext a) B E ?_;refine aq v1 eM.symm (eM.trans eM.symm) λb c f2 j=>⟨_,c.bytes,G b (amK a f2 λi d=>amR (amS d))⟩
end
end Gate
namespace Board
section
variable{R:Rq}{h:af}
theorem rS{c:Cf}{m:Ms}{row:List Bool}{L:List Vd}(f:Gw c)(E:aj 2 h c.vals (jx L))(G:∀v∈L,v.key.length<=64)(e:aj 1 h m.bits (aY row))(H:row.length<500)(I:j9 m)
 (A:∀y,Ext h y->R (amX [(mX c.vals.len c.aQ L m row).1.tv,.bool (mX c.vals.len c.aQ L m row).2]).val y):Cl 88 [c.tv,m.tv] h R:=by
 apply zA c.vals c.ep c.aQ c.no c.eV c.eH c.quo c.pe c.iy c.win c.bH c.dec m.kind m.slot m.target m.ax m.body m.bits m.tag;delta dK eY rD LN;refine aa λk v1 z S=>aa λl d n T=>aa λo p g U=>?_;have v1:Var 24 o h.size c.tv:=(Var.ext (t:=c.tv) v1 n).ext g;have d:Var 58 o k.size m.tv:=Var.ext (t:=m.tv) d g;have p:Var 58 o l.size bh.tv:=p;have q:=(z.trans n).trans g;refine td v1 (bB d (HS f (E.ext q) G (e.ext q) H I λD j=>⟨_,_,rfl,?_⟩));have V:=z.size;have W:=n.size;have X:=g.size;have Y:=j.size;refine aa λZ F J s5=>aq F (t:=.bytes 16 (mB c.vals.len c.aQ L m row).1) rfl rfl λr v6 f6 s6=>?_;have s:Ext D r:=amK J f6 λi u=>ω;have B:=(q.trans j).trans s;have K:Var 58 r k.size m.tv:=(d.ext j).ext s;have C:Var 58 r l.size bh.tv:=(p.ext j).ext s;refine anu (λw=>?_) λw=>⟨_,v6.bytes,?_⟩
 ·have x:mX c.vals.len c.aQ L m row=(bh,false):=by
   unfold mX;rw[if_neg (by simpa using w)]
  refine aq C (t:=bh.tv) cv fR λa b f7 M=>bB b ?_;have:=A a (amK B f7 λi u=>ω);rw[x]at this;exact this
 ·have x:mX c.vals.len c.aQ L m row=({m with tag:=(mB c.vals.len c.aQ L m row).1},true):=by
   unfold mX;rw[if_pos (by simpa using w)]
  refine aI (i:=6) (t:=.bytes 16 (mB c.vals.len c.aQ L m row).1) (t0:=.bytes 16 m.tag) K rfl rfl rfl rfl λa b f7 M=>?_;have b:Var 58 a k.size ({m with tag:=(mB c.vals.len c.aQ L m row).1}:Ms).tv:=b;have N:Ext h a:=amK B f7 λi u=>ω;refine bB b ?_;have O:Var 58 a l.size bh.tv:=C.only f7 ω;refine aq O (t:=({m with tag:=(mB c.vals.len c.aQ L m row).1}:Ms).tv) cv fR λP Q f8 s8=>bB Q ?_;have:=A P (amK N f8 λi u=>ω);rw[x]at this;exact this
end
end Board
namespace Gate
open Board (Vd Cf Ms mX dU bw oD)
noncomputable def IA(c:Cf)(V:List Vd)(q:List (Bs 32))(x:Act)(row:List Bool):Ms:=
 if x.kind=1/\x.sign=true/\(mX V.length c.aQ V {x.qy with target:=q.getD (xP q.length x.which) (amU 32)} row).2=true
 then(mX V.length c.aQ V {x.qy with target:=q.getD (xP q.length x.which) (amU 32)} row).1
 else{x.qy with target:=q.getD (xP q.length x.which) (amU 32)}
noncomputable def eD(c:Cf)(V:List Vd)(p:List (Bs 32)×List (LU))(x:Act×List Bool):List (Bs 32)×List (LU):=
 if x.1.kind=1/\dU (IA c V p.1 x.1 x.2) x.2=true then
  (if(IA c V p.1 x.1 x.2).kind=1 then p.1++[bw (IA c V p.1 x.1 x.2) x.2]else p.1,p.2++[Board.yO (IA c V p.1 x.1 x.2) x.2])
 else(p.1,p.2++[x.1.text])
noncomputable def iE(c:Cf)(V:List Vd)(q:List (Act×List Bool)):List (Bs 32)×List (LU):=q.foldl (eD c V) ([wP c V],[])
def ND(x:Act×List Bool):Prop:=x.1.text.length<=400/\x.2.length<=40/\(am4 .i64 x.1.peer).wf=true/\Board.j9 x.1.qy
theorem PF{c:Cf}{V:List Vd}{p:List (Bs 32)×List (LU)}{x:Act×List Bool}:(eD c V p x).2.length=p.2.length+1/\p.1.length<=(eD c V p x).1.length/\(eD c V p x).1.length<=p.1.length+1:=by
 unfold eD;split
 ·dsimp only;refine⟨by simp,?_⟩;split
  ·simp
  ·omega
 ·simp
theorem Mb{c:Cf}{V:List Vd}{p:List (Bs 32)×List (LU)}{x:Act×List Bool}(ok:ND x)(q:∀t∈p.2,t.length<1000):∀t∈(eD c V p x).2,t.length<1000:=by
 intro t a;unfold eD at a;split at a
 ·rcases List.mem_append.1 a with h|h
  ·exact q t h
  ·rw[anv.1 h];have b:=oD (IA c V p.1 x.1 x.2) x.2;have d:=ok.2.1;omega
 ·rcases List.mem_append.1 a with h|h
  ·exact q t h
  ·rw[anv.1 h];have:=ok.1;omega
end Gate
namespace Gate
open Board (Vd Cf Ms Gw mX dU bw oD aY bh bB fR cv jx aq lY J_)
open Pool (eM Dw rts)
structure vK(h:af)(A:Sl)(xs:List (Act×List Bool)):Prop where
 el:aj 58 h A (xs.map λx=>x.1.tv)
 bits:∀x∈xs,aj 1 h x.1.qy.bits (aY x.2)
abbrev strs(l:List (LU)):List TV:=l.map am6
def sj:TV:=.agg [.i 0,.i 0,.str [],bh.tv,.i 0,.bool false]
theorem FL(x:Act):x.tv.size=sj.size:=by rfl
theorem CW:58=sj.size:=by rfl
section
variable{R:Rq}{h h':af}{c:Cf}{V:List Vd}{A:Sl}{xs:List (Act×List Bool)}
theorem vK.ext(p:vK h A xs)(x:Ext h h'):vK h' A xs:=⟨p.el.ext x,λy a=>(p.bits y a).ext x⟩
theorem vK.len(p:vK h A xs):xs.length=A.len:=by have:=p.el.len;simp_all
theorem UD(p:vK h A xs){i:Int}(W:0<=i){x:Act×List Bool}(q:xs[i.toNat]? =some x)
 {K:Int->Int->LU->Int->Int->Bs 32->Int->Int->Sl->Bs 16->Int->Bool->Prop}(Z:K x.1.kind x.1.peer x.1.text x.1.qy.kind x.1.qy.slot x.1.qy.target x.1.qy.ax x.1.qy.body x.1.qy.bits x.1.qy.tag x.1.which x.1.sign):
 0<=i/\i<(A.len:Int)/\Nn A.a λl=>∃(n:Int),∃(B:Int),∃(s:LU),∃(E:Int),∃(G:Int),∃(b:Bs 32),∃(H:Int),∃(I:Int),∃(J:Sl),∃(M:Bs 16),∃(O:Int),∃(U:Bool),
  (ah h l.b (l.o+i.toNat*58) (.i n)/\ah h l.b (l.o+i.toNat*58+1) (.i B)/\ah h l.b (l.o+i.toNat*58+1+1) (.string (am8 s.toArray))/\
   (ah h l.b (l.o+i.toNat*58+1+1+1) (.i E)/\ah h l.b (l.o+i.toNat*58+1+1+1+1) (.i G)/\av h l.b (l.o+i.toNat*58+1+1+1+1+1) 32 b/\ah h l.b (l.o+i.toNat*58+1+1+1+1+1+32) (.i H)/\
    ah h l.b (l.o+i.toNat*58+1+1+1+1+1+32+1) (.int .u64 I)/\ah h l.b (l.o+i.toNat*58+1+1+1+1+1+32+1+1) (bu J)/\av h l.b (l.o+i.toNat*58+1+1+1+1+1+32+1+1+1) 16 M)/\
   ah h l.b (l.o+i.toNat*58+1+1+1+53) (.i O)/\ah h l.b (l.o+i.toNat*58+1+1+1+53+1) (.bool U))/\K n B s E G b H I J M O U:=by
 have d:=p.len;have:=(List.getElem?_eq_some_iff.1 q).1;refine p.el.read W ω λl t _ a c=>?_;rw[am1,q]at a;obtain rfl:=Option.some.inj a;exact⟨_,_,_,_,_,_,_,_,_,_,_,_,c,Z⟩
theorem acO{x:Act}{b:Nat}(v:Var 60 h b x.tv){K:Int->Int->LU->Int->Int->Bs 32->Int->Int->Sl->Bs 16->Int->Bool->Prop}(U:K x.kind x.peer x.text x.qy.kind x.qy.slot x.qy.target x.qy.ax x.qy.body x.qy.bits x.qy.tag x.which x.sign):
 ∃(n:Int),∃(q:Int),∃(s:LU),∃(B:Int),∃(E:Int),∃(t:Bs 32),∃(G:Int),∃(H:Int),∃(I:Sl),∃(J:Bs 16),∃(M:Int),∃(O:Bool),
  (ah h b 0 (.i n)/\ah h b 1 (.i q)/\ah h b 2 (.string (am8 s.toArray))/\
   (ah h b 3 (.i B)/\ah h b 4 (.i E)/\av h b 5 32 t/\ah h b 37 (.i G)/\ah h b 38 (.int .u64 H)/\ah h b 39 (bu I)/\av h b 40 16 J)/\
   ah h b 56 (.i M)/\ah h b 57 (.bool O))/\K n q s B E t G H I J M O:=
 ⟨_,_,_,_,_,_,_,_,_,_,_,_,v.at,U⟩
theorem CX{b:Nat}(v:Var 42 h b (.agg [c.tv,.slice A])){K:Sl->Int->Int->Int->Int->Int->Int->Int->Int->Int->Int->Int->Prop}(W:K c.vals c.ep c.aQ c.no c.eV c.eH c.quo c.pe c.iy c.win c.bH c.dec):
 ∃(s:Sl),∃(n:Int),∃(q:Int),∃(B:Int),∃(E:Int),∃(G:Int),∃(H:Int),∃(I:Int),∃(J:Int),∃(M:Int),∃(O:Int),∃(U:Int),(ah h b 0 (bu s)/\ah h b 1 (.i n)/\ah h b 2 (.i q)/\ah h b 3 (.i B)/\ah h b 4 (.i E)/\ah h b 5 (.i G)/\ah h b 6 (.i H)/\ah h b 7 (.i I)/\ah h b 8 (.i J)/\ah h b 9 (.i M)/\ah h b 10 (.i O)/\ah h b 11 (.i U))/\K s n q B E G H I J M O U:=
 ⟨c.vals,c.ep,c.aQ,c.no,c.eV,c.eH,c.quo,c.pe,c.iy,c.win,c.bH,c.dec,v.at.1,W⟩
theorem CY{b:Nat}(v:Var 42 h b (.agg [c.tv,.slice A])){K:Sl->Int->Int->Int->Int->Int->Int->Int->Int->Int->Int->Int->Sl->Prop}(Z:K c.vals c.ep c.aQ c.no c.eV c.eH c.quo c.pe c.iy c.win c.bH c.dec A):
 ∃(s:Sl),∃(n:Int),∃(q:Int),∃(B:Int),∃(E:Int),∃(G:Int),∃(H:Int),∃(I:Int),∃(J:Int),∃(M:Int),∃(O:Int),∃(U:Int),∃(W:Sl),((ah h b 0 (bu s)/\ah h b 1 (.i n)/\ah h b 2 (.i q)/\ah h b 3 (.i B)/\ah h b 4 (.i E)/\ah h b 5 (.i G)/\ah h b 6 (.i H)/\ah h b 7 (.i I)/\ah h b 8 (.i J)/\ah h b 9 (.i M)/\ah h b 10 (.i O)/\ah h b 11 (.i U))/\ah h b 12 (bu W))/\K s n q B E G H I J M O U W:=
 ⟨c.vals,c.ep,c.aQ,c.no,c.eV,c.eH,c.quo,c.pe,c.iy,c.win,c.bH,c.dec,A,v.at,Z⟩
theorem ag7{s:Sl}{L:List (LU)}{x:LU}{K:Sl->af->Prop}(o:Vc.Own 9 1 h s (strs L))(q:L.length<100000)(B:∀a h',Vc.Own 9 1 h' a (strs (L++[x]))->ag (In s) h h'->(∀i,In a i->In s i\/h.size<=i)->K a h'):
 ∃new,cn (h.push (row (amO [am6 x]) 9)) (amV (some (Vc.Loc.mk h.size 0)) 1 1) 1 new/\(∀v∈new,bU v=true)/\au ctx 9 s 1 new (h.push (row (amO [am6 x]) 9)) K:=by
 have c:=o.len;rw[am0]at c;refine cD Board.adz Board.ZT (by simp[Board.OI]) (by grind [Board.OI]) o rfl rfl λa h' g d e=>B a h' (by simp_all) d λi⟨l,q,j⟩=>?_;rcases e l q with⟨f,b,k⟩|b
 ·exact .inl ⟨f,b,ω⟩
 omega
theorem UE{i:Nat}{x:Act×List Bool}(q:xs[i]? =some x):iE c V (xs.take (i+1))=eD c V (iE c V (xs.take i)) x:=by
 simp_all [ani,List.foldl_append,iE]
theorem NF:∀(L:List (Act×List Bool))(p:List (Bs 32)×List (LU)),(L.foldl (eD c V) p).2.length=p.2.length+L.length/\p.1.length<=(L.foldl (eD c V) p).1.length/\(L.foldl (eD c V) p).1.length<=p.1.length+L.length
 |[],p=>by simp
 |x::L,p=>by
  obtain⟨q,B,E⟩:=PF (c:=c) (V:=V) (p:=p) (x:=x);obtain⟨a,b,d⟩:=NF L (eD c V p x)
  grind
theorem Ep(L:List (Act×List Bool)):(iE c V L).2.length=L.length/\1<=(iE c V L).1.length/\(iE c V L).1.length<=1+L.length:=by
 have:=NF (c:=c) (V:=V) L ([wP c V],[]);simp only[anw,Nat.zero_add]at this;exact this
theorem NG:∀(L:List (Act×List Bool))(p:List (Bs 32)×List (LU)),(∀x∈L,ND x)->(∀t∈p.2,t.length<1000)->∀t∈(L.foldl (eD c V) p).2,t.length<1000
 |[],_,_,q=>q
 |x::L,p,ok,q=>NG L (eD c V p x) (λy B=>ok y (List.mem_cons_of_mem _ B)) (Mb (ok x (List.mem_cons_self ..)) q)
theorem UF(ok:∀x∈xs,ND x):∀t∈(iE c V xs).2,t.length<1000:=NG xs _ ok λ_ h=>by cases h
theorem aa8{q:List (Bs 32)}{x:Act}{row:List Bool}:(IA c V q x row).bits=x.qy.bits:=by
 unfold IA;split
 ·rename_i a;have:=a.2.2;unfold mX at this⊢
  grind
 ·rfl
theorem aa9{q:List (Bs 32)}{x:Act}{row:List Bool}:(IA c V q x row).body=x.qy.body:=by
 unfold IA;split
 ·rename_i a;have:=a.2.2;unfold mX at this⊢
  grind
 ·rfl
structure aba(h hh:af)(c:Cf)(V:List Vd)(A:Sl)(xs:List (Act×List Bool))(σ:Sl×Sl×Int):Prop where
 i0:0<=σ.2.2
 i1:σ.2.2<=xs.length
 on:Vc.Own 52 32 hh σ.1 (rts (iE c V (xs.take σ.2.2.toNat)).1)
 ot:Vc.Own 9 1 hh σ.2.1 (strs (iE c V (xs.take σ.2.2.toNat)).2)
 x:Ext h hh
 v:Var 42 hh h.size (.agg [c.tv,.slice A])
 fn:∀i,In σ.1 i->h.size<i
 ft:∀i,In σ.2.1 i->h.size<i
 qx:∀i,In σ.1 i->¬In σ.2.1 i
theorem UG(ev:aj 2 h c.vals (jx V))(k:Can c V)(p:vK h A xs)(ok:∀x∈xs,ND x)(bt:xs.length<=200)
 (hr:∀h' T Q,Vc.Own 9 1 h' T (strs (iE c V xs).2)->Vc.Own 52 32 h' Q (rts (iE c V xs).1)->Ext h h'->(∀i,In T i->h.size<=i)->(∀i,In Q i->h.size<=i)->R (amX [.slice T,.slice Q]).val h'):
 Cl 28 [.agg [c.tv,.slice A]] h R:=by
 apply qX c.vals c.ep c.aQ c.no c.eV c.eH c.quo c.pe c.iy c.win c.bH c.dec A;delta Ve jY wu eY C2 dD d_ aN bJ bK fD;have el:=by have:=ev.len;rwa [am0]at this
 have bx:=k.len;have keys:=wS k;have bb:=FH k el;have al:=p.len;refine aa λF v1 x1 s1=>?_;have v1:=v1;refine CX v1 (cW (ev.ext x1) ω (λv hv=>(keys v hv).2) λu x2=>⟨_,rfl,?_⟩);have z1:=x1.size;have z2:=x2.size;have bc:=x1.trans x2;have a0:=am9 u (row (amO [anh 32 (wP c V)]) 52);have oq:=Vc.Own.new (T:=52) (sz:=32) u (rts [wP c V]) λt ht=>by simp_all [rts,eM]
 have bd:=bc.trans a0;have v3:=(v1.ext x2).ext a0;refine⟨A,v3.at.2,?_⟩;refine⟨λσ b=>aba h b c V A xs σ,λσ _=>(xs.length-σ.2.2).toNat,⟨am2 0,by simp_all,oq,Vc.Own.nil _ _ _,bd,v3,λi⟨l,hl,a⟩=>?_,λi⟨l,hl,a⟩=>(by cases hl),λi _⟨l,hl,a⟩=>(by cases hl)⟩,?_⟩
 ·grind
 rintro⟨N,T,i⟩ b ⟨i0,i1,G,M,H,vh,fn,X,ac⟩;dsimp only at i0 i1 G M fn X ac⊢;refine ID (λa=>?_) λa=>?_;rotate_left
 ·have e:i.toNat=xs.length:=ω;rw[e,anj]at G M;exact hr b T N M G H (λi a=>anx (X i a)) λi a=>anx (fn i a)
 have bi:i.toNat<xs.length:=ω;obtain⟨x,hx⟩:∃x,xs[i.toNat]? =some x:=⟨_,amT bi⟩;have am:=anc hx;obtain⟨t1,t2,t3,t4⟩:=ok x am;obtain⟨l1,l2,l3⟩:=Ep (xs.take i.toNat);have l4:(xs.take i.toNat).length<=xs.length:=by simp_all
 have ao:=UE (c:=c) (V:=V) hx;obtain⟨P,hP⟩:∃P,P=iE c V (xs.take i.toNat):=⟨_,rfl⟩;rw[<-hP]at G M l1 l2 l3 ao;have e1:(i+1).toNat=i.toNat+1:=ω;refine UD (p.ext H) i0 hx (aa λO v4 x4 s4=>aq (t0:=sj) v4 (t:=x.1.tv) CW (FL _) λY v5 f5 s5=>?_);have a1:Ext b Y:=amK x4 f5 λi a=>amR (amS a);refine⟨x.1.text,v5.at.2.2.1,x.1.qy.kind,x.1.qy.slot,x.1.qy.target,x.1.qy.ax,x.1.qy.body,x.1.qy.bits,x.1.qy.tag,v5.at.2.2.2.1,aa λh6 v6 x6 s6=>aq (t0:=bh.tv) v6 (t:=x.1.qy.tv) cv fR λh7 v7 f7 s7=>?_⟩;have ap:Ext Y h7:=amK x6 f7 λi a=>amR (amS a);have a2:=a1.trans ap;have a3:=v5.ext ap;have b0:=a1.size;have b1:=ap.size;refine⟨x.1.which,a3.at.2.2.2.2.1,VY (L:=P.1) (G.elems.ext a2) (λZ=>by rw[Z]at l2;simp at l2) ω ?_⟩;obtain⟨w,ar⟩:∃w,w=P.1.getD (xP P.1.length x.1.which) (amU 32):=⟨_,rfl⟩;rw[<-ar];refine aI (i:=2) (t:=.bytes 32 w) (t0:=.bytes 32 x.1.qy.target) v7 rfl rfl rfl rfl λz B f8 s8=>?_;have B:Var 58 z Y.size ({x.1.qy with target:=w}:Ms).tv:=B;have C:Ext b z:=amK a2 f8 λi a=>ω;have S:Var 60 z b.size x.1.tv:=a3.only f8 ω;obtain⟨q,I⟩:∃q,q=IA c V P.1 x.1 x.2:=⟨_,rfl⟩;have mb:q.bits=x.1.qy.bits:=by rw[I,aa8]
 have mo:Board.j9 q:=by unfold Board.j9;rw[I,aa9];exact t4
 intro J HJ
 have a4:∀g,Var 58 g Y.size q.tv->Var 60 g b.size x.1.tv->Ext b g->J PUnit.unit g:=by
  intro g vm va D;refine HJ _ g ?_;have em:∀f,Ext g f->aj 1 f q.bits (aY x.2):=λf x'=>by rw[mb];exact(p.bits x am).ext ((H.trans D).trans x')
  have a5:∀f,Ext g f->Vc.Own 52 32 f N (rts P.1):=λf x'=>G.ext (D.trans x');have bj:∀f,Ext g f->Vc.Own 9 1 f T (strs P.2):=λf x'=>M.ext (D.trans x');have zg:=D.size;have bk:∀i,In N i->i<b.size:=λi a=>G.g_ i a;have a6:∀i,In T i->i<b.size:=λi a=>M.g_ i a
  have a7:∀(d:af)(N1:Sl)(Q:List (Bs 32))(s:LU),Ext g d->∀(y:af),Vc.Own 52 32 y N1 (rts Q)->ag (In N) d y->(∀i,In N1 i->In N i\/d.size<=i)->(Q,P.2++[s])=eD c V P x->
   ∃new,cn (y.push (row (amO [am6 s]) 9)) (amV (some (Vc.Loc.mk y.size 0)) 1 1) 1 new/\(∀v∈new,bU v=true)/\au ctx 9 T 1 new (y.push (row (amO [am6 s]) 9)) λU h'=>
    aba h h' c V A xs (N1,U,amM .i64 (i+1))/\((xs.length:Int)-(amM .i64 (i+1))).toNat<((xs.length:Int)-i).toNat:=by
   intro d N1 Q s j y oN f2 n2 ad;have z1:=j.size;have z2:=f2.size;have oT:Vc.Own 9 1 y T (strs P.2):=(bj d j).keep f2 λi F u=>ac i u F;refine ag7 oT ω λU h' o' f' n'=>⟨⟨?_,?_,?_,?_,?_,?_,?_,?_,?_⟩,?_⟩
   all_goals try rw[wrap_i64 (n:=i+1) ω ω]
   all_goals try dsimp only
   ·omega
   ·omega
   ·rw[e1,ao,<-ad];refine oN.keep f' λi F u=>?_;rcases n2 i F with r|r
    ·exact ac i r u
    ·have:=a6 i u;omega
   ·rw[e1,ao,<-ad];exact o'
   ·exact amK (amK (H.trans (D.trans j)) f2 λi a=>anx (fn i a)) f' λi a=>anx (X i a)
   ·exact(((vh.ext (D.trans j)).only f2 λa=>by have:=fn _ a;omega).only f' λa=>by have:=X _ a;omega)
   ·intro i a;rcases n2 i a with r|r
    ·exact fn i r
    ·have:=H.size;have:=v3.lt;have:=vh.lt;omega
   ·intro i a;rcases n' i a with r|r
    ·exact X i r
    ·have:=vh.lt;omega
   ·intro i F u;rcases n2 i F with r|r
    ·rcases n' i u with O|O
     ·exact ac i r O
     ·have:=bk i r;omega
    ·rcases n' i u with O|O
     ·have:=a6 i O;omega
     ·have:=oN.g_ i F;omega
   ·omega
  have a8:∀(d:af)(s:LU),Ext g d->(P.1,P.2++[s])=eD c V P x->
   ∃new,cn (d.push (row (amO [am6 s]) 9)) (amV (some (Vc.Loc.mk d.size 0)) 1 1) 1 new/\(∀v∈new,bU v=true)/\au ctx 9 T 1 new (d.push (row (amO [am6 s]) 9)) λU h'=>
    aba h h' c V A xs (N,U,amM .i64 (i+1))/\((xs.length:Int)-(amM .i64 (i+1))).toNat<((xs.length:Int)-i).toNat:=
   λd s j ad=>a7 d N P.1 s j d (a5 d j) (ag.refl _ _) (λi a=>.inl a) ad
  intro J2 ab;have no:∀f,Ext g f->¬(x.1.kind=1/\dU q x.2=true)->J2 false f:=λf x' Z=>ab false f (amP (a8 f _ x' (by unfold eD;rw[<-I,if_neg Z])));refine⟨x.1.kind,va.at.1,ID (λE=>bB vm (Board.yJ (row:=x.2) (em g (anb _)) ω λd j=>⟨_,rfl,?_⟩)) λE=>no g (anb _) λb=>E b.1⟩;by_cases K:dU q x.2=true
  ·rw[K];refine ab true d (amY ?_);have aw:=vm.ext j;refine bB aw (Board.jE (row:=x.2) (em d j) ω (lY K) mo λy ae=>⟨_,rfl,q.kind,(aw.ext ae).at.1,ID (λk2=>?_) λk2=>?_⟩)
   ·have aE:=j.trans ae;refine bB (aw.ext ae) (Board.cW (row:=x.2) (em y aE) ω (lY K) mo λg3 a9=>⟨_,rfl,?_⟩);refine TR (a5 g3 (aE.trans a9)) ω λU h' o' f' n'=>?_;exact a7 g3 U _ _ (aE.trans a9) h' o' f' n' (by unfold eD;rw[<-I,if_pos ⟨E,K⟩,if_pos k2])
   ·exact a8 y _ (j.trans ae) (by unfold eD;rw[<-I,if_pos ⟨E,K⟩,if_neg k2])
  ·have bl:dU q x.2=false:=by simpa using K
   rw[bl];exact no d j λb=>K b.2
 clear HJ;intro J2 ab
 have plain:∀g,Var 58 g Y.size ({x.1.qy with target:=w}:Ms).tv->Var 60 g b.size x.1.tv->Ext b g->¬(x.1.kind=1/\x.1.sign=true/\(mX V.length c.aQ V {x.1.qy with target:=w} x.2).2=true)->J PUnit.unit g:=by
  intro g vm va D Z;refine a4 g ?_ va D
  have:q={x.1.qy with target:=w}:=by
   rw[I];unfold IA;rw[<-ar,if_neg Z]
  rw[this];exact vm
 refine⟨x.1.kind,S.at.1,ID (λE=>⟨x.1.sign,S.at.2.2.2.2.2,ab _ z (anu (λhs=>?_) λhs=>plain z B S C λb=>by rw[hs]at b;cases b.2.1)⟩) λE=>ab _ z (amP (plain z B S C λb=>E b.1))⟩;have bm:Var 42 z h.size (.agg [c.tv,.slice A]):=vh.ext C;refine CX bm (bB B (Board.rS (c:=c) (m:={x.1.qy with target:=w}) (row:=x.2) bb (ev.ext (H.trans C)) (λv hv=>by have:=(keys v hv).2;omega) ((p.bits x am).ext (H.trans C)) ω t4 λh9 x9=>?_));rw[<-el];obtain⟨o,hsg⟩:∃o,o=mX V.length c.aQ V {x.1.qy with target:=w} x.2:=⟨_,rfl⟩;rw[<-hsg];rw[<-hsg]at plain;refine⟨o.1.kind,o.1.slot,o.1.target,o.1.ax,o.1.body,o.1.bits,o.1.tag,o.2,rfl,?_⟩;refine aa λb2 v10 bo b3=>aq (t0:=bh.tv) v10 (t:=o.1.tv) cv fR λa' v11 f11 b5=>?_;have ba:Ext h9 a':=amK bo f11 λi a=>amR (amS a);have W:=x9.trans ba;have z9:=x9.size;have b6:=ba.size;have b7:=C.size;refine anu (λhb=>?_) λhb=>plain a' (B.ext W) (S.ext W) (C.trans W) λb=>by rw[hb]at b;cases b.2.2
 have b8:=B.lt;refine bB v11 (aq (t0:=({x.1.qy with target:=w}:Ms).tv) (B.ext W) (t:=o.1.tv) cv fR λbp br f12 b9=>?_);refine a4 bp ?_ ((S.ext W).only f12 ω) (amK (C.trans W) f12 λi a=>ω)
 have:q=o.1:=by
  rw[I,hsg];unfold IA;rw[<-ar,if_pos ⟨E,hs,by rw[<-hsg];exact hb⟩]
 rw[this];exact br
theorem ku(B:aj 2 h c.vals (jx V))(p:vK h A xs){most:Int}(G:most<=1000)(q:∀h',Ext h h'->R (amW true).val h')
 (E:∀h',Ext h h'->c.vals.len<=100->(xs.length:Int)<=most->(∀x∈xs,x.1.text.length<=400/\x.2.length<=40)->R (amW false).val h'):
 Cl 26 [.agg [c.tv,.slice A],.i most] h R:=by
 apply qY c.vals c.ep c.aQ c.no c.eV c.eH c.quo c.pe c.iy c.win c.bH c.dec A most;delta gz fH jM gL mq fE dz bK lq;have D:=p.len;refine aa λF v1 d H=>?_;have v1:=v1;intro I s;refine CX v1 (J_ (B.ext d) (λe a=>⟨_,rfl,amY (q e (d.trans a))⟩) λe a u=>⟨_,rfl,amP ⟨A,(v1.ext a).at.2,ID (λ_=>q e (d.trans a)) λJ=>s _ e ?_⟩⟩);refine⟨A,(v1.ext a).at.2,?_⟩;refine⟨λσ g=>0<=σ.2/\σ.2<=xs.length/\Ext h g/\(∀x∈xs.take σ.2.toNat,x.1.text.length<=400/\x.2.length<=40),λσ _=>((xs.length:Int)-σ.2).toNat,⟨am2 0,by dsimp only;omega,d.trans a,λx b=>by simp at b⟩,?_⟩;rintro⟨f,i⟩ g ⟨o,v,j,ok⟩;dsimp only at o v ok⊢;refine ID (λk=>?_) λk=>E g j u ω (by rw[show i.toNat=xs.length by omega,anj]at ok;exact ok);have w:i.toNat<xs.length:=ω;obtain⟨x,b⟩:∃x,xs[i.toNat]? =some x:=⟨_,amT w⟩;have z:=((p.bits x (anc b)).len);rw[am0]at z;refine UD (p.ext j) o b (aa λK v4 C L=>aq (t0:=sj) v4 (t:=x.1.tv) CW (FL _) λl r f5 M=>?_);have m:Ext h l:=j.trans (amK C f5 λi k=>amR (amS k));refine⟨x.1.text,r.at.2.2.1,ID (λ_=>q l m) λN=>⟨x.1.qy.bits,r.at.2.2.2.1.2.2.2.2.2.1,ID (λ_=>q l m) λO=>?_⟩⟩;rw[wrap_i64 (n:=i+1) ω ω];refine⟨⟨Ω,Ω,m,?_⟩,Ω⟩
 try dsimp only
 rw[show(i+1).toNat=i.toNat+1 by omega,ani,b];intro y q;rcases List.mem_append.1 q with h|h
 ·exact ok y h
 ·simp only[Option.toList,anv]at h;subst h;omega
end
end Gate
namespace Gate
open Board (Vd Cf Ms jx aq Vt Et)
open Pool (It qw Fit eM Dw rts)
open Peers (IS GK dL score)
theorem Sm{c:Cf}{V:List Vd}(k:Can c V):Kept c (iq c V) 0:=by
 have ce:=k.eH;have co:=k.eV;refine⟨⟨am2 0,show(0:Int)<=1073741824 by decide⟩,?_,?_,λx a=>(by cases a),λx a=>(by cases a),⟨am2 0,show(0:Int)+((0:Nat):Int)<=((0:Nat):Int) by decide⟩,⟨am2 0,show(0:Int)<=((0:Nat):Int) by decide⟩⟩
 ·show((0:Nat):Int)<=c.eH;omega
 ·show((0:Nat):Int)<=c.eV;omega
section
variable{R:Rq}{h h':af}{g:Nat}{a:Ad}{c:Cf}{V:List Vd}{s:St}{Fp:Nat->Nat->Prop}
theorem zB(p:aR h g a c V s Fp)(q:∀h',Ext h h'->R (anh 32 (mU s.N (bZ (aL V) s.tb s.N))).val h'):
 Cl 48 [.ptr (PT g)] h R:=by
 apply qt;delta cQ uR qD bz eU bJ;obtain⟨b,e⟩:∃b,b=mU s.N (bZ (aL V) s.tb s.N):=⟨_,rfl⟩;rw[<-e]at q;refine aa λm v1 d n=>(p.ext d).book ⟨_,rfl,Uv (p.ext d) λo f=>⟨b,by rw[e],?_⟩⟩;exact aq (t:=.bytes 32 b) (v1.ext f) eM.symm (eM.trans eM.symm) λj k f3 r=>⟨_,k.bytes,q j (amK (d.trans f) f3 λi l=>amR (amS l))⟩
theorem Cp(p:aR h g a c V s Fp)(q:∀h',Ext h h'->R (anh 32 (bT s).root).val h'):Cl 47 [.ptr (PT g)] h R:=by
 apply nP;delta zM cQ i_ qD bz eU bJ;refine aa λr v1 b u=>amP (Ef (p.ext b) λj d=>⟨_,_,rfl,aa λv k l w=>?_⟩);have x:=b.size;have y:=d.size;refine aq (t:=.bytes 32 (bT s).root) k eM.symm (eM.trans eM.symm) λm v4 f4 z=>⟨_,v4.bytes,?_⟩;have f:Ext j m:=amK l f4 λi e=>amR (amS e);refine aq (t:=.bytes 32 (bT s).root) ((v1.ext d).ext f) eM.symm (eM.trans eM.symm) λn o f5 A=>⟨_,o.bytes,?_⟩;exact q n (amK ((b.trans d).trans f) f5 λi e=>amR (amS e))
theorem GY(p:aR h g a c V s Fp)(q:R (TV.i s.now).val h):Cl 31 [.ptr (PT g)] h R:=by
 apply q_;delta QJ aD fk dJ dX aT bA;exact amP ⟨_,p.var.ah rfl,Clock.Fz p.kz ⟨_,rfl,q⟩⟩
end
section
variable{h:af}{s:Sl}
theorem Er{L:List (LU)}(e:aj 1 h s (L.map am6)){i:Int}(A:0<=i){x:LU}(q:L[i.toNat]? =some x){K:LU->Prop}(B:K x):
 0<=i/\i<(s.len:Int)/\Nn s.a λl=>∃(t:LU),ah h l.b (l.o+i.toNat*1) (.string (am8 t.toArray))/\K t:=by
 have b:=e.len;have:=(List.getElem?_eq_some_iff.1 q).1;rw[am0]at b;refine e.read A ω λl t _ a c=>?_;rw[am1,q]at a;obtain rfl:=Option.some.inj a;exact⟨_,c,B⟩
theorem aeN{t:Tb}{n:Nat}(o:wQ t n){i:Int}(q:0<=i)(A:i<n):(AB t)[i.toNat]? =some (kI t i).1/\(FE t)[i.toNat]? =some (kI t i).2:=by
 have b:=o.Ac;obtain⟨x,a⟩:∃x,t.bE[i.toNat]? =some x:=⟨_,amT ω⟩;unfold AB FE kI eB;rw[am1,am1,a,if_pos q,List.getD_eq_getElem?_getD,a];cases x<;>exact⟨rfl,rfl⟩
end
end Gate
namespace Gate
open Board (Vd Cf Ms jx aq Vt Et)
open Pool (It qw Fit eM Dw rts)
open Peers (IS GK dL score keys)
section
variable{R:Rq}{h h':af}{g m:Nat}{a:Ad}{b:RAd}{c:Cf}{q:Sl}{V:List Vd}{s:St}{P:List (Int×Int)}{F1 F2:Nat->Nat->Prop}{k:Nat}
end
end Gate
section
set_option linter.unusedVariables false
def rj(n k:Int)(T:TypeId)(z:TV)(h:af)(K:Sl->af->Prop):Prop:=
 0<=n/\n<=n/\k*n<=281474976710656/\n<9223372036854775808/\K (amV (some (Loc.mk (ana h) 0)) (Int.toNat n) (Int.toNat n)) (Array.push h (row (cq z (Int.toNat n)) T))
def tw:TV:=.agg [.i 0,.i 0,.bytes 32 (amU 32)]
def lS(q:Int)(B:Int)(h:af)(A:Rq):Prop:=
 bM (λ(s:OL×Bool)(h:af)=>rj q 48 124 tw h (λa g=>rj q 1 4 (.bool false) g (λb e=>rj q 1 4 (.bool false) e λc d=>Vc.Bind (iW d (.agg [.i q,.i B,.slice amL,.slice a,.slice b,.slice c]) 192) λf=>A (amN (.bg [.ptr (some (Loc.mk (ana d) 0)),.bool true])) f)/\
  rj q 1 4 (.bool false) g (λc e=>rj q 1 4 (.bool false) e λb d=>Vc.Bind (iW d (.agg [.i q,.i B,.slice amL,.slice a,.slice b,.slice c]) 192) λf=>A (amN (.bg [.ptr (some (Loc.mk (ana d) 0)),.bool true])) f))/\
  rj q 1 4 (.bool false) h (λb g=>rj q 48 124 tw g (λa e=>rj q 1 4 (.bool false) e λc d=>Vc.Bind (iW d (.agg [.i q,.i B,.slice amL,.slice a,.slice b,.slice c]) 192) λf=>A (amN (.bg [.ptr (some (Loc.mk (ana d) 0)),.bool true])) f)/\
   rj q 1 4 (.bool false) g (λc e=>rj q 48 124 tw e λa d=>Vc.Bind (iW d (.agg [.i q,.i B,.slice amL,.slice a,.slice b,.slice c]) 192) λf=>A (amN (.bg [.ptr (some (Loc.mk (ana d) 0)),.bool true])) f))/\
  rj q 1 4 (.bool false) h (λc g=>rj q 48 124 tw g (λa e=>rj q 1 4 (.bool false) e λb d=>Vc.Bind (iW d (.agg [.i q,.i B,.slice amL,.slice a,.slice b,.slice c]) 192) λf=>A (amN (.bg [.ptr (some (Loc.mk (ana d) 0)),.bool true])) f)/\
   rj q 1 4 (.bool false) g (λb e=>rj q 48 124 tw e λa d=>Vc.Bind (iW d (.agg [.i q,.i B,.slice amL,.slice a,.slice b,.slice c]) 192) λf=>A (amN (.bg [.ptr (some (Loc.mk (ana d) 0)),.bool true])) f))) λ(j:OL×Bool->af->Prop)=>
 If (decide (q<1)) (A (amN (.bg [.ptr none,.bool false])) h) (If (decide (64<q)) (A (amN (.bg [.ptr none,.bool false])) h) (If (decide (B<1)) (A (amN (.bg [.ptr none,.bool false])) h) (If (decide (32<B)) (A (amN (.bg [.ptr none,.bool false])) h) (j (none,false) h))))
theorem AM(q:Int)(A:Int)(h:af)(B:Rq)(H:lS q A h B):bC Tryz.prog 161 (ak.vals [.i q,.i A]) h B:=
 DM (C:=ctx) bP (fn:=Tryz.f161) Tryz.func161 ((by kernel_rfl:lS q A h B=Qm ctx Tryz.f161 [.i q,.i A] h B)▸H)
end
namespace Gate
open Board (Vd Cf Vt jx Et aq)
open Pool (It qw RL eM Dw rts)
section
variable{R:Rq}{h h':af}
theorem UI{v A:Int}(can:Fu v A)
 (M:∀h' b E F Ha G,Lx h' b E F Ha G (iQ v.toNat A) v.toNat->Ext h h'->(∀i,jP b E F Ha G i->h.size<=i)->R (amX [.ptr (PT b),.bool true]).val h'):
 Cl 161 [.i v,.i A] h R:=by
 apply AM;obtain⟨V,N,W,X⟩:=can;intro Y O;refine ID (λ_=>ω) λ_=>If.dec.2 ⟨λ_=>ω,λ_=>ID (λ_=>ω) λ_=>If.dec.2 ⟨λ_=>ω,λ_=>O _ h ?_⟩⟩
 have n:∀(g:af)(d f m:Nat),Ext h g->g[d]? =some (row (cq tw v.toNat) 124)->g[f]? =some (row (cq (amW false) v.toNat) 4)->g[m]? =some (row (cq (amW false) v.toNat) 4)->h.size<=d/\h.size<=f/\h.size<=m/\d≠f/\d≠m/\f≠m->
  Vc.Bind (iW g (.agg [.i v,.i A,.slice amL,.slice (amV (some (Vc.Loc.mk d 0)) v.toNat v.toNat),.slice (amV (some (Vc.Loc.mk f 0)) v.toNat v.toNat),.slice (amV (some (Vc.Loc.mk m 0)) v.toNat v.toNat)]) 192) λC=>R (amN (.bg [.ptr (some (Vc.Loc.mk (ana g) 0)),.bool true])) C:=by
  rintro g d f m H P I J ⟨Z,n2,n3,n4,n5,n6⟩;have l1:=kO P;have l2:=kO I;have l3:=kO J;refine aa λC v4 B s4=>?_
  have Q:Vc.Own 124 34 g (amV (some (Vc.Loc.mk d 0)) v.toNat v.toNat) (Et (AB (iQ v.toNat A))):=by
   have e:Et (AB (iQ v.toNat A))=List.replicate v.toNat tw:=by
    unfold Et AB iQ;simp only[List.map_replicate];rfl
   rw[e];exact⟨λt D=>by rw[(List.mem_replicate.1 D).2];rfl,by simp,ank _,.inr ⟨d,[],rfl,by simp_all [gR],by simp⟩⟩
  have L:∀q,g[q]? =some (row (cq (amW false) v.toNat) 4)->Vc.Own 4 1 g (amV (some (Vc.Loc.mk q 0)) v.toNat v.toNat) (WM (List.replicate v.toNat false)):=λq eq=>
   ⟨λt D=>by obtain⟨x,_,rfl⟩:=anf.1 D;rfl,by simp,ank _,.inr ⟨q,[],rfl,by simp_all [gR,WM],by simp⟩⟩
  have o:∀{q i:Nat},In (amV (some (Vc.Loc.mk q 0)) v.toNat v.toNat) i->i=q:=λ⟨l,hl,hi⟩=>by grind
  have p:FE (iQ v.toNat A)=List.replicate v.toNat false:=by simp[iQ,FE]
  have S:(v.toNat:Nat)=v:=ω;refine M C g.size amL (amV (some (Vc.Loc.mk d 0)) v.toNat v.toNat) (amV (some (Vc.Loc.mk f 0)) v.toNat v.toNat) (amV (some (Vc.Loc.mk m 0)) v.toNat v.toNat) ⟨by rw[S];exact v4,Vc.Own.nil _ _ _,Q.ext B,by rw[p];exact(L f I).ext B,(L m J).ext B,Q9 ⟨ω,ω⟩ ⟨ω,ω⟩,by simp[iQ],⟨λj k i c a=>?_,λj i c=>?_⟩⟩ (H.trans B) λi⟨k,a⟩=>?_
  ·match j,k with
   |0,0|2,2|3,3|4,4=>rfl
   |1,_=>exact(q8 c).elim
   |0,1|2,1|3,1|4,1=>exact(q8 a).elim
   |0,2|0,3|0,4=>have c:i=g.size:=c;have:=o a;omega
   |2,0|3,0|4,0=>have a:i=g.size:=a;have:=o c;omega
   |2,3|2,4|3,2|3,4|4,2|4,3=>have h1:=o c;have h2:=o a;omega
   |_+5,_=>exact c.elim
   |0,_+5|2,_+5|3,_+5|4,_+5=>exact a.elim
  ·match j with
   |0=>have c:i=g.size:=c;omega
   |1=>exact(q8 c).elim
   |2|3|4=>have:=o c;omega
   |_+5=>exact c.elim
  ·match k with
   |0=>have a:i=g.size:=a;have:=H.size;omega
   |1=>exact(q8 a).elim
   |2|3|4=>have:=o a;omega
   |_+5=>exact a.elim
 have mk:∀{k:Int}{T:TypeId}{z:TV}{p:af}{K:Sl->af->Prop},0<=k->k<=48->K (amV (some (Vc.Loc.mk (ana p) 0)) v.toNat v.toNat) (Array.push p (row (cq z v.toNat) T))->rj v k T z p K:=λ{k T z p K} k0 U a=>by
  refine⟨ω,am2 _,?_,ω,a⟩;have:k*v<=48*64:=Int.mul_le_mul U N ω δ;omega
 have r:∀x y z:Obj,Ext h (((h.push x).push y).push z):=λx y z=>((am9 h x).trans (am9 _ y)).trans (am9 _ z);have s:∀x y z:Obj,(((h.push x).push y).push z)[((h.push x).push y).size]? =some z:=λx y z=>cO _ _;have u:∀x y z:Obj,(((h.push x).push y).push z)[(h.push x).size]? =some y:=λx y z=>((am9 ((h.push x).push y) z).same _ (by simp)).trans (cO _ _);have w:∀x y z:Obj,(((h.push x).push y).push z)[h.size]? =some x:=λx y z=>((am9 ((h.push x).push y) z).same _ (by simp;omega)).trans (((am9 (h.push x) y).same _ (by simp)).trans (cO _ _))
 refine⟨mk δ δ ⟨mk δ δ (mk δ δ (n _ _ _ _ (r _ _ _) (w _ _ _) (u _ _ _) (s _ _ _) (by simp;omega))),mk δ δ (mk δ δ (n _ _ _ _ (r _ _ _) (w _ _ _) (s _ _ _) (u _ _ _) (by simp;omega)))⟩,
  mk δ δ ⟨mk δ δ (mk δ δ (n _ _ _ _ (r _ _ _) (u _ _ _) (w _ _ _) (s _ _ _) (by simp;omega))),mk δ δ (mk δ δ (n _ _ _ _ (r _ _ _) (s _ _ _) (w _ _ _) (u _ _ _) (by simp;omega)))⟩,
  mk δ δ ⟨mk δ δ (mk δ δ (n _ _ _ _ (r _ _ _) (u _ _ _) (s _ _ _) (w _ _ _) (by simp;omega))),mk δ δ (mk δ δ (n _ _ _ _ (r _ _ _) (s _ _ _) (u _ _ _) (w _ _ _) (by simp;omega)))⟩⟩
variable{c:Cf}{V:List Vd}
theorem UJ(e:aj 2 h c.vals (jx V))(E:∀v∈V,v.cF<9223372036854775808)(G:c.vals.len<100000)(H:uz c V=false->∀h',Ext h h'->R (amX [.ptr none,.bool false]).val h')
 (I:Can c V->∀h' tr t a g u w,Var 134 h' a (Nr c tr t)->zl h' tr [⟨wP c V,0,-1⟩] c.no u->HQ h' t (iQ V.length c.ep) V.length w->Ext h h'->(∀i,u i->h.size<=i/\i<g)->(∀i,w i->g<=i/\i<a)->h.size<=g->g<=a->a<h'.size->
  R (amX [.ptr (PT a),.bool true]).val h'):
 Cl 92 [c.tv] h R:=by
 apply AO c.vals c.ep c.aQ c.no c.eV c.eH c.quo c.pe c.iy c.win c.bH c.dec;delta nG fH Bo fW aN bJ bK aT bA fD;have el:=by have:=e.len;rwa [am0]at this
 refine aa λF v1 n Y=>?_;have v1:Var 24 F h.size c.tv:=v1;refine⟨c.vals,c.ep,c.aQ,c.no,c.eV,c.eH,c.quo,c.pe,c.iy,c.win,c.bH,c.dec,v1.at,vu (e.ext n) E G λJ o=>⟨_,rfl,anu (λx=>H (by simp_all) J (n.trans o)) λx=>?_⟩⟩;have k:=mR.1 (by simpa using x);have Z:=k.len;have keys:=wS k;have y:=n.trans o;have p:=v1.ext o;refine⟨c.vals,c.ep,c.aQ,c.no,c.eV,c.eH,c.quo,c.pe,c.iy,c.win,c.bH,c.dec,p.at,c.no,p.ah rfl,cW (e.ext y) ω (λv K=>(keys v K).2) λh3 q=>⟨_,rfl,q,?_⟩⟩;have z:=y.trans q;have r:=p.ext q;refine GJ k.no ⟨am2 0,δ⟩ λL m A B D C d M=>⟨_,_,rfl,c.vals,(r.ext d).ah rfl,c.ep,(r.ext d).ah rfl,?_⟩;have N:=z.trans d;rw[<-el];refine UI ⟨ω,ω,k.ep.1,k.ep.2⟩ λO b P Q Ha S s j T=>⟨_,_,rfl,?_⟩;have U:=N.trans j;have W:=(r.ext d).ext j;refine⟨c.vals,c.ep,c.aQ,c.no,c.eV,c.eH,c.quo,c.pe,c.iy,c.win,c.bH,c.dec,W.at,aa λX v6 l s6=>?_⟩;rw[ane]at s;have ab:=z.size;have z4:=d.size;have z5:=j.size;have z6:=l.size;exact I k X m b O.size L.size _ _ v6 ⟨A,B,D,(C.ext j).ext l,rfl⟩ ⟨P,Q,Ha,S,s.ext l,rfl⟩ (U.trans l) (λi f=>⟨by have:=M i f;omega,C.lt f⟩) (λi f=>⟨T i f,s.lt f⟩) ω ω ω
def loR(a b c d e f g h:Nat):Nat->Nat
 |0=>a
 |1=>b
 |2=>c
 |3=>d
 |4=>e
 |5=>f
 |6=>g
 |7=>h
 |_=>h+1
def abc(q A:Nat->Prop)(B E wt G H g:Nat):Nat->Nat->Prop
 |0=>q
 |1=>A
 |2=>(·=B)
 |3=>(·=E)
 |4=>(·=wt)
 |5=>(·=G)
 |6=>(·=H)
 |7=>(·=g)
 |_=>λ_=>False
theorem Sn{c:Cf}{V:List Vd}(e:aj 2 h c.vals (jx V))(q:1<=V.length):∀i,In c.vals i->i<h.size:=λi⟨l,a,f⟩=>by
 obtain⟨v,g⟩:∃v,V[0]? =some v:=⟨_,amT ω⟩;have b:=e.get l a 0 v.tv (by simp_all);have d:=b.1;have:=xY d;omega
theorem Lq(e:aj 2 h c.vals (jx V))(A:∀v∈V,v.cF<9223372036854775808)(B:c.vals.len<100000)(ab:uz c V=false->∀h',Ext h h'->R (amX [.ptr none,.bool false]).val h')
 (hr:Can c V->∀h' g a K,aZ h' g a c V (iq c V) K->Ext h h'->(∀k i,K k i->h.size<=i)->R (amX [.ptr (PT g),.bool true]).val h'):
 Cl 27 [c.tv] h R:=by
 apply AN c.vals c.ep c.aQ c.no c.eV c.eH c.quo c.pe c.iy c.win c.bH c.dec;refine aa λh1 v1 w s1=>?_;have v1:=v1;refine⟨c.vals,c.ep,c.aQ,c.no,c.eV,c.eH,c.quo,c.pe,c.iy,c.win,c.bH,c.dec,v1.at,UJ (e.ext w) A B (λhn f t=>⟨_,_,rfl,amY (ab hn f (w.trans t))⟩) λk f tr L l m1 M N vb t2 q2 t O r1 l0 l1 l2=>⟨_,_,rfl,amP ?_⟩⟩;have ac:=w.trans t;have y:=v1.ext t;refine⟨c.eV,y.ah rfl,c.quo,y.ah rfl,Pool.CG λm b3 P S _=>⟨_,_,rfl,?_⟩⟩;have z:=y.ext S;refine⟨c.eH,z.ah rfl,c.quo,z.ah rfl,Pool.CG λn b4 T C _=>⟨_,_,rfl,?_⟩⟩;have v4:=z.ext C;refine⟨c.pe,v4.ah rfl,c.bH,v4.ah rfl,c.dec,v4.ah rfl,Peers.GJ λo b5 u p5 s5 _=>⟨_,_,rfl,?_⟩⟩;have D:=v4.ext u;have ad:=(S.trans C).trans u;have z3:=P.var.lt;have z4:=T.var.lt;refine⟨c.vals,c.ep,c.aQ,c.no,c.eV,c.eH,c.quo,c.pe,c.iy,c.win,c.bH,c.dec,D.at,c.win,D.ah rfl,c.vals,c.ep,c.aQ,c.no,c.eV,c.eH,c.quo,c.pe,c.iy,c.win,c.bH,c.dec,D.at,Clock.CG λE c6 s s6=>⟨_,rfl,s,?_⟩⟩;have U:=ad.trans s;have F:=ac.trans U;have W:uz c V=true:=mR.2 k
 have X:∀(d:af)(g:Nat),Ext E d->E.size<=g->Var 80 d g (zn c ⟨tr,L,l,f.size,m.size,n.size,o.size⟩ 0 false false)->R (amX [.ptr (PT g),.bool true]).val d:=by
  intro d g p ae Y;have G:=U.trans p;have gl:=Y.lt
  have bound:∀j i,abc M N l f.size m.size n.size o.size g j i->h.size<=i:=by
   intro j i b
   match j,b with
   |0,b=>have:=O i b;omega
   |1,b=>have:=r1 i b;omega
   |2,b=>have b:i=l:=b;omega
   |3,b=>have b:i=f.size:=b;omega
   |4,b=>have b:i=m.size:=b;omega
   |5,b=>have b:i=n.size:=b;omega
   |6,b=>have b:i=o.size:=b;omega
   |7,b=>have b:i=g:=b;omega
   |_+8,b=>exact b.elim
  refine hr k d g ⟨tr,L,l,f.size,m.size,n.size,o.size⟩ (abc M N l f.size m.size n.size o.size g) ⟨Sep.made (lo:=loR h1.size m1 l f.size m.size n.size o.size g) ?_ ?_ ?_,t2.only (Q:=λ_=>False) (.an G) λ_ _ H=>H,q2.only (Q:=λ_=>False) (.an G) λ_ _ H=>H,vb.ext G,rfl,
   ⟨amL,((P.ext C).ext u).ext (s.trans p),?_⟩,⟨amL,(T.ext u).ext (s.trans p),?_⟩,⟨amL,amL,p5.ext (s.trans p),?_⟩,⟨⟨List.nodup_nil,(λx I=>by cases I),λx I=>by cases I⟩,by have:=k.pe.1;simp only[iq,anw];omega⟩,c6.ext p,rfl,⟨false,false,Y⟩,rfl,e.ext (F.trans p),?_,k⟩ (F.trans p) ?_
  ·intro j i b
   match j,b with
   |0,b=>exact O i b
   |1,b=>exact r1 i b
   |2,b=>have b:i=l:=b;simp only[loR];omega
   |3,b=>have b:i=f.size:=b;simp only[loR];omega
   |4,b=>have b:i=m.size:=b;simp only[loR];omega
   |5,b=>have b:i=n.size:=b;simp only[loR];omega
   |6,b=>have b:i=o.size:=b;simp only[loR];omega
   |7,b=>have b:i=g:=b;simp only[loR];omega
   |_+8,b=>exact b.elim
  ·intro j
   match j with
   |0|1|2|3|4|5|6|7|8=>simp only[loR];omega
   |_+9=>simp only[loR];omega
  ·intro j
   match j with
   |0|1|2|3|4|5|6|7|8=>simp only[loR];omega
   |_+9=>simp only[loR];omega
  ·exact funext λi=>propext ⟨.inl,λd=>d.elim id λd=>(q8 d).elim⟩
  ·exact funext λi=>propext ⟨.inl,λd=>d.elim id λd=>(q8 d).elim⟩
  ·exact funext λi=>propext ⟨.inl,λd=>d.elim id λd=>d.elim (λd=>(q8 d).elim) λd=>(q8 d).elim⟩
  ·intro j i b hv;have:=Sn e (by have:=k.len;omega) i hv;have:=bound j i b;omega
  ·exact bound
 have vals:=e.ext F;refine⟨aa λZ v7 q s7=>⟨q,vu (vals.ext q) A B λJ r=>⟨_,rfl,r,?_⟩⟩,vu vals A B λZ q=>⟨_,rfl,q,aa λJ v8 r s8=>⟨r,?_⟩⟩⟩
 ·rw[W];exact X J E.size (q.trans r) (ank _) (v7.ext r)
 ·rw[W];exact X J Z.size (q.trans r) q.size v8
end
end Gate
namespace Gate
open Board (Vd Cf Ms jx aq)
open Pool (It Fit eM Dw rts)
structure At(h1 hL hh:af)(mid:Nat)(F1 F2:Nat->Nat->Prop):Prop where
 ext:Ext h1 hL
 only:ag (λi=>h1.size<=i/\i<mid) hL hh
 uT:∀i,vJ F1 F2 i->h1.size<=i/\(i<mid\/hL.size<=i)
structure Told(hL:af)(mid:Nat)(T Q:Sl)(tx:List (LU))(nm:List (Bs 32)):Prop where
 t:aj 1 hL T (strs tx)
 n:aj 32 hL Q (rts nm)
 tm:∀i,In T i->mid<=i
 nm:∀i,In Q i->mid<=i
section
variable{h1 hL hh h':af}{mid:Nat}{F1 F2 F1' F2':Nat->Nat->Prop}
theorem At.base(a:At h1 hL hh mid F1 F2):Ext h1 hh:=amK a.ext a.only λ_ b=>b.1
theorem At.step(a:At h1 hL hh mid F1 F2)(st:Step (vJ F1 F2) hh (vJ F1' F2') h'):At h1 hL h' mid F1' F2':=by
 have g:=a.ext.size;have h:=a.only.size;have j:=st.only.size;refine⟨a.ext,⟨ω,λb e c=>(st.only.same b ω λd=>?_).trans (a.only.same b e c)⟩,λi f=>(st.new i f).elim (a.uT i) λd=>⟨ω,ω⟩⟩;have:=a.uT b d;exact c ⟨this.1,ω⟩
theorem At.more(a:At h1 hL hh mid F1 F2)(x:Ext hh h'):At h1 hL h' mid F1 F2:=a.step (.an x)
theorem Told.ah{T Q:Sl}{q:List (LU)}{nm:List (Bs 32)}(t:Told hL mid T Q q nm)(a:At h1 hL hh mid F1 F2):aj 1 hh T (strs q):=TV.ck a.only t.t λi b c=>by have:=t.tm i b;omega
theorem Told.Rr{T Q:Sl}{q:List (LU)}{nm:List (Bs 32)}(t:Told hL mid T Q q nm)(a:At h1 hL hh mid F1 F2):aj 32 hh Q (rts nm):=TV.ck a.only t.n λi b c=>by have:=t.nm i b;omega
theorem Sq{E A B:af}{g m:Nat}{a:Ad}{b:RAd}{c:Cf}{q:Sl}{V:List Vd}(k:Can c V)(e:aj 2 E c.vals (jx V))(p:aR A g a {c with vals:=q} V (iq c V) F1)(lo:∀k i,F1 k i->E.size<=i)
 (H:Ext A B)(d:aZ B m b c V (iq c V) F2)(G:∀k i,F2 k i->A.size<=i):Alike B g m a b c q V (iq c V) [] F1 F2 0:=by
 have j:=k.len;refine⟨⟨p.ext H,d,λi⟨f,h1⟩⟨l,n⟩=>?_,λi h⟨f,h1⟩=>?_,λi h⟨f,h1⟩=>?_⟩,List.Perm.refl _,?_,?_⟩
 ·have:=p.sep.lt f i h1;have:=G l i n;omega
 ·have:=Sn e j.1 i h;have:=lo f i h1;omega
 ·have:=p.SF i h;have:=G f i h1;omega
 ·exact Sm k
 ·show 0+65*0<=65*0;omega
end
end Gate
namespace Gate
open Board (Vd Cf Ms jx aq bh)
open Pool (It Fit eM Dw rts)
def dc(h1 hL hh:af)(mid g m:Nat)(c:Cf)(q:Sl)(V:List Vd)(s:St)(k:Nat):Prop:=
 ∃a b P d e,Alike hh g m a b c q V s P d e k/\At h1 hL hh mid d e
structure qu(h:af)(c:Cf)(V:List Vd)(A:Sl)(xs:List (Act×List Bool)):Prop where
 ev:aj 2 h c.vals (jx V)
 sm:∀v∈V,v.cF<9223372036854775808
 Cq:vK h A xs
 fit:∀x∈xs,(am4 .i64 x.1.peer).wf=true/\Board.j9 x.1.qy
section
variable{R:Rq}{h h1 hL hh h':af}{mid g m:Nat}{c:Cf}{q:Sl}{V:List Vd}{s:St}{k:Nat}{A:Sl}{xs:List (Act×List Bool)}
theorem qu.ext(p:qu h c V A xs)(x:Ext h h'):qu h' c V A xs:=⟨p.ev.ext x,p.sm,p.Cq.ext x,p.fit⟩
theorem dc.ext(p:dc h1 hL hh mid g m c q V s k)(x:Ext hh h'):dc h1 hL h' mid g m c q V s k:=by
 obtain⟨a,b,P,d,e,f,h⟩:=p;exact⟨a,b,P,d,e,f.ext x,h.more x⟩
theorem dc.base(p:dc h1 hL hh mid g m c q V s k):Ext h1 hh:=by
 obtain⟨a,b,P,e,f,h,d⟩:=p;exact d.base
theorem dc.told(p:dc h1 hL hh mid g m c q V s k){T Q:Sl}{B:List (LU)}{E:List (Bs 32)}(t:Told hL mid T Q B E):aj 1 hh T (strs B)/\aj 32 hh Q (rts E):=by
 obtain⟨a,b,P,e,f,h,d⟩:=p;exact⟨t.ah d,t.Rr d⟩
theorem dc.more(p:dc h1 hL hh mid g m c q V s k):dc h1 hL hh mid g m c q V s (k+1):=by
 obtain⟨a,b,P,d,e,f,h⟩:=p;exact⟨a,b,P,d,e,Lp f,h⟩
theorem tC{E:af}{B:Nat}(v3:Var 42 E B (.agg [c.tv,.slice A]))(p:qu E c V A xs)(lc:c.vals.len<=100){K:OL->Int->OL->Bool->af->Prop}
 (al:uz c V=false->∀d,Ext E d->K none 1 none false d)
 (am:Can c V->∀d g m a b q f h,Alike d g m a b c q V (iq c V) [] f h 0->Ext E d->(∀i,vJ f h i->E.size<=i)->K (PT g) 0 (PT m) true d):
 ∃(s:Sl),∃(n:Int),∃(H:Int),∃(I:Int),∃(J:Int),∃(M:Int),∃(O:Int),∃(U:Int),∃(W:Int),∃(Z:Int),∃(ab:Int),∃(ac:Int),(ah E B 0 (bu s)/\ah E B 1 (.i n)/\ah E B 2 (.i H)/\ah E B 3 (.i I)/\ah E B 4 (.i J)/\ah E B 5 (.i M)/\ah E B 6 (.i O)/\ah E B 7 (.i U)/\ah E B 8 (.i W)/\ah E B 9 (.i Z)/\ah E B 10 (.i ab)/\ah E B 11 (.i ac))/\
  Cl 19 [amZ [.slice s,.i n,.i H,.i I,.i J,.i M,.i O,.i U,.i W,.i Z,.i ab,.i ac]] E λv G=>∃(p:OL),∃(ad:Int),v=amN (amX [.ptr p,.i ad])/\
   ∃(s:Sl),∃(n:Int),∃(H:Int),∃(I:Int),∃(J:Int),∃(M:Int),∃(O:Int),∃(U:Int),∃(W:Int),∃(Z:Int),∃(ab:Int),∃(ac:Int),(ah G B 0 (bu s)/\ah G B 1 (.i n)/\ah G B 2 (.i H)/\ah G B 3 (.i I)/\ah G B 4 (.i J)/\ah G B 5 (.i M)/\ah G B 6 (.i O)/\ah G B 7 (.i U)/\ah G B 8 (.i W)/\ah G B 9 (.i Z)/\ah G B 10 (.i ab)/\ah G B 11 (.i ac))/\
    Cl 27 [amZ [.slice s,.i n,.i H,.i I,.i J,.i M,.i O,.i U,.i W,.i Z,.i ab,.i ac]] G λv d=>∃(ae:OL),∃(b:Bool),v=amN (amX [.ptr ae,.bool b])/\K p ad ae b d:=by
 refine CX v3 (Nl p.ev ω (λo G e=>⟨_,_,rfl,CX (v3.ext e) (Lq (p.ev.ext e) p.sm ω (λ_ d l=>⟨_,_,rfl,al o d (e.trans l)⟩) λk=>?_)⟩) λk G g a q f r e lo x=>⟨_,_,rfl,CX (v3.ext e) (Lq (p.ev.ext e) p.sm ω (λo=>?_) λ_ d m b h d5 l t=>⟨_,_,rfl,am k d g m a b q f h (Sq k p.ev r lo l d5 t) (e.trans l) λi u=>?_⟩)⟩)
 ·grind [mR]
 ·grind [mR]
 ·have:=e.size;rcases u with⟨j,w⟩|⟨j,w⟩<;>grind
theorem xQ{B:af}{E:Nat}(v6:Var 42 B E (.agg [c.tv,.slice A]))(p:qu B c V A xs)(can:Can c V)(al:xs.length<=200)(ok:∀x∈xs,x.1.text.length<=400/\x.2.length<=40){K:Sl->Sl->af->Prop}
 (hk:∀a T Q,Told a B.size T Q (iE c V xs).2 (iE c V xs).1->Ext B a->Var 42 a E (.agg [c.tv,.slice A])->K T Q a):
 ∃(s:Sl),∃(n:Int),∃(G:Int),∃(H:Int),∃(I:Int),∃(J:Int),∃(M:Int),∃(O:Int),∃(U:Int),∃(W:Int),∃(Z:Int),∃(ab:Int),∃(ac:Sl),((ah B E 0 (bu s)/\ah B E 1 (.i n)/\ah B E 2 (.i G)/\ah B E 3 (.i H)/\ah B E 4 (.i I)/\ah B E 5 (.i J)/\ah B E 6 (.i M)/\ah B E 7 (.i O)/\ah B E 8 (.i U)/\ah B E 9 (.i W)/\ah B E 10 (.i Z)/\ah B E 11 (.i ab))/\ah B E 12 (bu ac))/\
  Cl 28 [amZ [amZ [.slice s,.i n,.i G,.i H,.i I,.i J,.i M,.i O,.i U,.i W,.i Z,.i ab],.slice ac]] B λv a=>∃(ad:Sl),∃(ae:Sl),v=amN (amX [.slice ad,.slice ae])/\K ad ae a:=
 CY v6 (UG p.ev can p.Cq (λx b=>⟨(ok x b).1,(ok x b).2,(p.fit x b).1,(p.fit x b).2⟩) al λa T Q e f d g h=>⟨_,_,rfl,hk a T Q ⟨e.elems,f.elems,g,h⟩ d (v6.ext d)⟩)
theorem tE(p:vK hh A xs){i:Int}(Z:0<=i){x:Act×List Bool}(hx:xs[i.toNat]? =some x){K:af->Prop}(hk:∀a,Var 60 a hh.size x.1.tv->Ext hh a->K a):
 0<=i/\i<(A.len:Int)/\Nn A.a λl=>∃(n:Int),∃(B:Int),∃(s:LU),∃(E:Int),∃(G:Int),∃(b:Bs 32),∃(H:Int),∃(I:Int),∃(J:Sl),∃(M:Bs 16),∃(O:Int),∃(U:Bool),
  (ah hh l.b (l.o+i.toNat*58) (.i n)/\ah hh l.b (l.o+i.toNat*58+1) (.i B)/\ah hh l.b (l.o+i.toNat*58+1+1) (.string (am8 s.toArray))/\
   (ah hh l.b (l.o+i.toNat*58+1+1+1) (.i E)/\ah hh l.b (l.o+i.toNat*58+1+1+1+1) (.i G)/\av hh l.b (l.o+i.toNat*58+1+1+1+1+1) 32 b/\ah hh l.b (l.o+i.toNat*58+1+1+1+1+1+32) (.i H)/\
    ah hh l.b (l.o+i.toNat*58+1+1+1+1+1+32+1) (.int .u64 I)/\ah hh l.b (l.o+i.toNat*58+1+1+1+1+1+32+1+1) (bu J)/\av hh l.b (l.o+i.toNat*58+1+1+1+1+1+32+1+1+1) 16 M)/\
   ah hh l.b (l.o+i.toNat*58+1+1+1+53) (.i O)/\ah hh l.b (l.o+i.toNat*58+1+1+1+53+1) (.bool U))/\
  Vc.Bind (iW hh sj 60) λW=>gT W hh.size 0 58/\Vc.Bind (TV.put W hh.size 0 (amZ [.i n,.i B,.str s,amZ [.i E,.i G,.bytes 32 b,.i H,.int .u64 I,.slice J,.bytes 16 M],.i O,.bool U])) K:=by
 refine UD p Z hx (aa λg c d h=>aq c CW (FL _) λa e f9 j=>?_);exact hk a e (amK d f9 λi f=>amR (amS f))
theorem Cr{i:Int}(B:0<=i)(E:i<(xs.length:Int))(ok:∀x∈xs,ND x):∃t,(iE c V xs).2[i.toNat]? =some t/\t.length<1000:=by
 obtain⟨a,_,_⟩:=Ep (c:=c) (V:=V) xs;obtain⟨t,b⟩:∃t,(iE c V xs).2[i.toNat]? =some t:=⟨_,amT ω⟩
 grind [UF,anc]
noncomputable def rootOf(c:Cf)(V:List Vd)(xs:List (Act×List Bool))(B:Int):Bs 32:=(iE c V xs).1.getD (xP (iE c V xs).1.length B) (amU 32)
theorem Cs{B:af}{E:Nat}(p:dc h1 hL B mid g m c q V s k)(hk:k<700){T Q:Sl}(told:Told hL mid T Q (iE c V xs).2 (iE c V xs).1)(am:xs.length<=200){x:Act}(G:Var 60 B E x.tv)(hp:(am4 .i64 x.peer).wf=true){i:Int}(i0:0<=i){t:LU}(ht:(iE c V xs).2[i.toNat]? =some t)(tl:t.length<1000){K:Bool->af->Prop}
 (hr:∀h' d,dc h1 hL h' mid g m c q V d (k+1)->Ext h1 h'->zz c V s x.kind x.peer t (rootOf c V xs x.which) d->K true h'):
 ∃(n:Int),∃(H:Int),∃(s:LU),∃(I:Int),∃(J:Int),∃(b:Bs 32),∃(M:Int),∃(O:Int),∃(U:Sl),∃(W:Bs 16),∃(Z:Int),∃(ab:Bool),
  (ah B E 0 (.i n)/\ah B E 1 (.i H)/\ah B E 2 (.string (am8 s.toArray))/\
   (ah B E 3 (.i I)/\ah B E 4 (.i J)/\av B E 5 32 b/\ah B E 37 (.i M)/\ah B E 38 (.int .u64 O)/\ah B E 39 (bu U)/\av B E 40 16 W)/\
   ah B E 56 (.i Z)/\ah B E 57 (.bool ab))/\0<=i/\i<(T.len:Int)/\Nn T.a λl=>∃(ac:LU),ah B l.b (l.o+i.toNat*1) (.string (am8 ac.toArray))/\∃(ad:Int),ah B E 56 (.i ad)/\
    Cl 30 [.slice Q,.i ad] B λv h=>∃(ae:Bs 32),v=amN (.bytes 32 ae)/\Ext B h/\
     Cl 29 [.ptr (PT g),.ptr (PT m),amZ [.i n,.i H,.str s,amZ [.i I,.i J,.bytes 32 b,.i M,.int .u64 O,.slice U,.bytes 16 W],.i Z,.bool ab],.str ac,.bytes 32 ae] h λv h=>∃(al:Bool),v=amN (.bool al)/\K al h:=by
 obtain⟨j,o⟩:=p.told told;obtain⟨N,l2,R⟩:=Ep xs;obtain⟨a,b,P,S,X,r,u⟩:=p;refine acO G (Er j i0 ht ⟨x.which,G.at.2.2.2.2.1,Gv o (λw=>by rw[w]at l2;grind) ω λY e=>⟨_,rfl,e,?_⟩⟩);refine acN (r.ext e) hk hp tl λy z b' d P' A C D F L=>⟨true,rfl,?_⟩;have f:=(u.more e).step F;exact hr y d ⟨z,b',P',A,C,D,f⟩ f.base L
theorem dc.kept(p:dc h1 hL hh mid g m c q V s k):Kept c s k:=by
 obtain⟨a,b,P,e,f,d,h⟩:=p;exact d.kept
theorem dc.Fz(p:dc h1 hL hh mid g m c q V s k)(B:R (TV.i s.now).val hh):Cl 31 [.ptr (PT g)] hh R:=by
 obtain⟨a,b,P,e,f,d,h⟩:=p;exact GY d.p.G B
theorem Jw(p:qu h c V A xs)(ok:∀x∈xs,x.1.text.length<=400/\x.2.length<=40):∀x∈xs,ND x:=λx a=>⟨(ok x a).1,(ok x a).2,(p.fit x a).1,(p.fit x a).2⟩
end
end Gate
namespace Board
theorem aeO{n:Int}(h:(am4 .i64 n).wf=true):n<9223372036854775808:=by
 have h:(decide (IntKind.min .i64<=n)&&decide (n<=IntKind.max .i64))=true:=h;have a:=of_decide_eq_true (Bool.and_eq_true_iff.1 h).2;have b:IntKind.max .i64=9223372036854775807:=by rfl
 omega
section
variable{H:Type}{enc:TypeId×Value->H}{w:World}{base fuel:Nat}{spare:Nat->Bool}{held:Bool}
theorem af5{q:List Value}{x:DataW H×List MemPlace}(h:am7 enc Tryz.prog w base spare held fuel 137 q=some x):∃v:Vd,q=v.tv.cells/\v.cF<9223372036854775808:=by
 have e:∃f0 f1:Field,Tryz.prog.underlying 137=some (.struct #[f0,f1])/\f0.type=3/\f0.offset=0/\f1.type=9/\f1.offset=1:=⟨_,_,Tryz.underlying137,rfl,rfl,rfl,rfl⟩;obtain⟨f0,f1,f,g,i,j,k⟩:=e;obtain⟨l,n,_,rfl,a,m,b⟩:=anm f h;have o:Tryz.prog.cellsOf 3=1:=κ;have p:Tryz.prog.cellsOf 9=1:=κ;have r:Tryz.prog.cellsOf 137=2:=κ
 match l,m with
 |[u,y],_=>
  have t0:=b 0 f0 rfl;have t1:=b 1 f1 rfl;rw[g,i,o]at t0;rw[j,k,p]at t1;obtain⟨n0,c,w0,t⟩:=amQ Tryz.underlying3 t0;obtain⟨s,d,_,_⟩:=DataW.trod_string Tryz.underlying9 t1;rw[r]at a
  match q,a with
  |[v0,v1],_=>
   simp only[ang,List.take_succ_cons,ant,List.drop_succ_cons,List.cons.injEq,and_true]at c d;subst c;subst d
   exact⟨⟨n0,s.data.toList⟩,by simp[Vd.tv,anz,amO],by
    exact aeO t⟩
theorem abe{α:Type}[Inhabited α]{Q:α->Prop}{tv:α->TV}{sz t e:Nat}(A:Tryz.prog.underlying t=some (.slice e))(B:Tryz.prog.cellsOf e=sz)(G:∀x,(tv x).size=sz)
 (I:∀{fuel:Nat}{q:List Value}{x:DataW H×List MemPlace},am7 enc Tryz.prog w base spare held fuel e q=some x->∃v:α,q=(tv v).cells/\Q v)
 {a:Option Addr}{len cap:Nat}{x:DataW H×List MemPlace}(J:∀x,a=some x->x.spot=none)(h:am7 enc Tryz.prog w base spare held fuel t [.slice a len cap]=some x):
 ∃(E:Sl)(q:List α),Value.slice a len cap=(TV.slice E).val/\aj sz w.heap E (q.map tv)/\∀c∈q,Q c:=by
 rcases Deep.open_slice A h with⟨b,_⟩|⟨d,R,S,m,n,D,Pl,b,_,T,_,y,_,z⟩
 ·simp only[List.cons.injEq,Value.slice.injEq,and_true]at b;obtain⟨rfl,rfl,rfl⟩:=b;exact⟨amL,[],rfl,aj.Bf sz _,λc b=>by cases b⟩
 ·simp only[List.cons.injEq,Value.slice.injEq,and_true]at b;obtain⟨rfl,rfl,rfl⟩:=b;have o:=J d rfl;have U:len<=m:=by rw[y];split<;>omega
  have C:∀i,i<len->∃c:α,(tv c).at w.heap d.block (d.off+i*sz)/\Q c:=by
   intro i p;obtain⟨V,s,F⟩:=z i ω;rw[B]at s;obtain⟨_,W,K⟩:=World.cells?_some s;obtain⟨c,rfl,L⟩:=I F;refine⟨c,?_,L⟩;rw[TV.mD];intro j g;have M:j<sz:=by rw[G]at g;exact g
   have:=K j M;rw[Deep.add_add]at this
   have N:=Qo o (i:=i*sz+j) (v:=(tv c).cells[j]'(by rw[TV.ai];exact g)) (by
    rw[this];simp[TV.ai,g])
   rw[amT (by rw[TV.ai];exact g),<-N,Nat.add_assoc]
  obtain⟨f,u⟩:=Deep.choose_lt C
  refine⟨⟨some ⟨d.block,d.off⟩,len,cap⟩,(List.range len).map f,?_,⟨?_,?_,?_⟩,λc b=>by
   obtain⟨k,r,rfl⟩:=anf.1 b;exact(u k (List.mem_range.1 r)).2⟩
  ·cases d;simp only at o;subst o;rfl
  ·simp
  ·intro O;cases O
  ·rintro l ⟨rfl⟩ i t A;rw[am1,Option.map_eq_some_iff]at A;obtain⟨c,b,rfl⟩:=A;rw[am1,Option.map_eq_some_iff]at b;obtain⟨k,r,rfl⟩:=b;have P:=List.getElem?_eq_some_iff.1 r;obtain⟨p,B⟩:=P;simp only[List.length_range]at p;simp only[List.getElem_range]at B;subst B;exact(u i p).1
end
end Board
namespace Gate
open Go Go.Vc Go.ChangeShapes Go.WideShapes
open Board (Vd Cf Ms jx aY bh)
instance:Inhabited Act:=⟨⟨0,0,[],bh,0,false⟩⟩
theorem gG{α:Type}(l:List α)(a k:Nat):l.drop a=(l.drop a).take k++l.drop (a+k):=by
 rw[<-List.drop_drop,List.take_append_drop]
section
variable{H:Type}{enc:TypeId×Value->H}{w:World}{base fuel:Nat}{held:Bool}
theorem GZ{α:Type}[Inhabited α]{Q:α->Prop}{tv:α->TV}{sz t e:Nat}(A:Tryz.prog.underlying t=some (.slice e))(B:Tryz.prog.cellsOf e=sz)(G:0<sz)(I:∀x,(tv x).size=sz)
 (J:∀{fuel:Nat}{q:List Value}{x:DataW H×List MemPlace},am7 enc Tryz.prog w base (λ_=>true) held fuel e q=some x->∃v:α,q=(tv v).cells/\Q v)
 {v:Value}{x:DataW H×List MemPlace}(h:am7 enc Tryz.prog w base (λ_=>true) held fuel t [v]=some x):
 ∃(E:Sl)(q:List α),v=(TV.slice E).val/\aj sz w.heap E (q.map tv)/\∀c∈q,Q c:=by
 have p:∃a len cap,v=Value.slice a len cap:=by
  rcases Deep.open_slice A h with⟨b,_⟩|⟨r,s,u,m,n,D,Pl,b,_⟩
  ·exact⟨_,_,_,by simpa using b⟩
  ·exact⟨_,_,_,by simpa using b⟩
 obtain⟨a,len,cap,rfl⟩:=p;by_cases d:∀x,a=some x->x.spot=none
 ·exact Board.abe (spare:=λ_=>true) A B I J d h
 ·have z:∃x,a=some x/\x.spot≠none:=by
   cases a with
   |none=>exact absurd (λx f=>by cases f) d
   |some x=>exact⟨x,rfl,λf=>d λy g=>by cases g;exact f⟩
  obtain⟨y,rfl,g⟩:=z;rcases Deep.open_slice A h with⟨b,_⟩|⟨r,s,u,m,n,D,Pl,b,_,i,_,C,_,F⟩
  ·simp at b
  ·simp only[List.cons.injEq,Value.slice.injEq,and_true,Option.some.injEq]at b;obtain⟨rfl,rfl,rfl⟩:=b;have N:m=cap:=by rw[C];rfl
   have K:cap=0:=by
    rcases Nat.eq_zero_or_pos cap with j|j
    ·exact j
    ·obtain⟨O,k,_⟩:=F 0 ω;rw[B,Nat.zero_mul]at k;obtain⟨_,P,L⟩:=World.cells?_some k;have o:=L 0 G;rw[amT ω]at o;exact absurd (World.cell?_spot o) g
   subst K;have M:len=0:=ω;subst M;exact⟨@amV none 0 0 ⟨some y⟩,[],rfl,⟨rfl,λ_=>rfl,λl i=>by cases i⟩,λc b=>by cases b⟩
theorem HV{t e n:Nat}(A:Tryz.prog.underlying t=some (.array n e))(B:Tryz.prog.underlying e=some (.int .u8))(ce:Tryz.prog.cellsOf e=1)(E:Tryz.prog.cellsOf t=n){spare:Nat->Bool}{q:List Value}{x:DataW H×List MemPlace}
 (h:am7 enc Tryz.prog w base spare held fuel t q=some x):∃b:Bs n,q=b.l.map λc=>Value.int .u8 (c.toNat:Int):=by
 obtain⟨u,m,_,_,g,v,j⟩:=DataW.trod_array A h;rw[E]at g
 have l:∀i,i<n->∃c:UInt8,q[i]? =some (.int .u8 (c.toNat:Int)):=λi a=>by
  have d:=j i a;rw[ce,Nat.mul_one,amT ω]at d;obtain⟨k,o,_,p⟩:=amQ B d;have y:=wf_u8 p
  have r:q[i]? =some (.int .u8 k):=by
   have:((q.drop i).take 1)[0]? =some (Value.int .u8 k):=by rw[o];rfl
   simpa using this
  refine⟨UInt8.ofNat k.toNat,?_⟩;rw[r,UInt8.toNat_ofNat'];congr 2;omega
 obtain⟨f,s⟩:=Deep.choose_lt l;refine⟨⟨(List.range n).map f,by simp⟩,?_⟩;apply List.ext_getElem?;intro i;by_cases a:i<n
 ·rw[s i a];simp[a]
 ·rw[List.getElem?_eq_none ω,List.getElem?_eq_none (by simp;omega)]
theorem abf{q:List Value}{x:DataW H×List MemPlace}(h:am7 enc Tryz.prog w base (λ_=>true) held fuel 24 q=some x):
 ∃(c:Cf)(V:List Vd),q=c.tv.cells/\aj 2 w.heap c.vals (jx V)/\∀v∈V,v.cF<9223372036854775808:=by
 have J:∃f0 f1 f2 f3 f4 f5 f6 f7 f8 f9 f10 f11:Field,Tryz.prog.underlying 24=some (.struct #[f0,f1,f2,f3,f4,f5,f6,f7,f8,f9,f10,f11])/\(f0.type=22/\f0.offset=0)/\(f1.type=3/\f1.offset=1)/\(f2.type=3/\f2.offset=2)/\
  (f3.type=3/\f3.offset=3)/\(f4.type=3/\f4.offset=4)/\(f5.type=3/\f5.offset=5)/\(f6.type=3/\f6.offset=6)/\(f7.type=3/\f7.offset=7)/\(f8.type=3/\f8.offset=8)/\(f9.type=3/\f9.offset=9)/\
  (f10.type=3/\f10.offset=10)/\(f11.type=3/\f11.offset=11):=⟨_,_,_,_,_,_,_,_,_,_,_,_,Tryz.underlying24,⟨rfl,rfl⟩,⟨rfl,rfl⟩,⟨rfl,rfl⟩,⟨rfl,rfl⟩,⟨rfl,rfl⟩,⟨rfl,rfl⟩,⟨rfl,rfl⟩,⟨rfl,rfl⟩,⟨rfl,rfl⟩,⟨rfl,rfl⟩,⟨rfl,rfl⟩,⟨rfl,rfl⟩⟩
 obtain⟨f0,f1,f2,f3,f4,f5,f6,f7,f8,f9,f10,f11,K,d,f,g,i,j,k,l,m,o,p,r,s⟩:=J;have M:Tryz.prog.cellsOf 24=12:=κ;have b:Tryz.prog.cellsOf 3=1:=κ;have N:Tryz.prog.cellsOf 22=1:=κ;obtain⟨O,n,_,_,t,P,a⟩:=anm K h;rw[M]at t
 match O,P with
 |[y0,y1,y2,y3,y4,y5,y6,y7,y8,y9,ae,al],_=>
  have t0:=a 0 f0 rfl;have t1:=a 1 f1 rfl;have t2:=a 2 f2 rfl;have t3:=a 3 f3 rfl;have t4:=a 4 f4 rfl;have t5:=a 5 f5 rfl;have t6:=a 6 f6 rfl;have t7:=a 7 f7 rfl;have t8:=a 8 f8 rfl;have t9:=a 9 f9 rfl;have t10:=a 10 f10 rfl;have t11:=a 11 f11 rfl;rw[d.1,d.2,N]at t0;rw[f.1,f.2,b]at t1;rw[g.1,g.2,b]at t2;rw[i.1,i.2,b]at t3;rw[j.1,j.2,b]at t4;rw[k.1,k.2,b]at t5;rw[l.1,l.2,b]at t6;rw[m.1,m.2,b]at t7;rw[o.1,o.2,b]at t8;rw[p.1,p.2,b]at t9;rw[r.1,r.2,b]at t10;rw[s.1,s.2,b]at t11;clear a h;obtain⟨R,u,_,_⟩:=amQ Tryz.underlying3 t1;obtain⟨S,y,_,_⟩:=amQ Tryz.underlying3 t2;obtain⟨T,z,_,_⟩:=amQ Tryz.underlying3 t3;obtain⟨U,A,_,_⟩:=amQ Tryz.underlying3 t4;obtain⟨W,B,_,_⟩:=amQ Tryz.underlying3 t5;obtain⟨X,C,_,_⟩:=amQ Tryz.underlying3 t6;obtain⟨Y,D,_,_⟩:=amQ Tryz.underlying3 t7;obtain⟨Z,E,_,_⟩:=amQ Tryz.underlying3 t8;obtain⟨n9,F,_,_⟩:=amQ Tryz.underlying3 t9;obtain⟨ab,G,_,_⟩:=amQ Tryz.underlying3 t10;obtain⟨ac,I,_,_⟩:=amQ Tryz.underlying3 t11;clear t1 t2 t3 t4 t5 t6 t7 t8 t9 t10 t11
  match q,t with
  |[v0,v1,v2,v3,v4,v5,v6,v7,v8,v9,v10,v11],_=>
   simp only[ang,List.take_succ_cons,ant,List.drop_succ_cons,List.cons.injEq,and_true]at u y z A B C D E F G I t0;subst u;subst y;subst z;subst A;subst B;subst C;subst D;subst E;subst F;subst G;subst I;obtain⟨sl,L,e,ad,hq⟩:=GZ (Q:=λv=>v.cF<9223372036854775808) (tv:=Vd.tv) (sz:=2) Tryz.underlying22 κ δ Vd.size (λ{fuel q x} h=>Board.af5 h) t0;subst e;exact⟨⟨sl,R,S,T,U,W,X,Y,Z,n9,ab,ac⟩,L,rfl,ad,hq⟩
theorem abg{q:List Value}{x:DataW H×List MemPlace}(h:am7 enc Tryz.prog w base (λ_=>true) held fuel 58 q=some x):
 ∃(m:Ms)(row:List Bool),q=m.tv.cells/\aj 1 w.heap m.bits (aY row)/\Board.j9 m:=by
 have t:∃f0 f1 f2 f3 f4 f5 f6:Field,Tryz.prog.underlying 58=some (.struct #[f0,f1,f2,f3,f4,f5,f6])/\(f0.type=3/\f0.offset=0)/\(f1.type=3/\f1.offset=1)/\(f2.type=52/\f2.offset=2)/\
  (f3.type=3/\f3.offset=34)/\(f4.type=53/\f4.offset=35)/\(f5.type=54/\f5.offset=36)/\(f6.type=56/\f6.offset=37):=⟨_,_,_,_,_,_,_,Tryz.underlying58,⟨rfl,rfl⟩,⟨rfl,rfl⟩,⟨rfl,rfl⟩,⟨rfl,rfl⟩,⟨rfl,rfl⟩,⟨rfl,rfl⟩,⟨rfl,rfl⟩⟩
 obtain⟨f0,f1,f2,f3,f4,f5,f6,u,g,i,j,k,l,o,p⟩:=t;have y:Tryz.prog.cellsOf 58=53:=κ;have d:Tryz.prog.cellsOf 3=1:=κ;have z:Tryz.prog.cellsOf 53=1:=κ;have A:Tryz.prog.cellsOf 54=1:=κ;have r:Tryz.prog.cellsOf 52=32:=κ;have cG:Tryz.prog.cellsOf 56=16:=κ;have s:Tryz.prog.cellsOf 5=1:=κ;obtain⟨B,n,_,_,C,D,a⟩:=anm u h;rw[y]at C
 match B,D with
 |[T,U,V,W,X,Y,Z],_=>
  have t0:=a 0 f0 rfl;have t1:=a 1 f1 rfl;have t2:=a 2 f2 rfl;have t3:=a 3 f3 rfl;have t4:=a 4 f4 rfl;have t5:=a 5 f5 rfl;have t6:=a 6 f6 rfl;rw[g.1,g.2,d]at t0;rw[i.1,i.2,d]at t1;rw[j.1,j.2,r]at t2;rw[k.1,k.2,d]at t3;rw[l.1,l.2,z]at t4;rw[o.1,o.2,A]at t5;rw[p.1,p.2,cG]at t6;clear a h;obtain⟨n0,f,_,_⟩:=amQ Tryz.underlying3 t0;obtain⟨E,F,_,_⟩:=amQ Tryz.underlying3 t1;obtain⟨G,I⟩:=HV Tryz.underlying52 Tryz.underlying5 s r t2;obtain⟨J,K,_,_⟩:=amQ Tryz.underlying3 t3;obtain⟨L,M,_,N⟩:=amQ Tryz.underlying53 t4;obtain⟨O,P⟩:=HV Tryz.underlying56 Tryz.underlying5 s cG t6
  have c:∃v,(q.drop 36).take 1=[v]:=by
   refine⟨q[36],?_⟩;rw[List.drop_eq_getElem_cons ω];rfl
  obtain⟨v5,c⟩:=c;rw[c]at t5
  obtain⟨R,row,e,S,_⟩:=GZ (Q:=λ_=>True) (tv:=amW) (sz:=1) Tryz.underlying54 κ δ (λ_=>rfl) (λ{fuel q x} h=>by
   obtain⟨b,f,_⟩:=DataW.trod_bool Tryz.underlying4 h;exact⟨b,by rw[f];rfl,trivial⟩) t5
  refine⟨⟨n0,E,G,J,L,R,O⟩,row,?_,S,wf_u64 N⟩;have d0:=gG q 0 1;have d1:=gG q 1 1;have d2:=gG q 2 32;have d3:=gG q 34 1;have d4:=gG q 35 1;have d5:=gG q 36 1;have d6:=gG q 37 16;have d7:q.drop (37+16)=[]:=ano ω;rw[f]at d0;rw[F]at d1;rw[I]at d2;rw[K]at d3;rw[M]at d4;rw[c]at d5;rw[P,d7]at d6;rw[ang]at d0;rw[d0,show(0+1)=1 from rfl,d1,show(1+1)=2 from rfl,d2,show(2+32)=34 from rfl,d3,show(34+1)=35 from rfl,d4,show(35+1)=36 from rfl,d5,show(36+1)=37 from rfl,d6,e];simp[Ms.tv,anz,amO,amN]
theorem Yc{q:List Value}{x:DataW H×List MemPlace}(h:am7 enc Tryz.prog w base (λ_=>true) held fuel 60 q=some x):
 ∃v:Act×List Bool,q=v.1.tv.cells/\(aj 1 w.heap v.1.qy.bits (aY v.2)/\(am4 .i64 v.1.peer).wf=true/\Board.j9 v.1.qy):=by
 have j:∃f0 f1 f2 f3 f4 f5:Field,Tryz.prog.underlying 60=some (.struct #[f0,f1,f2,f3,f4,f5])/\(f0.type=3/\f0.offset=0)/\(f1.type=3/\f1.offset=1)/\(f2.type=9/\f2.offset=2)/\
  (f3.type=58/\f3.offset=3)/\(f4.type=3/\f4.offset=56)/\(f5.type=4/\f5.offset=57):=⟨_,_,_,_,_,_,Tryz.underlying60,⟨rfl,rfl⟩,⟨rfl,rfl⟩,⟨rfl,rfl⟩,⟨rfl,rfl⟩,⟨rfl,rfl⟩,⟨rfl,rfl⟩⟩
 obtain⟨f0,f1,f2,f3,f4,f5,k,c,d,e,f,g,i⟩:=j;have l:Tryz.prog.cellsOf 60=58:=κ;have b:Tryz.prog.cellsOf 3=1:=κ;have m:Tryz.prog.cellsOf 9=1:=κ;have o:Tryz.prog.cellsOf 4=1:=κ;have p:Tryz.prog.cellsOf 58=53:=κ;obtain⟨r,n,_,_,s,t,a⟩:=anm k h;rw[l]at s
 match r,t with
 |[M,N,O,P,Q,R],_=>
  have t0:=a 0 f0 rfl;have t1:=a 1 f1 rfl;have t2:=a 2 f2 rfl;have t3:=a 3 f3 rfl;have t4:=a 4 f4 rfl;have t5:=a 5 f5 rfl;rw[c.1,c.2,b]at t0;rw[d.1,d.2,b]at t1;rw[e.1,e.2,m]at t2;rw[f.1,f.2,p]at t3;rw[g.1,g.2,b]at t4;rw[i.1,i.2,o]at t5;clear a h;obtain⟨n0,u,_,_⟩:=amQ Tryz.underlying3 t0;obtain⟨y,z,_,A⟩:=amQ Tryz.underlying3 t1;obtain⟨B,C,_,_⟩:=DataW.trod_string Tryz.underlying9 t2;obtain⟨D,row,E,F,G⟩:=abg t3;obtain⟨I,J,_,_⟩:=amQ Tryz.underlying3 t4;obtain⟨K,L,_⟩:=DataW.trod_bool Tryz.underlying4 t5;refine⟨(⟨n0,y,B.data.toList,D,I,K⟩,row),?_,F,A,G⟩;have d0:=gG q 0 1;have d1:=gG q 1 1;have d2:=gG q 2 1;have d3:=gG q 3 53;have d4:=gG q 56 1;have d5:=gG q 57 1;have d6:q.drop (57+1)=[]:=ano ω;rw[u]at d0;rw[z]at d1;rw[C]at d2;rw[E]at d3;rw[J]at d4;rw[L,d6]at d5;rw[ang]at d0;rw[d0,show(0+1)=1 from rfl,d1,show(1+1)=2 from rfl,d2,show(2+1)=3 from rfl,d3,show(3+53)=56 from rfl,d4,show(56+1)=57 from rfl,d5];simp[Act.tv,anz,amO]
structure FM where
 c:Cf
 A:Sl
def FM.tv(p:FM):TV:=.agg [p.c.tv,.slice p.A]
theorem FN{r:Reach}{E:Nat}{v:Value}{d:DataW H}{p:List MemPlace}(A:Value.okWide Tryz.prog w r E 42 v)(h:DataW.Trod enc Tryz.prog w base (λ_=>true) held 42 v d p):
 ∃q:FM,(∃V B,qu w.heap q.c V q.A B)/\v=q.tv.val:=by
 have t:∃f0 f1:Field,Tryz.prog.underlying 42=some (.struct #[f0,f1])/\(f0.type=24/\f0.offset=0)/\(f1.type=40/\f1.offset=12):=⟨_,_,Tryz.underlying42,⟨rfl,rfl⟩,⟨rfl,rfl⟩⟩;obtain⟨f0,f1,i,j,k⟩:=t;have u:Tryz.prog.cellsOf 42=13:=κ;have y:Tryz.prog.cellsOf 24=12:=κ;have z:Tryz.prog.cellsOf 40=1:=κ;unfold Value.okWide at A;rw[i]at A;simp only at A;obtain⟨a,rfl,K,_⟩:=A;obtain⟨fuel,l⟩:=h;have m:am7 enc Tryz.prog w base (λ_=>true) held fuel 42 a.toList=some (d,p):=l;obtain⟨B,n,_,_,C,D,f⟩:=anm i m;rw[u]at C
 match B,D with
 |[M,N],_=>
  have t0:=f 0 f0 rfl;have t1:=f 1 f1 rfl;rw[j.1,j.2,y]at t0;rw[k.1,k.2,z]at t1;clear f l m;obtain⟨c,V,F,G,I⟩:=abf t0
  have b:∃v,(a.toList.drop 12).take 1=[v]:=by
   refine⟨a.toList[12],?_⟩;rw[List.drop_eq_getElem_cons ω];rfl
  obtain⟨v1,b⟩:=b;rw[b]at t1;obtain⟨o,L,e,J,s⟩:=GZ (Q:=λv:Act×List Bool=>aj 1 w.heap v.1.qy.bits (aY v.2)/\(am4 .i64 v.1.peer).wf=true/\Board.j9 v.1.qy) (tv:=λv=>v.1.tv) (sz:=58) Tryz.underlying40 κ δ (λv=>by rw[FL,<-CW]) (λ{fuel a x} h=>Yc h) t1;refine⟨⟨c,o⟩,⟨V,L,G,I,⟨J,λx g=>(s x g).1⟩,λx g=>(s x g).2⟩,?_⟩;have d0:=gG a.toList 0 12;have d1:=gG a.toList 12 1;have d2:a.toList.drop (12+1)=[]:=ano ω;rw[F]at d0;rw[b,d2]at d1;rw[ang]at d0;rw[show(0+12)=12 from rfl,d1,e]at d0;have:a=(c.tv.cells++([(TV.slice o).val]++[])).toArray:=by rw[<-d0]
  rw[this];simp[FM.tv,amN,anz,amO]
end
end Gate
namespace Gate
open Board (Vd Cf Ms bw mB ud yO)
def aV:List Vd:=[⟨5,[107]⟩]
def aC(s:Sl):Cf:=⟨s,4,1,9,1,1,1,1,99,1,9,1⟩
def m_:Bs 32:=wP (aC amL) aV
def aM(t:Bs 16):Ms:=⟨1,1,m_,0,0,amL,t⟩
def ag8:Bs 16:=ud aV (aM (amU 16)) [] 0
end Gate
namespace Gate
open Board (Vd Cf Ms Dm bw mB ud mX a_ kj dF mem fI dU)
open Pool (It has)
theorem ag9:mem 1 1 1=[0]:=by
 have:Board.Tu 1 1=[⟨Board.tR 1 0,0⟩]:=rfl;unfold mem Board.sorted;rw[if_neg δ,this,List.mergeSort_singleton];rfl
theorem UK(t:Bs 16):a_ 1 1 (aM t) []=([0],true):=by
 have a:dU (aM t) []=true:=by rfl
 unfold a_;rw[if_neg (by rw[a];decide),if_neg (show¬(aM t).kind=3 by show¬(1:Int)=3;decide),show(aM t).slot=1 from rfl,ag9,if_neg (λh=>h.2 rfl),if_neg (show¬Board.idx [0] (aM t).ax 0<0 by show¬Board.idx [0] 0 0<0;decide)];rfl
def aTg:Bs 16:=fI [ag8] (amU 16)
abbrev qz:Ms:=aM aTg
theorem adN(t:Bs 16):mB 1 1 aV (aM t) []=(aTg,true):=by
 unfold mB;rw[UK];rfl
theorem af6:mX 1 1 aV (aM (amU 16)) []=(qz,true):=by
 unfold mX;rw[adN];rfl
theorem abh:kj 1 1 aV qz []=true:=by
 unfold kj;rw[adN];show(true&&decide (aTg.l=aTg.l))=true;rw[decide_eq_true rfl];rfl
def VZ:LU:=Board.yO qz []
def aDm:Dm:=⟨1,1,m_,0,0,[],aTg⟩
theorem af7:(match dF VZ with
 |some d=>decide (d.kind=1)&&(decide (d.slot=1)&&(decide (d.target.l=m_.l)&&(decide (d.ax=0)&&(decide (d.body=0)&&(decide (d.row=[])&&decide (d.tag.l=aTg.l))))))
 |none=>false)=true:=κ
theorem af8:dF VZ=some aDm:=by
 have h:=af7;cases a:dF VZ with
 |none=>rw[a]at h;cases h
 |some d=>
  rw[a]at h;simp only[Bool.and_eq_true,decide_eq_true_eq]at h;obtain⟨c,e,f,i,j,l,n⟩:=h;obtain⟨k,s,t,m,b,r,g⟩:=d;dsimp only at c e f i j l n;subst c e i j l;rw[Bs.ext' f,Bs.ext' n];rfl
theorem abi:decide ((bw qz []).l=m_.l)=false:=κ
theorem af9:dF [120]=none:=by rfl
def Es:List Nd:=[⟨m_,0,-1⟩]
def Lr:List Nd:=[⟨m_,0,-1⟩,⟨bw qz [],1,0⟩]
theorem aeP:decide ((mU Lr (bZ (aL aV) (iQ 1 4) Lr)).l=(bw qz []).l)=true:=κ
theorem aga:mU Lr (bZ (aL aV) (iQ 1 4) Lr)=bw qz []:=Bs.ext' (of_decide_eq_true aeP)
theorem adO:place (bw qz []) Es<0:=by
 rw[lV];intro h;have h:bw qz []=m_:=by simpa[Es]using h
 have:=of_decide_eq_false abi;exact this (by rw[h])
theorem PG:place m_ Es=0:=gX (L:=Es) (i:=0) (x:=⟨m_,0,-1⟩) (by simp[Es]) rfl
theorem acP:place (bw qz []) Lr=1:=by
 refine gX (L:=Lr) (i:=1) (x:=⟨bw qz [],1,0⟩) ?_ rfl;have h:=of_decide_eq_false abi;simp only[Lr,List.map_cons,List.map_nil,List.nodup_cons,anv,List.not_mem_nil,not_false_eq_true,List.nodup_nil,and_true];exact λe=>h (by rw[e])
def Ct(N:List Nd)(P:List (Int×Int))(g:Int):St:=⟨N,iQ 1 4,[],[],P,g,1,0⟩
section
variable{s:Sl}{P:List (Int×Int)}{g:Int}
theorem aeQ:wP (aC s) aV=m_:=rfl
theorem agb:fC (aC s) aV (iq (aC s) aV)=(true,Ct Es [] 0):=by
 unfold fC;rw[if_neg (show¬(1073741824:Int)<=(iq (aC s) aV).now by show¬(1073741824:Int)<=0;decide)]
 have e:dW (iQ 1 4) (Vc.mx (0+1-Clock.fB 1) 0)=iQ 1 4:=by
  unfold dW;split<;>rfl
 show(true,(⟨[⟨wP (aC s) aV,0,-1⟩],dW (iQ 1 4) (Vc.mx (0+1-Clock.fB 1) 0),[],[],[],0,0+1,0⟩:St))=_;rw[e,aeQ];rfl
theorem agc{N:List Nd}{p:Int}(q:¬am3 P p<=-9):aG (aC s) aV (Ct N P g) p [120]=(5,Ct N P g):=by
 unfold aG;rw[if_neg (show¬decide (am3 (Ct N P g).sc p<=-(aC s).bH)=true by rw[decide_eq_true_eq];exact q),if_neg (show¬(aC s).iy<(([120]:LU).length:Int) by show¬(99:Int)<(([120]:LU).length:Int);decide),af9]
theorem agd:¬(99:Int)<(VZ.length:Int):=by
 have:=Board.oD qz [];unfold VZ;simp only[anw]at this;omega
theorem acQ{p:Int}(q:¬am3 P p<=-9):aG (aC s) aV (Ct Es P g) p VZ=(0,Ct Lr P g):=by
 have b:dw (aC s) aV (Ct Es P g) qz []=0:=by
  have a:fK (aC s) (Ct Es P g) 1 1=true:=by rfl
  have c:iD (Ct Es P g) 1 (bw qz [])=false:=by
   unfold iD;rw[if_pos rfl];have:=adO;show(decide (0<=place (bw qz []) Es)||has (bw qz []) [])=false;rw[decide_eq_false ω];rfl
  unfold dw
  rw[show fK (aC s) (Ct Es P g) qz.kind qz.slot=true from a,if_neg δ,show(a_ aV.length (aC s).aQ qz []).2=true by rw[show aV.length=1 from rfl,show(aC s).aQ=1 from rfl,UK],if_neg δ,
   show kj aV.length (aC s).aQ aV qz []=true from abh,if_neg δ,show iD (Ct Es P g) qz.kind (bw qz [])=false from c,if_neg δ]
 unfold aG;rw[if_neg (show¬decide (am3 (Ct Es P g).sc p<=-(aC s).bH)=true by rw[decide_eq_true_eq];exact q),if_neg (show¬(aC s).iy<(VZ.length:Int)from agd),af8];show(if dw (aC s) aV (Ct Es P g) qz []≠0 then _ else if(1:Int)=1 then c5 (aC s) (Ct Es P g) p qz [] VZ else _)=_;rw[b,if_neg (by simp),if_pos rfl];unfold c5;have d:c8 Es (place m_ Es)=(⟨m_,0,-1⟩,true):=by rw[PG];rfl
 rw[show c8 (Ct Es P g).N (place qz.target (Ct Es P g).N)=(⟨m_,0,-1⟩,true)from d,if_neg δ];show(if(1:Int)<=0 then((10:Int),Ct Es P g)else if(9:Int)-((Es.length:Nat):Int)=0 then(13,Ct Es P g)else(0,lQ 9 (bw qz []) m_ 1 (Ct Es P g)))=_;rw[if_neg δ,if_neg δ]
 have a:gw Es 9 (bw qz []) m_ 1=Lr:=by
  have f:=adO
  have e:nV Es 9 (bw qz []) m_ 1=0:=by
   unfold nV;rw[if_neg ω,PG];rfl
  unfold gw;rw[if_pos e,PG];rfl
 unfold lQ;rw[show(Ct Es P g).N=Es from rfl,a];rfl
theorem acR{p:Int}(q:¬am3 P p<=-9):aG (aC s) aV (Ct Lr P g) p VZ=(9,Ct Lr P g):=by
 have a:dw (aC s) aV (Ct Lr P g) qz []=9:=by
  have b:fK (aC s) (Ct Lr P g) 1 1=true:=by rfl
  have c:iD (Ct Lr P g) 1 (bw qz [])=true:=by
   unfold iD;rw[if_pos rfl];have:=acP;show(decide (0<=place (bw qz []) Lr)||has (bw qz []) [])=true;rw[decide_eq_true ω];rfl
  unfold dw
  rw[show fK (aC s) (Ct Lr P g) qz.kind qz.slot=true from b,if_neg δ,show(a_ aV.length (aC s).aQ qz []).2=true by rw[show aV.length=1 from rfl,show(aC s).aQ=1 from rfl,UK],if_neg δ,
   show kj aV.length (aC s).aQ aV qz []=true from abh,if_neg δ,show iD (Ct Lr P g) qz.kind (bw qz [])=true from c,if_pos rfl]
 unfold aG;rw[if_neg (show¬decide (am3 (Ct Lr P g).sc p<=-(aC s).bH)=true by rw[decide_eq_true_eq];exact q),if_neg (show¬(aC s).iy<(VZ.length:Int)from agd),af8];show(if dw (aC s) aV (Ct Lr P g) qz []≠0 then(dw (aC s) aV (Ct Lr P g) qz [],Ct Lr P g)else _)=_;rw[a,if_pos δ]
end
end Gate
namespace Gate
open Board (Vd Cf jx aq)
def V0:List Vd:=[⟨5,(am8 #[(107:UInt8)]).data.toList⟩]
def c0(s:Sl):Cf:=⟨s,4,1,9,1,1,1,1,99,9,9,1⟩
theorem ahm(s:Sl):uz (c0 s) V0=true:=by rfl
theorem ahn(s:Sl):eR (c0 s) V0=⟨9,1,1,1,1,4⟩:=by
 unfold eR;rw[if_pos (ahm s)];rfl
theorem ahs(c:Cf):cc (iq c V0)=⟨1,0,0,0,0,0⟩:=by
 have:bN (iQ 1 c.ep) 64=0:=by rfl
 unfold cc iq;show Pt.mk _ _ _ _ (bN (iQ 1 c.ep) 64) _=_;rw[this];rfl
theorem afw{q:Rq}{h:af}(A:∀l,Ext h l->q (amW true).val l):Cl 17 [] h q:=by
 apply Ob;delta aO d_ Zd bA lq fD
 have m:=Vc.Own.new (T:=137) (sz:=2) h (jx V0) (λt b=>by
  obtain⟨x,_,rfl⟩:=anf.1 b;rfl)
 have u:amO [amZ [TV.i 5,am6 (am8 #[(107:UInt8)]).data.toList]]=amO (jx V0):=rfl;rw[u];have n:=am9 h (row (amO (jx V0)) 137);have v:(h.push (row (amO (jx V0)) 137)).size=h.size+1:=by simp
 generalize h.push (row (amO (jx V0)) 137)=w at m n v⊢;refine aa λH v1 y I=>aq (t:=(c0 ⟨some ⟨h.size,0⟩,1,1⟩).tv) v1 rfl rfl λo d f2 J=>?_;have p:Ext w o:=amK y f2 λi z=>amR (amS z);have e:aj 2 o (c0 ⟨some ⟨h.size,0⟩,1,1⟩).vals (jx V0):=m.elems.ext p;refine⟨_,_,_,_,_,_,_,_,_,_,_,_,d.at,?_⟩;refine Nl (c:=c0 ⟨some ⟨h.size,0⟩,1,1⟩) (V:=V0) e (show 1<100000 by decide) (λr=>by rw[ahm]at r;cases r) λk K g a s L B C _ _=>⟨_,_,rfl,amY ?_⟩;refine acX B λM D=>?_;have f:=C.trans D;rw[ahs];refine⟨_,_,_,_,_,_,rfl,amY ?_⟩;have v4:=d.ext f;refine⟨_,_,_,_,_,_,_,_,_,_,_,_,v4.at,?_⟩;refine acn (c:=c0 ⟨some ⟨h.size,0⟩,1,1⟩) (V:=V0) (e.ext f) (show 1<100000 by decide) λN E=>?_;rw[ahn];refine⟨_,_,_,_,_,_,rfl,amY ?_⟩;have j:=f.trans E;refine⟨_,_,_,_,_,_,_,_,_,_,_,_,(d.ext j).at,?_⟩;refine abv (c:=c0 ⟨some ⟨h.size,0⟩,1,1⟩) (V:=V0) (e.ext j) (show 1<100000 by decide) λF G=>⟨_,rfl,?_⟩;have b:xN (eR (c0 ⟨some ⟨h.size,0⟩,1,1⟩) V0)=1968:=by rw[ahn];rfl
 rw[b];exact A F ((n.trans p).trans (j.trans G))
end Gate
namespace Gate
open Board (Vd Cf Ms Gw jx aq bw mX bh bB fR cv)
theorem adP(s:Sl):uz (aC s) aV=true:=by rfl
theorem aeR(s:Sl):Can (aC s) aV:=mR.1 (adP s)
theorem nc{R:Rq}{h:af}(hr:∀h',Ext h h'->R (amW true).val h'):Cl 25 [] h R:=by
 apply xR;delta kU fk aO uR d_ Zd bA lq fD
 have on:=Vc.Own.new (T:=137) (sz:=2) h (jx aV) (λt ht=>by
  obtain⟨x,_,rfl⟩:=anf.1 ht;rfl)
 have hc:amO [amZ [TV.i 5,am6 (am8 #[107]).data.toList]]=amO (jx aV):=rfl;rw[hc];have x0:=am9 h (row (amO (jx aV)) 137);have s0:(h.push (row (amO (jx aV)) 137)).size=h.size+1:=by simp
 generalize h.push (row (amO (jx aV)) 137)=h0 at on x0 s0⊢;refine aa λe v1 x1 s1=>aq v1 rfl rfl λf v2 f2 s2=>?_;have W:=amK x1 f2 λi o=>amR (amS o);have e2:=on.elems.ext W;refine⟨_,_,_,_,_,_,_,_,_,_,_,_,v2.at,?_⟩;refine Nl (c:=aC ⟨some ⟨h.size,0⟩,1,1⟩) e2 (show 1<100000 by decide) (λhg=>by cases hg) λk J g a q F3 p3 K X a'=>⟨_,_,rfl,?_⟩;intro Y M;have A:=Sm (aeR q);have kp:Kept {aC ⟨some ⟨h.size,0⟩,1,1⟩with vals:=q} (iq (aC ⟨some ⟨h.size,0⟩,1,1⟩) aV) 0:=⟨A.now,A.AG,A.Cd,A.AH,A.Ek,A.left,A.gone⟩;refine K5 p3 kp λh4 F4 Z O=>⟨_,rfl,?_⟩;have k4:=NC (V:=aV) kp;rw[NA,agb]at Z k4⊢;refine amP (GY Z ⟨_,rfl,amP ?_⟩);refine k_ Z k4 δ δ δ λD P5 n5 F5 B al am=>⟨_,rfl,?_⟩;have u:=agc (s:=⟨some ⟨h.size,0⟩,1,1⟩) (P:=[]) (g:=0) (N:=Es) (p:=1) δ;rw[lR,u]at B am⊢
 have a2:P5=[(1,-4)]/\n5=0:=by
  rcases am with⟨e,_,_⟩|⟨_,_,f,J⟩|⟨_,_,f,_⟩
  ·exact absurd e δ
  ·exact⟨J,f⟩
  ·exact absurd (show(1:Int)<=(([]:List (Int×Int)).length:Int)from f) δ
 obtain⟨rfl,rfl⟩:=a2;have F:=mZ (V:=aV) (c:={aC ⟨some ⟨h.size,0⟩,1,1⟩with vals:=q}) k4 (peer:=1) (text:=[120]) δ (Q:=[(1,-4)]) (n:=0) δ;rw[lR,u]at F;have B:aR D g a {aC ⟨some ⟨h.size,0⟩,1,1⟩with vals:=q} aV (Ct Es [(1,-4)] 0) F5:=B;have F:Kept {aC ⟨some ⟨h.size,0⟩,1,1⟩with vals:=q} (Ct Es [(1,-4)] 0) 2:=F;refine amP (B.aaq ⟨_,rfl,?_⟩);obtain⟨r5,a3,_⟩:=B.who;refine Peers.D_ a3 ⟨_,rfl,amP (M _ D ?_)⟩;clear M Y
 have ao:∀i,dm F5 i->f.size<=i:=λi o=>by
  rcases al.new i o with e|e
  ·rcases O.new i e with f|f
   ·obtain⟨j,u⟩:=f;exact X j i u
   ·have:=K.size;omega
  ·have:=K.size;have:=O.only.size;omega
 have x35:Ext f D:=by
  refine amK (amK K O.only λi⟨j,u⟩=>X j i u) al.only λi o=>?_;rcases O.new i o with⟨j,u⟩|f
  ·exact X j i u
  ·have:=K.size;omega
 have v5:=v2.ext x35;have G:=e2.ext x35;have z2:=W.size;intro Y M;refine⟨_,_,_,_,_,_,_,_,_,_,_,_,v5.at,_,_,_,_,_,_,_,_,_,_,_,_,v5.at,?_⟩;have ab:Gw (aC ⟨some ⟨h.size,0⟩,1,1⟩):=FH (V:=aV) (aeR _) rfl;have keys:=wS (aeR q);have ac:∀w,aj 1 w (aM (amU 16)).bits (Board.aY []):=λw=>aj.Bf 1 w;have ad:mX (aC ⟨some ⟨h.size,0⟩,1,1⟩).vals.len (aC ⟨some ⟨h.size,0⟩,1,1⟩).aQ aV (aM (amU 16)) []=(qz,true):=af6
 have ae:∀(w:af)(y:Nat),Var 58 w y qz.tv->Ext D w->D.size<=y->Y (m_,true,some ⟨y,0⟩,true) w:=by
  intro w y vm xh hb;refine M _ w ?_;have ez:∀g',aj 1 g' qz.bits (Board.aY []):=λg'=>aj.Bf 1 g';have p6:=B.ext xh;have bo:Board.j9 qz:=⟨δ,δ⟩;refine⟨_,_,_,_,_,_,_,vm.at,Board.jE (m:=qz) (row:=[]) (ez _) δ (.inl rfl) bo λh6 d=>⟨_,rfl,?_⟩⟩;have E:=p6.ext d
  have tl:VZ.length<1000:=by
   have:=Board.oD qz [];simp only[anw]at this;unfold VZ;omega
  refine k_ E F δ (peer:=2) δ (text:=VZ) tl λH P7 n7 F7 E S ap=>⟨_,rfl,?_⟩;have ar:=acQ (s:=⟨some ⟨h.size,0⟩,1,1⟩) (P:=[(1,-4)]) (g:=0) (p:=2) δ;rw[lR,ar]at E ap⊢
  have a4:P7=[(1,-4)]/\n7=0:=by
   rcases ap with⟨_,f,J⟩|⟨e,_⟩|⟨e,_⟩
   ·exact⟨f,J⟩
   ·exact absurd e δ
   ·exact absurd e δ
  obtain⟨rfl,rfl⟩:=a4;have U:=mZ (V:=aV) (c:={aC ⟨some ⟨h.size,0⟩,1,1⟩with vals:=q}) F (peer:=2) tl (Q:=[(1,-4)]) (n:=0) δ;rw[lR,ar]at U;have E:aR H g a {aC ⟨some ⟨h.size,0⟩,1,1⟩with vals:=q} aV (Ct Lr [(1,-4)] 0) F7:=E;have U:Kept {aC ⟨some ⟨h.size,0⟩,1,1⟩with vals:=q} (Ct Lr [(1,-4)] 0) 3:=U
  have aw:¬dm F5 y:=λhx=>by
   have e:y<D.size:=by
    obtain⟨j,u⟩:=hx;exact B.sep.lt j y u
   omega
  have aE:=(vm.ext d).only S.only aw;refine amY ⟨_,_,_,_,_,_,_,aE.at,Board.jE (m:=qz) (row:=[]) (ez _) δ (.inl rfl) bo λh8 l=>⟨_,rfl,?_⟩⟩;have p8:=E.ext l;refine k_ p8 U δ (peer:=2) δ (text:=VZ) tl λC P9 n9 F9 p9 a0 ba=>⟨_,rfl,?_⟩;have a5:=acR (s:=⟨some ⟨h.size,0⟩,1,1⟩) (P:=[(1,-4)]) (g:=0) (p:=2) δ;rw[lR,a5]at p9⊢
  have a6:¬dm F7 y:=λhx=>by
   rcases S.new y hx with e|e
   ·exact aw e
   ·have:=vm.lt;have:=d.size;omega
  have a7:=(aE.ext l).only a0.only a6;refine amY ⟨_,_,_,_,_,_,_,a7.at,zB p9 λbb a1=>⟨bw qz [],?_,a1,?_⟩⟩
  ·exact congrArg (λb=>(anh 32 b).val) aga
  ·refine Board.cW (m:=qz) (row:=[]) (ez _) δ (.inl rfl) bo λa8 a9=>⟨_,rfl,?_⟩;dsimp only;rw[decide_eq_true rfl];refine hr a8 (Ext.trans ?_ (a1.trans a9));have y7:Ext f H:=amK ((x35.trans xh).trans d) S.only ao
   have y9:Ext f C:=amK (y7.trans l) a0.only λi o=>by
    rcases S.new i o with e|e
    ·exact ao i e
    ·have:=x35.size;have:=xh.size;have:=d.size;omega
   exact(x0.trans W).trans y9
 refine⟨?_,?_⟩
 ·refine cW (c:=aC ⟨some ⟨h.size,0⟩,1,1⟩) (L:=aV) G (show 1<=64 by decide) (λv z=>(keys v z).2) λh6 d=>⟨m_,rfl,d,?_,?_⟩
  ·refine Board.rS (c:=aC ⟨some ⟨h.size,0⟩,1,1⟩) (m:=aM (amU 16)) (row:=[]) (L:=aV) ab (G.ext d) (λv z=>by have:=(keys v z).2;omega) (ac _) δ ⟨δ,δ⟩ λH r=>?_;rw[ad];refine⟨_,_,_,_,_,_,_,true,rfl,aa λh8 v8 l s8=>⟨l,aq (t0:=bh.tv) v8 (t:=qz.tv) cv fR λC I f9 s9=>?_⟩⟩;exact ae C _ I ((d.trans r).trans (amK l f9 λi o=>amR (amS o))) (d.trans r).size
  ·refine aa λH v7 r s7=>⟨r,?_⟩;refine Board.rS (c:=aC ⟨some ⟨h.size,0⟩,1,1⟩) (m:=aM (amU 16)) (row:=[]) (L:=aV) ab ((G.ext d).ext r) (λv z=>by have:=(keys v z).2;omega) (ac _) δ ⟨δ,δ⟩ λh8 l=>?_;rw[ad];refine⟨_,_,_,_,_,_,_,true,rfl,aq (t0:=bh.tv) (Var.ext (t:=bh.tv) v7 l) (t:=qz.tv) cv fR λC I f9 s9=>?_⟩;exact ae C _ I (amK ((d.trans r).trans l) f9 λi o=>by have:=d.size;omega) d.size
 ·refine aa λh6 v6 d s6=>⟨d,?_⟩;refine cW (c:=aC ⟨some ⟨h.size,0⟩,1,1⟩) (L:=aV) (G.ext d) (show 1<=64 by decide) (λv z=>(keys v z).2) λH r=>⟨m_,rfl,r,?_⟩;refine Board.rS (c:=aC ⟨some ⟨h.size,0⟩,1,1⟩) (m:=aM (amU 16)) (row:=[]) (L:=aV) ab ((G.ext d).ext r) (λv z=>by have:=(keys v z).2;omega) (ac _) δ ⟨δ,δ⟩ λh8 l=>?_;rw[ad];refine⟨_,_,_,_,_,_,_,true,rfl,aq (t0:=bh.tv) (Var.ext (t:=bh.tv) v6 (r.trans l)) (t:=qz.tv) cv fR λC I f9 s9=>?_⟩;exact ae C _ I (amK ((d.trans r).trans l) f9 λi o=>ω) (ank _)
end Gate
namespace Gate
open Board (Vd Cf Ms jx aq bh dF)
open Pool (It Fit eM Dw rts dY cV)
def zW(h1 hL hh:af)(mid g m:Nat)(c:Cf)(q:Sl)(V:List Vd)(s:St)(k:Nat)(peer:Int)(t:LU):Prop:=
 ∃a b P d e P1 n,Co hh g m a b c q V {(aG c V s peer t).2 with sc:=P1,gone:=s.gone+n} (gh s P) d e/\At h1 hL hh mid d e/\
  s.sc.Perm P/\Peers.Good s.sc/\Kept c s k/\SG s k/\anl c.pe s.sc peer (iu (aG c V s peer t).1) P1 n
def ade(c:Cf)(V:List Vd)(s:St)(peer:Int)(t:LU)(A:St):Prop:=
 ∃P n,A={(aG c V s peer t).2 with sc:=P,gone:=s.gone+n}/\anl c.pe s.sc peer (iu (aG c V s peer t).1) P n
section
variable{R:Rq}{h1 hL hh h':af}{mid g m:Nat}{c:Cf}{q:Sl}{V:List Vd}{s:St}{k:Nat}{peer:Int}{t:LU}
theorem zW.ext(p:zW h1 hL hh mid g m c q V s k peer t)(x:Ext hh h'):zW h1 hL h' mid g m c q V s k peer t:=by
 obtain⟨a,b,P,d,e,P1,n,f,h,r⟩:=p;exact⟨a,b,P,d,e,P1,n,f.ext x,h.more x,r⟩
theorem zW.told(p:zW h1 hL hh mid g m c q V s k peer t){T Q:Sl}{A:List (LU)}{B:List (Bs 32)}(w:Told hL mid T Q A B):aj 1 hh T (strs A):=by
 obtain⟨a,b,P,e,f,P1,n,h,d,r⟩:=p;exact w.ah d
theorem zW.base(p:zW h1 hL hh mid g m c q V s k peer t):Ext h1 hh:=by
 obtain⟨a,b,P,e,f,P1,n,h,d,r⟩:=p;exact d.base
theorem dc.left{A:af}(p:dc h1 hL A mid g m c q V s k)(x:Ext A hh)(B:k<100000)(E:(am4 .i64 peer).wf=true)(G:t.length<1000)
 (H:∀h',zW h1 hL h' mid g m c q V s k peer t->(∀{e T tv},A.size<=e->Var T hh e tv->Var T h' e tv)->R (TV.i (aG c V s peer t).1).val h'):
 Cl 20 [.ptr (PT g),.i peer,.str t] hh R:=by
 obtain⟨a,b,P,F,n,p,o⟩:=p;have d:=p.kept;have f:=p.ext x;have r:Kept {c with vals:=q} s k:=⟨d.now,d.AG,d.Cd,d.AH,d.Ek,d.left,d.gone⟩;refine k_ (c:={c with vals:=q}) f.p.G r B E G λu P1 w y h z j=>?_;rw[lR]at h j⊢;obtain⟨C,l⟩:=f.p.left h z;exact H u ⟨a,b,P,y,n,P1,w,C,(o.more x).step l,p.perm,p.good,d,p.iz,j⟩ λI v=>v.only l.only λD=>by have:=p.p.lt _ D;omega
theorem zW.right{B:af}(p:zW h1 hL B mid g m c q V s k peer t)(x:Ext B hh)(E:k<100000)(G:(am4 .i64 peer).wf=true)(A:t.length<1000)
 (H:∀h' f,dc h1 hL h' mid g m c q V f (k+1)->Ext h1 h'->ade c V s peer t f->R (TV.i (aG c V s peer t).1).val h'):
 Cl 43 [.ptr (PT m),.i peer,.str t] hh R:=by
 obtain⟨a,b,P,r,N,P1,u,p,v,h,j,d,w,e⟩:=p.ext x;have y:am3 P peer=am3 s.sc peer:=(Peers.oL h j.one peer).symm;have z:=HU (c:=c) (V:=V) (s:=s) (P:=P) (peer:=peer) (text:=t) y;refine Dz p.D (PD d) E G A λC D O F l I n=>?_;rw[z]at l n⊢;obtain⟨J,K⟩:=Peers.Ci h j.one e n;subst K;obtain⟨L,M⟩:=p.right l I;have o:=v.step M;exact H C _ ⟨a,b,D,r,F,⟨L,J,mZ d A (GX e),UB (GW d w A)⟩,o⟩ o.base ⟨P1,u,rfl,e⟩
end
end Gate
namespace Gate
open Board (Vd Cf Ms jx aq bh dF bw)
open Pool (It Fit eM Dw rts dY cV has dP dy bq)
theorem adf{r:Bs 32}{S:List It}{x:It}(h:x∈S)(e:x.root=r):has r S=true:=List.any_eq_true.2 ⟨x,h,decide_eq_true e⟩
section
variable{no:Int}{r:Bs 32}
theorem abo:∀(L:List It)(s:St)(q:List (Bs 32)),∃X,(L.foldl (aW no r) (s,q)).1.N=s.N++X
 |[],_,_=>⟨[],(ann _).symm⟩
 |x::L,s,q=>by
  rw[anp];obtain⟨p,A⟩:∃p,p=aW no r (s,q) x:=⟨_,rfl⟩
  have:∃Y,p.1.N=s.N++Y:=by
   rw[A];unfold aW gw
   repeat' split
   all_goals first|exact⟨_,rfl⟩|exact⟨[],(ann _).symm⟩
  rw[<-A];obtain⟨X,a⟩:=abo L p.1 p.2;obtain⟨Y,b⟩:=this;exact⟨Y++X,by rw[a,b,List.append_assoc]⟩
theorem Lv:∀(f:Nat)(q:List (Bs 32))(s:St),∃X,(fZ no f q s).N=s.N++X
 |0,_,_=>⟨[],(ann _).symm⟩
 |_+1,[],_=>⟨[],(ann _).symm⟩
 |f+1,r::q,s=>by
  unfold fZ;obtain⟨X,A⟩:=Lv f ((s.kids.filter λx=>decide (x.fr=r)).foldl (aW no r) ({s with kids:=s.kids.filter λx=>!decide (x.fr=r)},q)).2 ((s.kids.filter λx=>decide (x.fr=r)).foldl (aW no r) ({s with kids:=s.kids.filter λx=>!decide (x.fr=r)},q)).1;obtain⟨Y,a⟩:=abo (no:=no) (r:=r) (s.kids.filter λx=>decide (x.fr=r)) {s with kids:=s.kids.filter λx=>!decide (x.fr=r)} q;exact⟨Y++X,by rw[A,a,List.append_assoc]⟩
end
theorem NH{N X:List Nd}(h:N≠[]):c8 (N++X) 0=c8 N 0:=by
 cases N with
 |nil=>exact absurd rfl h
 |cons a l=>rfl
section
variable{c:Cf}{V:List Vd}{s:St}{peer:Int}{t:LU}
end
end Gate
namespace Gate
open Board (Vd Cf Ms jx aq bh dF bw)
open Pool (It Fit eM Dw rts dY cV has dP dy bq)
section
variable{N M:List Nd}{most most':Int}
theorem abr(o:rz N most):∀i,i<N.length->bO (bQ N) 0 i=true:=by
 intro i
 induction i using Nat.strongRecOn with
 |ind i c=>
  intro b;rw[fO o.tree b];rcases Nat.eq_zero_or_pos i with a|a
  ·simp[a]
  ·have:=o.tree i a b;rw[c _ this ω];simp[a]
theorem Sz{n:Nat}{par:Nat->Nat}{s:Nat->Int}{r:Nat->LU}(up:Up n par)(q:Names n r):∀f k,k<n->n-k<=f+1->iL n par s r (vX n par s r f k)=none
 |0,k,c,d=>by
  unfold vX;cases a:iL n par s r k with
  |none=>rfl
  |some b=>have:=mK up q a;omega
 |f+1,k,c,d=>by
  unfold vX;cases a:iL n par s r k with
  |none=>exact a
  |some b=>
   have:=mK up q a;exact Sz up q f b this.2.1 ω
end
def HW(s:St):Prop:=∀x∈s.kids,(bT s).slot<x.slot
section
variable{c:Cf}{V:List Vd}{s s':St}
theorem SA(o:rz s.N c.no):place (bT s).root s.N=0:=by
 have h:=o.Gf;have a:s.N[0]? =some s.N[0]:=amT h;unfold bT;rw[show(0:Int)=((0:Nat):Int)from rfl,sW a];exact gX o.nodup a
theorem adi{want:Int->Bool}{most quota peer:Int}{t:LU}{S:List It}{x:It}(h:x∈(dY want most quota peer t S).2.2):x∈S\/∃d,dF t=some d/\x=bq d peer t:=by
 unfold dY at h;split at h
 ·exact .inl h
 ·rename_i d a;split at h
  ·have ins:∀{L:List It},x∈dP (bq d peer t) L->x=bq d peer t\/x∈L:=λb=>List.mem_cons.1 ((dy _ _).mem_iff.1 b);unfold cV at h;dsimp only at h;split at h
   ·exact .inl h
   split at h
   ·exact .inl h
   split at h
   ·rcases ins h with e|e
    ·exact .inr ⟨d,a,e⟩
    ·exact .inl e
   split at h
   ·exact .inl h
   split at h
   ·rcases ins h with e|e
    ·exact .inr ⟨d,a,e⟩
    ·exact .inl (List.dropLast_subset _ e)
   ·exact .inl h
  ·exact .inl h
theorem SC(o:rz s.N c.no)(l:HW s){peer:Int}{t:LU}:HW (aG c V s peer t).2:=by
 unfold aG;split
 ·exact l
 split
 ·exact l
 split
 ·exact l
 rename_i d f;split
 ·exact l
 rename_i g;split
 ·rename_i h
  have i:(bT s).slot<d.slot:=by
   apply Decidable.byContradiction;intro e;apply g
   have j:fK c s (d.ms amL).kind (d.ms amL).slot=false:=by
    unfold fK Clock.vt;rw[if_pos (show(d.ms amL).kind=1 from h),show decide ((bT s).slot<(d.ms amL).slot)=false from decide_eq_false e];rfl
   unfold dw;rw[if_pos j];decide
  unfold c5;split
  ·intro x a;rcases adi a with e|⟨q,b,rfl⟩
   ·exact l x e
   ·rw[f]at b;cases b;exact i
  split
  ·exact l
  split
  ·exact l
  ·intro x a;obtain⟨r,k,_⟩:=CS (no:=c.no) (1+s.kids.length) [bw (d.ms amL) d.row] {s with N:=gw s.N c.no (bw (d.ms amL) d.row) (d.ms amL).target (d.ms amL).slot};obtain⟨X,m⟩:=Lv (no:=c.no) (1+s.kids.length) [bw (d.ms amL) d.row] {s with N:=gw s.N c.no (bw (d.ms amL) d.row) (d.ms amL).target (d.ms amL).slot}
   have n:bT (lQ c.no (bw (d.ms amL) d.row) (d.ms amL).target (d.ms amL).slot s)=bT s:=by
    unfold bT lQ;rw[m];dsimp only
    have:∃Y,gw s.N c.no (bw (d.ms amL) d.row) (d.ms amL).target (d.ms amL).slot=s.N++Y:=by
     unfold gw;split
     ·exact⟨_,rfl⟩
     ·exact⟨[],(ann _).symm⟩
    obtain⟨Y,p⟩:=this;rw[p,List.append_assoc,NH o.ne]
   show(bT (lQ c.no (bw (d.ms amL) d.row) (d.ms amL).target (d.ms amL).slot s)).slot<x.slot;rw[n];exact l x (k x a)
 ·exact l
theorem UL(o:rz s.N c.no)(l:HW s){kind peer:Int}{t:LU}{r:Bs 32}(q:zz c V s kind peer t r s'):HW s':=by
 unfold zz at q;split at q
 ·subst q;unfold fC;split
  ·exact l
  ·exact l
 split at q
 ·subst q;unfold aX;split
  ·exact l
  ·intro x a;have:=(anr.1 a).2;simp only[Bool.not_eq_true',decide_eq_false_iff_not,Int.not_le]at this;exact this
 ·obtain⟨P,n,rfl,_⟩:=q;exact SC (V:=V) o l
theorem Yk:HW (iq c V):=λx a=>by cases a
end
end Gate
end Go.Proofs.YtennbinbffdimaaGreat

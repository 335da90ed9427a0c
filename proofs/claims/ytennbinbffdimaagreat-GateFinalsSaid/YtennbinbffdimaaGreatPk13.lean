/- Texts that the proof needs, joined. -/
import Derived.Test.YtennbinbffdimaaGreatPk12
set_option maxRecDepth 100000
open Go.Vc.Sl renaming nil->anW
open Go.Proofs.YtennbinbffdimaaGreat.Peers renaming score->anX
open List renaming append_nil->anY
namespace Go.Proofs.YtennbinbffdimaaGreat
open Go Go.Vc
namespace Gate
open Board (Vd Cf Ms Dm bw mB ud mX a_ kj dF mem fI dU)
open Pool (It has)
theorem ag9:mem 1 1 1=[0]:=by
 have:Board.Tu 1 1=[⟨Board.tR 1 0,0⟩]:=rfl;unfold mem Board.sorted;rw[if_neg δ,this,List.mergeSort_singleton];rfl
theorem UK(t:Bs 16):a_ 1 1 (aM t) []=([0],true):=by
 have a:dU (aM t) []=true:=by rfl
 unfold a_;rw[if_neg (by rw[a];decide),if_neg (show¬(aM t).kind=3 by show¬(1:Int)=3;decide),show(aM t).slot=1 from rfl,ag9,if_neg (λh=>h.2 rfl),if_neg (show¬Board.idx [0] (aM t).ax 0<0 by show¬Board.idx [0] 0 0<0;decide)];rfl
def aTg:Bs 16:=fI [ag8] (Bs.zero 16)
abbrev qz:Ms:=aM aTg
theorem adN(t:Bs 16):mB 1 1 aV (aM t) []=(aTg,true):=by
 unfold mB;rw[UK];rfl
theorem af6:mX 1 1 aV (aM (Bs.zero 16)) []=(qz,true):=by
 unfold mX;rw[adN];rfl
theorem abh:kj 1 1 aV qz []=true:=by
 unfold kj;rw[adN];show(true&&decide (aTg.l=aTg.l))=true;rw[decide_eq_true rfl];rfl
def VZ:LU:=Board.yO qz []
def aDm:Dm:=⟨1,1,m_,0,0,[],aTg⟩
theorem af7:(match dF VZ with
 |some d=>decide (d.kind=1)&&(decide (d.slot=1)&&(decide (d.target.l=m_.l)&&(decide (d.ax=0)&&(decide (d.body=0)&&(decide (d.row=[])&&decide (d.tag.l=aTg.l))))))
 |none=>false)=true:=κ
theorem af8:dF VZ=some aDm:=by
 have h:=af7;cases a:dF VZ with
 |none=>rw[a]at h;cases h
 |some d=>
  rw[a]at h;simp only[Bool.and_eq_true,decide_eq_true_eq]at h;obtain⟨c,e,f,i,j,l,n⟩:=h;obtain⟨k,s,t,m,b,r,g⟩:=d;dsimp only at c e f i j l n;subst c e i j l;rw[Bs.ext' f,Bs.ext' n];rfl
theorem abi:decide ((bw qz []).l=m_.l)=false:=κ
theorem af9:dF [120]=none:=by rfl
def Es:List Nd:=[⟨m_,0,-1⟩]
def Lr:List Nd:=[⟨m_,0,-1⟩,⟨bw qz [],1,0⟩]
theorem aeP:decide ((mU Lr (bZ (aL aV) (iQ 1 4) Lr)).l=(bw qz []).l)=true:=κ
theorem aga:mU Lr (bZ (aL aV) (iQ 1 4) Lr)=bw qz []:=Bs.ext' (of_decide_eq_true aeP)
theorem adO:place (bw qz []) Es<0:=by
 rw[lV];intro h;have h:bw qz []=m_:=by simpa[Es]using h
 have:=of_decide_eq_false abi;exact this (by rw[h])
theorem PG:place m_ Es=0:=gX (L:=Es) (i:=0) (x:=⟨m_,0,-1⟩) (by simp[Es]) rfl
theorem acP:place (bw qz []) Lr=1:=by
 refine gX (L:=Lr) (i:=1) (x:=⟨bw qz [],1,0⟩) ?_ rfl;have h:=of_decide_eq_false abi;simp only[Lr,List.map_cons,List.map_nil,List.nodup_cons,List.mem_singleton,List.not_mem_nil,not_false_eq_true,List.nodup_nil,and_true];exact λe=>h (by rw[e])
def Ct(N:List Nd)(P:List (Int×Int))(g:Int):St:=⟨N,iQ 1 4,[],[],P,g,1,0⟩
section
variable{s:Sl}{P:List (Int×Int)}{g:Int}
theorem aeQ:wP (aC s) aV=m_:=rfl
theorem agb:fC (aC s) aV (iq (aC s) aV)=(true,Ct Es [] 0):=by
 unfold fC;rw[if_neg (show¬(1073741824:Int)<=(iq (aC s) aV).now by show¬(1073741824:Int)<=0;decide)]
 have e:dW (iQ 1 4) (Vc.mx (0+1-Clock.fB 1) 0)=iQ 1 4:=by
  unfold dW;split<;>rfl
 show(true,(⟨[⟨wP (aC s) aV,0,-1⟩],dW (iQ 1 4) (Vc.mx (0+1-Clock.fB 1) 0),[],[],[],0,0+1,0⟩:St))=_;rw[e,aeQ];rfl
theorem agc{N:List Nd}{p:Int}(q:¬anX P p<=-9):aG (aC s) aV (Ct N P g) p [120]=(5,Ct N P g):=by
 unfold aG;rw[if_neg (show¬decide (anX (Ct N P g).sc p<=-(aC s).bH)=true by rw[decide_eq_true_eq];exact q),if_neg (show¬(aC s).iy<(([120]:LU).length:Int) by show¬(99:Int)<(([120]:LU).length:Int);decide),af9]
theorem agd:¬(99:Int)<(VZ.length:Int):=by
 have:=Board.oD qz [];unfold VZ;simp only[List.length_nil]at this;omega
theorem acQ{p:Int}(q:¬anX P p<=-9):aG (aC s) aV (Ct Es P g) p VZ=(0,Ct Lr P g):=by
 have b:dw (aC s) aV (Ct Es P g) qz []=0:=by
  have a:fK (aC s) (Ct Es P g) 1 1=true:=by rfl
  have c:iD (Ct Es P g) 1 (bw qz [])=false:=by
   unfold iD;rw[if_pos rfl];have:=adO;show(decide (0<=place (bw qz []) Es)||has (bw qz []) [])=false;rw[decide_eq_false ω];rfl
  unfold dw
  rw[show fK (aC s) (Ct Es P g) qz.kind qz.slot=true from a,if_neg δ,show(a_ aV.length (aC s).aQ qz []).2=true by rw[show aV.length=1 from rfl,show(aC s).aQ=1 from rfl,UK],if_neg δ,
   show kj aV.length (aC s).aQ aV qz []=true from abh,if_neg δ,show iD (Ct Es P g) qz.kind (bw qz [])=false from c,if_neg δ]
 unfold aG;rw[if_neg (show¬decide (anX (Ct Es P g).sc p<=-(aC s).bH)=true by rw[decide_eq_true_eq];exact q),if_neg (show¬(aC s).iy<(VZ.length:Int)from agd),af8];show(if dw (aC s) aV (Ct Es P g) qz []≠0 then _ else if(1:Int)=1 then c5 (aC s) (Ct Es P g) p qz [] VZ else _)=_;rw[b,if_neg (by simp),if_pos rfl];unfold c5;have d:c8 Es (place m_ Es)=(⟨m_,0,-1⟩,true):=by rw[PG];rfl
 rw[show c8 (Ct Es P g).N (place qz.target (Ct Es P g).N)=(⟨m_,0,-1⟩,true)from d,if_neg δ];show(if(1:Int)<=0 then((10:Int),Ct Es P g)else if(9:Int)-((Es.length:Nat):Int)=0 then(13,Ct Es P g)else(0,lQ 9 (bw qz []) m_ 1 (Ct Es P g)))=_;rw[if_neg δ,if_neg δ]
 have a:gw Es 9 (bw qz []) m_ 1=Lr:=by
  have f:=adO
  have e:nV Es 9 (bw qz []) m_ 1=0:=by
   unfold nV;rw[if_neg ω,PG];rfl
  unfold gw;rw[if_pos e,PG];rfl
 unfold lQ;rw[show(Ct Es P g).N=Es from rfl,a];rfl
theorem acR{p:Int}(q:¬anX P p<=-9):aG (aC s) aV (Ct Lr P g) p VZ=(9,Ct Lr P g):=by
 have a:dw (aC s) aV (Ct Lr P g) qz []=9:=by
  have b:fK (aC s) (Ct Lr P g) 1 1=true:=by rfl
  have c:iD (Ct Lr P g) 1 (bw qz [])=true:=by
   unfold iD;rw[if_pos rfl];have:=acP;show(decide (0<=place (bw qz []) Lr)||has (bw qz []) [])=true;rw[decide_eq_true ω];rfl
  unfold dw
  rw[show fK (aC s) (Ct Lr P g) qz.kind qz.slot=true from b,if_neg δ,show(a_ aV.length (aC s).aQ qz []).2=true by rw[show aV.length=1 from rfl,show(aC s).aQ=1 from rfl,UK],if_neg δ,
   show kj aV.length (aC s).aQ aV qz []=true from abh,if_neg δ,show iD (Ct Lr P g) qz.kind (bw qz [])=true from c,if_pos rfl]
 unfold aG;rw[if_neg (show¬decide (anX (Ct Lr P g).sc p<=-(aC s).bH)=true by rw[decide_eq_true_eq];exact q),if_neg (show¬(aC s).iy<(VZ.length:Int)from agd),af8];show(if dw (aC s) aV (Ct Lr P g) qz []≠0 then(dw (aC s) aV (Ct Lr P g) qz [],Ct Lr P g)else _)=_;rw[a,if_pos δ]
end
end Gate
namespace Gate
open Board (Vd Cf jx aq)
end Gate
namespace Gate
open Board (Vd Cf Ms Gw jx aq bw mX bh bB fR cv)
theorem adP(s:Sl):uz (aC s) aV=true:=by rfl
theorem aeR(s:Sl):Can (aC s) aV:=mR.1 (adP s)
theorem nc{R:Rq}{h:af}(hr:∀h',Ext h h'->R (TV.bool true).val h'):Cl 25 [] h R:=by
 apply xR;delta kU fk aO uR d_ Zd bA lq fD
 have on:=Vc.Own.new (T:=137) (sz:=2) h (jx aV) (λt ht=>by
  obtain⟨x,_,rfl⟩:=List.mem_map.1 ht;rfl)
 have hc:ak.cells [TV.agg [TV.i 5,TV.str (ByteArray.mk #[(107:UInt8)]).data.toList]]=ak.cells (jx aV):=rfl;rw[hc];have x0:=Ext.push h (row (ak.cells (jx aV)) 137);have s0:(h.push (row (ak.cells (jx aV)) 137)).size=h.size+1:=by simp
 generalize h.push (row (ak.cells (jx aV)) 137)=h0 at on x0 s0⊢;obtain⟨cc,a'⟩:∃cc,cc=aC ⟨some ⟨h.size,0⟩,1,1⟩:=⟨_,rfl⟩;refine aa λe v1 x1 s1=>aq (t:=(aC ⟨some ⟨h.size,0⟩,1,1⟩).tv) v1 rfl rfl λf v2 f2 s2=>?_;have W:Ext h0 f:=ag.cut x1 f2 λi o=>Nat.le_of_eq (Eq.symm o);have e2:aj 2 f (aC ⟨some ⟨h.size,0⟩,1,1⟩).vals (jx aV):=on.elems.ext W;refine⟨_,_,_,_,_,_,_,_,_,_,_,_,v2.at,?_⟩;refine Nl (c:=aC ⟨some ⟨h.size,0⟩,1,1⟩) (V:=aV) e2 (show 1<100000 by decide) (λhg=>by rw[adP]at hg;cases hg) λk J g a q F3 p3 K X ba=>⟨_,_,rfl,?_⟩;intro Y M;refine If.no ?_;have A:=Sm (aeR q);have kp:Kept {aC ⟨some ⟨h.size,0⟩,1,1⟩with vals:=q} (iq (aC ⟨some ⟨h.size,0⟩,1,1⟩) aV) 0:=⟨A.now,A.AG,A.Cd,A.AH,A.Ek,A.left,A.gone⟩;refine K5 p3 kp λh4 F4 Z O=>⟨_,rfl,?_⟩;have k4:=NC (c:={aC ⟨some ⟨h.size,0⟩,1,1⟩with vals:=q}) (V:=aV) kp;rw[NA,agb]at Z k4⊢;refine If.no (GY Z ⟨_,rfl,If.no ?_⟩);refine k_ Z k4 δ (peer:=1) δ (text:=[120]) δ λD P5 n5 F5 B al am=>⟨_,rfl,?_⟩;have u:=agc (s:=⟨some ⟨h.size,0⟩,1,1⟩) (P:=[]) (g:=0) (N:=Es) (p:=1) δ;rw[lR,u]at B am⊢
 have a2:P5=[(1,-4)]/\n5=0:=by
  rcases am with⟨e,_,_⟩|⟨_,_,f,J⟩|⟨_,_,f,_⟩
  ·exact absurd e δ
  ·exact⟨J,f⟩
  ·exact absurd (show(1:Int)<=(([]:List (Int×Int)).length:Int)from f) δ
 obtain⟨rfl,rfl⟩:=a2;have F:=mZ (V:=aV) (c:={aC ⟨some ⟨h.size,0⟩,1,1⟩with vals:=q}) k4 (peer:=1) (text:=[120]) δ (Q:=[(1,-4)]) (n:=0) δ;rw[lR,u]at F;have B:aR D g a {aC ⟨some ⟨h.size,0⟩,1,1⟩with vals:=q} aV (Ct Es [(1,-4)] 0) F5:=B;have F:Kept {aC ⟨some ⟨h.size,0⟩,1,1⟩with vals:=q} (Ct Es [(1,-4)] 0) 2:=F;refine If.no (B.aaq ⟨_,rfl,?_⟩);obtain⟨r5,a3,_⟩:=B.who;refine Peers.D_ a3 ⟨_,rfl,If.no (M _ D ?_)⟩;clear M Y
 have ao:∀i,dm F5 i->f.size<=i:=λi o=>by
  rcases al.new i o with e|e
  ·rcases O.new i e with f|f
   ·obtain⟨j,u⟩:=f;exact X j i u
   ·have:=K.size;omega
  ·have:=K.size;have:=O.only.size;omega
 have x35:Ext f D:=by
  refine ag.cut (ag.cut K O.only λi⟨j,u⟩=>X j i u) al.only λi o=>?_;rcases O.new i o with⟨j,u⟩|f
  ·exact X j i u
  ·have:=K.size;omega
 have v5:=v2.ext x35;have G:=e2.ext x35;have z2:=W.size;intro Y M;refine⟨_,_,_,_,_,_,_,_,_,_,_,_,v5.at,_,_,_,_,_,_,_,_,_,_,_,_,v5.at,?_⟩;have ab:Gw (aC ⟨some ⟨h.size,0⟩,1,1⟩):=FH (V:=aV) (aeR _) rfl;have keys:=wS (aeR q);have ac:∀w,aj 1 w (aM (Bs.zero 16)).bits (Board.aY []):=λw=>aj.Bf 1 w;have ad:mX (aC ⟨some ⟨h.size,0⟩,1,1⟩).vals.len (aC ⟨some ⟨h.size,0⟩,1,1⟩).aQ aV (aM (Bs.zero 16)) []=(qz,true):=af6
 have ae:∀(w:af)(y:Nat),Var 58 w y qz.tv->Ext D w->D.size<=y->Y (m_,true,some ⟨y,0⟩,true) w:=by
  intro w y vm xh hb;refine M _ w ?_;have ez:∀g',aj 1 g' qz.bits (Board.aY []):=λg'=>aj.Bf 1 g';have p6:=B.ext xh;have bo:Board.j9 qz:=⟨δ,δ⟩;refine⟨_,_,_,_,_,_,_,vm.at,Board.jE (m:=qz) (row:=[]) (ez _) δ (.inl rfl) bo λh6 d=>⟨_,rfl,?_⟩⟩;have E:=p6.ext d
  have tl:VZ.length<1000:=by
   have:=Board.oD qz [];simp only[List.length_nil]at this;unfold VZ;omega
  refine k_ E F δ (peer:=2) δ (text:=VZ) tl λH P7 n7 F7 E S ap=>⟨_,rfl,?_⟩;have ar:=acQ (s:=⟨some ⟨h.size,0⟩,1,1⟩) (P:=[(1,-4)]) (g:=0) (p:=2) δ;rw[lR,ar]at E ap⊢
  have a4:P7=[(1,-4)]/\n7=0:=by
   rcases ap with⟨_,f,J⟩|⟨e,_⟩|⟨e,_⟩
   ·exact⟨f,J⟩
   ·exact absurd e δ
   ·exact absurd e δ
  obtain⟨rfl,rfl⟩:=a4;have U:=mZ (V:=aV) (c:={aC ⟨some ⟨h.size,0⟩,1,1⟩with vals:=q}) F (peer:=2) tl (Q:=[(1,-4)]) (n:=0) δ;rw[lR,ar]at U;have E:aR H g a {aC ⟨some ⟨h.size,0⟩,1,1⟩with vals:=q} aV (Ct Lr [(1,-4)] 0) F7:=E;have U:Kept {aC ⟨some ⟨h.size,0⟩,1,1⟩with vals:=q} (Ct Lr [(1,-4)] 0) 3:=U
  have aw:¬dm F5 y:=λhx=>by
   have e:y<D.size:=by
    obtain⟨j,u⟩:=hx;exact B.sep.lt j y u
   omega
  have aE:=(vm.ext d).only S.only aw;refine If.yes ⟨_,_,_,_,_,_,_,aE.at,Board.jE (m:=qz) (row:=[]) (ez _) δ (.inl rfl) bo λh8 l=>⟨_,rfl,?_⟩⟩;have p8:=E.ext l;refine k_ p8 U δ (peer:=2) δ (text:=VZ) tl λC P9 n9 F9 p9 a0 bb=>⟨_,rfl,?_⟩;have a5:=acR (s:=⟨some ⟨h.size,0⟩,1,1⟩) (P:=[(1,-4)]) (g:=0) (p:=2) δ;rw[lR,a5]at p9⊢
  have a6:¬dm F7 y:=λhx=>by
   rcases S.new y hx with e|e
   ·exact aw e
   ·have:=vm.lt;have:=d.size;omega
  have a7:=(aE.ext l).only a0.only a6;refine If.yes ⟨_,_,_,_,_,_,_,a7.at,zB p9 λbc a1=>⟨bw qz [],?_,a1,?_⟩⟩
  ·exact congrArg (λb=>(TV.bytes 32 b).val) aga
  ·refine Board.cW (m:=qz) (row:=[]) (ez _) δ (.inl rfl) bo λa8 a9=>⟨_,rfl,?_⟩;dsimp only;rw[decide_eq_true rfl];refine hr a8 (Ext.trans ?_ (a1.trans a9));have y7:Ext f H:=ag.cut ((x35.trans xh).trans d) S.only ao
   have y9:Ext f C:=ag.cut (y7.trans l) a0.only λi o=>by
    rcases S.new i o with e|e
    ·exact ao i e
    ·have:=x35.size;have:=xh.size;have:=d.size;omega
   exact(x0.trans W).trans y9
 refine⟨?_,?_⟩
 ·refine cW (c:=aC ⟨some ⟨h.size,0⟩,1,1⟩) (L:=aV) G (show 1<=64 by decide) (λv z=>(keys v z).2) λh6 d=>⟨m_,rfl,d,?_,?_⟩
  ·refine Board.rS (c:=aC ⟨some ⟨h.size,0⟩,1,1⟩) (m:=aM (Bs.zero 16)) (row:=[]) (L:=aV) ab (G.ext d) (λv z=>by have:=(keys v z).2;omega) (ac _) δ ⟨δ,δ⟩ λH r=>?_;rw[ad];refine⟨_,_,_,_,_,_,_,true,rfl,aa λh8 v8 l s8=>⟨l,aq (t0:=bh.tv) v8 (t:=qz.tv) cv fR λC I f9 s9=>?_⟩⟩;exact ae C _ I ((d.trans r).trans (ag.cut l f9 λi o=>Nat.le_of_eq (Eq.symm o))) (d.trans r).size
  ·refine aa λH v7 r s7=>⟨r,?_⟩;refine Board.rS (c:=aC ⟨some ⟨h.size,0⟩,1,1⟩) (m:=aM (Bs.zero 16)) (row:=[]) (L:=aV) ab ((G.ext d).ext r) (λv z=>by have:=(keys v z).2;omega) (ac _) δ ⟨δ,δ⟩ λh8 l=>?_;rw[ad];refine⟨_,_,_,_,_,_,_,true,rfl,aq (t0:=bh.tv) (Var.ext (t:=bh.tv) v7 l) (t:=qz.tv) cv fR λC I f9 s9=>?_⟩;exact ae C _ I (ag.cut ((d.trans r).trans l) f9 λi o=>by have:=d.size;omega) d.size
 ·refine aa λh6 v6 d s6=>⟨d,?_⟩;refine cW (c:=aC ⟨some ⟨h.size,0⟩,1,1⟩) (L:=aV) (G.ext d) (show 1<=64 by decide) (λv z=>(keys v z).2) λH r=>⟨m_,rfl,r,?_⟩;refine Board.rS (c:=aC ⟨some ⟨h.size,0⟩,1,1⟩) (m:=aM (Bs.zero 16)) (row:=[]) (L:=aV) ab ((G.ext d).ext r) (λv z=>by have:=(keys v z).2;omega) (ac _) δ ⟨δ,δ⟩ λh8 l=>?_;rw[ad];refine⟨_,_,_,_,_,_,_,true,rfl,aq (t0:=bh.tv) (Var.ext (t:=bh.tv) v6 (r.trans l)) (t:=qz.tv) cv fR λC I f9 s9=>?_⟩;exact ae C _ I (ag.cut ((d.trans r).trans l) f9 λi o=>ω) (Nat.le_refl _)
end Gate
namespace Gate
open Board (Vd Cf Ms jx aq bh dF)
open Pool (It Fit eM Dw rts dY cV)
def zW(h1 hL hh:af)(mid g m:Nat)(c:Cf)(q:Sl)(V:List Vd)(s:St)(k:Nat)(peer:Int)(t:LU):Prop:=
 ∃a b P d e P1 n,Co hh g m a b c q V {(aG c V s peer t).2 with sc:=P1,gone:=s.gone+n} (gh s P) d e/\At h1 hL hh mid d e/\
  s.sc.Perm P/\Peers.Good s.sc/\Kept c s k/\SG s k/\Peers.lN c.pe s.sc peer (iu (aG c V s peer t).1) P1 n
def ade(c:Cf)(V:List Vd)(s:St)(peer:Int)(t:LU)(A:St):Prop:=
 ∃P n,A={(aG c V s peer t).2 with sc:=P,gone:=s.gone+n}/\Peers.lN c.pe s.sc peer (iu (aG c V s peer t).1) P n
theorem Cu{want:Int->Bool}{most quota peer:Int}{t:LU}{S:List It}(h:3<=(dY want most quota peer t S).1):(dY want most quota peer t S).2.2=S:=by
 unfold dY cV at*
 grind
section
variable{R:Rq}{h1 hL hh h':af}{mid g m:Nat}{c:Cf}{q:Sl}{V:List Vd}{s:St}{k:Nat}{peer:Int}{t:LU}
theorem Md(h:3<=(aG c V s peer t).1):(aG c V s peer t).2=s:=by
 have h1:=@Cu zT c.eV c.quo peer t s.kids;have a:=@Cu zU c.eH c.quo peer t s.wait;revert h;unfold aG c5
 repeat' split
 all_goals first|exact λ_=>rfl|(intro h;first|(dsimp only at h⊢;rw[h1 h])|(dsimp only at h⊢;rw[a h])|(dsimp only at h;omega))
theorem zW.ext(p:zW h1 hL hh mid g m c q V s k peer t)(x:Ext hh h'):zW h1 hL h' mid g m c q V s k peer t:=by
 obtain⟨a,b,P,d,e,P1,n,f,h,r⟩:=p;exact⟨a,b,P,d,e,P1,n,f.ext x,h.more x,r⟩
theorem zW.told(p:zW h1 hL hh mid g m c q V s k peer t){T Q:Sl}{A:List (LU)}{B:List (Bs 32)}(w:Told hL mid T Q A B):aj 1 hh T (strs A):=by
 obtain⟨a,b,P,e,f,P1,n,h,d,r⟩:=p;exact w.ah d
theorem zW.base(p:zW h1 hL hh mid g m c q V s k peer t):Ext h1 hh:=by
 obtain⟨a,b,P,e,f,P1,n,h,d,r⟩:=p;exact d.base
theorem dc.left{A:af}(p:dc h1 hL A mid g m c q V s k)(x:Ext A hh)(B:k<100000)(E:(Lit.int .i64 peer).wf=true)(H:t.length<1000)
 (I:∀h',zW h1 hL h' mid g m c q V s k peer t->(∀{e T tv},A.size<=e->Var T hh e tv->Var T h' e tv)->R (TV.i (aG c V s peer t).1).val h'):
 Cl 20 [.ptr (PT g),.i peer,.str t] hh R:=by
 obtain⟨a,b,P,F,n,p,o⟩:=p;have d:=p.kept;have f:=p.ext x;have r:Kept {c with vals:=q} s k:=⟨d.now,d.AG,d.Cd,d.AH,d.Ek,d.left,d.gone⟩;refine k_ (c:={c with vals:=q}) f.p.G r B E H λu P1 w y h z j=>?_;rw[lR]at h j⊢;obtain⟨C,l⟩:=f.p.left h z;exact I u ⟨a,b,P,y,n,P1,w,C,(o.more x).step l,p.perm,p.good,d,p.iz,j⟩ λG v=>v.only l.only λD=>by have:=p.p.lt _ D;omega
theorem zW.right{B:af}(p:zW h1 hL B mid g m c q V s k peer t)(x:Ext B hh)(E:k<100000)(H:(Lit.int .i64 peer).wf=true)(A:t.length<1000)
 (I:∀h' f,dc h1 hL h' mid g m c q V f (k+1)->Ext h1 h'->ade c V s peer t f->R (TV.i (aG c V s peer t).1).val h'):
 Cl 43 [.ptr (PT m),.i peer,.str t] hh R:=by
 obtain⟨a,b,P,r,N,P1,u,p,v,h,j,d,w,e⟩:=p.ext x;have y:anX P peer=anX s.sc peer:=(Peers.oL h j.one peer).symm;have z:=HU (c:=c) (V:=V) (s:=s) (P:=P) (peer:=peer) (text:=t) y;refine Dz p.D (PD d) E H A λC D O F l G n=>?_;rw[z]at l n⊢;obtain⟨J,K⟩:=Peers.Ci h j.one e n;subst K;obtain⟨L,M⟩:=p.right l G;have o:=v.step M;exact I C _ ⟨a,b,D,r,F,⟨L,J,mZ d A (GX e),UB (GW d w A)⟩,o⟩ o.base ⟨P1,u,rfl,e⟩
theorem zW.fail(p:zW h1 hL hh mid g m c q V s k peer t)(I:3<=(aG c V s peer t).1)(E:(Lit.int .i64 peer).wf=true)(H:t.length<1000)(hk:k<100000):
 ∃w:OL,ah hh m 16 (Value.pointer (Option.map Loc.addr w))/\∀{K:af->Prop},(∀h' J,dc h1 hL h' mid g m c q V J (k+1)->Ext h1 h'->K h')->
  Cl 56 [.i (aG c V s peer t).1] hh λv d=>∃x:Int,v=TV.val (.i x)/\Ext hh d/\
   Cl 55 [.ptr w,.i peer,.i x] d λv f=>v=TV.val (.bg [])/\K f:=by
 obtain⟨a,b,P,D,F,P1,G,p,L,M,N,j,O,n⟩:=p;have Sb:=Li (c:=c) (V:=V) (s:=s) (peer:=peer) (text:=t);have l:=p.D.good;have Q:=p.D.can.pe;have kg:=j.gone;obtain⟨ti,ba,R⟩:=p.D.var;obtain⟨A,B,S,T⟩:=p.D.who;refine⟨_,R.ah rfl,λ{K} U=>FI Sb λd h=>⟨_,rfl,h,?_⟩⟩;refine Peers.Le Peers.Po (S.ext h) ω l.1 E (by show 0<=s.gone/\s.gone<1000000;omega) Q.1 λf A' B' o n3 r W u=>⟨rfl,?_⟩;obtain⟨X,Y⟩:=Peers.Ci M N.one n r;subst Y
 have st:Step (F 5) d (Peers.dV b.wh A' B') f:=by
  rw[T];exact⟨u.1,u.2⟩
 have Z:=HT l.1 l.2 E r;have y:=p.ext h;have D3:=y.D.CR (P:=o) (gone:=s.gone+G) ⟨A',B',W,rfl⟩ Z st;obtain⟨z,s3⟩:=y.right D3 (Step.all st);have C:=(L.more h).step s3;have e:=Md I;refine U f _ ⟨a,b,o,D,_,⟨?_,X,mZ (V:=V) (peer:=peer) (text:=t) j H (GX n),UB (GW (V:=V) (peer:=peer) (text:=t) j O H)⟩,C⟩ C.base;rw[e]at z⊢;exact z
end
end Gate
namespace Gate
open Board (Vd Cf Ms jx aq bh dF bw)
open Pool (It Fit eM Dw rts dY cV has dP dy bq)
theorem adf{r:Bs 32}{S:List It}{x:It}(h:x∈S)(e:x.root=r):has r S=true:=List.any_eq_true.2 ⟨x,h,decide_eq_true e⟩
theorem adg(x:It)(S:List It):x∈dP x S:=(dy x S).mem_iff.2 (List.mem_cons_self ..)
theorem V0{want:Int->Bool}{most quota peer:Int}{t:LU}{S:List It}{d:Board.Dm}(q:dF t=some d)(h:(dY want most quota peer t S).1=1\/(dY want most quota peer t S).1=2):
 has (bw (d.ms anW) d.row) (dY want most quota peer t S).2.2=true:=by
 have e:(bq d peer t).root=bw (d.ms anW) d.row:=rfl;rw[<-e];clear e;revert h;unfold dY;rw[q];dsimp only;generalize bq d peer t=x;by_cases a:want d.kind=true
 ·rw[if_pos a];dsimp only;unfold cV
  repeat' split
  all_goals first|exact λ_=>adf (adg _ _) rfl|(intro h;dsimp only at h;omega)
 ·rw[if_neg a];intro h;dsimp only at h;omega
theorem abn{want:Int->Bool}{most quota peer:Int}{t:LU}{S:List It}:(dY want most quota peer t S).1≠0:=by
 unfold dY;split
 ·dsimp only;decide
 ·split
  ·unfold cV
   repeat' split
   all_goals (dsimp only;decide)
  ·dsimp only;decide
section
variable{no:Int}{r:Bs 32}
theorem abo:∀(L:List It)(s:St)(q:List (Bs 32)),∃X,(L.foldl (aW no r) (s,q)).1.N=s.N++X
 |[],_,_=>⟨[],(anY _).symm⟩
 |x::L,s,q=>by
  rw[List.foldl_cons];obtain⟨p,A⟩:∃p,p=aW no r (s,q) x:=⟨_,rfl⟩
  have:∃Y,p.1.N=s.N++Y:=by
   rw[A];unfold aW gw
   repeat' split
   all_goals first|exact⟨_,rfl⟩|exact⟨[],(anY _).symm⟩
  rw[<-A];obtain⟨X,a⟩:=abo L p.1 p.2;obtain⟨Y,b⟩:=this;exact⟨Y++X,by rw[a,b,List.append_assoc]⟩
theorem Lv:∀(f:Nat)(q:List (Bs 32))(s:St),∃X,(fZ no f q s).N=s.N++X
 |0,_,_=>⟨[],(anY _).symm⟩
 |_+1,[],_=>⟨[],(anY _).symm⟩
 |f+1,r::q,s=>by
  unfold fZ;obtain⟨X,A⟩:=Lv f ((s.kids.filter λx=>decide (x.fr=r)).foldl (aW no r) ({s with kids:=s.kids.filter λx=>!decide (x.fr=r)},q)).2 ((s.kids.filter λx=>decide (x.fr=r)).foldl (aW no r) ({s with kids:=s.kids.filter λx=>!decide (x.fr=r)},q)).1;obtain⟨Y,a⟩:=abo (no:=no) (r:=r) (s.kids.filter λx=>decide (x.fr=r)) {s with kids:=s.kids.filter λx=>!decide (x.fr=r)} q;exact⟨Y++X,by rw[A,a,List.append_assoc]⟩
end
theorem NH{N X:List Nd}(h:N≠[]):c8 (N++X) 0=c8 N 0:=by
 cases N with
 |nil=>exact absurd rfl h
 |cons a l=>rfl
section
variable{c:Cf}{V:List Vd}{s:St}{peer:Int}{t:LU}
theorem Sv{root target:Bs 32}{slot:Int}(ok:rz s.N c.no)(B:place root s.N<0)(q:(c8 s.N (place target s.N)).2=true)(A:(c8 s.N (place target s.N)).1.slot<slot)(E:slot<=1073741824)(H:c.no-s.N.length≠0):
 ∃X,(lQ c.no root target slot s).N=s.N++X/\0<=place root (s.N++X):=by
 obtain⟨X,b⟩:=Lv (no:=c.no) (1+s.kids.length) [root] {s with N:=gw s.N c.no root target slot}
 have e:nV s.N c.no root target slot=0:=by
  have f:=ok.len;unfold c8 at q A;unfold nV;rw[if_neg ω];cases a:nodeAt s.N (place target s.N)with
  |none=>rw[a]at q;cases q
  |some u=>
   rw[a]at A;dsimp only at A⊢;rw[if_neg ω,if_neg ω]
 have d:gw s.N c.no root target slot=s.N++[⟨root,slot,place target s.N⟩]:=by unfold gw;rw[if_pos e]
 refine⟨[⟨root,slot,place target s.N⟩]++X,?_,?_⟩
 ·unfold lQ;rw[b,<-List.append_assoc];dsimp only;rw[d]
 ·apply Int.not_lt.1;rw[lV];simp
theorem Sw{d:Board.Dm}(q:dF t=some d)(ok:rz s.N c.no)(A:d.slot<=1073741824)(B:place (bw (d.ms anW) d.row) s.N<0)
 (h:(c5 c s peer (d.ms anW) d.row t).1=0\/(c5 c s peer (d.ms anW) d.row t).1=1\/(c5 c s peer (d.ms anW) d.row t).1=2):
 (c5 c s peer (d.ms anW) d.row t).2.now=s.now/\bT (c5 c s peer (d.ms anW) d.row t).2=bT s/\
  (decide (0<=place (bw (d.ms anW) d.row) (c5 c s peer (d.ms anW) d.row t).2.N)||has (bw (d.ms anW) d.row) (c5 c s peer (d.ms anW) d.row t).2.kids)=true:=by
 have g:=@V0 zT c.eV c.quo peer t s.kids d q;have i:=@abn zT c.eV c.quo peer t s.kids;have ap:=@Sv c s (bw (d.ms anW) d.row) (d.ms anW).target (d.ms anW).slot ok B;obtain⟨j,_,_⟩:=CS (no:=c.no) (1+s.kids.length) [bw (d.ms anW) d.row] {s with N:=gw s.N c.no (bw (d.ms anW) d.row) (d.ms anW).target (d.ms anW).slot};generalize k:bw (d.ms anW) d.row=name at*;unfold c5 at*;by_cases a:(c8 s.N (place (d.ms anW).target s.N)).2=false
 ·rw[if_pos a]at h⊢;refine⟨rfl,rfl,?_⟩;dsimp only at h⊢;rw[g (h.resolve_left i),Bool.or_true]
 rw[if_neg a]at h⊢;by_cases e:(d.ms anW).slot<=(c8 s.N (place (d.ms anW).target s.N)).1.slot
 ·rw[if_pos e]at h;dsimp only at h;omega
 rw[if_neg e]at h⊢;by_cases b:c.no-s.N.length=0
 ·rw[if_pos b]at h;dsimp only at h;omega
 rw[if_neg b]at h⊢;rw[k];obtain⟨X,f,l⟩:=ap (by simpa using a) ω A b;dsimp only;refine⟨j.now,?_,?_⟩
 ·unfold bT;rw[f,NH ok.ne]
 ·rw[f,decide_eq_true l,Bool.true_or]
theorem Sy(ok:rz s.N c.no)(A:s.now<=1073741824)(h:(aG c V s peer t).1=0\/(aG c V s peer t).1=1\/(aG c V s peer t).1=2){P:List (Int×Int)}{G p2:Int}:
 (aG c V {(aG c V s peer t).2 with sc:=P,gone:=G} p2 t).1=3\/(aG c V {(aG c V s peer t).2 with sc:=P,gone:=G} p2 t).1=9:=by
 have f:¬decide (anX s.sc peer<=-c.bH)=true:=λe=>by unfold aG at h;rw[if_pos e]at h;dsimp only at h;omega
 have j:¬c.iy<t.length:=λe=>by unfold aG at h;rw[if_neg f,if_pos e]at h;dsimp only at h;omega
 cases g:dF t with
 |none=>unfold aG at h;rw[if_neg f,if_neg j,g]at h;dsimp only at h;omega
 |some d=>
  have k:dw c V s (d.ms anW) d.row=0:=by
   apply Decidable.byContradiction;intro e;unfold aG at h;rw[if_neg f,if_neg j,g]at h;dsimp only at h;rw[if_pos e]at h;dsimp only at h;revert h e;unfold dw
   repeat' split
   all_goals omega
  have n:aG c V s peer t=if d.kind=1 then c5 c s peer (d.ms anW) d.row t else((dY zU c.eH c.quo peer t s.wait).1,{s with wait:=(dY zU c.eH c.quo peer t s.wait).2.2}):=by
   unfold aG;rw[if_neg f,if_neg j,g];dsimp only;rw[if_neg (by rw[k];decide)]
  have key:∀b:St,b=(aG c V s peer t).2->fK c b d.kind d.slot=fK c s d.kind d.slot->iD b d.kind (bw (d.ms anW) d.row)=true->
   (aG c V {b with sc:=P,gone:=G} p2 t).1=3\/(aG c V {b with sc:=P,gone:=G} p2 t).1=9:=by
   intro b _ l i
   have p:dw c V {b with sc:=P,gone:=G} (d.ms anW) d.row=9:=by
    unfold dw at k⊢;rw[show fK c {b with sc:=P,gone:=G} (d.ms anW).kind (d.ms anW).slot=fK c s (d.ms anW).kind (d.ms anW).slot from l,show iD {b with sc:=P,gone:=G} (d.ms anW).kind (bw (d.ms anW) d.row)=true from i];revert k
    repeat' split
    all_goals first|exact λ_=>rfl|(intro h;omega)|contradiction
   unfold aG;by_cases q:decide (anX P p2<=-c.bH)=true
   ·rw[if_pos q];exact .inl rfl
   ·rw[if_neg q,if_neg j,g];dsimp only;rw[if_pos (by rw[p];decide),p];exact .inr rfl
  rw[n]at h⊢;by_cases a:d.kind=1
  ·rw[if_pos a]at h⊢;have m:=k;unfold dw at m;have l:fK c s (d.ms anW).kind (d.ms anW).slot≠false:=λe=>by rw[if_pos e]at m;cases m
   have i:iD s (d.ms anW).kind (bw (d.ms anW) d.row)≠true:=λe=>by
    revert m;rw[e]
    repeat' split
    all_goals first|(intro h;exact absurd h δ)|exact absurd rfl ‹¬true=true›
   have o:Clock.vt s.now (bT s).slot d.slot≠false:=by
    unfold fK at l
    rwa [if_pos (show(d.ms anW).kind=1 from a)]at l
   have w:d.slot<=s.now:=by
    unfold Clock.vt at o;simp at o;exact o.2
   have f:place (bw (d.ms anW) d.row) s.N<0:=by
    unfold iD at i;rw[if_pos (show(d.ms anW).kind=1 from a)]at i;simp at i;omega
   obtain⟨r,u,v⟩:=Sw g ok ω f h;refine key _ (by rw[n,if_pos a]) ?_ ?_
   ·unfold fK;rw[if_pos a,if_pos a,r,u]
   ·unfold iD;rw[if_pos a];exact v
  ·rw[if_neg a]at h⊢;refine key _ (by rw[n,if_neg a]) ?_ ?_
   ·unfold fK;rw[if_neg a,if_neg a]
   ·unfold iD;rw[if_neg a];refine V0 g ?_;have:=@Cu zU c.eH c.quo peer t s.wait;dsimp only at h;rcases h with h|h|h
    ·exact absurd h abn
    ·exact .inl h
    ·exact .inr h
end
end Gate
end Go.Proofs.YtennbinbffdimaaGreat

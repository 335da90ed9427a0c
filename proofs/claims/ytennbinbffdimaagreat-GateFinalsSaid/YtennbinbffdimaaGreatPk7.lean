/- Texts that the proof needs, joined. -/
import Derived.Shelf.SlSortCmp.NoneTotal
import Derived.Ground.SlsfProg
import Derived.Test.YtennbinbffdimaaGreatProg
import Derived.Test.YtennbinbffdimaaGreatPk6
set_option maxRecDepth 100000
open Go.IntKind renaming wrap->aio,bits->aip,u64->air,i64->ajq
open Int renaming toNat->aiq,le_refl->aiw,fdiv->aiz,tmod->aiA,tdiv->aiY,toNat_natCast->ai8,tmod_eq_emod_of_nonneg->ajj
open Go.Vc.ag renaming cut->ais,an->aiS,refl->aiW
open List renaming length_map->ait,length_append->aiu,getD_eq_getElem?_getD->aiy,replicate->aiC,getElem?_eq_getElem->aiM,length_take->aiO,getElem?_map->aiQ,length_singleton->aiR,map_append->aiT,range->aiU,length_drop->aiX,map_cons->aiZ,append_assoc->ai5,sum_cons->ai6,take_length->ai7,mem_map->aja,ext_getElem->ajd,getElem?_eq_some_iff->aje,drop_eq_nil_of_le->ajf,eq_nil_of_length_eq_zero->ajl,mem_cons->ajo,map_nil->ajs
open UInt8 renaming ofNat->aiv,toNat_ofNat'->ajc
open Nat renaming le_refl->aix,zero_le->aiV,mul_one->ajb,lt_irrefl->ajn,pow_le_pow_right->ajt
open BitVec renaming ofInt->aiB,toNat->ai0
open Go.Vc.ak renaming cells->aiD
open Go.Vc.Ext renaming push->aiE,refl->aiL
open Go.Vc.TV renaming int->aiF,bool->aiH,str->aiK,bg->ai1,bytes->ai3,slice->ai4,put->ajh,size->ajr
open Go.Vc.If renaming split->aiG,no->aiI,yes->aiN,dec->aji
open Go.Vc.Bs renaming zero->aiJ,ext'->ajp
open Go.Op renaming bytesLess->aiP
open Option renaming map_eq_some_iff->ai2
open Go.Value renaming int->ai9
open Bool renaming and_eq_true->ajg
open ByteArray renaming mk->ajk
open Array renaming size_push->ajm
namespace Go.Proofs.YtennbinbffdimaaGreat
open Go Go.Vc
namespace Board
section
variable{R:Rq}{h:af}
theorem iB{x n:Int}(q:R (aiF .u32 (oa x n)).val h):Cl 276 [.int .u32 x,.i n] h R:=by
 apply wJ;delta aF;exact⟨wrap_u64_nonneg _,wrap_u64_nonneg _,q⟩
def adx(bs:LU)(i:Nat):Nat->Int
 |0=>0
 |k+1=>grow (adx bs i k) (bs.getD (4*i+k) 0)
def Part(w:Ws 64)(bs:LU)(i:Nat):Prop:=(∀j,j<i->wd w j=wd (Bx bs) j)/\∀j,i<=j->wd w j=0
theorem ab5(bs:LU)(j:Nat)(q:j<16):wd (Bx bs) j=be (Ie bs (4*j)) (Ie bs (4*j+1)) (Ie bs (4*j+2)) (Ie bs (4*j+3)):=by
 unfold Bx;rw[Ox (DV bs 16) 0 j (aiV _) ω 48 (aiV _) (aix _),Ig,<-ab4 bs (j+1) j (Nat.lt_succ_self j) ω,DV,oc,if_pos ⟨rfl,ω⟩]
theorem ZB(bs:LU)(j:Nat)(A:16<=j)(q:j<64):wd (Bx bs) j=Zt (Bx bs) j:=by
 unfold Bx;obtain⟨i,rfl⟩:∃i,j=16+i:=⟨j-16,ω⟩;have e:∀k,k<16+i->wd (Ig (DV bs 16) 48) k=wd (Ig (DV bs 16) i) k:=λk a=>Ox (DV bs 16) i k ω a 48 ω (aix _);rw[Ox (DV bs 16) (i+1) (16+i) ω ω 48 ω (aix _),Ig,oc,if_pos ⟨rfl,q⟩];unfold Zt;rw[e _ ω,e _ ω,e _ ω,e _ ω]
theorem eight(X:Ws 8):Ws.set (Ws.set (Ws.set (Ws.set (Ws.set (Ws.set (Ws.set (Ws.set (Ws.zero 8) 0 (wd X 0)) 1 (wd X 1)) 2 (wd X 2)) 3 (wd X 3)) 4 (wd X 4)) 5 (wd X 5)) 6 (wd X 6)) 7 (wd X 7)=X:=by
 obtain⟨l,h⟩:=X
 match l,h with
 |[a,b,c,d,e,f,g,k],_=>rfl
theorem ZC(w k:Ws 64)(i:Nat)(v:Ws 8):
 wd (sF w k i v) 0=t0 (wd v 7) (fm (wd v 4) 6) (fm (wd v 4) 11) (fm (wd v 4) 25) (wd v 4) (wd v 5) (wd v 6) (wd k i) (wd w i) (fm (wd v 0) 2) (fm (wd v 0) 13) (fm (wd v 0) 22) (wd v 0) (wd v 1) (wd v 2) (wd v 1) (wd v 2)/\
 wd (sF w k i v) 1=wd v 0/\wd (sF w k i v) 2=wd v 1/\wd (sF w k i v) 3=wd v 2/\
 wd (sF w k i v) 4=t4 (wd v 3) (wd v 7) (fm (wd v 4) 6) (fm (wd v 4) 11) (fm (wd v 4) 25) (wd v 4) (wd v 5) (wd v 6) (wd k i) (wd w i)/\
 wd (sF w k i v) 5=wd v 4/\wd (sF w k i v) 6=wd v 5/\wd (sF w k i v) 7=wd v 6:=by
 unfold sF;refine⟨?_,?_,?_,?_,?_,?_,?_,?_⟩<;>rw[oc,oc]
 ·rw[if_pos ⟨rfl,δ⟩]
 ·rw[if_neg δ,if_neg δ,sH _ _ δ δ]
 ·rw[if_neg δ,if_neg δ,sH _ _ δ δ]
 ·rw[if_neg δ,if_neg δ,sH _ _ δ δ]
 ·rw[if_neg δ,if_pos ⟨rfl,δ⟩,sH _ _ δ δ]
 ·rw[if_neg δ,if_neg δ,sH _ _ δ δ]
 ·rw[if_neg δ,if_neg δ,sH _ _ δ δ]
 ·rw[if_neg δ,if_neg δ,sH _ _ δ δ]
set_option maxHeartbeats 1000000 in
theorem sI{w0:Ws 8}{bs:LU}(hl:bs.length=64)(hr:∀L,Ext h L->R (TV.words .u32 8 (Bz w0 bs)).val L):Cl 221 [.words .u32 8 w0,.words .u32 64 uw,.str bs] h R:=by
 apply wK;delta Dt Hu dQ aF zL EX cE Wt LO dz Bn Wr ad4 bA;refine aa λh1 v1 x1 s1=>aa λz v2 M s2=>aa λq v3 E s3=>aa λA v4 B s4=>?_;have va:=((v1.ext M).ext E).ext B;have vb:=(v2.ext E).ext B;have vc:=v3.ext B;have ab:=((x1.trans M).trans E).trans B;refine⟨λi l=>0<=i/\i<=64/\ag (·=q.size) A l/\∃w:Ws 64,Var 293 l q.size (.words .u32 64 w)/\Part w bs i.toNat,λi _=>((64:Int)-i).toNat,⟨aiw 0,δ,aiW _ _,Ws.zero 64,v4,(λj o=>absurd o (by simp)),λj _=>?_⟩,?_⟩
 ·unfold wd Ws.zero;simp only[aiy,List.getElem?_replicate];split<;>rfl
 rintro i r ⟨F,i1,u,w,s,v,p2⟩;refine ID (λG=>?_) λG=>?_
 ·have a3:(i+1).toNat=i.toNat+1:=ω
  have next:∀(l:af)(p:Ws 64),ag (·=q.size) A l->Var 293 l q.size (.words .u32 64 p)->(∀j,j≠i.toNat->wd p j=wd w j)->wd p i.toNat=wd (Bx bs) i.toNat->
   ((0<=i+1/\i+1<=64/\ag (·=q.size) A l/\∃w:Ws 64,Var 293 l q.size (.words .u32 64 w)/\Part w bs (i+1).toNat)/\((64:Int)-(i+1)).toNat<((64:Int)-i).toNat):=by
   intro l p oh vh N H;refine⟨⟨ω,ω,oh,p,vh,λj o=>?_,λj o=>?_⟩,ω⟩
   ·by_cases O:j=i.toNat
    ·rw[O];exact H
    ·rw[N j O];exact v j ω
   ·rw[N j ω];exact p2 j ω
  rw[wrap_i64 (n:=i+1) ω ω];refine ID (λac=>?_) λac=>?_
  ·
   refine⟨λk l=>0<=k/\k<=4/\ag (·=q.size) A l/\∃p:Ws 64,Var 293 l q.size (.words .u32 64 p)/\(∀j,j≠i.toNat->wd p j=wd w j)/\wd p i.toNat=adx bs i.toNat k.toNat,λk _=>((4:Int)-k).toNat,
    ⟨aiw 0,δ,u,w,s,(λj _=>rfl),p2 _ (aix _)⟩,?_⟩
   rintro k y ⟨k0,k1,x,p,v6,P,I⟩;refine ID (λC=>?_) λC=>?_
   ·rw[wrap_i64 (n:=4*i) ω ω,wrap_i64 (n:=4*i+k) ω ω,wrap_i64 (n:=k+1) ω ω];refine⟨F,ω,_,bF v6 ω,ω,ω,F,ω,pS v6 (i:=i.toNat) ω ω λh7 v7 o7 s7=>?_⟩;refine⟨⟨ω,ω,x.trans o7,_,v7,λj o=>?_,?_⟩,Ω⟩
    ·rw[oc,if_neg (λJ=>o J.1.symm)];exact P j o
    ·rw[oc,if_pos ⟨rfl,ω⟩,I];have ad:(4*i+k).toNat=4*i.toNat+k.toNat:=ω;have ae:(k+1).toNat=k.toNat+1:=ω;rw[ad,ae];rfl
   ·have al:k.toNat=4:=ω;rw[al]at I;refine next y p x v6 P ?_
    rw[I,ab5 bs i.toNat ω];exact afE _ _ _ _
  ·rw[wrap_i64 (n:=i-15) ω ω,wrap_i64 (n:=i-2) ω ω,wrap_i64 (n:=i-16) ω ω,wrap_i64 (n:=i-7) ω ω];have am:(i-15).toNat=i.toNat-15:=ω;have e2:(i-2).toNat=i.toNat-2:=ω;have ao:(i-16).toNat=i.toNat-16:=ω;have e7:(i-7).toNat=i.toNat-7:=ω;rw[am,e2,ao,e7];refine⟨ω,ω,_,bF s ω,ω,ω,_,bF s ω,ω,ω,_,bF s ω,ω,ω,_,bF s ω,δ,δ,?_⟩;refine iB ⟨_,rfl,aiL _,iB ⟨_,rfl,aiL _,iB ⟨_,rfl,aiL _,iB ⟨_,rfl,aiL _,?_⟩⟩⟩⟩;refine⟨F,ω,pS s (i:=i.toNat) ω ω λy v6 x s6=>?_⟩;refine next y _ (u.trans x) v6 (λj o=>by rw[oc,if_neg (λJ=>o J.1.symm)]) ?_
   rw[oc,if_pos ⟨rfl,ω⟩,ZB bs i.toNat ω ω,WB _ _ _ _ _ _ _ _ _ _ rfl rfl];unfold Zt;rw[v _ ω,v _ ω,v _ ω,v _ ω,ad9,ab1,ab0,ab2]
 ·have H:w=Bx bs:=afF λj o=>v j ω;subst H;have m:Var 289 r h.size (.words .u32 8 w0):=va.only u ω;have ap:Var 293 r h1.size (.words .u32 64 uw):=vb.only u ω;have ar:Var 289 r z.size (.words .u32 8 (Ws.zero 8)):=vc.only u ω
  refine⟨δ,δ,_,bF m δ,δ,δ,_,bF m δ,δ,δ,_,bF m δ,δ,δ,_,bF m δ,δ,δ,_,bF m δ,
   δ,δ,_,bF m δ,δ,δ,_,bF m δ,δ,δ,_,bF m δ,?_⟩
  refine⟨λσ l=>l=r/\0<=σ.2.2.2.2.2.2.2.2/\σ.2.2.2.2.2.2.2.2<=64/\∃V:Ws 8,V=CC (Bx bs) uw w0 σ.2.2.2.2.2.2.2.2.toNat/\σ.1=wd V 0/\σ.2.1=wd V 1/\σ.2.2.1=wd V 2/\σ.2.2.2.1=wd V 3/\σ.2.2.2.2.1=wd V 4/\σ.2.2.2.2.2.1=wd V 5/\σ.2.2.2.2.2.2.1=wd V 6/\σ.2.2.2.2.2.2.2.1=wd V 7,
   λσ _=>((64:Int)-σ.2.2.2.2.2.2.2.2).toNat,⟨rfl,aiw 0,(by decide:(0:Int)<=64),w0,rfl,rfl,rfl,rfl,rfl,rfl,rfl,rfl,rfl⟩,?_⟩
  rintro⟨a,b,c,d,e,f,g,k,j⟩ l ⟨aw,K,j1,V,D,Q,S,T,U,W,Y,Z,C⟩;obtain rfl:=aw.symm;dsimp only at K j1 D Q S T U W Y Z C⊢;subst Q S T U W Y Z C;refine ID (λo=>?_) λo=>?_
  ·rw[wrap_i64 (n:=j+1) ω ω];refine⟨K,ω,_,bF ap ω,K,ω,_,bF s ω,?_⟩;refine iB ⟨_,rfl,aiL _,iB ⟨_,rfl,aiL _,iB ⟨_,rfl,aiL _,iB ⟨_,rfl,iB ⟨_,rfl,iB ⟨_,rfl,?_⟩⟩⟩⟩⟩⟩;have aE:(j+1).toNat=j.toNat+1:=ω;obtain⟨r0,r1,r2,r3,r4,r5,r6,r7⟩:=ZC (Bx bs) uw j.toNat V;refine⟨⟨by trivial,Ω,Ω,sF (Bx bs) uw j.toNat V,?_,?_,?_,?_,?_,?_,?_,?_,?_⟩,Ω⟩
   ·rw[aE,CC,<-D]
   ·rw[r0,<-Zz,<-Vm,<-Vn,<-ad8,<-abZ,<-ab3];rfl
   ·exact r1.symm
   ·exact r2.symm
   ·exact r3.symm
   ·rw[r4,<-Zz,<-Vm,<-Vn];rfl
   ·exact r5.symm
   ·exact r6.symm
   ·exact r7.symm
  ·have a0:j.toNat=64:=ω;rw[a0]at D
   refine⟨δ,δ,_,bF m δ,δ,δ,_,bF m δ,δ,δ,_,bF m δ,δ,δ,_,bF m δ,δ,δ,_,bF m δ,
    δ,δ,_,bF m δ,δ,δ,_,bF m δ,δ,δ,_,bF m δ,?_⟩
   have e8:=eight (Bz w0 bs)
   have sw:∀j,j<8->wd (Bz w0 bs) j=aio .u32 (wd w0 j+wd V j):=λj o=>by
    unfold Bz;rw[Tr _ _ 8 j (aix _),if_pos o,D]
   rw[sw 0 δ,sw 1 δ,sw 2 δ,sw 3 δ,sw 4 δ,sw 5 δ,sw 6 δ,sw 7 δ]at e8;have a1:Ext h r:=ais ab u λi G=>ω
   have a2:∀X:Ws 8,X=Bz w0 bs->gT r z.size 0 8/\Bind (ajh r z.size 0 (TV.words .u32 8 X)) λl=>∃w:Ws 8,jH l z.size 0 .u32 8 w/\R (TV.words .u32 8 w).val l:=by
    intro X hX;subst hX;exact aH ar (t:=.words .u32 8 (Bz w0 bs)) bV λy v6 x s6=>⟨_,v6.at,hr y (ais a1 x λi G=>ω)⟩
   exact a2 _ e8
end
end Board
namespace Board
def jw(x y:Int):Int:=(aio air (aio air (aio air (aiz x ((2:Int)^min (aiq (32:Int)) (aip air))*aiz y ((2:Int)^min (aiq (32:Int)) (aip air)))+aiz (aio air (aio air (aiz x ((2:Int)^min (aiq (32:Int)) (aip air))*aio air (↑(ai0 (aiB (aip air) y&&&aiB (aip air) (4294967295:Int))):Int))+aiz (aio air (aio air (↑(ai0 (aiB (aip air) x&&&aiB (aip air) (4294967295:Int))):Int)*aio air (↑(ai0 (aiB (aip air) y&&&aiB (aip air) (4294967295:Int))):Int))) ((2:Int)^min (aiq (32:Int)) (aip air)))) ((2:Int)^min (aiq (32:Int)) (aip air)))+aiz (aio air (aio air (↑(ai0 (aiB (aip air) (aio air (aio air (aiz x ((2:Int)^min (aiq (32:Int)) (aip air))*aio air (↑(ai0 (aiB (aip air) y&&&aiB (aip air) (4294967295:Int))):Int))+aiz (aio air (aio air (↑(ai0 (aiB (aip air) x&&&aiB (aip air) (4294967295:Int))):Int)*aio air (↑(ai0 (aiB (aip air) y&&&aiB (aip air) (4294967295:Int))):Int))) ((2:Int)^min (aiq (32:Int)) (aip air))))&&&aiB (aip air) (4294967295:Int))):Int)+aio air (aio air (↑(ai0 (aiB (aip air) x&&&aiB (aip air) (4294967295:Int))):Int)*aiz y ((2:Int)^min (aiq (32:Int)) (aip air))))) ((2:Int)^min (aiq (32:Int)) (aip air))))
def nI(x y:Int):Int:=aio .u64 (x*y)
def Oz(x p q:Int):Bool:=
 if q=2 then(if p<jw x x then true else if jw x x=p then decide (0<nI x x)else false)
 else
  let a:=(nI (jw x x) x+jw (nI x x) x+0)%18446744073709551616
  let top:=aio .u64 (jw (jw x x) x+(nI (jw x x) x+jw (nI x x) x+0)/18446744073709551616)
  if top=aiz p ((2:Int)^min (aiq 32) (aip .u64))then
   (if a=aio .u64 (p*(2:Int)^min (aiq 32) (aip .u64))then decide (0<nI (nI x x) x)
    else decide (aio .u64 (p*(2:Int)^min (aiq 32) (aip .u64))<a))
  else decide (aiz p ((2:Int)^min (aiq 32) (aip .u64))<top)
def DY(p q:Int):Nat->Int->Int
 |0,x=>x
 |k+1,x=>if Oz (aio .u64 (x+aio .u64 (1*(2:Int)^min (aiq (aio .u64 (k:Int))) (aip .u64)))) p q=true then DY p q k x
  else DY p q k (aio .u64 (x+aio .u64 (1*(2:Int)^min (aiq (aio .u64 (k:Int))) (aip .u64))))
def MS(p q:Int):Int:=aio .u32 (aiA (DY p q 40 0) 4294967296)
def mO:Nat->List Int
 |0=>[]
 |k+1=>if(mO k).all (λp=>!decide (aiA ((k:Int)+2) p=0))=true then mO k++[(k:Int)+2]else mO k
abbrev ab6(l:List Int):List TV:=l.map (aiF .u64)
section
variable{R:Rq}{h:af}
theorem J5{x y:Int}(q:R (ai1 [.int .u64 (jw x y),.int .u64 (nI x y)]).val h):Cl 312 [.int .u64 x,.int .u64 y] h R:=by
 apply Aa;exact⟨δ,δ,δ,δ,δ,q⟩
theorem Ts{x p A:Int}(q:R (aiH (Oz x p A)).val h):Cl 275 [.int .u64 x,.int .u64 p,.i A] h R:=by
 apply wL;delta dQ aF aO Gk fE lq;refine J5 ⟨_,_,rfl,?_⟩;unfold Oz at q;refine ID (λc=>?_) λc=>?_
 ·rw[if_pos c]at q;refine ID (λa=>?_) λa=>aji.2 ⟨λb=>?_,λb=>?_⟩
  ·rw[if_pos a]at q;exact q
  ·rw[if_neg a,if_pos b]at q;exact q
  ·rw[if_neg a,if_neg b]at q;exact q
 ·rw[if_neg c]at q;refine J5 ⟨_,_,rfl,J5 ⟨_,_,rfl,wrap_u64_nonneg _,?_⟩⟩;refine⟨wrap_u64_nonneg _,aiw _,δ,δ,aiG (λd=>⟨δ,?_⟩) λd=>⟨δ,aiG (λe=>?_) λe=>?_⟩⟩
  ·have a:¬(aio .u64 (jw (jw x x) x+(nI (jw x x) x+jw (nI x x) x+0)/18446744073709551616)=aiz p (2^min (aiq 32) (aip .u64))):=by simp_all
   simp only[if_neg a]at q;exact q
  ·have a:(aio .u64 (jw (jw x x) x+(nI (jw x x) x+jw (nI x x) x+0)/18446744073709551616)=aiz p (2^min (aiq 32) (aip .u64))):=by simp_all
   have b:¬((nI (jw x x) x+jw (nI x x) x+0)%18446744073709551616=aio .u64 (p*2^min (aiq 32) (aip .u64))):=by simp_all
   simp only[if_pos a,if_neg b]at q;exact q
  ·have a:(aio .u64 (jw (jw x x) x+(nI (jw x x) x+jw (nI x x) x+0)/18446744073709551616)=aiz p (2^min (aiq 32) (aip .u64))):=by simp_all
   have b:((nI (jw x x) x+jw (nI x x) x+0)%18446744073709551616=aio .u64 (p*2^min (aiq 32) (aip .u64))):=by simp_all
   simp only[if_pos a,if_pos b]at q;exact q
theorem MT{p q:Int}(A:R (aiF .u32 (MS p q)).val h):Cl 220 [.int .u64 p,.i q] h R:=by
 apply yt;obtain⟨G,b⟩:∃G,G=DY p q 40 0:=⟨_,rfl⟩;unfold MS at A;rw[<-b]at A;refine⟨λσ c=>c=h/\∃k:Nat,k<=40/\σ.2=k-1/\G=DY p q k σ.1,λσ _=>(σ.2+1).toNat,⟨rfl,40,aix _,rfl,b⟩,?_⟩;rintro⟨x,i⟩ c ⟨rfl,k,j,d,a⟩;subst d;refine ID (λe=>?_) λe=>?_
 ·obtain⟨m,rfl⟩:∃m,k=m+1:=⟨k-1,ω⟩;have f:(m+1:Nat)-1=(m:Int):=ω;rw[f,wrap_i64 ω ω];rw[DY]at a;refine⟨wrap_u64_nonneg _,Ts ⟨_,rfl,?_⟩⟩;cases g:Oz (aio .u64 (x+aio .u64 (1*2^min (aiq (aio .u64 m)) (aip .u64)))) p q with
  |true=>
   rw[if_pos g]at a;exact aiI ⟨⟨by rfl,m,ω,rfl,a⟩,by simp_all⟩
  |false=>
   rw[if_neg (by simp_all)]at a;exact aiN ⟨wrap_u64_nonneg _,⟨by rfl,m,ω,rfl,a⟩,by simp_all⟩
 ·have:k=0:=ω
  grind [DY]
theorem Vo:(ctx.ti 53).bytes=8:=by rfl
theorem aea:(ctx.ti 53).size=1:=by rfl
theorem ab7:(ctx.ti 53).z.size=1:=by rfl
theorem J6{s:Sl}{l:List Int}{i:Int}(e:aj 1 h s (ab6 l))(q:0<=i)(B:i<l.length){K:Int->Prop}(A:∀x,l[i.toNat]? =some x->K x):
 0<=i/\i<(s.len:Int)/\Nn s.a λ(p:Vc.Loc)=>∃(n:Int),ah h p.b (p.o+i.toNat*1) (.int .u64 n)/\K n:=by
 have b:=e.len;rw[ait]at b;refine e.read q ω λp t f a c=>?_;rw[aiQ]at a;obtain⟨x,d,rfl⟩:=ai2.1 a;exact⟨x,c,A x d⟩
theorem J7:∀k,∀p∈mO k,p≠0
 |0,p,a=>by cases a
 |k+1,p,a=>by
  rw[mO]at a;split at a
  ·rcases List.mem_append.1 a with b|b
   ·exact J7 k p b
   grind
  ·exact J7 k p a
theorem Q0:∀k,(mO k).length<=k
 |0=>aix _
 |k+1=>by
  have:=Q0 k
  grind [aiR,aiu,mO]
theorem bW{n:Int}(q:0<=n)(A:n<18446744073709551616):aio .u64 n=n:=by
 have:aio .u64 n=n%18446744073709551616:=by
  rfl
 omega
theorem Hx{n:Int}(q:Nat)(H:q<1000)(I:∀j,j<q->((mO j).length:Int)<n)(J:n<=((mO q).length:Int))(A:∀k s,Vc.Own 53 1 k s (ab6 (mO q))->Ext h k->R (ai4 s).val k):
 Cl 219 [.i n] h R:=by
 apply uW;delta sD mu dD;refine⟨λσ a=>∃j:Nat,j<=q/\σ.2=j+2/\Vc.Own 53 1 a σ.1 (ab6 (mO j))/\(∀l,σ.1.a=some l->h.size<=l.b)/\Ext h a,λσ _=>(q+2-σ.2).toNat,⟨0,aiV _,rfl,Vc.Own.nil _ _ _,(λl d=>by cases d),aiL _⟩,?_⟩;rintro⟨s,c⟩ o ⟨j,F,r,b,t,g⟩;dsimp only at r b t⊢;subst r;have v:=b.len;rw[ait]at v;have G:=Q0 j;refine ID (λw=>?_) λw=>?_
 ·have K:j<q:=by
   grind
  refine⟨λσ a=>a=o/\0<=σ.2/\σ.2<=s.len/\σ.1=((mO j).take σ.2.toNat).all (λp=>!decide (aiA (j+2) p=0)),λσ _=>(s.len-σ.2).toNat,⟨rfl,aiw 0,ω,rfl⟩,?_⟩;rintro⟨f,i⟩ a ⟨y,z,L,m⟩;obtain rfl:=y.symm;refine ID (λB=>?_) λB=>?_
  ·refine J6 b.elems z ω λx u=>?_;have C:=J7 j x (List.mem_of_getElem? u);have M:(i+1).toNat=i.toNat+1:=ω;rw[wrap_i64 ω ω]
   have N:((mO j).take (i.toNat+1)).all (λp=>!decide (aiA (j+2) p=0))=(f&&!decide (aiA (j+2) x=0)):=by
    rw[aU u,List.all_append,<-m];simp
   cases f with
   |true=>
    refine aiN ⟨C,⟨by rfl,ω,ω,?_⟩,by grind⟩;simp_all
   |false=>
    refine aiI ⟨⟨by rfl,ω,ω,?_⟩,by grind⟩;simp_all
  ·have D:i.toNat=(mO j).length:=ω;rw[D,ai7]at m;rw[bW ω ω];have O:mO (j+1)=if f=true then mO j++[(j:Int)+2]else mO j:=by rw[mO,<-m]
   cases f with
   |true=>
    refine aiN (cD aea ab7 δ (by rw[Vo];omega) b rfl rfl λP Q S f4 b4=>?_);refine⟨⟨j+1,ω,by rfl,?_,λl d=>?_,ais g f4 λi⟨l,d,e⟩=>by simp_all⟩,ω⟩
    ·simp_all
    ·rcases b4 l d with⟨T,E,U⟩|E
     ·simp_all
     ·have:=g.size;omega
   |false=>
    refine aiI ⟨⟨j+1,ω,by rfl,?_,t,g⟩,ω⟩;simp_all
 ·have:j=q:=by
   grind
  subst this;exact A o s b g
theorem MU:∀k m,k<=m->(mO k).length<=(mO m).length:=by
 intro k m a
 induction m with
 |zero=>simp_all
 |succ m b=>
  by_cases c:k=m+1
  ·simp_all
  grind [aiu,mO]
theorem p8:(mO 17).length=7/\(mO 18).length=8:=by decide+kernel
theorem p64:(mO 309).length=63/\(mO 310).length=64:=by decide+kernel
theorem firsts:(mO 18).map (λp=>MS p 2)=gN.l:=by rfl
theorem afG:(mO 310).map (λp=>MS p 3)=uw.l:=by decide+kernel
end
end Board
namespace Board
def tP(n:Nat):Nat:=(119-n%64)%64
def wM(n:Int):Nat->LU
 |0=>[]
 |m+1=>wM n m++[aiv (aio .u8 (aiz (aio .u64 (aio .u64 n*8)) ((2:Int)^min (aiq (aio .u64 (aio .i64 (8*(7-(m:Int)))))) (aip .u64)))).toNat]
def Ii(s:LU):LU:=((s++[128])++aiC (tP s.length) 0)++wM (s.length:Int) 8
def lW(t:LU)(w:Ws 8):Nat->Ws 8
 |0=>w
 |n+1=>Bz (lW t w n) ((t.drop (64*n)).take 64)
def mz(s:LU):Bs 32:=Oq (lW (Ii s) gN ((Ii s).length/64)) 8
theorem yu(n:Int):∀m,(wM n m).length=m
 |0=>rfl
 |m+1=>by simp[wM,yu n m]
theorem Hy(s:LU):(Ii s).length=s.length+1+tP s.length+8:=by
 grind [yu,aiu,Ii]
theorem Q1(s:LU):(Ii s).length%64=0:=by
 grind [Hy,tP]
def rb(w:Ws 8)(i:Nat):UInt8:=if i%4=3 then aiv (aio .u8 (wd w (i/4))).toNat else aiv (ob (wd w (i/4)) (24-8*((i%4:Nat):Int))).toNat
def ab8(w:Ws 8):Nat->Bs 32
 |0=>aiJ 32
 |i+1=>(ab8 w i).set i (rb w i)
theorem ZD(w:Ws 8):ab8 w 32=Oq w 8:=by rfl
theorem ZE:∀i:Fin 32,min (aiq (aio .u64 (aio .i64 (24-aio .i64 (8*aiA ((i.val:Nat):Int) 4))))) (aip .u32)=24-8*(i.val%4):=by decide+kernel
theorem aeb:∀i:Fin 32,min (aiq (24-8*((i.val%4:Nat):Int))) (aip .u32)=24-8*(i.val%4):=by decide+kernel
theorem afH(w:Ws 8)(i:Nat)(q:i<32):rb w i=aiv (aio .u8 (aiz (wd w (i/4)) ((2:Int)^min (aiq (aio .u64 (aio .i64 (24-aio .i64 (8*aiA (i:Int) 4))))) (aip .u32)))).toNat:=by
 have a:=ZE ⟨i,q⟩;have b:=aeb ⟨i,q⟩;rw[a];unfold rb ob;simp_all
section
variable{R:Rq}{h:af}
theorem str1{h:af}{c:Int}(c0:0<=c)(q:c<256):kG (h.push (row (aiD [aiF .u8 c]) 5)) (Sl.mk (some (Vc.Loc.mk h.size 0)) 1 1) [aiv c.toNat]:=by
 refine⟨rfl,.inr ⟨_,rfl,λj a=>?_⟩⟩;have b:=by simpa using a
 subst b;have d:=cO h (row (aiD [aiF .u8 c]) 5);have:=yb (o:=0) d rfl
 grind [aiv,ah,ajc]
theorem filled{n:Nat}{W:Ws n}{l:List Int}(q:l.length=n)(h:∀j x,l[j]? =some x->wd W j=x):W.l=l:=by
 apply ajd (by rw[W.h,q]);intro j b a;have:=h j l[j] (aiM a);simp_all [aiy,wd]
set_option maxHeartbeats 1000000 in
theorem lI{s:LU}(hs:s.length<100000)(hr:∀S,Ext h S->R (ai3 32 (mz s)).val S):Cl 156 [.str s] h R:=by
 apply BE;delta Dt Hu aF gZ zM QH Zi gL zL cQ cE dz bz eU bJ bK bA;refine aa λU v1 x1 s1=>⟨by grind,?_⟩;have bx:tP s.length<64:=by unfold tP;omega
 refine⟨λt c=>c=U/\∃k,k<=tP s.length/\t=(s++[128])++aiC k 0,λt _=>s.length+200-t.length,⟨rfl,0,aiV _,by simp⟩,?_⟩;rintro t c ⟨am,k,hk,rfl⟩;obtain rfl:=am.symm;have ao:((s++[128])++aiC k 0).length=s.length+1+k:=by grind
 refine⟨δ,aiG (λA=>?_) λA=>?_⟩
 ·have V:¬aiA ((s++[128])++aiC k (0:UInt8)).length 64=56:=by simp_all
  rw[ao,ajj ω]at V;have bN:k≠tP s.length:=λe=>V (by grind [tP]);have b0:List.length (ajk #[0]).data.toList=1:=rfl;refine⟨ω,⟨by rfl,k+1,ω,?_⟩,?_⟩
  ·grind [aiC,ai5,List.replicate_succ']
  grind
 have heq:aiA ((s++[128])++aiC k (0:UInt8)).length 64=56:=by simp_all
 rw[ajj ω]at heq;have ap:k=tP s.length:=by grind [tP]
 subst ap;have ar:Ii s=((s++[128])++aiC (tP s.length) 0)++wM s.length 8:=rfl;generalize(s++[128])++aiC (tP s.length) 0=base at*;refine⟨λσ c=>∃m:Nat,m<=8/\σ.2=7-m/\σ.1=base++wM s.length m/\Ext U c,λσ _=>(σ.2+1).toNat,⟨0,δ,rfl,by simp[wM],aiL _⟩,?_⟩;rintro⟨t,kk⟩ f ⟨m,hm,X,Y,F⟩;dsimp only at X Y⊢;subst X Y;refine ID (λh0=>?_) λh0=>?_
 ·have B:=aS (aiz (aio .u64 (aio .u64 s.length*8)) (2^min (aiq (aio .u64 (aio .i64 (8*(7-m))))) (aip .u64)));rw[wrap_i64 (n:=7-m-1) ω ω];refine⟨wrap_u64_nonneg _,_,str1 B.1 B.2,?_,⟨m+1,ω,ω,?_,F.trans (aiE _ _)⟩,ω⟩
  ·grind [aiR,yu,aiu]
  simp[ai5,wM]
 have aw:m=8:=ω;subst aw;rw[<-ar];have b1:=Hy s;generalize hT:Ii s=T at*;have aE:=x1.trans F;refine aa λh3 v3 x3 s3=>Hx 18 δ (λj d=>?_) δ λZ a0 I x4=>⟨_,rfl,?_⟩
 ·have:=MU j 17 ω
  grind [p8]
 have l4:=I.len;rw[ait,p8.2]at l4;have v4:=v3.ext x4
 refine⟨λi c=>0<=i/\i<=8/\ag (·=f.size) Z c/\∃W:Ws 8,Var 289 c f.size (.words .u32 8 W)/\∀j x,j<i.toNat->(mO 18)[j]? =some x->wd W j=MS x 2,λi _=>(8-i).toNat,
  ⟨aiw 0,δ,aiW _ _,_,v4,λj x d=>absurd d (by simp)⟩,?_⟩
 rintro i q ⟨v,i1,f5,W,J,C⟩
 have a1:∀l,a0.a=some l->l.b≠f.size:=λl r=>by
  intro z;rcases I.row with G|⟨b,a2,K,A,_⟩
  ·rw[G]at r;cases r
  ·rw[K]at r;cases r;have:=z;subst this;have o:Z[f.size]? =_:=v4;rw[A]at o;injection o with o;unfold row at o;injection o with _ p;exact absurd p δ
 have o5:=I.only f5 a1;refine ID (λg=>?_) λg=>?_
 ·rw[wrap_i64 (n:=i+1) ω ω];refine J6 o5.elems v (by rw[p8.2];omega) λx u=>MT ⟨_,rfl,v,ω,pS J (i:=i.toNat) ω ω λh6 v6 f6 s6=>?_⟩;have L:(i+1).toNat=i.toNat+1:=ω;refine⟨⟨ω,ω,f5.trans f6,_,v6,λj y d a=>?_⟩,Ω⟩;rw[oc];by_cases D:i.toNat=j
  ·subst D;rw[if_pos ⟨rfl,ω⟩];rw[u]at a;injection a with a;rw[a]
  ·rw[if_neg (λz=>D z.1)];exact C j y ω a
 have a3:i=8:=ω;subst a3
 have a4:W=gN:=by
  apply Ws.ext';rw[<-firsts];refine filled (by rw[ait,p8.2]) λj x u=>?_;rw[aiQ]at u;obtain⟨y,a,rfl⟩:=ai2.1 u;have d:=(aje.1 a).1;rw[p8.2]at d;exact C j y (by simpa using d) a
 subst a4;have b2:f.size<q.size:=J.lt;have ab:Ext f q:=ais (x3.trans x4) f5 λi g=>ω;have b3:=ab.size;refine aa λh6 v6 x6 s6=>Hx 310 δ (λj d=>?_) (by rw[p64.2];decide) λM a5 N O=>⟨_,rfl,?_⟩
 ·have:=MU j 309 ω;rw[p64.1]at this;omega
 have l7:=N.len;rw[ait,p64.2]at l7;have v7:=v6.ext O;have a6:Var 289 M f.size (.words .u32 8 gN):=(J.ext x6).ext O
 refine⟨λi c=>0<=i/\i<=64/\ag (·=q.size) M c/\∃W:Ws 64,Var 293 c q.size (.words .u32 64 W)/\∀j x,j<i.toNat->(mO 310)[j]? =some x->wd W j=MS x 3,λi _=>((64:Int)-i).toNat,
  ⟨aiw 0,δ,aiW _ _,_,v7,λj x d=>absurd d (by simp)⟩,?_⟩
 rintro i P ⟨v,i1,f8,W,v8,C⟩
 have a7:∀l,a5.a=some l->l.b≠q.size:=λl r=>by
  intro z;rcases N.row with G|⟨b,a2,K,A,_⟩
  ·rw[G]at r;cases r
  ·rw[K]at r;cases r;have:b=q.size:=z;subst this;have o:M[q.size]? =_:=v7;rw[A]at o;injection o with o;unfold row at o;injection o with _ p;exact absurd p δ
 have o8:=N.only f8 a7;refine ID (λg=>?_) λg=>?_
 ·rw[wrap_i64 (n:=i+1) ω ω];refine J6 o8.elems v (by rw[p64.2];omega) λx u=>MT ⟨_,rfl,v,ω,pS v8 (i:=i.toNat) ω ω λp w f9 s9=>?_⟩;have L:(i+1).toNat=i.toNat+1:=ω;refine⟨⟨ω,ω,f8.trans f9,_,w,λj y d a=>?_⟩,Ω⟩;rw[oc];by_cases D:i.toNat=j
  ·subst D;rw[if_pos ⟨rfl,ω⟩];rw[u]at a;injection a with a;rw[a]
  ·rw[if_neg (λz=>D z.1)];exact C j y ω a
 have a8:i=64:=ω;subst a8
 have a9:W=uw:=by
  apply Ws.ext';rw[<-afG];refine filled (by rw[ait,p64.2]) λj x u=>?_;rw[aiQ]at u;obtain⟨y,a,rfl⟩:=ai2.1 u;have d:=(aje.1 a).1;rw[p64.2]at d;exact C j y (by simpa using d) a
 subst a9;have a':Var 289 P f.size (.words .u32 8 gN):=a6.only f8 ω;have ba:Ext q P:=ais (x6.trans O) f8 λi g=>ω;refine⟨λat_ c=>∃n:Nat,64*n<=T.length/\at_=((64*n:Nat):Int)/\Var 289 c f.size (.words .u32 8 (lW T gN n))/\ag (·=f.size) P c,λat_ _=>((T.length:Int)-at_).toNat,⟨0,aiV _,rfl,a',aiW _ _⟩,?_⟩;rintro at_ p ⟨n,G,rfl,w,f9⟩;have bb:Var 293 p q.size (.words .u32 64 uw):=v8.only f9 ω;refine ID (λg=>?_) λg=>?_
 ·rw[wrap_i64 (n:=((64*n:Nat):Int)+64) ω ω];refine⟨_,w.at,_,bb.at,ω,ω,ω,ω,?_⟩
  have bc:List.take ((((64*n:Nat):Int)+64).toNat-((64*n:Nat):Int).toNat) (List.drop ((64*n:Nat):Int).toNat T)=(T.drop (64*n)).take 64:=by
   have e1:(((64*n:Nat):Int)+64).toNat-((64*n:Nat):Int).toNat=64:=ω;rw[e1,ai8]
  rw[bc];refine sI (by rw[aiO,aiX];omega) λac E=>⟨_,rfl,?_⟩;refine aH (w.ext E) (t:=.words .u32 8 (lW T gN (n+1))) bV λH v11 f11 b5=>?_;have bd:=w.lt;refine⟨⟨n+1,ω,ω,v11,f9.trans ((aiS E).trans f11)⟩,Ω⟩
 have bi:n=T.length/64:=ω;rw[bi]at w;have z9:=f9.size;have bd:=w.lt;have b6:h.size<f.size:=by have:=F.size;omega
 refine aa λac v10 E b7=>?_;refine⟨λi c=>0<=i/\i<=32/\ag (·=p.size) ac c/\Var 52 c p.size (.bytes 32 (ab8 (lW T gN (T.length/64)) i.toNat)),λi _=>((32:Int)-i).toNat,⟨aiw 0,δ,aiW _ _,v10⟩,?_⟩;rintro i H ⟨v,i1,f11,v11⟩;have bj:Var 289 H f.size (.words .u32 8 (lW T gN (T.length/64))):=(w.ext E).only f11 ω;refine ID (λg=>?_) λg=>?_
 ·have hq:aiY i 4=i/4:=Int.tdiv_eq_ediv_of_nonneg v;have bk:(i/4).toNat=i.toNat/4:=ω;rw[wrap_i64 (n:=i+1) ω ω,hq,wrap_i64 (n:=i/4) ω ω,bk];refine⟨δ,ω,ω,_,bF bj ω,δ,wrap_u64_nonneg _,v,ω,?_⟩;have B:=aS (aiz (wd (lW T gN (T.length/64)) (i.toNat/4)) ((2:Int)^min (aiq (aio .u64 (aio .i64 (24-aio .i64 (8*aiA i 4))))) (aip .u32)));refine kV v11 (i:=i.toNat) ω ω B.1 B.2 λad Q f12 bl=>?_;have L:(i+1).toNat=i.toNat+1:=ω;refine⟨⟨ω,ω,f11.trans f12,?_⟩,Ω⟩;rw[L,ab8,afH _ _ ω];have bm:((i.toNat:Nat):Int)=i:=ω;rw[bm];exact Q
 have bo:i.toNat=32:=ω;rw[bo,ZD]at v11;have ae:Ext p H:=ais E f11 λi g=>ω;have al:=ab.trans ba;have bp:Var 52 H h.size (.bytes 32 (aiJ 32)):=((((v1.ext F).ext al).only f9 ω).ext ae);have br:mz s=Oq (lW T gN (T.length/64)) 8:=by unfold mz;rw[hT]
 refine⟨_,v11.bytes,aH bp (t:=.bytes 32 (Oq (lW T gN (T.length/64)) 8)) wI λad Q f12 bl=>⟨_,Q.bytes,?_⟩⟩;rw[<-br];refine hr ad ?_;have bt:Ext h p:=ais (aE.trans al) f9 λi g=>ω;exact ais (bt.trans ae) f12 λi g=>ω
end
end Board
namespace Board
abbrev jg(bs:LU):List Value:=bs.map λc=>ai9 .u8 (c.toNat:Int)
theorem sJ(bs:LU):∀v∈jg bs,bU v=true:=λv a=>by
 obtain⟨c,_,rfl⟩:=aja.1 a;rfl
structure Ab(Q:Nat->Prop)(h:af)(s:Sl)(bs:LU):Prop where
 len:bs.length=s.len
 cap:s.len<=s.cap
 row:(s.a=none/\s.cap=0)\/∃b pre rest,s.a=some ⟨b,pre.length⟩/\h[b]? =some (Go.Vc.row (pre++jg bs++rest) 5)/\s.cap-s.len<=rest.length
 uT:∀l,s.a=some l->Q l.b
 new:∀i,h.size<=i->Q i
section
variable{R:Rq}{h:af}{Q:Nat->Prop}{s:Sl}{bs:LU}
theorem Ab.lt(r:Ab Q h s bs):∀l,s.a=some l->l.b<h.size:=λl a=>by
 rcases r.row with⟨c,_⟩|⟨b,pre,d,e,f,_⟩<;>grind
theorem Ab.only{S:Nat->Prop}{q:af}(r:Ab Q h s bs)(o:ag S h q)(A:∀l,s.a=some l->¬S l.b):Ab Q q s bs:=by
 refine⟨r.len,r.cap,?_,r.uT,λi d=>r.new i (Nat.le_trans o.size d)⟩;rcases r.row with g|⟨b,pre,e,a,c,f⟩
 ·simp_all
 ·exact .inr ⟨b,pre,e,a,(o.same b (kO c) (A _ a)).trans c,f⟩
theorem Ab.elems(r:Ab Q h s bs):aj 1 h s (QT bs):=by
 refine⟨by rw[ait];exact r.len,λf=>?_,λl a i t d=>?_⟩
 ·rcases r.row with⟨_,g⟩|⟨b,pre,j,e,_⟩
  ·have:=r.len;have:=r.cap;simp_all
  simp_all
 ·rcases r.row with⟨f,_⟩|⟨b,pre,j,e,k,_⟩
  ·simp_all
  ·rw[e]at a;cases a;rw[aiQ]at d;obtain⟨c,g,rfl⟩:=ai2.1 d;refine yb k ?_
   grind
theorem Ab.agN(r:Ab Q h s bs){q:af}(o:ag (In s) h q):ag Q h q:=o.mono λi⟨l,a,e⟩=>by rw[<-e];exact r.uT l a
theorem afI{us:LU}{K:Sl->af->Prop}(r:Ab Q h s bs)(q:bs.length+us.length<1000000)
 (A:∀k m,Ab Q m k (bs++us)->ag (In s) h m->(∀l,k.a=some l->(∃o,s.a=some o/\o.b=l.b)\/h.size<=l.b)->K k m):
 au ctx 5 s us.length (jg us) h K:=by
 have F:=r.len;have G:=r.cap;have H:(jg bs).length=s.len:=by simp_all
 have u:(jg us).length=us.length:=ait ..;have both:jg (bs++us)=jg bs++jg us:=aiT ..;refine⟨jg bs,?_,by rw[Gn];omega,by rw[Gn];decide,λn=>?_,λn a=>?_,λn c e=>?_⟩
 ·rw[Vi];refine⟨ω,?_⟩;rcases r.row with⟨a,e⟩|⟨b,pre,f,d,g,_⟩
  ·simp_all
  ·refine .inr ⟨_,d,λj v=>?_⟩;rw[aiM v];refine yb g ?_
   grind
 ·rcases r.row with⟨a,e⟩|⟨b,pre,f,d,g,I⟩
  ·simp_all
  ·refine⟨.inr (by simp_all),λl q=>?_⟩;rw[d]at q;cases q;rw[Vi];rw[ajb]
   have p:pre.length+s.len+(jg us).length<=(pre++jg bs++f).length:=by
    grind
   refine⟨iH g p,?_⟩;obtain⟨w,J,x⟩:=jo (jg us) h b (pre.length+s.len) _ 5 g p
   refine A _ _ ⟨by simp_all,n,.inr ⟨b,pre,f.drop us.length,rfl,?_,?_⟩,?_,λi t=>r.new i (by simp_all)⟩ ⟨by simp_all,λy L a=>x y (λB=>a ⟨_,d,B.symm⟩)⟩ λl q=>by
    simp_all
   ·rw[w,both];have C:pre.length+s.len=(pre++jg bs).length:=by simp_all
    rw[C,List.take_left,u,List.drop_append,ajf ω,List.nil_append,Nat.add_sub_cancel_left,<-ai5]
   ·grind
   ·intro l q;cases q;exact r.uT _ d
 ·rcases r.row with⟨_,e⟩|⟨b,pre,f,d,_⟩
  ·have D:us=[]:=ajl ω;have E:bs=[]:=ajl ω;subst D E;refine A _ _ ⟨by grind,ω,.inl ⟨a,e⟩,(λl q=>by have q:=q;rw[a]at q;cases q),r.new⟩ (aiW _ _) (λl q=>by simp_all)
  ·rw[d]at a;cases a
 ·refine A _ _ ⟨by simp_all,e,.inr ⟨h.size,[],cq (ctx.ti 5).z (c-(s.len+us.length)),rfl,?_,?_⟩,?_,?_⟩ (aiS (aiE _ _)) ?_
  ·simp_all
  ·rw[je,Tm,ajb];exact aix _
  ·intro l q;cases q;exact r.new _ (aix _)
  ·intro i t;rw[ajm]at t;exact r.new i ω
  ·intro l q;cases q;exact .inr (aix _)
theorem Gt{c:Int}{K:Sl->af->Prop}(r:Ab Q h s bs)(q:bs.length<900000)(c0:0<=c)(B:c<256)
 (A:∀a b,Ab Q b a (bs++[aiv c.toNat])->ag (In s) h b->(∀l,a.a=some l->(∃d,s.a=some d/\d.b=l.b)\/h.size<=l.b)->K a b):
 ∃new,cn (h.push (row (aiD [aiF .u8 c]) 5)) (Sl.mk (some (Vc.Loc.mk h.size 0)) 1 1) 1 new/\(∀v∈new,bU v=true)/\au ctx 5 s 1 new (h.push (row (aiD [aiF .u8 c]) 5)) K:=by
 have e:(aiv c.toNat).toNat=c:=by
  grind [ajc]
 have f:=aiE h (row (aiD [aiF .u8 c]) 5);refine⟨jg [aiv c.toNat],⟨rfl,.inr ⟨_,rfl,λj g=>?_⟩⟩,sJ _,?_⟩
 ·have i:=by simpa using g
  subst i;have:=yb (o:=0) (cO h (row (aiD [aiF .u8 c]) 5)) rfl;simp_all [ah,aiv]
 ·have k:=r.only (aiS f (S:=λ_=>False)) (λ_ _ m=>m);refine afI (us:=[aiv c.toNat]) k (by grind) λa b n p t=>A a b n ((aiS f).trans p) λl q=>?_
  grind
theorem Ab.after{q:af}(r:Ab Q h s bs)(A:64<=bs.length)(o:ag (λi=>¬In s i) h q)(B:∀i,q.size<=i->Q i):Ab Q q (ay s 64 s.len 1) (bs.drop 64):=by
 have p:=r.len;have t:=r.cap;refine⟨by simp_all [ay,aiX],by grind [ay],?_,λl f=>?_,B⟩
 ·rcases r.row with⟨_,a⟩|⟨b,pre,d,c,e,u⟩
  ·omega
  ·have g:=(o.same b (kO e) (λj=>j ⟨_,c,rfl⟩)).trans e;by_cases a:s.cap=64
   ·refine .inr ⟨b,pre,jg bs++d,by simp only[ay];rw[if_pos a,c],?_,by simp_all [ay]⟩
    grind
   ·refine .inr ⟨b,pre++jg (bs.take 64),d,?_,?_,by grind [ay]⟩
    ·simp only[ay];rw[if_neg a,c,aiu,ait,aiO,Nat.min_eq_left A,ajb];rfl
    ·rw[g];congr 2;have:jg bs=jg (bs.take 64)++jg (bs.drop 64):=by rw[<-aiT,List.take_append_drop]
     rw[this];simp
 ·obtain⟨k,m,n⟩:=Gq f;rw[<-n];exact r.uT k m
theorem E5(T q:LU)(w:Ws 8):∀k,64*k<=T.length->lW (T++q) w k=lW T w k
 |0,_=>rfl
 |k+1,a=>by
  rw[lW,lW,E5 T q w k ω,List.drop_append_of_le_length ω,List.take_append_of_le_length (by grind)]
structure J8(Q:Nat->Prop)(h:af)(b:Nat)(T:LU)(k:Nat)(N:Int)(s:Sl):Prop where
 var:Var 333 h b (.agg [.words .u32 8 (lW T gN k),.slice s,.int .u64 N])
 row:Ab Q h s (T.drop (64*k))
 fit:64*k<=T.length
 uT:Q b
 apart:∀l,s.a=some l->l.b≠b
variable{b k:Nat}{T:LU}{N:Int}
theorem J8.words(st:J8 Q h b T k N s):jH h b 0 .u32 8 (lW T gN k):=st.var.at.1
theorem J8.rest(st:J8 Q h b T k N s):ah h b 8 (bu s):=st.var.at.2.1
theorem J8.count(st:J8 Q h b T k N s):ah h b 9 (.int .u64 N):=st.var.at.2.2
theorem J8.grown{q:af}{A:Sl}{B:LU}(st:J8 Q h b T k N s)(r1:Ab Q q A (T.drop (64*k)++B))(E:ag (In s) h q)(H:∀l,A.a=some l->(∃c,s.a=some c/\c.b=l.b)\/h.size<=l.b){K:af->Prop}
 (I:∀a,J8 Q a b (T++B) k N A->ag Q h a->a.size=q.size->K a):gT q b 8 1/\Bind ((ai4 A).put q b 8) K:=by
 have f:∀l,A.a=some l->l.b≠b:=λl d e=>by
  rcases H l d with⟨c,g,m⟩|g
  ·exact st.apart c g (m.trans e)
  ·have:=st.var.lt;omega
 have v1:=st.var.only E (λ⟨l,d,e⟩=>st.apart l d e);refine aI (i:=1) v1 rfl rfl rfl rfl λa n j o=>I a ⟨?_,?_,?_,st.uT,f⟩ ((st.row.agN E).trans (j.mono λi p=>by subst p;exact st.uT)) o
 ·rw[E5 T B gN k st.fit];exact n
 ·rw[List.drop_append_of_le_length st.fit];exact r1.only j f
 ·rw[aiu];have:=st.fit;omega
theorem J8.step(st:J8 Q h b T k N s)(q:64<=s.len)
 (A:∀a r,Var 333 a b (.agg [.words .u32 8 (lW T gN (k+1)),.slice s,.int .u64 N])->ag (·=b) h a->(∀K:af->Prop,(∀d,J8 Q d b T (k+1) N (ay s 64 s.len 1)->ag Q h d->K d)->gT a b 8 1/\Bind ((ai4 (ay s 64 s.len 1)).put a b 8) K)->r=a->R (ai1 []).val a):
 Cl 292 [.ptr (PT b),.slice (ay s 0 64 1)] h R:=by
 have t:=st.row.len;rw[aiX]at t;have n:=wH (i:=0) st.row.elems ω q st.row.cap;rw[List.drop_zero,<-List.map_take]at n
 refine To h R b (lW T gN k) s (ay s 0 64 1) ((T.drop (64*k)).take 64) N st.var n (by simp_all) (λl f=>by
  obtain⟨j,m,a⟩:=Gq f;rw[<-a];exact st.apart j m) λa o g=>?_
 refine A a a o g (λK u=>?_) rfl;refine aI (i:=1) o rfl rfl rfl rfl λd v4 p v=>u d ⟨v4,?_,ω,st.uT,λl f=>?_⟩ ((g.mono λi c=>by subst c;exact st.uT).trans (p.mono λi c=>by subst c;exact st.uT))
 ·have:T.drop (64*(k+1))=(T.drop (64*k)).drop 64:=by grind [List.drop_drop]
  rw[this];refine st.row.after (by simp_all) ((g.trans p).mono λi c=>?_) λi c=>st.row.new i (by have:=g.size;omega);rintro⟨l,f,e⟩;exact st.apart l f (e.trans c)
 ·obtain⟨j,m,a⟩:=Gq f;rw[<-a];exact st.apart j m
theorem WC(st:J8 Q h b T k (T.length:Int) s){text:LU}(B:T.length+text.length<800000)
 (q:∀f d o,J8 Q f b (T++text) o ((T++text).length:Int) d->d.len<64->ag Q h f->R (ai1 []).val f):
 Cl 258 [.ptr (PT b),.str text] h R:=by
 apply C6;delta dQ aF aJ jX fP dz bK;refine⟨_,st.count,?_⟩
 have p:aio .u64 (T.length+aio .u64 text.length)=(T++text).length:=by
  grind [bW,aiu]
 dsimp only;rw[p];refine aI (i:=2) st.var rfl rfl rfl rfl λl v1 m C=>?_;have g:J8 Q l b T k (T++text).length s:=⟨v1,st.row.only m st.apart,st.fit,st.uT,st.apart⟩;have f1:ag Q h l:=m.mono λi r=>by subst r;exact st.uT
 have dl:(T.drop (64*k)).length<=T.length:=by simp_all
 refine⟨s,g.rest,afI g.row ω λd D t u v=>g.grown t u v λE w f3 F=>?_⟩;refine⟨λ_ e=>∃a j,J8 Q e b (T++text) j (T++text).length a/\ag Q h e,λ_ e=>QV e b,⟨d,k,w,f1.trans f3⟩,?_⟩;rintro _ x ⟨a,j,c,f4⟩;refine⟨a,c.rest,ID (λy=>?_) λy=>q x a j c ω f4⟩;have G:=c.row.cap;refine⟨a,c.rest,δ,ω,?_⟩;refine c.step ω λH _ z I A _=>⟨rfl,a,z.at.2.1,δ,ω,A _ λJ n f6=>?_⟩;refine⟨⟨_,_,n,f4.trans f6⟩,?_⟩;have K:=wG c.rest;have L:=wG n.rest
 grind [ay]
def rlx(x:Int):Nat->LU
 |0=>[]
 |m+1=>rlx x m++[aiv (aio .u8 (aiz x ((2:Int)^min (aiq (aio .u64 (aio .i64 (8*(7-(m:Int)))))) (aip .u64)))).toNat]
def lnx(x:Int):Nat->LU
 |0=>[]
 |i+1=>lnx x i++[aiv (aio .u8 (aiz x (2^min (aiq (aio .i64 (56-aio .i64 (8*(i:Int))))) (aip .u64)))).toNat]
theorem ZF(n:Int):∀m,wM n m=rlx (aio .u64 (aio .u64 n*8)) m
 |0=>rfl
 |m+1=>by rw[wM,rlx,ZF n m]
theorem ZG(n:Int):∀m,lens n m=lnx (aio .u64 (n*8)) m
 |0=>rfl
 |m+1=>by rw[lens,ZG n m];rfl
theorem ab9(x:Int):rlx x 8=lnx x 8:=by rfl
theorem Tt(n:Int)(q:0<=n)(A:n<18446744073709551616):wM n 8=lens n 8:=by
 rw[ZF,ZG,bW q A,ab9]
set_option maxHeartbeats 1000000 in
theorem WD(st:J8 Q h b T k (T.length:Int) s)(hl:T.length<700000)(I:∀J,ag Q h J->R (ai3 32 (mz T)).val J):Cl 259 [.ptr (PT b)] h R:=by
 apply C7;delta dQ aF Zm aJ zM U4 cQ mN jX cE bz eU bJ bK;have blt:=st.var.lt;have a2:=st.row.lt;refine aa λp v1 w s1=>?_;have r:J8 (λi=>Q i/\i≠h.size) p b T k T.length s:=⟨st.var.ext w,⟨st.row.len,st.row.cap,(st.row.only (aiS w (S:=λ_=>False)) (λ_ _ V=>V)).row,λl W=>⟨st.row.uT l W,by grind⟩,λi d=>⟨st.row.new i ω,ω⟩⟩,st.fit,⟨st.uT,ω⟩,st.apart⟩;have f1:ag Q h p:=aiS w;have a3:=st.fit;have a4:=st.row.len;refine⟨_,r.count,s,r.rest,?_⟩;refine Gt r.row (by grind) δ δ λX h2 Y Z b2=>?_;have a5:aiv (aiq 128)=128:=δ;refine r.grown Y Z b2 λh3 a6 f3 s3=>?_;have a7:tP T.length<64:=by unfold tP;omega
 have x:∀j,((T++[128])++aiC j 0).length=T.length+1+j:=λj=>by grind
 refine⟨λ_ a=>∃q j,J8 (λi=>Q i/\i≠h.size) a b ((T++[128])++aiC j 0) k T.length q/\j<=tP T.length/\ag (λi=>Q i/\i≠h.size) p a,λ_ a=>T.length+100-QV a b,⟨X,0,by simp_all,aiV _,f3⟩,?_⟩;rintro _ h4 ⟨m,j,f,hj,f4⟩;have l4:=f.row.len;rw[aiX,x]at l4
 have ab:aiA m.len 64=(m.len%64:Nat):=by
  rfl
 refine⟨m,f.rest,δ,?_⟩;rw[ab];refine aiG (λa8=>?_) (λheq=>?_)
 ·have a9:¬m.len%64=56:=λe=>by grind
  have K:j<tP T.length:=by
   grind [Nat.lt_or_ge,tP]
  refine⟨m,f.rest,?_⟩;refine Gt f.row (by grind) δ δ λu h5 r5 o5 b5=>?_;refine f.grown r5 o5 b5 λv c f6 g=>?_;have e0:aiv (aiq 0)=0:=δ
  have er:((T++[128])++aiC j 0)++[aiv (aiq 0)]=(T++[128])++aiC (j+1) 0:=by
   rw[e0,ai5,List.replicate_succ']
  rw[er]at c;have y:=c.row.len;rw[aiX,x]at y;refine⟨⟨u,j+1,c,ω,f4.trans f6⟩,?_⟩;have g1:=wG f.rest;have L:=wG c.rest
  grind
 have a':=by simp at heq;omega
 have K:j=tP T.length:=by grind [tP]
 subst K
 have ac:Ii T=((T++[128])++aiC (tP T.length) 0)++lens T.length 8:=by
  grind [Tt,Ii]
 have M:=x (tP T.length);generalize(T++[128])++aiC (tP T.length) (0:UInt8)=base at*;refine⟨λi a=>0<=i/\i<=8/\∃q,J8 (λi=>Q i/\i≠h.size) a b (base++lens (T.length:Int) i.toNat) k (T.length:Int) q/\ag (λi=>Q i/\i≠h.size) p a,λi _=>((8:Int)-i).toNat,⟨aiw 0,δ,m,by simpa[lens]using f,f4⟩,?_⟩;rintro i h5 ⟨N,i1,u,o,f5⟩;have l5:=o.row.len;rw[aiX,aiu,BA,M]at l5;refine ID (λd=>?_) λd=>?_
 ·refine⟨u,o.rest,?_,aiE _ _,?_⟩
  ·rw[wrap_i64 (n:=8*i) ω ω,wrap_i64 ω ω];omega
  refine Gt o.row (by rw[aiX,aiu,BA,M];omega) (aS _).1 (aS _).2 λg v r6 o6 b6=>?_;refine o.grown r6 o6 b6 λz ad f7 s7=>?_;rw[wrap_i64 (n:=i+1) ω ω];have A:(i+1).toNat=i.toNat+1:=ω;refine⟨⟨ω,ω,g,?_,f5.trans f7⟩,Ω⟩;rw[A];unfold lens Oo;rw[show((i.toNat:Nat):Int)=i by omega,<-ai5];exact ad
 have ae:i.toNat=8:=ω;rw[ae,<-ac]at o;have ba:=Q1 T;have al:mz T=Oq (lW (Ii T) gN ((Ii T).length/64)) 8:=rfl;rw[al]at I;generalize Ii T=P at*;refine⟨λ_ a=>∃q k',J8 (λi=>Q i/\i≠h.size) a b P k' (T.length:Int) q/\ag (λi=>Q i/\i≠h.size) p a,λ_ a=>QV a b,⟨u,k,o,f5⟩,?_⟩;rintro _ v ⟨g,k6,c,f6⟩;have y:=c.row.len;have bb:=c.fit;rw[aiX]at y;refine⟨g,c.rest,ID (λbc=>?_) λhz=>?_⟩
 ·have am:64<=g.len:=ω;have hc:=c.row.cap;refine⟨g,c.rest,δ,ω,?_⟩;refine c.step am λz _ B o7 ao _=>⟨rfl,g,B.at.2.1,δ,ω,ao _ λO U f8=>?_⟩;refine⟨⟨_,_,U,f6.trans f8⟩,?_⟩;have g1:=wG c.rest;have L:=wG U.rest;simp only[ay]at L;dsimp only;omega
 have ap:k6=P.length/64:=ω;refine aa λz B C s7=>?_;refine⟨_,(c.var.ext C).at.1,?_⟩;rw[ap];have bd:=f6.size;refine⟨λi a=>0<=i/\i<=8/\Var 52 a v.size (.bytes 32 (Oq (lW P gN (P.length/64)) i.toNat))/\ag (·=v.size) z a,λi _=>((8:Int)-i).toNat,⟨aiw 0,δ,B,aiW _ _⟩,?_⟩;rintro i O ⟨N,i1,D,E⟩;refine ID (λd=>?_) λd=>?_
 ·rw[wrap_i64 (n:=4*i) ω ω,wrap_i64 (n:=4*i+1) ω ω,wrap_i64 (n:=4*i+2) ω ω,wrap_i64 (n:=4*i+3) ω ω,wrap_i64 (n:=i+1) ω ω];refine⟨N,ω,δ,δ,δ,ω,ω,kV D (i:=4*i.toNat) ω ω (aS _).1 (aS _).2 λF G H s9=>?_⟩;refine⟨ω,ω,kV G (i:=4*i.toNat+1) ω ω (aS _).1 (aS _).2 λbi v10 ar bj=>?_⟩;refine⟨ω,ω,kV v10 (i:=4*i.toNat+2) ω ω (aS _).1 (aS _).2 λbk v11 aw bl=>?_⟩;refine⟨ω,ω,kV v11 (i:=4*i.toNat+3) ω ω (aS _).1 (aS _).2 λbm aE a0 bo=>?_⟩;have A:(i+1).toNat=i.toNat+1:=ω;refine⟨⟨ω,ω,?_,E.trans (H.trans (ar.trans (aw.trans a0)))⟩,Ω⟩;rw[A];unfold Oq afA ob;exact aE
 ·have a1:i.toNat=8:=ω;rw[a1]at D;have vr:Var 52 O h.size (.bytes 32 (aiJ 32)):=((v1.only f6 (λF=>F.2 rfl)).ext C).only E ω;refine⟨_,D.bytes,aH vr (t:=.bytes 32 (Oq (lW P gN (P.length/64)) 8)) wI λF G H s9=>⟨_,G.bytes,?_⟩⟩;refine I _ (f1.trans ((f6.mono λi d=>d.1).trans ((aiS C).trans ((E.mono λi d=>?_).trans (H.mono λi d=>?_)))))
  ·subst d;exact st.row.new _ ω
  ·subst d;exact st.row.new _ (aix _)
theorem pT{s:Sl}{ts:List (LU)}(e:aj 1 h s (ts.map aiK))(q:ts.flatten.length<700000)(U:ts.length<100000)(A:∀m,Ext h m->R (ai3 32 (mz ts.flatten)).val m):Cl 201 [.slice s] h R:=by
 apply Oy;delta Dt aF gL cQ cE fW qD bz eU bJ bK fD;refine aa λQ v1 n S=>?_;refine yl λp d=>⟨_,rfl,aa λf y r T=>?_⟩;have V:=n.size;have W:=d.size;have z:J8 (λi=>h.size<i) f p.size [] 0 0 Sl.nil:=⟨y,⟨rfl,aix _,.inl ⟨rfl,rfl⟩,(λl q=>by cases q),λi b=>ω⟩,aix _,ω,λl q=>by cases q⟩;have B:=(n.trans d).trans r;have C:=(v1.ext d).ext r;have u:∀a,ag (λi=>h.size<i) f a->Ext h a:=λa o=>ais B o λi b=>ω;have X:=by have:=e.len;rwa [ait]at this
 refine⟨λi a=>0<=i/\i<=s.len/\(∃D k,J8 (λi=>h.size<i) a p.size (ts.take i.toNat).flatten k (ts.take i.toNat).flatten.length D)/\ag (λi=>h.size<i) f a,λi _=>(s.len-i).toNat,⟨aiw 0,ω,⟨Sl.nil,0,z⟩,aiW _ _⟩,?_⟩;rintro i E ⟨F,Y,⟨Z,k4,g⟩,c⟩;refine ID (λb=>?_) λb=>?_
 ·refine(e.ext (u E c)).read F ω λl t ab v G=>?_;rw[aiQ]at v;obtain⟨x,H,rfl⟩:=ai2.1 v;refine⟨x,G,?_⟩;have I:=aU H;have w:=zQ ts (i.toNat+1);rw[I,List.flatten_append,aiu]at w;have J:[x].flatten=x:=by simp
  rw[J]at w;refine WC g ω λj K L ac _ f5=>⟨rfl,?_⟩;rw[wrap_i64 ω ω];have ad:(i+1).toNat=i.toNat+1:=ω;refine⟨⟨ω,ω,⟨K,L,?_⟩,c.trans f5⟩,by grind⟩;simp_all
 ·have M:i.toNat=ts.length:=ω;rw[M,ai7]at g;refine WD g q λj f5=>⟨_,rfl,?_⟩;have N:Var 52 j h.size (.bytes 32 (aiJ 32)):=(C.only c (ajn _)).only f5 (ajn _);refine aH N (t:=.bytes 32 (mz ts.flatten)) wI λO v6 P s6=>⟨_,v6.bytes,?_⟩;exact A O (ais (u j (c.trans f5)) P λi b=>ω)
end
end Board
namespace Board
def MV(n:Int):Nat->LU
 |0=>[]
 |k+1=>aiv (aio .u8 (aiA n 256)).toNat::MV (aio .u64 (aiY n 256)) k
theorem dN:∀(k:Nat)(n:Int),(MV n k).length=k
 |0,_=>rfl
 |k+1,n=>by simp[MV,dN k]
theorem BF:∀(k:Nat)(n:Int),0<=n->n<18446744073709551616->MV n k=yo n k
 |0,_,_,_=>rfl
 |k+1,n,a,e=>by
  have b:aiA n 256=n%256:=ajj a;have c:aiY n 256=n/256:=Int.tdiv_eq_ediv_of_nonneg a
  have d:aiz n ((2:Int)^min (aiq 8) (aip .u64))=n/256:=by
   show aiz n 256=n/256;exact Int.fdiv_eq_ediv_of_nonneg n δ
  rw[MV,yo,b,c,d,bW (n:=n/256) ω ω,BF k (n/256) ω ω,wrap_u8,wrap_u8];congr 3;omega
section
variable{R:Rq}{h:af}
theorem bL:∀(k:Nat)(n:Int)(h:af)(R:Rq),k<=8->(∀A,Ext h A->R (aiK (MV n k)).val A)->Cl 222 [.int .u64 n,.i (k:Int)] h R
 |0,n,h,R,_,q=>by
  apply nJ;delta aF gZ Br Bq On d_ fD;exact ID (λ_=>q h (aiL _)) λB=>absurd δ B
 |k+1,n,h,R,f,q=>by
  apply nJ;delta aF gZ Br Bq On d_ fD;refine ID (λB=>ω) λ_=>⟨δ,δ,?_⟩
  have e:aio .i64 (mn ((k+1:Nat):Int) 8-1)=(k:Int):=by
   rw[Mq,wrap_i64 ω ω];omega
  rw[e];have b:=aS (aiA n 256);have c:=dN k (aio .u64 (aiY n 256));refine⟨⟨aiE _ _,_,str1 b.1 b.2,bL k _ _ _ ω λd a=>⟨_,rfl,a,?_,?_⟩⟩,bL k _ _ _ ω λd a=>⟨_,rfl,a,aiE _ _,_,str1 b.1 b.2,?_,?_⟩⟩
  ·rw[c,aiR];omega
  ·exact q d ((aiE _ _).trans a)
  ·rw[c,aiR];omega
  ·exact q _ (a.trans (aiE _ _))
theorem OA{a b:Bs 32}(q:∀k,Ext h k->R (aiH (aiP a.l b.l)).val k):Cl 133 [.bytes 32 a,.bytes 32 b] h R:=by
 apply mP;delta mq cr bJ lq;refine aa λC v1 l D=>aa λr m g E=>?_;have n:=v1.ext g
 have iI:∀{h:af}{b:Nat}{x:Bs 32}{i:Nat},Var 52 h b (.bytes 32 x)->(d:i<32)->ah h b (0+i*1) (.int .u8 ((x.l[i]'(by rw[x.h];exact d)).toNat:Int)):=by
  intro h b x i v d;have:=v.bytes i d;rw[ajb];unfold ah;rw[this];have c:i<x.l.length:=by rw[x.h];exact d
  simp[List.getD,c]
 refine⟨λs o=>0<=s.2/\s.2<=32/\o=r/\aiP a.l b.l=aiP (a.l.drop s.2.toNat) (b.l.drop s.2.toNat),λs _=>((32:Int)-s.2).toNat,⟨by simp,by simp,rfl,by simp⟩,?_⟩;rintro⟨x,i⟩ o ⟨e,t,rfl,c⟩;simp only at e t c⊢;have F:=a.h;have G:=b.h;refine ID (λd=>?_) λd=>?_
 ·have f:i.toNat<32:=ω;have u:a.l.drop i.toNat=a.l[i.toNat]::a.l.drop (i.toNat+1):=List.drop_eq_getElem_cons ω;have w:b.l.drop i.toNat=b.l[i.toNat]::b.l.drop (i.toNat+1):=List.drop_eq_getElem_cons ω;rw[u,w]at c;simp only[aiP]at c;refine⟨e,d,_,iI n f,e,d,_,iI m f,?_⟩;refine aiG (λp=>?_) (λy=>?_)
  ·refine⟨e,d,_,iI n f,e,d,_,iI m f,?_⟩
   have z:(a.l[i.toNat]==b.l[i.toNat])=false:=by
    rw[beq_eq_false_iff_ne];intro A;rw[A]at p;simp at p
   rw[z,Bool.false_and,Bool.or_false]at c
   have:aiP a.l b.l=decide (((a.l[i.toNat]).toNat:Int)<((b.l[i.toNat]).toNat:Int)):=by
    rw[c];refine decide_eq_decide.2 ?_;rw[UInt8.lt_iff_toNat_lt];omega
   dsimp only;rw[<-this];exact q _ (l.trans g)
  ·have B:a.l[i.toNat]=b.l[i.toNat]:=by
    simp only[Bool.not_eq_false',decide_eq_true_eq]at y;exact UInt8.toNat_inj.1 ω
   rw[wrap_i64 ω ω];refine⟨⟨ω,ω,by trivial,?_⟩,Ω⟩;have j:(i+1).toNat=i.toNat+1:=ω;rw[j,c,B];have:¬(b.l[i.toNat]<b.l[i.toNat]):=UInt8.lt_irrefl _;simp[this]
 ·have j:i.toNat=32:=ω;rw[j,ajf ω,ajf ω]at c;simp only[aiP]at c;rw[c]at q;exact q _ (l.trans g)
theorem gC(n:Int):0<=aio .u64 n/\aio .u64 n<18446744073709551616:=by
 have:aio .u64 n=n%18446744073709551616:=by
  unfold aio;show(if(false&&_)=true then _ else n%2^64)=n%18446744073709551616;simp
 rw[this];omega
end
end Board
namespace Board
section
variable{R:Rq}{h:af}
def zR:LU:=(ajk #[(98:UInt8),(111:UInt8),(97:UInt8),(114:UInt8),(100:UInt8)]).data.toList
def tR(slot who:Int):Bs 32:=mz ((zR++yo (aio .u64 slot) 4)++yo (aio .u64 who) 2)
theorem ZH{R:Rq}{h:af}{slot who:Int}(q:∀b,Ext h b->R (ai3 32 (tR slot who)).val b):Cl 314 [.i slot,.i who] h R:=by
 apply Ij;delta jN gZ MF cQ tM d_ qD bz eU bJ bA fD;refine aa λm v1 n A=>?_;have r1:Row (λi=>h.size<i) m Sl.nil []:=⟨Vc.Own.nil _ _ _,(λl o=>by cases o),λi c=>ω⟩;refine ia (k:=4) r1 δ δ λB C p r=>⟨_,rfl,?_⟩;have D:=gA 4 (aio .u64 slot);have l2:=gA 2 (aio .u64 who);refine ia (k:=2) p (by rw[aiu];simp only[List.length_nil];omega) δ λa E s u=>⟨_,rfl,_,s.str,?_⟩;have d:=r.trans u;have v:Ext h a:=ais n d λi c=>ω;have w:Var 52 a h.size (.bytes 32 (aiJ 32)):=v1.only d (ajn _);have e:[zR,([]++yo (aio .u64 slot) 4)++yo (aio .u64 who) 2].flatten=(zR++yo (aio .u64 slot) 4)++yo (aio .u64 who) 2:=by simp
 have f:=aiE a (row (aiD [aiK zR,aiK (([]++yo (aio .u64 slot) 4)++yo (aio .u64 who) 2)]) 9);refine pT (ts:=[zR,([]++yo (aio .u64 slot) 4)++yo (aio .u64 who) 2]) ?_ ?_ (by simp) λF g=>⟨_,rfl,?_⟩
 ·exact(Vc.Own.new (T:=9) (sz:=1) a [aiK zR,aiK (([]++yo (aio .u64 slot) 4)++yo (aio .u64 who) 2)] (λt j=>by
   simp only[ajo,List.not_mem_nil,or_false]at j;rcases j with rfl|rfl<;>rfl)).elems
 ·have:zR.length=5:=δ;rw[e,aiu,aiu];omega
 ·rw[e];refine aH ((w.ext f).ext g) (t:=.bytes 32 (tR slot who)) wI λx y z G=>⟨_,y.bytes,?_⟩;exact q x (ais ((v.trans f).trans g) z λi c=>ω)
structure ij where
 Du:Bs 32
 who:Int
instance:Inhabited ij:=⟨⟨aiJ 32,0⟩⟩
def ij.tv(s:ij):TV:=.agg [.bytes 32 s.Du,.i s.who]
def Ik(x y:ij):Int:=
 if aiP x.Du.l y.Du.l=true then-1 else if aiP y.Du.l x.Du.l=true then 1 else if x.who<y.who then-1 else if y.who<x.who then 1 else 0
theorem Q2{x:Int}(q:R (aiH false).val h):jc Tryz.prog 334 (ak.vals [.i x]) h R:=by
 apply BG;have:(!decide (x=x))=false:=by simp
 rw[this];exact q
theorem J9{x y:Int}(q:R (TV.i (if x<y then-1 else if y<x then 1 else 0)).val h):jc Tryz.prog 336 (ak.vals [.i x,.i y]) h R:=by
 apply yw;delta sE nj dX aT bA;refine Q2 ⟨_,rfl,Q2 ⟨_,rfl,?_⟩⟩;refine aiI (aiI (ID (λa=>?_) λa=>aji.2 ⟨λb=>?_,λb=>?_⟩))
 ·rw[if_pos a]at q;exact q
 ·rw[if_neg a,if_pos b]at q;exact q
 ·rw[if_neg a,if_neg b]at q;exact q
theorem ux{x y:ij}(q:∀f,Ext h f->R (TV.i (Ik x y)).val f):jc Tryz.prog 316 (ak.vals [x.tv,y.tv]) h R:=by
 apply DZ x.Du x.who y.Du y.who;delta eG sE dx nj bz dX bJ aT bA;refine aa λp v1 n r=>aa λs g i t=>?_;have j:=v1.ext i;have c:=n.trans i;refine⟨x.Du,j.at.1,y.Du,g.at.1,nZ λo a=>⟨_,rfl,aiG (λe=>?_) λe=>?_⟩⟩
 ·have:=q o (c.trans a)
  rwa [show Ik x y=-1 from if_pos e]at this
 ·have k:=j.ext a;have l:=g.ext a;refine⟨y.Du,l.at.1,x.Du,k.at.1,nZ λm b=>⟨_,rfl,aiG (λd=>?_) λd=>?_⟩⟩
  ·have:=q m ((c.trans a).trans b)
   rwa [show Ik x y=1 by unfold Ik;rw[if_neg (by rw[e];decide),if_pos d]]at this
  ·refine⟨x.who,(k.ext b).at.2,y.who,(l.ext b).at.2,J9 ⟨_,rfl,?_⟩⟩;have:=q m ((c.trans a).trans b)
   rwa [show Ik x y=if x.who<y.who then-1 else if y.who<x.who then 1 else 0 by unfold Ik;rw[if_neg (by rw[e];decide),if_neg (by rw[d];decide)]]at this
end
end Board
end Go.Proofs.YtennbinbffdimaaGreat
namespace Go.Proofs
open Go.Shelf
def Tryz.sortIts_ren:Go.Shelf.Ren:=⟨λ|6=>254|15=>273|14=>291|28=>310|29=>311|20=>317|21=>318|22=>319|23=>320|24=>321|25=>322|26=>323|27=>324|46=>337|47=>330|48=>331|49=>338|50=>339|57=>350|n=>n,λ|22=>240|24=>242|25=>329|3=>3|39=>88|0=>0|53=>288|55=>53|4=>4|46=>372|45=>371|50=>169|5=>5|9=>9|66=>397|70=>401|76=>408|77=>409|n=>n,λ|n=>n⟩
theorem Tryz.sortIts:Go.Proofs.SlLaysF0.n6 Tryz.prog Tryz.sortIts_ren:={
 mixed:=κ
 f6:=⟨Tryz.f254.name,δ,Tryz.func254.trans (congrArg some κ)⟩
 f14:=⟨Tryz.f291.name,δ,Tryz.func291.trans (congrArg some κ)⟩
 f15:=Tryz.func273.trans (congrArg some κ)
 f20:=⟨Tryz.f317.name,δ,Tryz.func317.trans (congrArg some κ)⟩
 f21:=⟨Tryz.f318.name,δ,Tryz.func318.trans (congrArg some κ)⟩
 f22:=⟨Tryz.f319.name,δ,Tryz.func319.trans (congrArg some κ)⟩
 f23:=⟨Tryz.f320.name,δ,Tryz.func320.trans (congrArg some κ)⟩
 f24:=⟨Tryz.f321.name,δ,Tryz.func321.trans (congrArg some κ)⟩
 f25:=⟨Tryz.f322.name,δ,Tryz.func322.trans (congrArg some κ)⟩
 f26:=⟨Tryz.f323.name,δ,Tryz.func323.trans (congrArg some κ)⟩
 f27:=⟨Tryz.f324.name,δ,Tryz.func324.trans (congrArg some κ)⟩
 f28:=Tryz.func310.trans (congrArg some κ)
 f29:=Tryz.func311.trans (congrArg some κ)
 f46:=⟨Tryz.f337.name,δ,Tryz.func337.trans (congrArg some κ)⟩
 f47:=Tryz.func330.trans (congrArg some κ)
 f48:=Tryz.func331.trans (congrArg some κ)
 f49:=⟨Tryz.f338.name,δ,Tryz.func338.trans (congrArg some κ)⟩
 f50:=⟨Tryz.f339.name,δ,Tryz.func339.trans (congrArg some κ)⟩
 f57:=⟨Tryz.f350.name,δ,Tryz.func350.trans (congrArg some κ)⟩
 t0:=Tryz.underlying0
 a0:=Tryz.isAgg0
 z0:=Tryz.sizeOf0
 v0:=Tryz.zeroValue0
 t3:=Tryz.underlying3
 a3:=Tryz.isAgg3
 z3:=Tryz.sizeOf3
 v3:=Tryz.zeroValue3
 t4:=Tryz.underlying4
 a4:=Tryz.isAgg4
 z4:=Tryz.sizeOf4
 v4:=Tryz.zeroValue4
 t5:=Tryz.underlying5
 a5:=Tryz.isAgg5
 z5:=Tryz.sizeOf5
 v5:=Tryz.zeroValue5
 t9:=Tryz.underlying9
 a9:=Tryz.isAgg9
 z9:=Tryz.sizeOf9
 v9:=Tryz.zeroValue9
 t22:=Tryz.underlying240
 a22:=Tryz.isAgg240
 z22:=Tryz.sizeOf240
 v22:=Tryz.zeroValue240
 t25:=Tryz.underlying329
 a25:=Tryz.isAgg329
 z25:=Tryz.sizeOf329
 v25:=Tryz.zeroValue329
 t39:=Tryz.underlying88
 a39:=Tryz.isAgg88
 z39:=Tryz.sizeOf88
 v39:=Tryz.zeroValue88
 t45:=Tryz.underlying371
 a45:=Tryz.isAgg371
 z45:=Tryz.sizeOf371
 v45:=Tryz.zeroValue371
 t46:=Tryz.underlying372
 a46:=Tryz.isAgg372
 z46:=Tryz.sizeOf372
 v46:=Tryz.zeroValue372
 t50:=Tryz.underlying169
 a50:=Tryz.isAgg169
 z50:=Tryz.sizeOf169
 v50:=Tryz.zeroValue169
 t53:=Tryz.underlying288
 a53:=Tryz.isAgg288
 z53:=Tryz.sizeOf288
 v53:=Tryz.zeroValue288
 t55:=Tryz.underlying53
 a55:=Tryz.isAgg53
 z55:=Tryz.sizeOf53
 v55:=Tryz.zeroValue53
 t66:=Tryz.underlying397
 a66:=Tryz.isAgg397
 z66:=Tryz.sizeOf397
 v66:=Tryz.zeroValue397
 t70:=Tryz.underlying401
 a70:=Tryz.isAgg401
 z70:=Tryz.sizeOf401
 v70:=Tryz.zeroValue401
 t76:=Tryz.underlying408
 a76:=Tryz.isAgg408
 z76:=Tryz.sizeOf408
 v76:=Tryz.zeroValue408
 t77:=Tryz.underlying409
 a77:=Tryz.isAgg409
 z77:=Tryz.sizeOf409
 v77:=Tryz.zeroValue409}
def Tryz.sortSts_ren:Go.Shelf.Ren:=⟨λ|6=>315|15=>273|14=>335|28=>310|29=>311|20=>342|21=>343|22=>344|23=>345|24=>346|25=>347|26=>348|27=>349|46=>351|47=>330|48=>331|49=>352|50=>353|57=>354|n=>n,λ|22=>382|24=>385|25=>387|3=>3|39=>88|0=>0|53=>288|55=>53|4=>4|46=>372|45=>371|50=>169|5=>5|9=>9|66=>397|70=>401|76=>408|77=>409|n=>n,λ|n=>n⟩
theorem Tryz.sortSts:Go.Proofs.SlLaysF0.n6 Tryz.prog Tryz.sortSts_ren:={
 mixed:=κ
 f6:=⟨Tryz.f315.name,δ,Tryz.func315.trans (congrArg some κ)⟩
 f14:=⟨Tryz.f335.name,δ,Tryz.func335.trans (congrArg some κ)⟩
 f15:=Tryz.func273.trans (congrArg some κ)
 f20:=⟨Tryz.f342.name,δ,Tryz.func342.trans (congrArg some κ)⟩
 f21:=⟨Tryz.f343.name,δ,Tryz.func343.trans (congrArg some κ)⟩
 f22:=⟨Tryz.f344.name,δ,Tryz.func344.trans (congrArg some κ)⟩
 f23:=⟨Tryz.f345.name,δ,Tryz.func345.trans (congrArg some κ)⟩
 f24:=⟨Tryz.f346.name,δ,Tryz.func346.trans (congrArg some κ)⟩
 f25:=⟨Tryz.f347.name,δ,Tryz.func347.trans (congrArg some κ)⟩
 f26:=⟨Tryz.f348.name,δ,Tryz.func348.trans (congrArg some κ)⟩
 f27:=⟨Tryz.f349.name,δ,Tryz.func349.trans (congrArg some κ)⟩
 f28:=Tryz.func310.trans (congrArg some κ)
 f29:=Tryz.func311.trans (congrArg some κ)
 f46:=⟨Tryz.f351.name,δ,Tryz.func351.trans (congrArg some κ)⟩
 f47:=Tryz.func330.trans (congrArg some κ)
 f48:=Tryz.func331.trans (congrArg some κ)
 f49:=⟨Tryz.f352.name,δ,Tryz.func352.trans (congrArg some κ)⟩
 f50:=⟨Tryz.f353.name,δ,Tryz.func353.trans (congrArg some κ)⟩
 f57:=⟨Tryz.f354.name,δ,Tryz.func354.trans (congrArg some κ)⟩
 t0:=Tryz.underlying0
 a0:=Tryz.isAgg0
 z0:=Tryz.sizeOf0
 v0:=Tryz.zeroValue0
 t3:=Tryz.underlying3
 a3:=Tryz.isAgg3
 z3:=Tryz.sizeOf3
 v3:=Tryz.zeroValue3
 t4:=Tryz.underlying4
 a4:=Tryz.isAgg4
 z4:=Tryz.sizeOf4
 v4:=Tryz.zeroValue4
 t5:=Tryz.underlying5
 a5:=Tryz.isAgg5
 z5:=Tryz.sizeOf5
 v5:=Tryz.zeroValue5
 t9:=Tryz.underlying9
 a9:=Tryz.isAgg9
 z9:=Tryz.sizeOf9
 v9:=Tryz.zeroValue9
 t22:=Tryz.underlying382
 a22:=Tryz.isAgg382
 z22:=Tryz.sizeOf382
 v22:=Tryz.zeroValue382
 t25:=Tryz.underlying387
 a25:=Tryz.isAgg387
 z25:=Tryz.sizeOf387
 v25:=Tryz.zeroValue387
 t39:=Tryz.underlying88
 a39:=Tryz.isAgg88
 z39:=Tryz.sizeOf88
 v39:=Tryz.zeroValue88
 t45:=Tryz.underlying371
 a45:=Tryz.isAgg371
 z45:=Tryz.sizeOf371
 v45:=Tryz.zeroValue371
 t46:=Tryz.underlying372
 a46:=Tryz.isAgg372
 z46:=Tryz.sizeOf372
 v46:=Tryz.zeroValue372
 t50:=Tryz.underlying169
 a50:=Tryz.isAgg169
 z50:=Tryz.sizeOf169
 v50:=Tryz.zeroValue169
 t53:=Tryz.underlying288
 a53:=Tryz.isAgg288
 z53:=Tryz.sizeOf288
 v53:=Tryz.zeroValue288
 t55:=Tryz.underlying53
 a55:=Tryz.isAgg53
 z55:=Tryz.sizeOf53
 v55:=Tryz.zeroValue53
 t66:=Tryz.underlying397
 a66:=Tryz.isAgg397
 z66:=Tryz.sizeOf397
 v66:=Tryz.zeroValue397
 t70:=Tryz.underlying401
 a70:=Tryz.isAgg401
 z70:=Tryz.sizeOf401
 v70:=Tryz.zeroValue401
 t76:=Tryz.underlying408
 a76:=Tryz.isAgg408
 z76:=Tryz.sizeOf408
 v76:=Tryz.zeroValue408
 t77:=Tryz.underlying409
 a77:=Tryz.isAgg409
 z77:=Tryz.sizeOf409
 v77:=Tryz.zeroValue409}
end Go.Proofs
namespace Go.Proofs.YtennbinbffdimaaGreat
open Go Go.Vc
namespace Board
def sb(x y:ij):Prop:=aiP x.Du.l y.Du.l=true\/(x.Du=y.Du/\x.who<y.who)
theorem ZI{x y:ij}:Ik x y<0↔sb x y:=by
 unfold Ik sb;by_cases a:aiP x.Du.l y.Du.l=true
 ·simp_all
 ·rw[if_neg a];by_cases b:aiP y.Du.l x.Du.l=true
  ·grind
  ·rw[if_neg b]
   have e:=by
    apply ajp;apply Classical.byContradiction;intro c;rcases jf _ _ c with h|h
    ·exact a h
    ·exact b h
   grind
theorem MX(x:ij):¬sb x x:=by
 rintro(h|⟨_,h⟩)
 ·simp_all [iY]
 ·omega
theorem E7{x y z:ij}(h:sb x y)(k:sb y z):sb x z:=by
 rcases h with h|⟨h,a⟩<;>rcases k with k|⟨k,b⟩
 ·exact .inl (lE _ _ _ h k)
 ·exact .inl (by simp_all)
 ·exact .inl (by simp_all)
 ·exact .inr ⟨h.trans k,ω⟩
theorem Q4{x y:ij}(h:x.who≠y.who):sb x y\/sb y x:=by
 by_cases e:x.Du=y.Du
 ·rcases Int.lt_or_gt_of_ne h with a|a
  ·exact .inl (.inr ⟨e,a⟩)
  ·exact .inr (.inr ⟨e.symm,a⟩)
 ·rcases jf x.Du.l y.Du.l (λb=>e (ajp b))with a|a
  ·exact .inl (.inl a)
  ·exact .inr (.inl a)
theorem Q5(x y:ij):sb x y\/sb y x\/x=y:=by
 by_cases h:x.who=y.who
 ·by_cases e:x.Du=y.Du
  ·cases x;simp_all
  ·rcases jf x.Du.l y.Du.l (λb=>e (ajp b))with a|a
   ·exact .inl (.inl a)
   ·exact .inr (.inl (.inl a))
 grind [Q4]
theorem ady{x y:ij}:Go.Proofs.ltOf Ik x y=true↔sb x y:=by
 unfold Go.Proofs.ltOf;rw[decide_eq_true_iff,ZI]
theorem D1{x y:ij}:Go.Proofs.ltOf Ik x y=false↔¬sb x y:=by
 rw[<-ady];simp
theorem swo:Go.Sort.SWO (Go.Proofs.ltOf Ik) where
 irrefl x:=by simp[MX,D1]
 trans x y z h k:=by grind [ady,E7]
 ntrans x y z h k:=by
  grind [D1,E7,Q5]
def Tu(slot:Int)(n:Nat):List ij:=(aiU n).map λ(i:Nat)=>⟨tR slot (i:Int),(i:Int)⟩
theorem ZJ(slot:Int)(n:Nat):Tu slot (n+1)=Tu slot n++[⟨tR slot (n:Int),(n:Int)⟩]:=by
 simp[Tu,List.range_succ,aiT]
theorem yx(slot:Int)(n:Nat):(Tu slot n).length=n:=by simp[Tu]
noncomputable def leb(x y:ij):Bool:=!Go.Proofs.ltOf Ik y x
noncomputable def sorted(slot:Int)(n:Nat):List ij:=(Tu slot n).mergeSort leb
theorem IN{x y:ij}:leb x y=true↔¬sb y x:=by
 unfold leb;rw[Bool.not_eq_true',D1]
theorem sorted_perm(slot:Int)(n:Nat):(sorted slot n).Perm (Tu slot n):=List.mergeSort_perm _ _
theorem Hz(slot:Int)(n:Nat):(sorted slot n).Pairwise λx y=>¬sb y x:=by
 have:=List.pairwise_mergeSort (le:=leb) (λa b c h k=>by
  rw[IN]at*;exact D1.1 (swo.ntrans _ _ _ (D1.2 k) (D1.2 h))) (λa b=>by
  rw[Bool.or_eq_true,IN,IN]
  grind [sb,MX,E7]) (Tu slot n)
 exact this.imp λ{x y} h=>IN.1 h
theorem kW{slot:Int}{n:Nat}{L:List ij}(q:L.Perm (Tu slot n))(A:L.Pairwise λx y=>¬sb y x):L=sorted slot n:=by
 refine List.Perm.eq_of_pairwise (λa b _ _ h k=>?_) A (Hz slot n) (q.trans (sorted_perm slot n).symm)
 grind [absurd,Q5]
noncomputable def mem(n:Nat)(aQ slot:Int):List Int:=
 if slot<0\/1073741824<slot then[]else((sorted slot n).take (min (max aQ 0) (n:Int)).toNat).map ij.who
theorem o_(slot:Int)(n:Nat):(sorted slot n).length=n:=by rw[(sorted_perm slot n).length_eq,yx]
structure Cf where
 vals:Sl
 ep:Int
 aQ:Int
 no:Int
 eV:Int
 eH:Int
 quo:Int
 pe:Int
 iy:Int
 win:Int
 bH:Int
 dec:Int
def Cf.tv(c:Cf):TV:=.agg [.slice c.vals,.i c.ep,.i c.aQ,.i c.no,.i c.eV,.i c.eH,.i c.quo,.i c.pe,.i c.iy,.i c.win,.i c.bH,.i c.dec]
section
variable{R:Rq}{h:af}
abbrev Q6(l:List ij):List TV:=l.map ij.tv
theorem ij.size(s:ij):s.tv.size=33:=by rfl
theorem ij.plain(s:ij):s.tv.plain=true:=by rfl
theorem E8:(ctx.ti 385).bytes=40:=κ
theorem OB:(ctx.ti 385).size=33:=κ
theorem OC:(ctx.ti 385).z.size=33:=κ
theorem agP:∀w,(isAgg (Tryz.sortSts_ren.t 24)).run Tryz.prog w=.ok true w:=λw=>by
 have a:∃b,Tryz.prog.underlying 385=some (.struct b):=by
  simp_all
 obtain⟨b,a⟩:=a;have:=nQ (w:=w) a;exact this
theorem agQ:∀w,(sizeOf (Tryz.sortSts_ren.t 24)).run Tryz.prog w=.ok 33 w:=λw=>by
 have:=EJ bP (t:=385) κ w;rw[OB]at this;exact this
theorem WH{s:Sl}{L:List ij}(o:Vc.Own 385 33 h s (Q6 L))(A:L.length<1000)
 (q:∀a L',L'.Perm L->L'.Pairwise (λx y=>¬sb y x)->Vc.Own 385 33 a s (Q6 L')->ag (In s) h a->R (ai1 []).val a):Cl 315 [.slice s,.fn (.func 316) [] []] h R:=by
 refine Q3 Tryz.sortSts agP agQ ij.size ij.plain swo (bP.LI κ) (λa x y=>?_) o ω (λa L' b c d f=>?_)
 ·exact ux λi e=>⟨rfl,e⟩
 ·refine q a L' b (c.imp λ{x y} g=>?_) d f
  rwa [D1]at g
theorem WI{s:Sl}{L:List ij}{i:Int}(e:aj 33 h s (Q6 L))(q:0<=i)(B:i<L.length){K:Bs 32->Int->Prop}(A:∀x,L[i.toNat]? =some x->K x.Du x.who):
 0<=i/\i<(s.len:Int)/\Nn s.a λ(l:Vc.Loc)=>∃(b:Bs 32),∃(n:Int),(av h l.b (l.o+i.toNat*33) 32 b/\ah h l.b (l.o+i.toNat*33+32) (.i n))/\K b n:=by
 have c:=e.len;rw[ait]at c;refine e.read q ω λl t g a d=>?_;rw[aiQ]at a;obtain⟨x,f,rfl⟩:=ai2.1 a;exact⟨x.Du,x.who,d,A x f⟩
theorem Q7{s:Sl}{ts:List TV}{i j:Nat}(e:aj 33 h s ts)(q:i<=j)(A:j<=s.len)(B:s.len<=s.cap):aj 33 h (ay s i j 33) ((ts.drop i).take (j-i)):=by
 have g:=e.len;refine⟨by grind [ay,aiX,aiO],λd=>?_,λl a k t b=>?_⟩
 ·unfold ay at d
  have:ts=[]\/i=j:=by
   split at d
   ·omega
   ·left;cases c:s.a with
    |none=>exact e.nil c
    |some l=>simp_all
  rcases this with rfl|rfl<;>simp_all
 ·unfold ay at a;rw[List.getElem?_take]at b;split at b
  ·rw[List.getElem?_drop]at b;split at a
   ·omega
   ·cases c:s.a with
    |none=>simp_all
    |some f=>
     rw[c]at a;simp only[Option.map_some,Option.some.injEq]at a;subst a;have:=e.get f c (i+k) t b
     grind
  grind
theorem yy{c:Cf}{slot:Int}(hv:c.vals.len<900)(O:∀E F,Vc.Own 3 1 E F (ints (mem c.vals.len c.aQ slot))->Ext h E->(∀l,F.a=some l->h.size<=l.b)->R (ai4 F).val E):
 Cl 279 [c.tv,.i slot] h R:=by
 apply C8 c.vals c.ep c.aQ c.no c.eV c.eH c.quo c.pe c.iy c.win c.bH c.dec slot;delta gz sD mu pR jr dD eW aN bK aT;refine aa λp v1 P s1=>?_;intro J hJ
 have Q:=λw=>by
  refine O p Sl.nil ?_ P (λl a=>by cases a);unfold mem;rw[if_pos w];exact Vc.Own.nil _ _ _
 refine ID (λw=>Q (.inl w)) λw=>aji.2 ⟨λS=>Q (.inr S),λS=>?_⟩
 have ab:mem c.vals.len c.aQ slot=((sorted slot c.vals.len).take (min (max c.aQ 0) c.vals.len).toNat).map ij.who:=by
  simp_all [if_neg,mem]
 refine hJ _ _ ?_;have ac:∀d,ag (λi=>h.size<i) p d->Ext h d:=λd o=>ais P o λi G=>ω;have var:∀d,ag (λi=>h.size<i) p d->Var 24 d h.size c.tv:=λd o=>v1.only o (ajn _);refine⟨c.vals,v1.ah rfl,?_⟩
 refine⟨λσ d=>0<=σ.2/\σ.2<=c.vals.len/\Vc.Own 385 33 d σ.1 (Q6 (Tu slot σ.2.toNat))/\(∀l,σ.1.a=some l->h.size<l.b)/\ag (λi=>h.size<i) p d,λσ _=>(c.vals.len-σ.2).toNat,
  ⟨aiw 0,ω,Vc.Own.nil _ _ _,(λl a=>by cases a),aiW _ _⟩,?_⟩
 rintro⟨s,i⟩ h2 ⟨i0,i1,q,y,f2⟩;dsimp only at i0 i1 q y⊢;have z2:=f2.size;refine ID (λG=>?_) λG=>?_
 ·refine ZH λf H=>⟨_,rfl,?_⟩;have r:=q.ext H;have I:=r.len;rw[ait,yx]at I;refine cD (x:=(ij.mk (tR slot i) i).tv) OB OC (by rw[E8];decide) (by rw[E8];omega) r (ij.size _) rfl λs4 g m f4 b4=>?_;rw[wrap_i64 (n:=i+1) ω ω];have ad:(i+1).toNat=i.toNat+1:=ω;have z3:=H.size;refine⟨⟨ω,ω,?_,λl a=>?_,?_⟩,Ω⟩
  ·rw[ad,ZJ];have ae:((i.toNat:Nat):Int)=i:=ω;rw[ae];show Vc.Own 385 33 g s4 ((Tu slot i.toNat++[ij.mk (tR slot i) i]).map ij.tv);rw[aiT];exact m
  ·rcases b4 l a with⟨l',u,L⟩|u
   ·rw[<-L];exact y l' u
   ·omega
  ·refine f2.trans ((aiS H).trans (f4.mono λj⟨l,a,e⟩=>?_));rw[<-e];exact y l a
 ·have al:i.toNat=c.vals.len:=ω;rw[al]at q;have U:=q.len;rw[ait,yx]at U;refine WH q (by rw[yx];omega) λf L' hp hs r f3=>⟨rfl,?_⟩;obtain rfl:=kW hp hs;have M:ag (λi=>h.size<i) p f:=f2.trans (f3.mono λj⟨l,a,e⟩=>by rw[<-e];exact y l a);refine⟨c.aQ,(var f M).ah rfl,?_⟩;have hm:mn (mx c.aQ 0) (s.len:Int)=min (max c.aQ 0) (c.vals.len:Int):=by rw[adm,Mq,U]
  dsimp only;rw[hm];have am:=r.cap;have ao:0<=min (max c.aQ 0) (c.vals.len:Int):=ω;have a2:min (max c.aQ 0) (c.vals.len:Int)<=(c.vals.len:Int):=ω;refine⟨ao,ω,?_⟩;generalize a3:(min (max c.aQ 0) (c.vals.len:Int)).toNat=k at*;have a4:k<=c.vals.len:=ω
  have e3:aj 33 f (ay s 0 k 33) (Q6 ((sorted slot c.vals.len).take k)):=by
   have:=Q7 (i:=0) (j:=k) r.elems (aiV _) ω am;rw[List.drop_zero,Nat.sub_zero,<-List.map_take]at this;exact this
  have V:(ay s 0 k 33).len=k:=by simp[ay]
  have ap:((sorted slot c.vals.len).take k).length=k:=by rw[aiO,o_];omega
  rw[V]
  refine⟨λσ d=>0<=σ.2/\σ.2<=k/\Vc.Own 3 1 d σ.1 (ints (((sorted slot c.vals.len).take σ.2.toNat).map ij.who))/\(∀l,σ.1.a=some l->f.size<=l.b)/\Ext f d,λσ _=>((k:Int)-σ.2).toNat,
   ⟨aiw 0,by dsimp only;omega,Vc.Own.nil _ _ _,(λl a=>by cases a),aiL _⟩,?_⟩
  rintro⟨t,j⟩ g ⟨W,j1,m,b4,z⟩;dsimp only at W j1 m b4⊢;have z3:=M.size;have z4:=z.size;refine ID (λhj=>?_) λhj=>?_
  ·have X:=WI (e3.ext z) W (by rw[ap];omega) (K:=λb n=>Vc.Bind (iW g (TV.agg [ai3 32 (aiJ 32),TV.i 0]) 385) λY=>
    gT Y g.size 0 33/\Vc.Bind (ajh Y g.size 0 (TV.agg [ai3 32 b,TV.i n])) λA=>∃(n:Int),ah A g.size 32 (Value.i n)/\
     ∃(new:List Value),cn (Array.push A (row (aiD [TV.i n]) 3)) (Sl.mk (some (Vc.Loc.mk (Array.size A) 0)) 1 1) 1 new/\(∀(v:Value),v∈new->bU v=true)/\
      au ctx 3 t 1 new (Array.push A (row (aiD [TV.i n]) 3)) λB h=>(0<=(B,aio ajq (j+1)).snd/\(B,aio ajq (j+1)).snd<=k/\Vc.Own 3 1 h B (ints (((sorted slot c.vals.len).take (aio ajq (j+1)).toNat).map ij.who))/\(∀l,B.a=some l->f.size<=l.b)/\Ext f h)/\((k:Int)-aio ajq (j+1)).toNat<((k:Int)-j).toNat) λx D=>?_
   ·rw[V]at X;exact X
   ·refine aa λh5 v5 x5 s5=>aH v5 (t:=x.tv) (by simp only[ij.tv,ajr,ak.size]) λh6 v6 o6 s6=>⟨x.who,v6.ah (by
     have:x.tv.cells=(ai3 32 x.Du).cells++[Value.i x.who]:=by simp only[ij.tv,TV.cells,aiD,List.append_nil]
     rw[this,List.getElem?_append_right (by rw[TV.ai];exact aix _),TV.ai];rfl),?_⟩
    have N:Ext g h6:=ais x5 o6 λi G=>ω;have Z:=m.ext N;have I:=Z.len;have ar:((sorted slot c.vals.len).take j.toNat).length=j.toNat:=by rw[aiO,o_];omega
    rw[ait,ait,ar]at I;refine cD (C:=ctx) (T:=3) (sz:=1) (x:=.i x.who) MR Gs (by rw[sG];decide) (by rw[sG];omega) Z rfl rfl λs7 h7 o7 f7 b7=>?_;rw[wrap_i64 (n:=j+1) ω ω];have aw:(j+1).toNat=j.toNat+1:=ω
    have aE:(sorted slot c.vals.len)[j.toNat]? =some x:=by
     rw[List.getElem?_take]at D;split at D
     ·exact D
     ·cases D
    refine⟨⟨by dsimp only;omega,by dsimp only;omega,?_,λl a=>?_,?_⟩,ω⟩
    ·rw[aw,aU aE];simp only[ints,aiT,aiZ,ajs]at o7⊢;exact o7
    ·have z6:=N.size;rcases b7 l a with⟨l',u,L⟩|u
     ·rw[<-L];exact b4 l' u
     ·omega
    ·refine ais (z.trans N) f7 λi⟨l,a,e⟩=>?_;rw[<-e];exact b4 l a
  ·have a0:j.toNat=k:=ω;rw[a0]at m;have a1:Ext h g:=(ac f M).trans z;have:=O g t (by rw[ab];exact m) a1 (λl a=>by have:=b4 l a;omega);exact this
end
end Board
namespace Board
structure Vd where
 cF:Int
 key:LU
instance:Inhabited Vd:=⟨⟨0,[]⟩⟩
def Vd.tv(v:Vd):TV:=.agg [.i v.cF,.str v.key]
theorem Vd.size(v:Vd):v.tv.size=2:=by simp only[Vd.tv,ajr,ak.size]
abbrev jx(l:List Vd):List TV:=l.map Vd.tv
def idx:List Int->Int->Int->Int
 |[],_,_=>-1
 |x::a,v,i=>if v=x then i else idx a v (i+1)
def uy:List Int->Int
 |[]=>-1
 |x::_=>x
def pk:List Int->List Bool->List Int
 |x::a,b::bs=>if b=true then x::pk a bs else pk a bs
 |_,_=>[]
theorem OD:∀(q:List Int)(bs:List Bool)(x:Int)(b:Bool),q.length=bs.length->pk (q++[x]) (bs++[b])=pk q bs++(if b=true then[x]else[])
 |[],[],x,b,_=>by cases b<;>simp[pk]
 |[],_::_,_,_,h=>by cases h
 |_::_,[],_,_,h=>by cases h
 |y::a,c::d,x,b,h=>by
  have e:=OD a d x b (by simpa using h);simp only[List.cons_append,pk];rw[e];cases c<;>simp
section
variable{R:Rq}{h:af}{c:Cf}
theorem kE{s t:Sl}{l m:List Int}(e:aj 1 h s (ints l))(k:aj 1 h t (ints m))(B:l.length<100000)(q:R (aiH (decide (l=m))).val h):Cl 64 [.slice s,.slice t] h R:=by
 apply mQ;delta jM aO mq fE bK lq;have el:=iP e;have C:=iP k;have no:l≠m->R (TV.val (aiH false)) h:=λp=>by rw[decide_eq_false p]at q;exact q
 refine aiG (λa=>?_) λa=>?_
 ·exact no λd=>by subst d;simp at a;omega
 ·have D:s.len=t.len:=by simp at a;omega
  refine⟨λσ j=>0<=σ.2/\σ.2<=s.len/\j=h/\l.take σ.2.toNat=m.take σ.2.toNat,λσ _=>((s.len:Int)-σ.2).toNat,⟨aiw 0,Ω,rfl,rfl⟩,?_⟩;rintro⟨f,i⟩ j ⟨g,r,rfl,c⟩;dsimp only at g r c⊢;refine ID (λu=>?_) λu=>?_
  ·refine gB e g ω λx o=>gB k g ω λy b=>?_;refine aiG (λa=>?_) λa=>?_
   ·refine no λd=>?_;subst d;rw[o]at b;injection b with b;subst b;simp at a
   ·have v:x=y:=by simpa using a
    rw[wrap_i64 (n:=i+1) ω ω];have w:(i+1).toNat=i.toNat+1:=ω;refine⟨⟨Ω,Ω,rfl,?_⟩,Ω⟩
    try dsimp only
    rw[w,aU o,aU b,c,v]
  ·have z:i.toNat=l.length:=ω;have A:l.length=m.length:=ω;rw[z,ai7,A,ai7]at c;rw[decide_eq_true c]at q;exact q
theorem D2{s:Sl}{l:List Int}{v:Int}(e:aj 1 h s (ints l))(A:l.length<100000)(q:R (TV.i (idx l v 0)).val h):Cl 280 [.slice s,.i v] h R:=by
 apply pU;delta iZ nj gI bK;have el:=iP e;refine⟨λσ c=>0<=σ.2/\σ.2<=s.len/\c=h/\idx l v 0=idx (l.drop σ.2.toNat) v σ.2,λσ _=>((s.len:Int)-σ.2).toNat,⟨aiw 0,Ω,rfl,rfl⟩,?_⟩;rintro⟨f,i⟩ c ⟨d,g,rfl,a⟩;dsimp only at d g a⊢;refine ID (λj=>?_) λj=>?_
 ·refine gB e d ω λx k=>?_;rw[BD k,idx]at a;refine ID (λb=>?_) λb=>?_
  ·rw[if_pos b]at a;rw[a]at q;exact q
  ·rw[if_neg b]at a;rw[wrap_i64 (n:=i+1) ω ω];have m:(i+1).toNat=i.toNat+1:=ω;refine⟨⟨Ω,Ω,rfl,?_⟩,Ω⟩
   try dsimp only
   rw[m];exact a
 ·have o:l.drop i.toNat=[]:=ajf ω;rw[o,idx]at a;rw[a]at q;exact q
theorem sK(n:Nat)(aQ slot:Int):(mem n aQ slot).length<=n:=by
 unfold mem;split
 ·exact aiV _
 ·rw[ait,aiO,o_];omega
theorem Tv{slot who:Int}(q:c.vals.len<900)(A:∀a,Ext h a->R (TV.i (idx (mem c.vals.len c.aQ slot) who 0)).val a):Cl 235 [c.tv,.i slot,.i who] h R:=by
 apply E9 c.vals c.ep c.aQ c.no c.eV c.eH c.quo c.pe c.iy c.win c.bH c.dec slot who;delta dJ aT;refine aa λg v1 b j=>?_;refine⟨c.vals,c.ep,c.aQ,c.no,c.eV,c.eH,c.quo,c.pe,c.iy,c.win,c.bH,c.dec,v1.at,?_⟩;refine yy (c:=c) q λd k e f _=>⟨_,rfl,?_⟩;have:=sK c.vals.len c.aQ slot;exact D2 e.elems ω ⟨_,rfl,A d (b.trans f)⟩
theorem LS{slot:Int}(q:c.vals.len<900)(A:∀b,Ext h b->R (TV.i (uy (mem c.vals.len c.aQ slot))).val b):Cl 234 [c.tv,.i slot] h R:=by
 apply BH c.vals c.ep c.aQ c.no c.eV c.eH c.quo c.pe c.iy c.win c.bH c.dec slot;delta gK yh nj dJ bK aT;refine aa λm v1 f n=>?_;refine⟨c.vals,c.ep,c.aQ,c.no,c.eV,c.eH,c.quo,c.pe,c.iy,c.win,c.bH,c.dec,v1.at,?_⟩;refine yy (c:=c) q λg o d j _=>⟨_,rfl,?_⟩;have e:=A g (f.trans j);have el:=iP d.elems;generalize mem c.vals.len c.aQ slot=l at*;refine ID (λk=>gB d.elems (aiw 0) ω λx a=>?_) λk=>?_
 ·cases l with
  |nil=>cases a
  |cons y p=>
   injection a with a;subst a;exact e
 ·have:l=[]:=ajl ω;subst this;exact e
theorem Gv{slot:Int}{bits:Sl}{row:List Bool}(H:c.vals.len<900)(e:aj 1 h bits (aY row))
 (A:∀a,Ext h a->(mem c.vals.len c.aQ slot=[]\/row.length≠(mem c.vals.len c.aQ slot).length)->R (ai1 [.slice Sl.nil,.bool false]).val a)
 (I:∀a y,Vc.Own 3 1 a y (ints (pk (mem c.vals.len c.aQ slot) row))->Ext h a->mem c.vals.len c.aQ slot≠[]->row.length=(mem c.vals.len c.aQ slot).length->R (ai1 [.slice y,.bool true]).val a):
 Cl 233 [c.tv,.i slot,.slice bits] h R:=by
 apply Gu c.vals c.ep c.aQ c.no c.eV c.eH c.quo c.pe c.iy c.win c.bH c.dec slot bits;delta jr dD eW uQ bK aT;refine aa λh1 v1 G s1=>?_;refine⟨c.vals,c.ep,c.aQ,c.no,c.eV,c.eH,c.quo,c.pe,c.iy,c.win,c.bH,c.dec,v1.at,?_⟩;refine yy (c:=c) H λm o z x2 _=>⟨_,rfl,?_⟩;have q:=G.trans x2;have el:=iP z.elems;have ml:=sK c.vals.len c.aQ slot;generalize mem c.vals.len c.aQ slot=l at*;have K:row.length=bits.len:=by have:=e.len;rwa [ait]at this
 intro J L;refine ID (λM=>A m q (.inl (ajl ω))) λM=>aiG (λs=>?_) λs=>?_
 ·refine A m q (.inr λd=>?_);rw[K,el]at d;simp[d]at s
 ·have ab:bits.len=o.len:=by
   have:((bits.len:Nat):Int)=((o.len:Nat):Int):=by simpa using s
   omega
  refine L _ _ ?_
  refine⟨λσ B=>0<=σ.2/\σ.2<=o.len/\Vc.Own 3 1 B σ.1 (ints (pk (l.take σ.2.toNat) (row.take σ.2.toNat)))/\(∀p,σ.1.a=some p->m.size<=p.b)/\Ext m B/\σ.1.len<=σ.2.toNat,λσ _=>((o.len:Int)-σ.2).toNat,
   ⟨aiw 0,Ω,Vc.Own.nil _ _ _,(λp k=>by cases k),aiL _,aiV _⟩,?_⟩
  rintro⟨t,i⟩ N ⟨u,O,f,r,g,P⟩;dsimp only at u O f r P⊢;refine ID (λQ=>?_) λQ=>?_
  ·refine gB (z.elems.ext g) u ω λx d=>kD ((e.ext q).ext g) u ω λb S=>?_;have D:(i+1).toNat=i.toNat+1:=ω;have v:=OD (l.take i.toNat) (row.take i.toNat) x b (by rw[aiO,aiO];omega);rw[<-aU d,<-aU S]at v;rw[wrap_i64 (n:=i+1) ω ω];have z3:=g.size;cases b with
   |false=>
    refine aiI ⟨⟨Ω,Ω,?_,r,g,Ω⟩,Ω⟩
    try dsimp only
    rw[D,v];simpa using f
   |true=>
    have U:=f.len;rw[ait]at U;refine aiN (cD (C:=ctx) (T:=3) (sz:=1) (x:=.i x) MR Gs (by rw[sG];decide) (by rw[sG];omega) f rfl rfl λs4 h4 w f4 b4=>?_);have V:=w.len;rw[aiu,ait,aiR]at V;refine⟨⟨Ω,Ω,?_,λp k=>?_,?_,Ω⟩,Ω⟩
    ·try dsimp only
     rw[D,v];simp only[ints,if_true,aiT,aiZ,ajs]at w⊢;exact w
    ·rcases b4 p k with⟨W,E,X⟩|E
     ·rw[<-X];exact r W E
     ·omega
    ·refine ais g f4 λj⟨p,k,Y⟩=>?_;rw[<-Y];exact r p k
  ·have Z:i.toNat=l.length:=ω;have F:row.length=l.length:=ω;rw[Z,ai7,<-F,ai7]at f;exact I N t f (q.trans g) (λd=>by subst d;simp at el;omega) F
theorem E_{s:Sl}{l:List Vd}{i:Int}(e:aj 2 h s (jx l))(q:0<=i)(B:i<l.length){K:Int->LU->Prop}(A:∀x,l[i.toNat]? =some x->K x.cF x.key):
 0<=i/\i<(s.len:Int)/\Nn s.a λ(p:Vc.Loc)=>∃(n:Int),∃(k:LU),(ah h p.b (p.o+i.toNat*2) (.i n)/\ah h p.b (p.o+i.toNat*2+1) (.string (ajk k.toArray)))/\K n k:=by
 have b:=e.len;rw[ait]at b;refine e.read q ω λp t f a c=>?_;rw[aiQ]at a;obtain⟨x,d,rfl⟩:=ai2.1 a;exact⟨x.cF,x.key,c,A x d⟩
theorem J_{L:List Vd}(e:aj 2 h c.vals (jx L))(q:∀a,Ext h a->R (aiH true).val a)(A:∀a,Ext h a->c.vals.len<=100->R (aiH false).val a):Cl 18 [c.tv] h R:=by
 apply wN c.vals c.ep c.aQ c.no c.eV c.eH c.quo c.pe c.iy c.win c.bH c.dec;delta fH jM mq fE dz bK lq;refine aa λm v1 d y=>⟨c.vals,v1.ah rfl,ID (λo=>q m d) λo=>⟨c.vals,v1.ah rfl,?_⟩⟩;have el:L.length=c.vals.len:=by have:=e.len;rwa [ait]at this
 refine⟨λσ p=>0<=σ.2/\σ.2<=c.vals.len/\Ext h p,λσ _=>((c.vals.len:Int)-σ.2).toNat,⟨aiw 0,Ω,d⟩,?_⟩;rintro⟨f,i⟩ r ⟨g,s,b⟩;dsimp only at g s⊢;refine ID (λj=>?_) λj=>A r b ω;refine E_ (e.ext b) g ω λx z=>aa λB u v C=>aH u (t:=x.tv) rfl λk v4 w D=>?_;have l:Ext h k:=b.trans (ais v w λi j=>ω);refine⟨x.key,v4.ah rfl,ID (λ_=>q k l) λ_=>?_⟩;rw[wrap_i64 (n:=i+1) ω ω];exact⟨⟨Ω,Ω,l⟩,Ω⟩
def eA(c:Cf):List Int:=[c.ep,32,c.aQ,mn 16 (c.vals.len:Int),c.no,256,c.eV,64,c.eH,64,c.quo,64,c.pe,16,c.iy,256,c.win,64,c.bH,1048576,c.dec,1048576,(c.vals.len:Int),64]
theorem Fa(q:∀a s,aj 1 a s (ints (eA c))->Ext h a->R (ai4 s).val a):Cl 162 [c.tv] h R:=by
 apply tS c.vals c.ep c.aQ c.no c.eV c.eH c.quo c.pe c.iy c.win c.bH c.dec;delta nG jN fH nY d_ aN bK aT bA fD;refine aa λb v1 d f=>?_;refine⟨c.ep,v1.ah rfl,c.aQ,v1.ah rfl,c.vals,v1.ah rfl,c.no,v1.ah rfl,c.eV,v1.ah rfl,c.eH,v1.ah rfl,c.quo,v1.ah rfl,c.pe,v1.ah rfl,c.iy,v1.ah rfl,c.win,v1.ah rfl,c.bH,v1.ah rfl,c.dec,v1.ah rfl,c.vals,v1.ah rfl,?_⟩
 have o:=Vc.Own.new (T:=3) (sz:=1) b (ints (eA c)) (λt e=>by
  obtain⟨x,_,rfl⟩:=aja.1 e;rfl)
 exact q _ _ o.elems (d.trans (aiE _ _))
structure Gw(c:Cf):Prop where
 agR:1<=c.aQ
 agS:c.aQ<=c.vals.len
 agT:c.aQ<=16
 len:c.vals.len<=64
end
end Board
namespace Gate
open Board (Vd Cf yo)
def tH(n most:Int):Bool:=decide (1<=n)&&decide (n<=most)
def Q8(v:Vd):Bool:=decide (0<=v.cF)&&decide (v.cF<4611686018427387904)&&tH v.key.length 32
def pV:List Vd->Int->Option Int
 |[],s=>some s
 |v::L,s=>if Q8 v=true/\s+v.cF<4611686018427387904 then pV L (s+v.cF)else none
def uz(c:Cf)(L:List Vd):Bool:=
 (pV L 0).isSome&&tH L.length 64&&(tH c.ep 32&&tH c.aQ (min 16 L.length)&&tH c.no 256&&tH c.eV 64&&tH c.eH 64&&tH c.quo 64&&tH c.pe 16&&tH c.iy 256&&tH c.win 64&&tH c.bH 1048576&&tH c.dec 1048576)
theorem ace{n m:Int}:tH n m=true↔1<=n/\n<=m:=by simp[tH]
structure Can(c:Cf)(L:List Vd):Prop where
 tot:∃s,pV L 0=some s
 len:1<=L.length/\L.length<=64
 ep:1<=c.ep/\c.ep<=32
 aQ:1<=c.aQ/\c.aQ<=16/\c.aQ<=L.length
 no:1<=c.no/\c.no<=256
 eV:1<=c.eV/\c.eV<=64
 eH:1<=c.eH/\c.eH<=64
 quo:1<=c.quo/\c.quo<=64
 pe:1<=c.pe/\c.pe<=16
 iy:1<=c.iy/\c.iy<=256
 win:1<=c.win/\c.win<=64
 bH:1<=c.bH/\c.bH<=1048576
 dec:1<=c.dec/\c.dec<=1048576
theorem mR{c:Cf}{L:List Vd}:uz c L=true↔Can c L:=by
 unfold uz;simp only[ajg,ace,Option.isSome_iff_exists];constructor
 ·rintro⟨⟨a,m⟩,⟨⟨⟨⟨⟨⟨⟨⟨⟨⟨b,n⟩,d⟩,e⟩,f⟩,g⟩,h⟩,i⟩,j⟩,k⟩,l⟩⟩;exact⟨a,ω,b,ω,d,e,f,g,h,i,j,k,l⟩
 ·rintro⟨a,m,b,n,d,e,f,g,h,i,j,k,l⟩;exact⟨⟨a,ω,ω⟩,⟨⟨⟨⟨⟨⟨⟨⟨⟨⟨b,ω,ω⟩,d⟩,e⟩,f⟩,g⟩,h⟩,i⟩,j⟩,k⟩,l⟩⟩
theorem OE:∀{L:List Vd}{s t:Int},0<=s->s<4611686018427387904->pV L s=some t->(∀v∈L,Q8 v=true)/\t=s+(L.map Vd.cF).sum/\t<4611686018427387904
 |[],s,t,f,q,h=>by cases h;exact⟨λv A=>(by cases A),by simp,q⟩
 |v::L,s,t,f,q,h=>by
  unfold pV at h;split at h
  ·rename_i d;have A:0<=v.cF:=by have:=d.1;simp only[Q8,ajg,decide_eq_true_eq]at this;exact this.1.1
   obtain⟨a,b,c⟩:=OE ω d.2 h;refine⟨λx e=>?_,by rw[b];simp;omega,c⟩;rcases ajo.1 e with rfl|e
   ·exact d.1
   ·exact a x e
  ·cases h
def yA:LU:=(ajk #[(116:UInt8),(111:UInt8),(108:UInt8),(108:UInt8),(101:UInt8),(114:UInt8)]).data.toList
def WJ(n:Int):LU:=yo (aio .u64 n) 4
def qF(v:Vd):LU:=(yo (aio .u64 v.cF) 8++yo (aio .u64 (v.key.length:Int)) 1)++v.key
def kH(c:Cf)(n:Nat):List Int:=[c.ep,c.aQ,c.no,c.eV,c.eH,c.quo,c.pe,c.iy,c.win,c.bH,c.dec,(n:Int)]
def qG(c:Cf)(L:List Vd):LU:=(kH c L.length).flatMap WJ++L.flatMap qF
def wP(c:Cf)(L:List Vd):Bs 32:=Board.mz (yA++qG c L)
end Gate
namespace Board
structure Vt where
 who:Int
 slot:Int
 target:Bs 32
def Vt.tv(v:Vt):TV:=.agg [.i v.who,.i v.slot,.bytes 32 v.target]
abbrev Et(l:List Vt):List TV:=l.map Vt.tv
end Board
namespace Gate
open Pool (zH)
open Board (Vt)
structure Tb where
 slots:Int
 bE:List (Option Vt)
 out:List Bool
 first:List ((Int×Int)×Bs 32)
structure wQ(t:Tb)(n:Nat):Prop where
 slots:1<=t.slots/\t.slots<=32
 nn:1<=n/\n<=64
 Ac:t.bE.length=n
 uN:t.out.length=n
 Tw:∀(i:Nat)(v:Vt),t.bE[i]? =some (some v)->v.who=i/\0<=v.slot/\v.slot<=1073741824
 one:(nC t.first).Nodup
 fst:∀e∈t.first,0<=e.1.1/\e.1.1<n/\0<=e.1.2/\e.1.2<=1073741824
def iQ(n:Nat)(q:Int):Tb:=⟨q,aiC n none,aiC n false,[]⟩
theorem Q9{n:Nat}{q:Int}(h:1<=q/\q<=32)(A:1<=n/\n<=64):wQ (iQ n q) n:=
 ⟨h,A,by simp[iQ],by simp[iQ],λi v a=>by
   have:=List.mem_of_getElem? a;simp[iQ,List.mem_replicate]at this,List.nodup_nil,λe b=>by cases b⟩
def eB(t:Tb)(who:Int):Option Vt:=if 0<=who then(t.bE.getD who.toNat none)else none
def uA(t:Tb)(who:Int):Bool:=t.out.getD who.toNat false
def aP(t:Tb)(slot:Int):Int:=aiY slot t.slots
def c_(t:Tb)(v:Vt):Int×Tb:=
 if¬(0<=v.who/\v.who<t.bE.length/\0<=v.slot/\v.slot<=1073741824)then(5,t)
 else if uA t v.who=true then(4,t)
 else match lG (v.who,aP t v.slot) t.first with
  |some r=>if r=v.target then(1,t)else(2,{t with out:=t.out.set v.who.toNat true})
  |none=>match eB t v.who with
   |some l=>if aP t v.slot<aP t l.slot then(3,{t with first:=t.first++[((v.who,aP t v.slot),v.target)]})
    else(0,{t with bE:=t.bE.set v.who.toNat (some v),first:=t.first++[((v.who,aP t v.slot),v.target)]})
   |none=>(0,{t with bE:=t.bE.set v.who.toNat (some v),first:=t.first++[((v.who,aP t v.slot),v.target)]})
def dW(t:Tb)(slot:Int):Tb:=if slot<0 then t else{t with first:=t.first.filter λe=>decide (aP t slot<=e.1.2)}
theorem sL{t:Tb}{n:Nat}(o:wQ t n){s:Int}(q:0<=s)(A:s<=1073741824):0<=aP t s/\aP t s<=1073741824:=by
 unfold aP;have:=o.slots;rw[Int.tdiv_eq_ediv_of_nonneg q];exact⟨Int.ediv_nonneg q ω,Int.le_trans (Int.ediv_le_self _ q) A⟩
theorem wQ.forget{t:Tb}{n:Nat}(o:wQ t n)(slot:Int):wQ (dW t slot) n:=by
 unfold dW;split
 ·exact o
 ·exact⟨o.slots,o.nn,o.Ac,o.uN,o.Tw,o.one.sublist (List.filter_sublist.map _),λe a=>o.fst e (List.mem_filter.1 a).1⟩
theorem yB{t:Tb}{n:Nat}(o:wQ t n){k:Int×Int}{r:Bs 32}(q:lG k t.first=none):(nC (t.first++[(k,r)])).Nodup:=by
 have:=CA.1 q;unfold nC at this⊢;rw[aiT,List.nodup_append];refine⟨o.one,by simp,λa c b d=>?_⟩;have:b=k:=by simpa using d
 rw[this];rintro rfl;exact(CA.1 q) c
theorem wQ.take{t:Tb}{n:Nat}(o:wQ t n)(v:Vt):wQ (c_ t v).2 n:=by
 unfold c_;split
 ·exact o
 ·rename_i h;have h:=Decidable.not_not.1 h;have f:=o.Ac;have d:=sL o h.2.2.1 h.2.2.2
  have more:∀e∈t.first++[((v.who,aP t v.slot),v.target)],0<=e.1.1/\e.1.1<n/\0<=e.1.2/\e.1.2<=1073741824:=λe b=>by
   rcases List.mem_append.1 b with b|b
   ·exact o.fst e b
   ·rw[List.mem_singleton.1 b];exact⟨h.1,by simp only;omega,d⟩
  have Tw:∀(i:Nat)(x:Vt),(t.bE.set v.who.toNat (some v))[i]? =some (some x)->x.who=i/\0<=x.slot/\x.slot<=1073741824:=λi x a=>by
   rw[List.getElem?_set]at a;split at a
   ·rename_i g;split at a
    ·cases a;exact⟨ω,h.2.2⟩
    ·cases a
   ·exact o.Tw i x a
  split
  ·exact o
  ·split
   ·split
    ·exact o
    ·exact⟨o.slots,o.nn,o.Ac,by simp[o.uN],o.Tw,o.one,o.fst⟩
   ·rename_i c;split
    ·split
     ·exact⟨o.slots,o.nn,o.Ac,o.uN,o.Tw,yB o c,more⟩
     ·exact⟨o.slots,o.nn,by simp[o.Ac],o.uN,Tw,yB o c,more⟩
    ·exact⟨o.slots,o.nn,by simp[o.Ac],o.uN,Tw,yB o c,more⟩
def jh(st:List Int)(i:Nat):Int:=st.getD i 0
def aK(t:Tb)(st:List Int)(i:Nat)(r:Bs 32):Int:=
 if t.out.getD i false=true then 0 else match t.bE.getD i none with
  |some v=>if v.target=r then jh st i else 0
  |none=>0
def pW(t:Tb)(st:List Int)(r:Bs 32):Int:=((aiU st.length).map λi=>aK t st i r).sum
structure wR(st:List Int):Prop where
 pos:∀x∈st,0<=x
 sum:st.sum<4611686018427387904
theorem D4{st:List Int}(o:wR st)(i:Nat):0<=jh st i:=by
 unfold jh;rw[aiy];cases h:st[i]? with
 |none=>simp
 |some x=>exact o.pos x (List.mem_of_getElem? h)
theorem lJ{t:Tb}{st:List Int}(o:wR st)(i:Nat)(r:Bs 32):0<=aK t st i r:=by
 have:=D4 o i;unfold aK;split
 ·omega
 ·split
  ·split<;>omega
  ·omega
theorem aec{l:List Nat}{f g:Nat->Int}(h:∀x∈l,f x<=g x):(l.map f).sum<=(l.map g).sum:=by
 induction l with
 |nil=>simp
 |cons x l a=>
  simp only[aiZ,ai6];have:=h x (List.mem_cons_self ..);have:=a λy b=>h y (List.mem_cons_of_mem _ b);omega
theorem Vp{α:Type}{l:List α}{f:α->Int}(h:∀x∈l,0<=f x):0<=(l.map f).sum:=by
 induction l with
 |nil=>simp
 |cons x l a=>
  simp only[aiZ,ai6];have:=h x (List.mem_cons_self ..);have:=a λy b=>h y (List.mem_cons_of_mem _ b);omega
theorem Q_{t:Tb}{st:List Int}(o:wR st)(r:Bs 32):0<=pW t st r:=Vp λi _=>lJ o i r
theorem ZK(st:List Int):((aiU st.length).map (jh st)).sum=st.sum:=by
 have:(aiU st.length).map (jh st)=st:=by
  apply ajd
  ·simp
  ·intro i b a;simp[jh,aiM a]
 rw[this]
theorem ZL{α:Type}(l:List α)(m:List Nat)(f:α->Nat->Int):(l.map λx=>(m.map (f x)).sum).sum=(m.map λi=>(l.map λx=>f x i).sum).sum:=by
 induction l with
 |nil=>simp[pP]
 |cons x l a=>
  simp only[aiZ,ai6,a];rw[<-uk]
theorem J'{t:Tb}{st:List Int}(o:wR st)(i:Nat):∀{q:List (Bs 32)},q.Nodup->(q.map λr=>aK t st i r).sum<=jh st i
 |[],_=>D4 o i
 |r::q,f=>by
  obtain⟨A,B⟩:=List.nodup_cons.1 f;have m:=J' (t:=t) o i B;simp only[aiZ,ai6];by_cases a:aK t st i r=0
  ·rw[a];omega
  ·have c:(t.bE.getD i none).map (·.target)=some r/\aK t st i r=jh st i:=by
    unfold aK at a⊢;split at a
    ·exact absurd rfl a
    ·rename_i g;rw[if_neg g];cases b:t.bE.getD i none with
     |none=>rw[b]at a;exact absurd rfl a
     |some v=>
      rw[b]at a;simp only at a⊢;by_cases d:v.target=r
      ·rw[if_pos d];exact⟨by simp[d],rfl⟩
      ·rw[if_neg d]at a;exact absurd rfl a
   have h:∀x∈q,aK t st i x=0:=λx j=>by
    have k:x≠r:=λe=>A (by rw[<-e];exact j);cases b:t.bE.getD i none with
    |none=>rw[b]at c;cases c.1
    |some v=>
     rw[b]at c;have d:v.target=r:=by simpa using c.1
     have l:¬v.target=x:=λe=>k (by rw[<-e,d]);unfold aK;rw[b];simp only[l,if_false,ite_self]
   rw[pP h,c.2];omega
theorem Vq{t:Tb}{st:List Int}(o:wR st){q:List (Bs 32)}(A:q.Nodup):(q.map λr=>pW t st r).sum<=st.sum:=by
 unfold pW;rw[ZL,<-ZK st];exact aec λi _=>J' o i A
end Gate
namespace Gate
open Board (Vd Cf)
open Pool (It)
structure St where
 N:List Nd
 tb:Tb
 kids:List It
 wait:List It
 sc:List (Int×Int)
 gone:Int
 now:Int
 left:Int
def aL(V:List Vd):List Int:=V.map Vd.cF
def bZ(st:List Int)(t:Tb)(N:List Nd)(i:Nat):Int:=((N[i]?).map λx=>pW t st x.root).getD 0
theorem ZM(n:Nat)(q:Int)(st:List Int)(r:Bs 32):pW (iQ n q) st r=0:=by
 unfold pW
 have:∀i,aK (iQ n q) st i r=0:=λi=>by
  unfold aK iQ;simp only[aiy,List.getElem?_replicate];by_cases a:i<n
  ·simp[a]
  ·simp[a]
 simp only[this];generalize aiU st.length=l
 induction l with
 |nil=>rfl
 |cons x c b=>rw[aiZ,ai6,b];rfl
theorem WK(n:Nat)(q:Int)(st:List Int)(N:List Nd):bZ st (iQ n q) N=λ_=>0:=by
 funext i;unfold bZ;cases N[i]? with
 |none=>rfl
 |some x=>exact ZM n q st x.root
def iq(c:Cf)(V:List Vd):St:=⟨[⟨wP c V,0,-1⟩],iQ V.length c.ep,[],[],[],0,0,0⟩
theorem wS{c:Cf}{V:List Vd}(k:Can c V):∀v∈V,1<=v.key.length/\v.key.length<=32:=λv a=>by
 obtain⟨s,b⟩:=k.tot;have:=(OE (aiw 0) δ b).1 v a;unfold Q8 tH at this;simp only[ajg,decide_eq_true_eq]at this;omega
theorem Ka{c:Cf}{V:List Vd}(k:Can c V):wR (aL V):=by
 obtain⟨s,a⟩:=k.tot;obtain⟨b,f,g⟩:=OE (aiw 0) δ a;refine⟨λx d=>?_,by unfold aL;omega⟩;obtain⟨v,e,rfl⟩:=aja.1 d;have:=b v e;unfold Q8 at this;simp only[ajg,decide_eq_true_eq]at this;exact this.1.1
end Gate
namespace Gate
open Pool (zH)
open Board (Vt)
theorem acf(v:Vt):v.tv.size=34:=by simp only[Vt.tv,ajr,ak.size]
def ji:Vt:=⟨0,0,aiJ 32⟩
abbrev kM(k:Int×Int):TV:=.agg [.i k.1,.i k.2]
abbrev afJ:TypeDesc:=TypeDesc.struct #[Field.mk "who" 3 0 false "" "toller/table" 0,Field.mk "epoch" 3 1 false "" "toller/table" 8]
theorem afK:(ctx.ti 3).d=some (.int .i64):=κ
theorem Vr:Emb ctx afJ kM:=⟨λa b=>by
 simp only[jR,AZ,Bool.and_true];rw[<-Bool.decide_and];exact decide_eq_decide.2 ⟨λh=>Prod.ext h.1 h.2,λh=>by rw[h];exact⟨rfl,rfl⟩⟩,λa=>by simp[dB,cz,afK,isInt]⟩
def ZN(h:af):Option Nat->Option Vt->Prop
 |none,none=>True
 |some q,some v=>Var 124 h q v.tv
 |_,_=>False
inductive BJ(h:af):List (Option Nat)->List (Option Vt)->Prop
 |nil:BJ h [] []
 |cons {p v ps vs}:ZN h p v->BJ h ps vs->BJ h (p::ps) (v::vs)
theorem BJ.len{h:af}{ps:List (Option Nat)}{vs:List (Option Vt)}(a:BJ h ps vs):ps.length=vs.length:=by
 induction a with
 |nil=>rfl
 |cons _ _ b=>simp[b]
theorem BJ.get{h:af}{ps:List (Option Nat)}{vs:List (Option Vt)}(a:BJ h ps vs):∀{i:Nat}{v:Option Vt},vs[i]? =some v->∃p,ps[i]? =some p/\ZN h p v:=by
 induction a with
 |nil=>intro i v b;simp at b
 |cons c _ d=>
  intro i v b;cases i with
  |zero=>cases b;exact⟨_,rfl,c⟩
  |succ i=>obtain⟨p,e,f⟩:=d (by simpa using b);exact⟨p,by simpa using e,f⟩
theorem BJ.set{h:af}{ps:List (Option Nat)}{vs:List (Option Vt)}(a:BJ h ps vs){p:Option Nat}{v:Option Vt}(q:ZN h p v):∀i:Nat,BJ h (ps.set i p) (vs.set i v):=by
 induction a with
 |nil=>intro i;exact .nil
 |cons b a c=>
  intro i;cases i with
  |zero=>exact .cons q a
  |succ i=>exact .cons b (c i)
theorem ZN.only{S:Nat->Prop}{h h':af}(f:ag S h h'){p:Option Nat}{v:Option Vt}(A:∀q,p=some q->¬S q)(a:ZN h p v):ZN h' p v:=by
 cases p with
 |none=>cases v with
  |none=>trivial
  |some v=>exact a
 |some q=>cases v with
  |none=>exact a
  |some v=>exact Var.only a f (A q rfl)
theorem BJ.only{S:Nat->Prop}{h h':af}(f:ag S h h'){ps:List (Option Nat)}{vs:List (Option Vt)}(a:BJ h ps vs):(∀q,some q∈ps->¬S q)->BJ h' ps vs:=by
 induction a with
 |nil=>intro _;exact .nil
 |cons d a e=>intro c;exact .cons (d.only f λq b=>c q (by simp[b])) (e λq b=>c q (List.mem_cons_of_mem _ b))
theorem BJ.lt{h:af}{ps:List (Option Nat)}{vs:List (Option Vt)}(a:BJ h ps vs):∀q,some q∈ps->q<h.size:=by
 induction a with
 |nil=>intro q b;cases b
 |@cons p v ps vs c a d=>
  intro q b;rcases ajo.1 b with b|b
  ·subst b;cases v with
   |none=>exact absurd c (by simp[ZN])
   |some v=>exact Var.lt c
  ·exact d q b
abbrev ZO(ps:List (Option Nat)):List TV:=ps.map λp=>TV.ptr (p.map λq=>⟨q,0⟩)
abbrev WM(l:List Bool):List TV:=l.map aiH
section
variable{R:Rq}{h h':af}{b r n:Nat}{La Ou:Sl}{ps:List (Option Nat)}{t:Tb}
structure Kb(h:af)(b r:Nat)(La Ou:Sl)(ps:List (Option Nat))(t:Tb)(n:Nat):Prop where
 var:Var 202 h b (.agg [.i t.slots,.slice La,.slice Ou,.map (some r)])
 la:Vc.Own 198 1 h La (ZO ps)
 vs:BJ h ps t.bE
 ou:Vc.Own 4 1 h Ou (WM t.out)
 map:mj kM kR h r t.first
 ok:wQ t n
 nla:¬In La b/\¬In La r
 nou:¬In Ou b/\¬In Ou r
 lo:∀i,In La i->¬In Ou i
 nv:∀q,some q∈ps->q≠b/\q≠r/\¬In La q/\¬In Ou q
def uY(b r:Nat)(La Ou:Sl)(ps:List (Option Nat))(i:Nat):Prop:=i=b\/i=r\/In La i\/In Ou i\/some i∈ps
theorem Kb.only{S:Nat->Prop}(p:Kb h b r La Ou ps t n)(f:ag S h h')(A:∀i,uY b r La Ou ps i->¬S i):Kb h' b r La Ou ps t n:=
 ⟨p.var.only f (A b (.inl rfl)),p.la.keep f λi a=>A i (.inr (.inr (.inl a))),p.vs.only f λq c=>A q (.inr (.inr (.inr (.inr c)))),p.ou.keep f λi a=>A i (.inr (.inr (.inr (.inl a)))),
  p.map.only f (A r (.inr (.inl rfl))),p.ok,p.nla,p.nou,p.lo,p.nv⟩
theorem Kb.ext(p:Kb h b r La Ou ps t n)(x:Ext h h'):Kb h' b r La Ou ps t n:=p.only (S:=λ_=>False) (.an x) λ_ _ a=>a
theorem Kb.lt(p:Kb h b r La Ou ps t n){i:Nat}(q:uY b r La Ou ps i):i<h.size:=by
 rcases q with rfl|rfl|q|q|q
 ·exact p.var.lt
 ·exact p.map.lt
 ·exact p.la.g_ i q
 ·exact p.ou.g_ i q
 ·exact p.vs.lt i q
theorem Kb.ll(p:Kb h b r La Ou ps t n):La.len=n:=by have:=p.la.len;rw[ait,p.vs.len,p.ok.Ac]at this;exact this.symm
def Ra(n:Nat)(who:Int):Bool:=decide (0<=who/\who<n)
theorem OF(p:Kb h b r La Ou ps t n){who:Int}(q:R (aiH (Ra n who)).val h):Cl 135 [.ptr (PT b),.i who] h R:=by
 apply BI;delta aJ gL aO bK lq;have l:=p.ll;refine aiN (ID (λa=>⟨La,p.var.ah rfl,?_⟩) λa=>?_)
 ·rw[show Ra n who=decide (who<(La.len:Int))from decide_eq_decide.2 ⟨λh=>ω,λh=>ω⟩]at q;exact q
 ·rw[show Ra n who=false from decide_eq_false λh=>a h.1]at q;exact q
def kI(t:Tb)(who:Int):Vt×Bool:=match eB t who with
 |some v=>(v,true)
 |none=>(ji,false)
theorem Vs{T:TypeId}{b:Nat}{x:Vt}(v:Var T h b x.tv){K:Int->Int->Bs 32->Prop}(q:K x.who x.slot x.target):
 ∃(n m:Int),∃(k:Bs 32),(ah h b 0 (.i n)/\ah h b 1 (.i m)/\av h b 2 32 k)/\K n m k:=⟨_,_,_,v.at,q⟩
theorem Tx{A:Sl}(o:Vc.Own 198 1 h A (ZO ps)){i:Int}(E:0<=i){p:Option Nat}(B:ps[i.toNat]? =some p){K:OL->Prop}(H:K (p.map λq=>⟨q,0⟩)):
 0<=i/\i<(A.len:Int)/\Nn A.a λl=>∃q:OL,ah h l.b (l.o+i.toNat*1) (Value.pointer (Option.map Loc.addr q))/\K q:=by
 have b:=o.len;have:=(aje.1 B).1;rw[ait]at b;refine o.elems.read E ω λl t _ a c=>?_;rw[aiQ,B]at a;cases a;exact⟨_,c,H⟩
theorem Vu{A:Sl}{l:List Bool}(o:Vc.Own 4 1 h A (WM l)){i:Int}(B:0<=i){v:Bool}(q:l[i.toNat]? =some v){K:Bool->Prop}(E:K v):
 0<=i/\i<(A.len:Int)/\Nn A.a λp=>∃c:Bool,ah h p.b (p.o+i.toNat*1) (Value.bool c)/\K c:=by
 have b:=o.len;have:=(aje.1 q).1;rw[ait]at b;refine o.elems.read B ω λp t _ a d=>?_;rw[aiQ,q]at a;cases a;exact⟨v,d,E⟩
theorem Rb{g:af}{q:Nat}(x:Ext h g)(v:Var 124 g q ji.tv)(E:h.size<=q)(B:∀h',Ext h h'->R (ai1 [ji.tv,.bool false]).val h'):
 gT g q 0 34/\Bind (ajh g q 0 ji.tv) λA=>∃(n m:Int),∃(k:Bs 32),(ah A q 0 (.i n)/\ah A q 1 (.i m)/\av A q 2 32 k)/\R (TV.val (.bg [.agg [.i n,.i m,.bytes 32 k],.bool false])) A:=
 aH v (t:=ji.tv) rfl λa b f2 _=>Vs b (B a (ais x f2 λi c=>ω))
theorem Gx{i:Int}(o:wQ t n)(q:0<=i)(A:i<n):∃v,t.bE[i.toNat]? =some v/\eB t i=v:=by
 have a:=o.Ac;have:t.bE[i.toNat]? =some (t.bE[i.toNat]'ω):=aiM ω;refine⟨_,this,?_⟩;unfold eB;rw[if_pos q,aiy,this];rfl
theorem Kc{i:Int}(o:wQ t n)(h:¬(0<=i/\i<n)):eB t i=none:=by
 have a:=o.Ac;unfold eB;split
 ·rw[aiy,List.getElem?_eq_none ω];rfl
 ·rfl
theorem CD(p:Kb h b r La Ou ps t n){who:Int}(A:∀h',Ext h h'->R (ai1 [(kI t who).1.tv,.bool (kI t who).2]).val h'):Cl 70 [.ptr (PT b),.i who] h R:=by
 apply yC;delta Zq aJ cu aT;refine aa λg v1 a o=>OF (p.ext a) ⟨_,rfl,aiG (λe=>?_) λc=>?_⟩
 ·have e:¬(0<=who/\who<n):=of_decide_eq_false (show Ra n who=false by simpa using e);unfold kI at A;rw[Kc p.ok e]at A;exact Rb a v1 (aix _) A
 ·have c:0<=who/\who<n:=of_decide_eq_true (show Ra n who=true by simpa using c);obtain⟨v,j,k⟩:=Gx p.ok c.1 c.2;obtain⟨q,f,d⟩:=(p.ext a).vs.get j;unfold kI at A;rw[k]at A;refine⟨La,(p.var.ext a).ah rfl,Tx (p.ext a).la c.1 f ?_⟩;cases q with
  |none=>
   cases v with
   |some v=>exact absurd d (by simp[ZN])
   |none=>exact aiN (Rb a v1 (aix _) A)
  |some q=>
   cases v with
   |none=>exact absurd d (by simp[ZN])
   |some v=>
    have d:Var 124 g q v.tv:=d;refine aiI ⟨La,(p.var.ext a).ah rfl,Tx (p.ext a).la c.1 f (Vs d (aH v1 (t:=v.tv) rfl λl m f2 _=>Vs m ?_))⟩;exact A l (ais a f2 λi s=>ω)
def uB(t:Tb)(n:Nat)(who:Int):Bool:=Ra n who&&!uA t who
theorem OG{i:Int}(o:wQ t n)(q:0<=i)(A:i<n):t.out[i.toNat]? =some (uA t i):=by
 have a:=o.uN;unfold uA;rw[aiy,aiM ω];rfl
theorem HA(p:Kb h b r La Ou ps t n){who:Int}(q:R (aiH (uB t n who)).val h):Cl 71 [.ptr (PT b),.i who] h R:=by
 apply uX;delta aJ aO cu aT lq;unfold uB at q;refine OF p ⟨_,rfl,aiG (λa=>?_) λc=>?_⟩
 ·rw[a,Bool.true_and]at q;have a:0<=who/\who<n:=of_decide_eq_true (show Ra n who=true by simpa using a);exact⟨Ou,p.var.ah rfl,Vu p.ou a.1 (OG p.ok a.1 a.2) q⟩
 ·rw[c,Bool.false_and]at q;exact q
theorem Ty(p:Kb h b r La Ou ps t n)(q:R (TV.i (t.first.length:Int)).val h):Cl 86 [.ptr (PT b)] h R:=by
 apply wT;delta aD dX bA;exact aiI ⟨some r,p.var.ah rfl,p.map.len (P:=λm=>R (TV.i (m:Int)).val h) q⟩
end
end Gate
namespace Gate
open Pool (zH)
open Board (Vt)
section
variable{R:Rq}{h h':af}{b r n:Nat}{La Ou:Sl}{ps:List (Option Nat)}{t:Tb}
theorem Vv{T:TypeId}{b:Nat}{k:Int×Int}(v:Var T h b (kM k)){K:Int->Int->Prop}(q:K k.1 k.2):∃(n m:Int),(ah h b 0 (.i n)/\ah h b 1 (.i m))/\K n m:=⟨_,_,v.at,q⟩
theorem Kb.marked(p:Kb h b r La Ou ps t n){A:af}{L':List ((Int×Int)×Bs 32)}(m:mj kM kR A r L')(f:ag (·=r) h A)(o:wQ {t with first:=L'} n):Kb A b r La Ou ps {t with first:=L'} n:=
 ⟨p.var.only f λe=>(p.map.ne p.var) e,p.la.keep f λ_ a e=>p.nla.2 (e▸a),p.vs.only f λq c e=>(p.nv q c).2.1 e,p.ou.keep f λ_ a e=>p.nou.2 (e▸a),m,o,p.nla,p.nou,p.lo,p.nv⟩
theorem Tz(p:Kb h b r La Ou ps t n){v:Vt}
 (A:∀h' Y,Kb h' b r La Ou Y (c_ t v).2 n->Step (uY b r La Ou ps) h (uY b r La Ou Y) h'->R (TV.i (c_ t v).1).val h'):
 Cl 172 [.ptr (PT b),v.tv] h R:=by
 apply yD (PT b) v.who v.slot v.target;delta kU uu aJ aD cQ QE dx cu EV fW bz dX aN eU bJ aT bA fD;have hs:=p.ok.slots;have ll:=p.ll;have H:=p.ok.take v;refine aa λd v1 B s1=>?_;have v1:Var 124 d h.size v.tv:=v1;have y:=p.ext B;intro J Z
 have I:¬(0<=v.who/\v.who<n/\0<=v.slot/\v.slot<=1073741824)->R (TV.i 5).val d:=λhn=>by
  have e:c_ t v=(5,t):=by unfold c_;rw[if_pos (by rw[p.ok.Ac];exact hn)]
  have:=A d ps;rw[e]at this;exact this y (.an B)
 refine⟨v.who,v1.ah rfl,OF y ⟨_,rfl,aiG (λhn=>I λw=>?_) λg=>⟨v.slot,v1.ah rfl,ID (λw=>I λC=>ω) λg1=>⟨v.slot,v1.ah rfl,ID (λw=>I λC=>ω) λg2=>?_⟩⟩⟩⟩
 ·have:Ra n v.who=true:=decide_eq_true ⟨w.1,w.2.1⟩;rw[this]at hn;cases hn
 have g:0<=v.who/\v.who<n:=of_decide_eq_true (show Ra n v.who=true by simpa using g);have can:0<=v.who/\v.who<t.bE.length/\0<=v.slot/\v.slot<=1073741824:=by rw[p.ok.Ac];omega
 refine Z 0 d ?_;clear Z J I
 have f:c_ t v=if uA t v.who=true then((4:Int),t)else match lG (v.who,aP t v.slot) t.first with
  |some r=>if r=v.target then(1,t)else(2,{t with out:=t.out.set v.who.toNat true})
  |none=>match eB t v.who with
   |some l=>if aP t v.slot<aP t l.slot then(3,{t with first:=t.first++[((v.who,aP t v.slot),v.target)]})
    else(0,{t with bE:=t.bE.set v.who.toNat (some v),first:=t.first++[((v.who,aP t v.slot),v.target)]})
   |none=>(0,{t with bE:=t.bE.set v.who.toNat (some v),first:=t.first++[((v.who,aP t v.slot),v.target)]}):=by
  unfold c_;rw[if_neg (λC=>C can)]
  all_goals rfl
 refine⟨Ou,y.var.ah rfl,v.who,v1.ah rfl,Vu y.ou g.1 (OG p.ok g.1 g.2) (aiG (λz=>?_) λz=>?_)⟩
 ·rw[if_pos z]at f;rw[f]at A;exact A d ps y (.an B)
 rw[if_neg (by rw[z];decide)]at f;have Q:=sL p.ok can.2.2.1 can.2.2.2;have am:aio .i64 (aiY v.slot t.slots)=aP t v.slot:=wrap_i64 (by unfold aP at Q;omega) (by unfold aP at Q;omega);obtain⟨k,K⟩:∃k:Int×Int,k=(v.who,aP t v.slot):=⟨_,rfl⟩;rw[<-K]at f;refine⟨v.who,v1.ah rfl,v.slot,v1.ah rfl,t.slots,y.var.ah rfl,ω,aa λh2 v2 x2 s2=>⟨x2,?_⟩⟩;rw[am];refine aH v2 (t:=kM (v.who,aP t v.slot)) rfl λS T f3 s3=>?_;rw[<-K]at T;have U:Ext d S:=ais x2 f3 λi a=>ω;have V:=y.ext U;have ao:Var 124 S h.size v.tv:=Var.ext (t:=v.tv) v1 U;refine⟨some r,V.var.ah rfl,Vv T ?_⟩;obtain⟨es,c,hb,hl,ap,w⟩:=V.map.look Vr k (aiJ 32);refine⟨es,c,hb,hl,_,ap,aa λh4 v4 x4 s4=>⟨x4,aH v4 (t:=.bytes 32 _) rfl λD W f5 s5=>?_⟩⟩;have L:Ext S D:=ais x4 f5 λi a=>ω;have M:Ext h D:=(B.trans U).trans L;have s:=V.ext L;have N:Var 124 D h.size v.tv:=Var.ext (t:=v.tv) ao L;have ab:Var 310 D d.size (kM k):=Var.ext (t:=kM k) T L;rw[w];cases O:lG k t.first with
 |some q=>
  rw[O]at f W;simp only[Option.getD_some]at W;refine aiN ⟨_,W.bytes,_,N.at.2.2,?_⟩;have hd:decide (q.l=v.target.l)=decide (q=v.target):=Gb _ _;dsimp only;rw[hd];refine ID (λm=>?_) λm=>⟨Ou,s.var.ah rfl,v.who,N.ah rfl,?_⟩
  ·simp only[m,if_true]at f;rw[f]at A;exact A D ps s (.an M)
  ·simp only[m,if_false]at f;rw[f]at A H
   refine s.ou.aH (sz:=1) (n:=1) (t:=.bool true) g.1 (by simp[p.ok.uN];omega) rfl rfl λu o6 f6 s6=>A u ps ⟨s.var.only f6 p.nou.1,s.la.keep f6 p.lo,s.vs.only f6 λq m=>(p.nv q m).2.2.2,?_,s.map.only f6 p.nou.2,H,p.nla,p.nou,p.lo,p.nv⟩
    ⟨(aiS M).trans (f6.mono λi a=>.inr (.inr (.inr (.inl a)))),λi a=>.inl a⟩
   simpa[WM,List.map_set]using o6
 |none=>
  rw[O]at f;refine aiI ⟨some r,s.var.ah rfl,Vv ab ⟨v.target,N.at.2.2,s.map.put Vr k v.target λu m6 f6 s6=>?_⟩⟩;rw[Qw (CA.1 O)]at m6;have X:∀i,uY b r La Ou ps i->i<h.size:=λi a=>p.lt a;have a3:=p.map.lt;have z5:=M.size;have z1:=B.size;have P:Var 124 u h.size v.tv:=Var.only (t:=v.tv) N f6 ω;have ar:Var 310 u d.size (kM k):=Var.only (t:=kM k) ab f6 ω;obtain⟨old,ac,aw⟩:=Gx p.ok g.1 g.2
  have aE:wQ {t with first:=t.first++[(k,v.target)]} n:=⟨p.ok.slots,p.ok.nn,p.ok.Ac,p.ok.uN,p.ok.Tw,yB p.ok O,λe F=>by
   rcases List.mem_append.1 F with F|F
   ·exact p.ok.fst e F
   ·rw[List.mem_singleton.1 F,K];exact⟨g.1,g.2,Q⟩⟩
  have j:=s.marked m6 f6 aE;obtain⟨q,m,G⟩:=j.vs.get ac;have ad:ag (uY b r La Ou ps) h u:=(aiS M).trans (f6.mono λi a=>.inr (.inl a))
  have last:c_ t v=(0,{t with bE:=t.bE.set v.who.toNat (some v),first:=t.first++[(k,v.target)]})->
   0<=v.who/\v.who<(La.len:Int)/\Nn La.a λl=>gT u l.b (l.o+v.who.toNat*1) 1/\Bind (ajh u l.b (l.o+v.who.toNat*1) (.ptr (some (Loc.mk h.size 0)))) λw=>R (TV.val (.i 0)) w:=λE=>by
   rw[E]at A H;refine j.la.aH (sz:=1) (n:=1) (t:=.ptr (some (Loc.mk h.size 0))) g.1 (by simp[p.vs.len,p.ok.Ac];omega) rfl rfl λh7 o7 f7 s7=>?_;have ae:¬In La h.size:=λa=>by have:=X _ (.inr (.inr (.inl a)));omega
   have a0:Var 124 h7 h.size v.tv:=Var.only (t:=v.tv) P f7 ae
   refine A h7 (ps.set v.who.toNat (some h.size)) ⟨j.var.only f7 p.nla.1,?_,(j.vs.only f7 λq m=>(p.nv q m).2.2.1).set (p:=some h.size) (v:=some v) a0 _,j.ou.keep f7 λi a C=>p.lo i C a,j.map.only f7 p.nla.2,H,p.nla,p.nou,p.lo,λq m=>?_⟩
    ⟨ad.trans (f7.mono λi a=>.inr (.inr (.inl a))),λi a=>?_⟩
   ·simpa[ZO,List.map_set]using o7
   ·rcases List.mem_or_eq_of_mem_set m with d|d
    ·exact p.nv q d
    ·cases d;exact⟨λe=>by have:=X b (.inl rfl);omega,λe=>ω,ae,λa=>by have:=X _ (.inr (.inr (.inr (.inl a))));omega⟩
   ·rcases a with a|a|a|a|a
    ·exact .inl (.inl a)
    ·exact .inl (.inr (.inl a))
    ·exact .inl (.inr (.inr (.inl a)))
    ·exact .inl (.inr (.inr (.inr (.inl a))))
    ·rcases List.mem_or_eq_of_mem_set a with d|d
     ·exact .inl (.inr (.inr (.inr (.inr d))))
     ·cases d;exact .inr (aix _)
  refine⟨La,j.var.ah rfl,v.who,P.ah rfl,Tx j.la g.1 m ?_⟩;rw[aw]at f;cases q with
  |none=>
   cases old with
   |some _=>exact absurd G (by simp[ZN])
   |none=>
    refine aiI ⟨La,j.var.ah rfl,v.who,P.ah rfl,last f⟩
  |some q=>
   cases old with
   |none=>exact absurd G (by simp[ZN])
   |some old=>
    have G:Var 124 u q old.tv:=G;have z:=p.ok.Tw _ old ac;have al:=sL p.ok z.2.1 z.2.2;refine aiN ⟨old.slot,G.ah rfl,t.slots,j.var.ah rfl,ω,aP t v.slot,by have:=ar.ah (o:=1) (x:=.i k.2) rfl;rw[K]at this;exact this,?_⟩;rw[show aio .i64 (aiY old.slot t.slots)=aP t old.slot from wrap_i64 (by unfold aP at al;omega) (by unfold aP at al;omega)];refine ID (λa1=>?_) λa2=>⟨La,j.var.ah rfl,v.who,P.ah rfl,last ?_⟩
    ·simp only[a1,if_true]at f;rw[f]at A;exact A u ps j ⟨ad,λi a=>.inl a⟩
    ·simp only[a2,if_false]at f;exact f
end
end Gate
namespace Gate
open Board (Vt)
theorem WN{n:Nat}{par q:Nat->Nat}(up:Up n par)(A:Up n q)(h:∀i,0<i->i<n->par i=q i)(k:Nat):∀i,i<n->bO par k i=bO q k i:=by
 intro i
 induction i using Nat.strongRecOn with
 |ind i c=>
  intro a;rw[fO up a,fO A a];by_cases b:0<i
  ·have d:=up i b a
   grind
  simp_all
theorem WO{n:Nat}{f g:Nat->Int}(h:∀i,i<n->f i=g i):tot n f=tot n g:=by
 unfold tot;rw[List.map_congr_left λi a=>h i (List.mem_range.1 a)]
theorem ZP{n:Nat}{par q:Nat->Nat}(up:Up n par)(B:Up (n+1) q)(h:∀i,0<i->i<n->par i=q i){own:Nat->Int}(A:own n=0){k:Nat}(E:k<n):nU (n+1) q own k=nU n par own k:=by
 have a:Up n q:=λi A b=>B i A ω;rw[IL B own ω,IL up own E,jv,A,Int.zero_mul,Int.add_zero]
 grind [WO,WN]
theorem ZQ{n:Nat}{par:Nat->Nat}(up:Up (n+1) par){own:Nat->Int}(q:own n=0):nU (n+1) par own n=0:=by
 rw[IL up own ω,jv,q,Int.zero_mul,Int.add_zero];refine pP λi a=>?_;have a:=List.mem_range.1 a
 have:bO par n i=false:=by
  cases b:bO par n i with
  |false=>rfl
  |true=>have:=Bg up i ω b;omega
 simp_all [one]
theorem Vw{n:Nat}{f g:Nat->Int}(h:∀i,i<n->f i=g i)(q:g n=0):pad (gO n f) (n+1) 0=gO (n+1) g:=by
 unfold pad;rw[yq,show n+1-n=1 by omega,gm h];unfold gO;rw[List.range_succ,aiT];simp[q]
section
variable{st:List Int}{t:Tb}{L:List Nd}{x:Nd}
theorem yE{i:Nat}{x:Nd}(h:L[i]? =some x):bZ st t L i=pW t st x.root:=by simp_all [bZ]
theorem j7{i:Nat}(h:L.length<=i):bZ st t L i=0:=by unfold bZ;rw[List.getElem?_eq_none h];rfl
theorem rE(o:wR st)(i:Nat):0<=bZ st t L i:=by
 by_cases h:i<L.length
 ·rw[yE (aiM h)];exact Q_ o _
 ·rw[j7 ω];exact aiw 0
theorem uC(o:wR st)(q:(L.map Nd.root).Nodup):tot L.length (bZ st t L)<4611686018427387904:=by
 have a:=Vq (t:=t) o q;have b:=o.sum
 have e:tot L.length (bZ st t L)=((L.map Nd.root).map λr=>pW t st r).sum:=by
  unfold tot;congr 1;apply ajd
  ·simp
  ·intro i a b;have c:i<L.length:=by simpa using a
   simp only[List.getElem_map,List.getElem_range];exact yE (aiM c)
 omega
theorem ZR(o:wR st)(q:(L.map Nd.root).Nodup)(i:Nat):bZ st t L i<4611686018427387904:=by
 by_cases h:i<L.length
 ·have:=DX L.length (λj _=>rE (t:=t) (L:=L) o j) i h;have:=uC (t:=t) o q;omega
 simp_all [j7]
theorem Rc(q:((L++[x]).map Nd.root).Nodup):bZ st t (L++[x])=laid (L++[x]) [(x.root,pW t st x.root)] (bZ st t L):=by
 have a:(L++[x])[L.length]? =some x:=by simp
 have b:=gX q a;funext i;unfold laid;simp only[List.foldl_cons,List.foldl_nil,b,ai8];unfold bump;by_cases h:i=L.length
 ·subst h;rw[if_pos rfl,yE a,j7 (aix _),Int.zero_add]
 ·rw[if_neg h]
  grind [bZ,List.getElem?_append_left,j7]
theorem aci(o:wR st)(q:((L++[x]).map Nd.root).Nodup):Gr (L++[x]) [(x.root,pW t st x.root)] (bZ st t L):=by
 have a:(L++[x])[L.length]? =some x:=by simp
 have b:=gX q a;have e:=Rc (st:=st) (t:=t) q;have d:=uC (t:=t) o q;have f:=λi=>rE (t:=t) (L:=L++[x]) o i;have c:=ZR (t:=t) o q L.length;rw[yE a]at c;have g:=Q_ (t:=t) o x.root;unfold laid at e;simp only[List.foldl_cons,List.foldl_nil]at e;refine⟨by simp_all,ω,ω,?_,?_,?_⟩
 ·rw[b,ai8,j7 (aix _)];simp only;omega
 ·rw[b,ai8,j7 (aix _)];simp only;omega
 simp_all [Gr]
def qH(t:Tb)(st:List Int)(who:Int)(r:Bs 32):Int:=if 0<=who then aK t st who.toNat r else 0
theorem Vx{f g:Nat->Int}:∀(n w:Nat),w<n->(∀i,i≠w->f i=g i)->((aiU n).map f).sum=((aiU n).map g).sum+(f w-g w)
 |0,w,h,_=>ω
 |n+1,w,h,a=>by
  rw[List.range_succ,aiT,aiT,List.sum_append,List.sum_append];simp only[aiZ,ajs,ai6,List.sum_nil,Int.add_zero];by_cases e:w=n
  ·subst e;have:(aiU w).map f=(aiU w).map g:=List.map_congr_left λi b=>a i (by have:=List.mem_range.1 b;omega);rw[this];omega
  ·rw[Vx n w ω a,a n (λh=>e h.symm)];omega
theorem acj{t':Tb}{w:Nat}(q:w<st.length)(r:Bs 32)(h:∀i,i≠w->aK t' st i r=aK t st i r):pW t' st r=pW t st r+(aK t' st w r-aK t st w r):=Vx _ w q h
theorem ZS{t':Tb}(r:Bs 32)(h:∀i,aK t' st i r=aK t st i r):pW t' st r=pW t st r:=by
 unfold pW;rw[List.map_congr_left λi _=>h i]
theorem Re{t':Tb}(h:∀r i,aK t' st i r=aK t st i r):bZ st t' L=bZ st t L:=by
 funext i;unfold bZ;cases L[i]? with
 |none=>rfl
 |some x=>simp only[Option.map_some,Option.getD_some];exact ZS x.root (h x.root)
def mA(L:List Nd)(own:Nat->Int)(r:Bs 32)(d:Int):Nat->Int:=if 0<=place r L then bump own (place r L).toNat d else own
theorem IP{own:Nat->Int}{r:Bs 32}{d:Int}(q:(L.map Nd.root).Nodup){i:Nat}{x:Nd}(A:L[i]? =some x):mA L own r d i=if r=x.root then own i+d else own i:=by
 unfold mA;by_cases h:r=x.root
 ·subst h;rw[if_pos rfl,gX q A,if_pos ω];unfold bump;rw[if_pos ω]
 ·split
  ·rename_i a;obtain⟨k,y,b,c,e,f,g⟩:=fG a;unfold bump
   grind
  ·rfl
theorem Ke{own:Nat->Int}{r:Bs 32}{d:Int}{i:Nat}(q:L.length<=i):mA L own r d i=own i:=by
 unfold mA;split
 ·rename_i a;obtain⟨k,y,b,c,e,f,g⟩:=fG a;unfold bump;omega
 ·rfl
theorem MY{t':Tb}{w:Nat}(q:(L.map Nd.root).Nodup)(B:w<st.length){A r1:Bs 32}{a b:Int}(E:∀i,i≠w->∀r,aK t' st i r=aK t st i r)
 (H:∀r,aK t st w r=if A=r then a else 0)(I:∀r,aK t' st w r=if r1=r then b else 0):bZ st t' L=mA L (mA L (bZ st t L) A (-a)) r1 b:=by
 funext i;by_cases d:i<L.length
 ·have c:=aiM d;rw[IP q c,IP q c,yE c,yE c,acj B L[i].root λj e=>E j e _,H,I]
  grind
 simp_all [Ke,j7]
theorem WQ(t:Tb)(w:Nat)(r:Bs 32):aK t st w r=if((kI t (w:Int)).1.target)=r then aK t st w (kI t (w:Int)).1.target else 0:=by
 have e:eB t w=t.bE.getD w none:=by
  rfl
 unfold kI;rw[e];unfold aK
 grind
theorem WR(o:wR st){i:Nat}{w:Nat}(q:w<st.length){x:Nd}(A:L[i]? =some x):aK t st w x.root<=bZ st t L i:=by
 rw[yE A];exact DX st.length (λj _=>lJ o j _) w q
theorem MZ(o:wR st)(w:Nat)(r:Bs 32):aK t st w r<4611686018427387904:=by
 have b:=o.sum
 have c:jh st w<=st.sum\/jh st w=0:=by
  by_cases a:w<st.length
  ·left;rw[<-ZK st];exact DX st.length (λj _=>D4 o j) w a
  ·right;unfold jh;rw[aiy,List.getElem?_eq_none ω];rfl
 have d:aK t st w r=0\/aK t st w r=jh st w:=by
  unfold aK
  grind
 omega
theorem M0(o:wR st)(r:Bs 32){n:Nat}(q:n<=st.length):0<=tot n (λj=>aK t st j r)/\tot n (λj=>aK t st j r)<4611686018427387904:=by
 have a:=Vq (t:=t) o (show[r].Nodup by simp);have c:=o.sum;have d:pW t st r=tot st.length (λj=>aK t st j r):=rfl;simp only[aiZ,ajs,ai6,List.sum_nil]at a
 have mono:∀k,tot n (λj=>aK t st j r)<=tot (n+k) (λj=>aK t st j r):=λk=>by
  induction k with
  |zero=>simp_all
  |succ k e=>
   rw[show n+(k+1)=(n+k)+1 by omega,jv];have:=lJ (t:=t) o (n+k) r;omega
 have b:=mono (st.length-n);rw[show n+(st.length-n)=st.length by omega]at b;exact⟨IM n λi _=>lJ o i r,ω⟩
theorem TA{n:Nat}(ok:wQ t n){v:Vt}(A:(c_ t v).1=0\/(c_ t v).1=2):
 (0<=v.who/\v.who<n)/\(∀i,i≠v.who.toNat->∀r,aK (c_ t v).2 st i r=aK t st i r)/\
 ((c_ t v).1=0->∀r,aK (c_ t v).2 st v.who.toNat r=if v.target=r then aK (c_ t v).2 st v.who.toNat v.target else 0)/\
 ((c_ t v).1=2->∀r,aK (c_ t v).2 st v.who.toNat r=0):=by
 have o:=ok.Ac;have lo:=ok.uN;unfold c_ at A⊢;split at A
 ·omega
 rename_i b;have b:=Decidable.not_not.1 b;rw[if_neg (λf=>f b)];split at A
 ·omega
 rename_i g;rw[if_neg g];have c:0<=v.who/\v.who<n:=ω
 have a:∀F,(∀i,i≠v.who.toNat->∀r,aK {t with bE:=t.bE.set v.who.toNat (some v),first:=F} st i r=aK t st i r)/\
  ∀r,aK {t with bE:=t.bE.set v.who.toNat (some v),first:=F} st v.who.toNat r=if v.target=r then aK {t with bE:=t.bE.set v.who.toNat (some v),first:=F} st v.who.toNat v.target else 0:=by
  intro F;constructor
  ·intro i d r;unfold aK;simp only[aiy,List.getElem?_set_ne (λh=>d h.symm)]
  ·intro r;unfold aK
   grind
 cases e:lG (v.who,aP t v.slot) t.first with
 |some q=>
  rw[e]at A;simp only at A⊢;split at A
  ·omega
  rename_i j;rw[if_neg j];refine⟨c,λi d r=>?_,(λh=>by cases h),λ_ r=>?_⟩
  ·unfold aK;simp only[aiy,List.getElem?_set_ne (λh=>d h.symm)]
  ·unfold aK
   have:(t.out.set v.who.toNat true).getD v.who.toNat false=true:=by
    rw[aiy,List.getElem?_set_self ω];rfl
   simp only[this,if_true]
 |none=>
  rw[e]at A;simp only at A⊢;cases k:eB t v.who with
  |none=>
   simp only;exact⟨c,(a _).1,λ_=>(a _).2,(λh=>by cases h)⟩
  |some l=>
   rw[k]at A;simp only at A⊢;split at A
   ·rcases A with h|h<;>cases h
   rename_i m;rw[if_neg m];exact⟨c,(a _).1,λ_=>(a _).2,(λh=>by cases h)⟩
theorem WS{v:Vt}(A:(c_ t v).1≠0)(B:(c_ t v).1≠2):∀r i,aK (c_ t v).2 st i r=aK t st i r:=by
 intro r i;unfold c_ at A B⊢;split
 ·rfl
 split
 ·rfl
 rename_i a b;rw[if_neg a,if_neg b]at A B;cases c:lG (v.who,aP t v.slot) t.first with
 |some q=>
  grind
 |none=>
  rw[c]at A;cases d:eB t v.who with
  |none=>simp_all
  |some l=>
   rw[d]at A;simp only at A⊢;split
   ·rfl
   simp_all
end
end Gate
namespace Board
def fc{n:Nat}(b:Bs n)(i:Nat):UInt8:=b.l.getD i 0
def kX{n:Nat}(f:Nat->UInt8)(b:Bs n):Nat->Bs n
 |0=>b
 |i+1=>(kX f b i).set i (f i)
theorem lX{n:Nat}(f:Nat->UInt8)(b:Bs n):∀(k j:Nat),k<=n->fc (kX f b k) j=if j<k then f j else fc b j
 |0,j,_=>by simp[kX]
 |k+1,j,e=>by
  have a:=lX f b k j ω;unfold fc at a⊢;simp only[kX,Bs.set,aiy,List.getElem?_set]at a⊢;by_cases c:k=j
  ·subst c;rw[if_pos rfl,if_pos (by rw[(kX f b k).h];omega),if_pos (Nat.lt_succ_self k)];rfl
  ·rw[if_neg c,a];by_cases d:j<k
   ·rw[if_pos d,if_pos ω]
   ·rw[if_neg d,if_neg ω]
theorem ack{n:Nat}(f:Nat->UInt8)(b:Bs n):(kX f b n).l=(aiU n).map f:=by
 apply ajd (by rw[(kX f b n).h];simp);intro j a d;have c:j<n:=by rw[<-(kX f b n).h];exact a
 have:=lX f b n j (aix n);rw[if_pos c]at this;unfold fc at this;rw[aiy,aiM a]at this;simpa using this
theorem iI{T:TypeId}{h:af}{b n:Nat}{x:Bs n}(v:Var T h b (.bytes n x)){i:Nat}(q:i<n):ah h b (0+i*1) (.int .u8 ((fc x i).toNat:Int)):=by
 refine v.ah ?_;simp only[TV.cells,ajb,Nat.zero_add];exact getElem?_toBytes x i q
theorem Bs.OH{n:Nat}{a b:Bs n}(h:∀j,j<n->fc a j=fc b j):a=b:=by
 apply ajp;apply ajd (by rw[a.h,b.h]);intro j c d;have e:j<n:=by rw[<-a.h];exact c
 have:=h j e;unfold fc at this;rw[aiy,aiy,aiM c,aiM d]at this;simpa using this
theorem acm{x:af}{K:af->Prop}(h:K x):Bind x K:=h
section
variable{R:Rq}{h:af}
theorem og{T:TypeId}(h:af)(ts:List (LU)):aj 1 (h.push (row (aiD (ts.map aiK)) T)) ⟨some ⟨h.size,0⟩,ts.length,ts.length⟩ (ts.map aiK):=by
 have:=(Vc.Own.new (T:=T) (sz:=1) h (ts.map aiK) (λt a=>by
  obtain⟨u,_,rfl⟩:=aja.1 a;rfl)).elems
 simpa using this
theorem OI:(ctx.ti 9).bytes=16:=κ
theorem adz:(ctx.ti 9).size=1:=κ
theorem ZT:(ctx.ti 9).z.size=1:=κ
end
end Board
namespace Board
section
variable{R:Rq}{h:af}
def orv(c i:Int):Int:=aio .u8 ((aiB (aip .u8) c|||aiB (aip .u8) (aio .u8 (1*2^min (aiq (aiA i 8)) (aip .u8)))).toNat:Int)
def LV(q:LU)(i:Nat):LU:=q.set (i/8) (aiv (orv (Ie q (i/8)) (i:Int)).toNat)
def gJ(row:List Bool):Nat->LU
 |0=>aiC (row.length/8+1) 0
 |i+1=>if row.getD i false=true then LV (gJ row i) i else gJ row i
def Rg(row:List Bool):LU:=LV (gJ row row.length) row.length
theorem c4(row:List Bool):∀i,(gJ row i).length=row.length/8+1
 |0=>by simp[gJ]
 |i+1=>by
  unfold gJ;split
  ·simp[LV,c4 row i]
  ·exact c4 row i
theorem M1(bs g:LU)(k:Nat):Ie (bs++g) (bs.length+k)=Ie g k:=by
 simp[aiy,List.getElem?_append_right,Ie]
theorem Row.set{Q:Nat->Prop}{s:Sl}{bs:LU}(r:Row Q h s bs){i c:Int}(q:0<=i)(B:i<bs.length)(c0:0<=c)(E:c<256){K:af->Prop}
 (A:∀a,Row Q a s (bs.set i.toNat (aiv c.toNat))->ag Q h a->K a):0<=i/\i<(s.len:Int)/\Nn s.a λl=>gT h l.b (l.o+i.toNat*1) 1/\Bind ((aiF .u8 c).put h l.b (l.o+i.toNat*1)) K:=by
 refine r.own.aH q (by simp_all) rfl rfl λb d f1 f=>A b ⟨?_,r.uT,λj g=>r.new j ω⟩ (r.cut f1)
 have e:JW (aiv c.toNat)=aiF .u8 c:=by
  grind [JW,ajc]
 simp_all
theorem Gy{Q:Nat->Prop}{s q:Sl}{bs:LU}{row:List Bool}(r:Row Q h s bs)(H:bs.length<1000)(I:row.length<1000)(A:row.length=q.len)(e:∀d,ag Q h d->aj 1 d q (aY row))
 (B:∀d l,Row Q d l (bs++Rg row)->ag Q h d->R (ai4 l).val d):Cl 296 [.slice s,.slice q] h R:=by
 apply Fb;delta QL zO aF JP gL cE bK;have F:=r.len
 have u:aiY q.len 8=(row.length/8:Nat):=by
  simp_all
 rw[u,wrap_i64 (n:=(row.length/8:Nat)) ω ω,wrap_i64 ω ω];have v:aiq ((row.length/8:Nat)+1)=row.length/8+1:=ω;refine⟨δ,ω,ω,?_⟩;rw[v];have w:aiC (row.length/8+1) (ai9 .u8 0)=(gJ row 0).map λc=>ai9 .u8 c.toNat:=by simp[gJ]
 rw[w,<-c4 row 0];refine Gp r (by grind [c4]) λa G r1 f1 J=>?_;have f1:=r.cut f1;refine⟨λi m=>0<=i/\i<=row.length/\Row Q m a (bs++gJ row i.toNat)/\ag Q h m,λi _=>(row.length-i).toNat,⟨aiw 0,ω,r1,f1⟩,?_⟩;rintro i y ⟨z,K,b,f2⟩;have l2:=b.len;rw[aiu,c4]at l2;rw[wrap_i64 (n:=i+1) ω ω];refine ID (λC=>?_) λC=>?_
 ·refine kD (e y f2) z ω λx L=>?_;have o:row.getD i.toNat false=x:=by simp_all
  have p:(i+1).toNat=i.toNat+1:=ω;cases x with
  |false=>
   refine aiI ⟨⟨ω,ω,?_,f2⟩,by grind⟩;rw[p];unfold gJ;rw[o,if_neg δ];exact b
  |true=>
   have D:aiY i 8=(i.toNat/8:Nat):=by
    grind
   have j:0<=aiA i 8:=by grind
   rw[D,wrap_i64 (n:=(i.toNat/8:Nat)) ω ω,wrap_i64 ω ω];have k:aiq (s.len+(i.toNat/8:Nat))=bs.length+i.toNat/8:=ω;refine aiN ⟨δ,yj b.own.elems ω (by grind [c4,aiu]) ⟨δ,j,?_⟩⟩;have f:0<=orv (Ie (bs++gJ row i.toNat) (aiq ((s.len:Int)+((i.toNat/8:Nat):Int)))) i/\orv (Ie (bs++gJ row i.toNat) (aiq ((s.len:Int)+((i.toNat/8:Nat):Int)))) i<256:=aS _;refine b.set (i:=(s.len:Int)+((i.toNat/8:Nat):Int)) (c:=orv (Ie (bs++gJ row i.toNat) (aiq ((s.len:Int)+((i.toNat/8:Nat):Int)))) i) ω (by rw[aiu,c4];omega) f.1 f.2 λt g f3=>?_;refine⟨⟨ω,ω,?_,f2.trans f3⟩,Ω⟩;rw[k,M1,List.set_append_right _ _ ω,show bs.length+i.toNat/8-bs.length=i.toNat/8 by omega]at g;rw[p];unfold gJ;rw[o,if_pos rfl,LV,show((i.toNat:Nat):Int)=i by omega];exact g
 ·have E:i.toNat=row.length:=ω;rw[E]at b;have j:0<=aiA (q.len:Int) 8:=by rw[ajj ω];omega
  rw[wrap_i64 (n:=(a.len:Int)-1) ω ω];have k:aiq ((a.len:Int)-1)=bs.length+row.length/8:=ω;refine yj (bs:=bs++gJ row row.length) b.own.elems ω (by rw[aiu,c4];omega) ⟨δ,j,?_⟩;have f:0<=orv (Ie (bs++gJ row row.length) (aiq ((a.len:Int)-1))) (q.len:Int)/\orv (Ie (bs++gJ row row.length) (aiq ((a.len:Int)-1))) (q.len:Int)<256:=aS _;refine b.set (i:=(a.len:Int)-1) (c:=orv (Ie (bs++gJ row row.length) (aiq ((a.len:Int)-1))) (q.len:Int)) ω (by rw[aiu,c4];omega) f.1 f.2 λt g f3=>?_;refine B t a ?_ (f2.trans f3);rw[k,M1,List.set_append_right _ _ ω,show bs.length+row.length/8-bs.length=row.length/8 by omega,<-A]at g;exact g
structure Ms where
 kind:Int
 slot:Int
 target:Bs 32
 ax:Int
 body:Int
 bits:Sl
 tag:Bs 16
def Ms.tv(m:Ms):TV:=.agg [.i m.kind,.i m.slot,.bytes 32 m.target,.i m.ax,.int .u64 m.body,.slice m.bits,.bytes 16 m.tag]
def bh:Ms:=⟨0,0,aiJ 32,0,0,Sl.nil,aiJ 16⟩
theorem bB{m:Ms}{b:Nat}(v:Var 58 h b m.tv){K:Int->Int->Bs 32->Int->Int->Sl->Bs 16->Prop}(I:K m.kind m.slot m.target m.ax m.body m.bits m.tag):
 ∃(n:Int),∃(q:Int),∃(A:Bs 32),∃(B:Int),∃(E:Int),∃(s:Sl),∃(H:Bs 16),(ah h b 0 (.i n)/\ah h b 1 (.i q)/\av h b 2 32 A/\ah h b 34 (.i B)/\ah h b 35 (.int .u64 E)/\ah h b 36 (bu s)/\av h b 37 16 H)/\K n q A B E s H:=
 ⟨m.kind,m.slot,m.target,m.ax,m.body,m.bits,m.tag,v.at,I⟩
theorem fR{c d:Ms}:c.tv.size=d.tv.size:=by rfl
theorem cv{c:Ms}:53=c.tv.size:=by rfl
def dU(m:Ms)(row:List Bool):Bool:=
 !(decide (m.slot<0)||decide (1073741824<m.slot)||decide (m.ax<0)||decide (65535<m.ax)||(!decide (m.kind=1)&&!decide (m.body=0)))&&
   if m.kind=3 then decide (m.ax=0)&&(decide (row.length<=16)&&row.contains true)else(decide (m.kind=1)||decide (m.kind=2))&&decide (row.length=0)
def bidx:List Bool->Int->Int
 |[],_=>-1
 |b::bs,i=>if b=true then i else bidx bs (i+1)
theorem HB:∀(l:List Bool)(i:Int),0<=i->(decide (0<=bidx l i)=l.contains true)
 |[],i,_=>by rfl
 |b::bs,i,a=>by
  unfold bidx;cases b with
  |true=>simp_all
  |false=>rw[if_neg δ,HB bs (i+1) ω];simp
theorem Rh{s:Sl}{l:List Bool}(e:aj 1 h s (aY l))(A:l.length<100000)(q:R (TV.i (bidx l 0)).val h):Cl 200 [.slice s,.bool true] h R:=by
 apply iG;delta iZ nj gI bK;have el:=by have:=e.len;rwa [ait]at this
 refine⟨λσ b=>0<=σ.2/\σ.2<=s.len/\b=h/\bidx l 0=bidx (l.drop σ.2.toNat) σ.2,λσ _=>(s.len-σ.2).toNat,⟨aiw 0,ω,rfl,rfl⟩,?_⟩;rintro⟨f,i⟩ b ⟨c,k,rfl,a⟩;refine ID (λd=>?_) λd=>?_
 ·refine kD e c ω λx g=>?_;rw[BD g,bidx]at a;cases x with
  |true=>
   rw[a]at q;exact aiN q
  |false=>
   rw[wrap_i64 ω ω];have m:(i+1).toNat=i.toNat+1:=ω;refine aiI ⟨⟨ω,ω,rfl,?_⟩,by grind⟩;simp_all
 ·have j:l.drop i.toNat=[]:=ajf ω;rw[j]at a;rw[a]at q;exact q
theorem uZ{s:Sl}{l:List Bool}(e:aj 1 h s (aY l))(q:l.length<100000)(A:R (aiH (l.contains true)).val h):Cl 140 [.slice s,.bool true] h R:=by
 apply gD;refine Rh e q ⟨_,rfl,?_⟩;dsimp only;rw[HB l 0 (aiw 0)];exact A
theorem Kf{m:Ms}{row:List Bool}(e:aj 1 h m.bits (aY row))(A:row.length<100000)(B:∀p,Ext h p->R (aiH (dU m row)).val p):Cl 232 [m.tv] h R:=by
 apply Il m.kind m.slot m.target m.ax m.body m.bits m.tag;delta gz dK iM aO dx aN bK lq;have el:=by have:=e.len;rwa [ait]at this
 refine aa λf v1 q G=>?_;have u:=v1.at;obtain⟨i,r,H,l,v,j,I⟩:=u;have a:=B f q;intro w x
 have s:∀b,m.slot>=0->m.slot<=1073741824->m.ax>=0->m.ax<=65535->(m.kind=1\/m.body=0)->w b f:=by
  intro b y z C D t;refine x b f ⟨_,i,?_⟩
  have n:(!(decide (m.slot<0)||decide (1073741824<m.slot)||decide (m.ax<0)||decide (65535<m.ax)||(!decide (m.kind=1)&&!decide (m.body=0))))=true:=by
   simp_all
  unfold dU at a;rw[n]at a;refine ID (λo=>?_) λo=>?_
  ·rw[if_pos o]at a;refine⟨_,l,ID (λc=>⟨_,j,ID (λk=>⟨_,j,?_⟩) λk=>?_⟩) λc=>?_⟩
   ·refine uZ (e.ext q) A ⟨_,rfl,?_⟩
    grind
   ·rw[decide_eq_true c,decide_eq_false (show¬row.length<=16 by omega)]at a;exact a
   ·rw[decide_eq_false c]at a;exact a
  ·rw[if_neg o,el]at a
   have E:decide ((m.bits.len:Int)=0)=decide (m.bits.len=0):=by
    simp_all
   rw[<-E]at a;refine⟨_,i,ID (λc=>⟨_,j,?_⟩) λc=>⟨_,i,ID (λk=>⟨_,j,?_⟩) λk=>?_⟩⟩
   ·simp_all
   ·simp_all
   ·rw[decide_eq_false c,decide_eq_false k]at a;exact a
 have d:(m.slot<0\/1073741824<m.slot\/m.ax<0\/65535<m.ax\/(m.kind≠1/\m.body≠0))->R (aiH false).val f:=by
  intro J
  have n:(!(decide (m.slot<0)||decide (1073741824<m.slot)||decide (m.ax<0)||decide (65535<m.ax)||(!decide (m.kind=1)&&!decide (m.body=0))))=false:=by
   grind
  unfold dU at a;rw[n]at a;exact a
 refine⟨_,r,ID (λg=>d (.inl g)) λy=>⟨_,r,ID (λg=>d (.inr (.inl g))) λz=>⟨_,l,ID (λg=>d (.inr (.inr (.inl g)))) λC=>⟨_,l,ID (λg=>d (.inr (.inr (.inr (.inl g))))) λD=>⟨_,i,aiG (λt=>⟨_,v,aiG (λF=>?_) λF=>?_⟩) λt=>?_⟩⟩⟩⟩⟩
 ·exact d (.inr (.inr (.inr (.inr ⟨by simp_all,by simp_all⟩))))
 ·exact s _ ω ω ω ω (.inr (by simp_all))
 ·exact s _ ω ω ω ω (.inl (by simp_all))
end
end Board
namespace Board
section
variable{R:Rq}{h:af}
def dA(m:Ms)(row:List Bool):LU:=
 (([aiv (aio .u8 m.kind).toNat]++yo (aio .u64 m.slot) 4)++m.target.l)++
   if m.kind=1 then yo (aio .u64 m.ax) 2++yo m.body 8 else if m.kind=2 then yo (aio .u64 m.ax) 2 else if m.kind=3 then Rg row else[]
theorem yF(n:Int)(k:Nat):(yo n k).length=k:=gA k n
theorem Ri(row:List Bool):(Rg row).length=row.length/8+1:=by simp[Rg,LV,c4]
theorem ov(m:Ms)(row:List Bool):(dA m row).length<=60+row.length:=by
 unfold dA;simp only[aiu,yF,m.target.h,aiR];split
 ·simp only[aiu,yF];omega
 ·split
  ·simp only[yF];omega
  ·split
   ·rw[Ri];omega
   ·simp only[List.length_nil];omega
theorem uD{b o n c:Nat}{x:Bs n}(a:av h b o n x):aj 1 h ⟨some ⟨b,o⟩,n,c⟩ (QT x.l):=by
 refine⟨by rw[ait,x.h],(λf=>by cases f),λl g i t d=>?_⟩;obtain rfl:=Option.some.inj g;rw[aiQ]at d;obtain⟨u,e,rfl⟩:=ai2.1 d;have j:i<n:=by rw[<-x.h];exact(aje.1 e).1
 have:=a i j;rw[aiy,e]at this;show ah _ _ _ _;rw[ajb];exact this
theorem M3{e:TypeId}{s:Sl}{n:Nat}{new:List Value}{K:Sl->af->Prop}(H:au ctx e s n new h K):au vS e s n new h K:=H
theorem aq{T:TypeId}{b n:Nat}{t0 t:TV}{K:af->Prop}(v:Var T h b t0)(q:n=t0.size)(A:t.size=t0.size)(B:∀a,Var T a b t->ag (·=b) h a->a.size=h.size->K a):gT h b 0 n/\Bind (t.put h b 0) K:=by
 subst q;exact aH v A B
theorem yG{Q:Nat->Prop}{s:Sl}{bs us:LU}{n:Nat}{K:Sl->af->Prop}(q:n=us.length)(r:Row Q h s bs)(A:bs.length+us.length<10000)
 (B:∀a b,Row Q b a (bs++us)->ag (In s) h b->(∀l,a.a=some l->(∃d,s.a=some d/\d.b=l.b)\/h.size<=l.b)->K a b):
 au ctx 5 s n (us.map λc=>ai9 .u8 (c.toNat:Int)) h K:=by
 subst q;exact Gp r A B
theorem Kg{m:Ms}{row:List Bool}(e:aj 1 h m.bits (aY row))(A:row.length<500)(q:∀v,Ext h v->R (aiK (dA m row)).val v):Cl 265 [m.tv] h R:=by
 apply Gz m.kind m.slot m.target m.ax m.body m.bits m.tag;delta jN fH dK Dj iA tM d_ gY gj aN bA fD;have el:row.length=m.bits.len:=by have:=e.len;rwa [ait]at this
 refine aa λa v1 F s1=>?_;have G:=v1.at (t:=m.tv);obtain⟨H,I,J,K,L,a5,a6⟩:=G;have hw:=aS m.kind;have w:=aiE a (Vc.row (aiD [aiF .u8 (aio .u8 m.kind)]) 5)
 have r1:Row (λi=>h.size<i) (a.push (Vc.row (aiD [aiF .u8 (aio .u8 m.kind)]) 5)) ⟨some ⟨a.size,0⟩,1,1⟩ [aiv (aio .u8 m.kind).toNat]:=by
  have o:=Vc.Own.new (T:=5) (sz:=1) a [aiF .u8 (aio .u8 m.kind)] (λt z=>by
   simp only[ajo,List.not_mem_nil,or_false]at z;subst z;rfl)
  have M:JW (aiv (aio .u8 m.kind).toNat)=aiF .u8 (aio .u8 m.kind):=by
   unfold JW;rw[ajc];congr 1;omega
  refine⟨?_,λl A=>?_,λi b=>?_⟩
  ·have N:QT [aiv (aio .u8 m.kind).toNat]=[aiF .u8 (aio .u8 m.kind)]:=by simp[QT,M]
   rw[N];exact o
  ·obtain rfl:=Option.some.inj A;show h.size<a.size;omega
  ·rw[ajm]at b;omega
 refine⟨_,H,_,mI w I,?_⟩;refine ia (k:=4) r1 (by simp) δ λO s2 B C=>⟨_,rfl,?_⟩;have P:Ext a O:=ais w C λi b=>ω;have Q:ay (Sl.mk (some (Vc.Loc.mk h.size 2)) 32 32) 0 32 1=⟨some ⟨h.size,2⟩,32,32⟩:=rfl;rw[Q];refine⟨m.target.l.map λc=>ai9 .u8 (c.toNat:Int),by rw[<-rW];exact(uD (Qn P J)).cells (By _) δ,sJ m.target.l,M3 ?_⟩;refine yG m.target.h.symm B (by rw[aiu,yF,aiR,m.target.h];decide) λs3 x p f3 D=>?_;have f3:=B.cut f3;have r:Ext a x:=ais w (C.trans f3) λi b=>ω;have f:=F.trans r;have S:Var 58 x h.size m.tv:=v1.ext r;have U:=S.at;obtain⟨V,b1,b2,D,b4,W,b6⟩:=U
 have s:(([aiv (aio .u8 m.kind).toNat]++yo (aio .u64 m.slot) 4)++m.target.l).length=37:=by
  rw[aiu,aiu,yF,aiR,m.target.h]
 refine⟨_,V,ID (λg=>?_) λg=>aji.2 ⟨λu=>?_,λu=>ID (λy=>?_) λy=>?_⟩⟩
 ·refine⟨a,r.sub,_,K,_,L,?_⟩;refine ia (k:=2) p (by rw[s];decide) δ λj E n d=>⟨_,rfl,(ais r d λi b=>by omega:Ext a j).sub,?_⟩;refine ia (k:=8) n (by rw[aiu,s,yF];decide) δ λX s5 Y Z=>⟨_,rfl,_,Y.str,?_⟩;have:=q X (ais f (d.trans Z) λi b=>ω);unfold dA at this;rw[if_pos g,<-ai5]at this;exact this
 ·refine⟨_,D,?_⟩;refine ia (k:=2) p (by rw[s];decide) δ λj E n d=>⟨_,rfl,_,n.str,?_⟩;have:=q j (ais f d λi b=>ω);unfold dA at this;rw[if_neg g,if_pos u]at this;exact this
 ·refine⟨_,W,?_⟩;refine Gy p (by rw[s];decide) ω el (λv o'=>e.ext (ais f o' λi b=>ω)) λj E n d=>⟨_,rfl,_,n.str,?_⟩;have:=q j (ais f d λi b=>ω);unfold dA at this;rw[if_neg g,if_neg u,if_pos y]at this;exact this
 ·have:=q x f;unfold dA at this;rw[if_neg g,if_neg u,if_neg y,List.append_nil]at this;exact⟨_,p.str,this⟩
end
end Board
namespace Board
section
variable{R:Rq}{h:af}
theorem aed:∀k:Fin 8,∀c:Fin 256,c.val<2^k.val->
 aio .u8 ((aiB (aip .u8) ((c.val:Nat):Int)|||aiB (aip .u8) (aio .u8 (1*2^min (aiq ((k.val:Nat):Int)) (aip .u8)))).toNat:Int)=((c.val+2^k.val:Nat):Int):=by decide+kernel
theorem adA(i:Nat):aiA (i:Int) 8=((i%8:Nat):Int):=by
 rfl
theorem Vy{c i:Nat}(q:c<2^(i%8)):orv (c:Int) (i:Int)=((c+2^(i%8):Nat):Int):=by
 unfold orv;have a:i%8<8:=Nat.mod_lt _ δ;have b:2^(i%8)<=2^7:=ajt δ ω;exact aed ⟨i%8,a⟩ ⟨c,ω⟩ q
def bn(l:LU)(j:Nat):Nat:=(l.getD j 0).toNat
theorem TB(l:LU)(j:Nat):Ie l j=(bn l j:Int):=rfl
theorem aee{l:LU}{i j:Nat}{x:UInt8}(q:i<l.length):bn (l.set i x) j=if i=j then x.toNat else bn l j:=by
 unfold bn
 grind
theorem yI(row:List Bool):∀(i:Nat),i<=row.length->∀j,bn (gJ row i) j<2^(i-8*j)
 |0,_,j=>by
  have:bn (gJ row 0) j=0:=by
   unfold bn gJ;rw[aiy,List.getElem?_replicate];split<;>rfl
  simp_all
 |i+1,e,j=>by
  have b:=yI row i ω;have mono:2^(i-8*j)<=2^(i+1-8*j):=ajt δ ω;unfold gJ;split
  ·have c:i/8<(gJ row i).length:=by grind [c4]
   unfold LV;rw[aee c];split
   ·have a:=b (i/8);have d:i-8*(i/8)=i%8:=ω;rw[d]at a;rw[TB,Vy a,ajc];have f:2^(i%8)<=2^7:=ajt δ ω;have g:i+1-8*j=i%8+1:=ω
    grind
   grind
  grind
def dG(row:List Bool)(i:Nat):LU:=(gJ row i).take ((i+7)/8)
theorem WU{row:List Bool}{i:Nat}(q:i<=row.length+1):(dG row i).length=(i+7)/8:=by
 grind [c4,dG,aiO]
theorem aco{row:List Bool}{i:Nat}(q:i<=row.length):(gJ row i).take ((i+8)/8)=if i%8=0 then dG row i++[0]else dG row i:=by
 unfold dG;split
 ·have c:(i+8)/8=i/8+1:=ω;have d:(i+7)/8=i/8:=ω;have b:i/8<(gJ row i).length:=by grind [c4]
  have e:=yI row i q (i/8);rw[show i-8*(i/8)=0 by omega]at e;rw[c,d,List.take_add_one,aiM b];have a:bn (gJ row i) (i/8)=0:=ω;unfold bn at a;rw[aiy,aiM b]at a;have:(gJ row i)[i/8]=0:=UInt8.toNat_inj.1 a;simp_all
 grind
theorem b4:(ctx.ti 4).bytes=1:=κ
theorem sz4:(ctx.ti 4).size=1:=κ
theorem zz4:(ctx.ti 4).z.size=1:=κ
def cG(row:List Bool)(i:Nat):LU:=if i<=row.length then dG row i else Rg row
theorem ZU{l:LU}{m j:Nat}(h:j<m):Ie (l.take m) j=Ie l j:=by
 unfold Ie;rw[aiy,aiy,List.getElem?_take,if_pos h]
theorem afL{row:List Bool}{i:Nat}(A:i<=row.length)(q:(row++[true])[i]? =some false):cG row (i+1)=(gJ row i).take ((i+8)/8):=by
 have a:i<row.length:=by
  grind
 rw[List.getElem?_append_left a]at q;unfold cG dG;rw[if_pos ω]
 have b:gJ row (i+1)=gJ row i:=by
  rw[gJ,if_neg];rw[aiy,q];decide
 rw[b]
theorem aef{row:List Bool}{i:Nat}(A:i<=row.length)(q:(row++[true])[i]? =some true):cG row (i+1)=((gJ row i).take ((i+8)/8)).set (i/8) (aiv (bn (gJ row i) (i/8)+2^(i%8))):=by
 have a:=yI row i A (i/8);rw[show i-8*(i/8)=i%8 by omega]at a
 have c:(LV (gJ row i) i).take ((i+8)/8)=((gJ row i).take ((i+8)/8)).set (i/8) (aiv (bn (gJ row i) (i/8)+2^(i%8))):=by
  grind [ai8,Vy,LV,List.take_set,TB]
 by_cases b:i<row.length
 ·rw[List.getElem?_append_left b]at q;unfold cG dG;rw[if_pos ω]
  have d:gJ row (i+1)=LV (gJ row i) i:=by
   rw[gJ,if_pos];rw[aiy,q];rfl
  grind
 ·have e:i=row.length:=ω;simp_all [c4,if_neg,Rg,List.take_of_length_le,cG,LV]
theorem OJ{s:Sl}{row:List Bool}(e:aj 1 h s (aY row))(q:row.length<500)(W:∀G,Ext h G->R (aiK (Rg row)).val G):Cl 223 [.slice s] h R:=by
 apply wU;delta aF gZ iA jr gI dD d_ eW kT gY bK fD;have el:=by have:=e.len;rwa [ait]at this
 have H:=aiE h (Vc.row (aiD []) 4);refine oW sz4 zz4 δ δ (by grind [b4]) (Vc.Own.new h [] (λt X=>by cases X)) (e.ext H) (λu a=>by obtain⟨b,_,rfl⟩:=aja.1 a;rfl) (λu a=>by obtain⟨b,_,rfl⟩:=aja.1 a;rfl) λY Z I ar f1 b1=>?_
 have ab:Ext h Z:=ais H f1 λi⟨l,q,f⟩=>by
  obtain rfl:=Option.some.inj q;rw[<-f];exact aix _
 have l1:Y.len=row.length:=by have:=I.len;rw[List.nil_append,ait]at this;exact this.symm
 refine cD (C:=ctx) (T:=4) (sz:=1) (x:=.bool true) sz4 zz4 (by rw[b4];decide) (by rw[b4];omega) I rfl rfl λy m o2 f2 b2=>?_
 have ac:Ext h m:=ais ab f2 λi⟨l,q,f⟩=>by
  rcases b1 l q with⟨l',ad,B⟩|B
  ·obtain rfl:=Option.some.inj ad;rw[<-f,<-B];exact aix _
  ·rw[ajm]at B;omega
 have e2:aj 1 m y (aY (row++[true])):=by
  have:=o2.elems;simpa[aY]using this
 have l2:y.len=row.length+1:=by have:=e2.len;rw[ait,aiu]at this;exact this.symm
 refine⟨λσ r=>0<=σ.2/\σ.2<=y.len/\Row (λb=>m.size<=b) r σ.1 (cG row σ.2.toNat)/\Ext m r,λσ _=>((y.len:Int)-σ.2).toNat,
  ⟨aiw 0,Ω,⟨Vc.Own.nil _ _ _,(λl q=>by cases q),λi f=>f⟩,aiL _⟩,?_⟩
 rintro⟨out,i⟩ K ⟨L,i1,c,v⟩;dsimp only at L i1 c v⊢;refine ID (λf=>?_) λf=>?_
 ·refine kD (e2.ext v) L (by rw[aiu,aiR];omega) λx M=>?_;have g:i.toNat<=row.length:=ω;have ae:cG row i.toNat=dG row i.toNat:=if_pos g;rw[ae]at c;have aw:=WU (row:=row) (i:=i.toNat) ω
  have D:aiA i 8=((i.toNat%8:Nat):Int):=by
   have:=adA i.toNat
   rwa [show((i.toNat:Nat):Int)=i by omega]at this
  rw[wrap_i64 (n:=i+1) ω ω];have N:(i+1).toNat=i.toNat+1:=ω;intro J O
  have step:∀(o:Sl)(d:af),Row (λb=>m.size<=b) d o ((gJ row i.toNat).take ((i.toNat+8)/8))->Ext m d->J o d:=by
   intro o d p Q;refine O o d ?_;have E:((gJ row i.toNat).take ((i.toNat+8)/8)).length=i.toNat/8+1:=by rw[aiO,c4];omega
   have al:=p.len;rw[E]at al;cases x with
   |false=>
    refine aiI ⟨⟨Ω,Ω,?_,Q⟩,Ω⟩
    try dsimp only
    rw[N,afL g M];exact p
   |true=>
    refine aiN ?_;refine⟨λσ r=>0<=σ.2/\σ.2<=aiA i 8/\d=r/\σ.1=((2^σ.2.toNat:Nat):Int),λσ _=>(aiA i 8-σ.2).toNat,⟨aiw 0,by rw[D];exact Int.natCast_nonneg _,rfl,rfl⟩,?_⟩;rintro⟨u,k⟩ r ⟨k0,S,rfl,a⟩;dsimp only at k0 S a⊢;refine⟨δ,?_⟩;rw[D]at S⊢;have aE:i.toNat%8<8:=Nat.mod_lt _ δ;have am:2^k.toNat<=2^7:=ajt δ ω;obtain⟨P,w⟩:∃P,P=2^k.toNat:=⟨_,rfl⟩;rw[<-w]at a am;refine ID (λhk=>?_) λhk=>?_
    ·rw[wrap_i64 (n:=2*u) ω ω,wrap_i64 (n:=k+1) ω ω];refine⟨⟨ω,ω,rfl,?_⟩,Ω⟩;rw[a,show(k+1).toNat=k.toNat+1 by omega,Nat.pow_succ,<-w];omega
    ·have ao:k.toNat=i.toNat%8:=ω;rw[ao]at w;rw[wrap_i64 (n:=(o.len:Int)-1) ω ω];have z:aiq ((o.len:Int)-1)=i.toNat/8:=ω;have U:=yI row i.toNat g (i.toNat/8);rw[show i.toNat-8*(i.toNat/8)=i.toNat%8 by omega]at U;refine yj (bs:=(gJ row i.toNat).take ((i.toNat+8)/8)) p.own.elems ω (by rw[E];omega) ?_;rw[z,ZU ω,TB]
     have ap:aio .u8 ((bn (gJ row i.toNat) (i.toNat/8):Int)+aio .u8 u)=((bn (gJ row i.toNat) (i.toNat/8)+2^(i.toNat%8):Nat):Int):=by
      rw[a,wrap_u8,wrap_u8,<-w];rw[<-w]at U;omega
     rw[ap,show i.toNat/8=((o.len:Int)-1).toNat from z.symm];refine p.set (i:=(o.len:Int)-1) ω (by rw[E];omega) ω (by rw[z];omega) λh5 V f5=>?_;refine⟨⟨Ω,Ω,?_,ais Q f5 λj F=>F⟩,Ω⟩
     try dsimp only
     rw[N,aef g M];rw[z,ai8]at V;exact V
  clear O;refine⟨δ,?_⟩;rw[D];have A:=aco (row:=row) (i:=i.toNat) g;refine ID (λh8=>?_) λh8=>?_
  ·rw[if_pos ω]at A;refine QU c ω δ δ λs4 d p f4 b4=>?_;refine step s4 d ?_ (ais v (c.cut f4) λj F=>F);rw[A];exact p
  ·rw[if_neg ω]at A;refine step out K ?_ v;rw[A];exact c
 ·have g:i.toNat=row.length+1:=ω;rw[g]at c;have hc:cG row (row.length+1)=Rg row:=if_neg ω;rw[hc]at c;exact⟨_,c.str,W K (ac.trans v)⟩
def yes:List Bool->Nat
 |[]=>0
 |b::l=>(if b=true then 1 else 0)+yes l
theorem Rj:∀(l:List Bool)(b:Bool),yes (l++[b])=yes l+if b=true then 1 else 0
 |[],b=>by simp[yes]
 |a::l,b=>by rw[List.cons_append,yes,yes,Rj l b];omega
theorem ZV:∀l:List Bool,yes l<=l.length
 |[]=>aix _
 |b::l=>by have:=ZV l;grind [yes,List.length_cons]
theorem Vz:∀l:List Bool,decide (0<((yes l:Nat):Int))=l.contains true
 |[]=>by rfl
 |b::l=>by
  have a:=Vz l
  grind [yes]
theorem yJ{m:Ms}{row:List Bool}(e:aj 1 h m.bits (aY row))(U:row.length<100000)(A:∀q,Ext h q->R (aiH (dU m row)).val q):Cl 97 [m.tv] h R:=by
 apply yH m.kind m.slot m.target m.ax m.body m.bits m.tag;delta gz dK iZ aO dx gI fE aN bK lq;have el:=by have:=e.len;rwa [ait]at this
 refine aa λj v1 r S=>?_;have B:=v1.at;obtain⟨k,s,T,l,t,n,V⟩:=B;have a:=A j r;intro C u
 have D:∀b,1<=m.kind->m.kind<=3->m.slot>=0->m.slot<=1073741824->m.ax>=0->m.ax<=65535->C b j:=by
  intro b W X E F G H;refine u b j ⟨m.bits,n,?_⟩;refine⟨λσ v=>0<=σ.2/\σ.2<=m.bits.len/\v=j/\σ.1=(yes (row.take σ.2.toNat):Nat),λσ _=>(m.bits.len-σ.2).toNat,⟨aiw 0,ω,rfl,by rfl⟩,?_⟩;rintro⟨y,i⟩ v ⟨w,I,rfl,o⟩;dsimp only at w I o⊢;refine ID (λJ=>?_) λJ=>?_
  ·refine kD (e.ext r) w ω λx K=>?_;have L:=Rj (row.take i.toNat) x;rw[<-aU K]at L;have M:=ZV (row.take i.toNat);rw[aiO]at M;rw[wrap_i64 ω ω];have Y:(i+1).toNat=i.toNat+1:=ω;cases x with
   |true=>
    rw[wrap_i64 ω ω];refine aiN ⟨⟨ω,ω,rfl,?_⟩,ω⟩;simp_all
   |false=>
    refine aiI ⟨⟨ω,ω,rfl,?_⟩,ω⟩;simp_all
  ·have N:row.take i.toNat=row:=List.take_of_length_le ω;rw[N]at o;subst o;have O:=Vz row
   have P:∀z:Bool,(!(decide (m.slot<0)||decide (1073741824<m.slot)||decide (m.ax<0)||decide (65535<m.ax)||z))=!z:=by
    simp_all
   unfold dU at a;rw[P]at a;refine⟨_,k,ID (λp=>?_) λp=>?_⟩
   ·rw[if_pos p,decide_eq_false (show¬m.kind=1 by omega),<-O]at a;refine⟨_,l,ID (λg=>⟨_,t,ID (λd=>⟨_,n,ID (λQ=>?_) λQ=>?_⟩) λd=>?_⟩) λg=>?_⟩
    ·rw[decide_eq_true g,decide_eq_true d,decide_eq_true (show row.length<=16 by omega)]at a;simpa using a
    ·rw[decide_eq_false (show¬row.length<=16 by omega)]at a;simpa using a
    ·rw[decide_eq_false d]at a;simpa using a
    ·rw[decide_eq_false g]at a;simpa using a
   ·rw[if_neg p]at a;refine⟨_,n,ID (λg=>⟨_,k,ID (λd=>?_) λd=>⟨_,t,?_⟩⟩) λg=>?_⟩
    ·rw[decide_eq_true d,decide_eq_true (show row.length=0 by omega)]at a;simpa using a
    ·rw[decide_eq_false d,decide_eq_true (show row.length=0 by omega),decide_eq_true (show m.kind=2 by omega)]at a;simpa using a
    ·rw[decide_eq_false (show¬row.length=0 by omega)]at a;simpa using a
 have f:(m.kind<1\/3<m.kind\/m.slot<0\/1073741824<m.slot\/m.ax<0\/65535<m.ax)->R (aiH false).val j:=by
  intro c
  have:dU m row=false:=by
   unfold dU;rcases c with c|c|c|c|c|c
   ·rw[if_neg ω,decide_eq_false (show¬m.kind=1 by omega),decide_eq_false (show¬m.kind=2 by omega)];simp
   ·rw[if_neg ω,decide_eq_false (show¬m.kind=1 by omega),decide_eq_false (show¬m.kind=2 by omega)];simp
   ·simp[c]
   ·simp[c]
   ·simp[c]
   ·simp[c]
  rw[this]at a;exact a
 clear u;exact⟨_,k,ID (λg=>f (.inl g)) λE=>⟨_,k,ID (λg=>f (.inr (.inl g))) λF=>⟨_,s,ID (λg=>f (.inr (.inr (.inl g)))) λG=>⟨_,s,ID (λg=>f (.inr (.inr (.inr (.inl g))))) λH=>⟨_,l,ID (λg=>f (.inr (.inr (.inr (.inr (.inl g)))))) λZ=>⟨_,l,ID (λg=>f (.inr (.inr (.inr (.inr (.inr g)))))) λg6=>D _ ω ω ω ω ω ω⟩⟩⟩⟩⟩⟩
end
end Board
namespace Board
section
variable{R:Rq}{h:af}
def j9(m:Ms):Prop:=0<=m.body/\m.body<18446744073709551616
theorem WV{n:Int}(h:n=1\/n=2\/n=3):MV (aio .u64 n) 1=[aiv (aio .u8 n).toNat]:=by
 rcases h with h|h|h<;>subst h<;>rfl
theorem lY{m:Ms}{row:List Bool}(q:dU m row=true):m.kind=1\/m.kind=2\/m.kind=3:=by
 by_cases a:m.kind=3
 ·exact .inr (.inr a)
 ·unfold dU at q;rw[if_neg a]at q;simp only[ajg,Bool.or_eq_true,decide_eq_true_eq]at q;rcases q.2.1 with h|h
  ·exact .inl h
  ·exact .inr (.inl h)
theorem wW{b:Nat}{q:af}(A:b<q.size):Row (λi=>b<i) (q.push (Vc.row (aiD []) 5)) ⟨some ⟨q.size,0⟩,0,0⟩ []:=by
 refine⟨Vc.Own.new (T:=5) (sz:=1) q [] (λt a=>by cases a),λl c=>?_,λi d=>?_⟩
 ·obtain rfl:=Option.some.inj c;exact A
 ·rw[ajm]at d;omega
theorem Row.ext{Q:Nat->Prop}{q:af}{s:Sl}{bs:LU}(r:Row Q h s bs)(e:Ext h q):Row Q q s bs:=
 ⟨r.own.ext e,r.uT,λi a=>r.new i (Nat.le_trans e.size a)⟩
theorem GA{m:Ms}{b:Nat}{s:Sl}{K:Sl->Rq}(v:Var 58 h b m.tv)(r:Row (λi=>b<i) h s [])(A:∀d a,ag (λi=>b<i) h a->K d (aiK m.target.l).val a):
 ∃(new:List Value),cn h (ay (Sl.mk (some (Vc.Loc.mk b 2)) 32 32) 0 32 1) 1 new/\(∀(v:Value),v∈new->bU v=true)/\au ctx 5 s (ay (Sl.mk (some (Vc.Loc.mk b 2)) 32 32) 0 32 1).len new h λ(q:Sl)(B:Array Obj)=>Cl 159 [ai4 q] B (K q):=by
 obtain⟨l,n,e,o,p,u,w⟩:=v.at (t:=m.tv);have f:ay (Sl.mk (some (Vc.Loc.mk b 2)) 32 32) 0 32 1=⟨some ⟨b,2⟩,32,32⟩:=rfl;rw[f];refine⟨m.target.l.map λc=>ai9 .u8 (c.toNat:Int),by rw[<-rW];exact(uD e).cells (By _) δ,sJ m.target.l,?_⟩;refine yG m.target.h.symm r (by rw[m.target.h];decide) λg j k f3 x=>?_;apply mS;delta Dj;exact⟨_,k.str,A g j (r.cut f3)⟩
theorem pg{m:Ms}{row:List Bool}(e:aj 1 h m.bits (aY row))(O:row.length<500)(U:m.kind=1\/m.kind=2\/m.kind=3)(B:j9 m)(q:∀C,Ext h C->R (aiK (dA m row)).val C):Cl 158 [m.tv] h R:=by
 apply wV m.kind m.slot m.target m.ax m.body m.bits m.tag;delta gz dK Bq iA dx tM nY d_ kT gY gj aN bA fD;refine aa λp v1 N s1=>?_;have v1:Var 58 p h.size m.tv:=v1;obtain⟨Q,S,a2,a3,a4,a5,a6⟩:=v1.at (t:=m.tv);intro T D;obtain⟨P,f⟩:∃P,P=([aiv (aio .u8 m.kind).toNat]++yo (aio .u64 m.slot) 4)++m.target.l:=⟨_,rfl⟩
 have r:P.length=37:=by
  rw[f,aiu,aiu,yF,aiR,m.target.h]
 have k:=gC m.ax;have E:=gC m.slot
 have u:∀(s:Int×Int×LU×Int×Int×LU×LU×Sl×Sl×Sl×LU×LU×LU)(l:af),Ext p l->s.2.2.2.2.2.2.2.2.2.2.2.2=P->T s l:=by
  intro s l F V;refine D s l ?_;dsimp only;rw[V];have W:=v1.ext F;obtain⟨G,b1,b2,X,b4,Y,b6⟩:=W.at (t:=m.tv);have o:=N.trans F;refine⟨_,G,ID (λH=>⟨_,Y,OJ (e.ext o) O λv d=>⟨_,rfl,?_,?_⟩⟩) λH=>⟨_,X,bL 2 _ _ _ δ λv d=>⟨_,rfl,?_,_,mI d G,ID (λw=>⟨_,mI d b4,bL 8 _ _ _ δ λZ x7=>⟨_,rfl,?_,?_⟩⟩) λw=>?_⟩⟩⟩
  ·rw[r,Ri];omega
  ·have:=q v (o.trans d);unfold dA at this;rw[if_neg ω,if_neg ω,if_pos H,<-f]at this;exact this
  ·rw[r,dN];decide
  ·rw[aiu,r,dN,dN];decide
  ·have:=q Z ((o.trans d).trans x7);unfold dA at this;rw[if_pos w,<-f,<-BF 2 _ k.1 k.2,<-BF 8 _ B.1 B.2,<-ai5]at this;exact this
  ·have:=q v (o.trans d);unfold dA at this;rw[if_neg w,if_pos ω,<-f,<-BF 2 _ k.1 k.2]at this;exact this
 clear D;have I:∀n,(MV n 1).length=1:=dN 1;have J:∀n,(MV n 4).length=4:=dN 4;have lT:=m.target.h
 have x:(MV (aio .u64 m.kind) 1++MV (aio .u64 m.slot) 4)++m.target.l=P:=by
  rw[f,WV U,BF 4 _ E.1 E.2]
 have y:((MV (aio .u64 m.kind) 1).length+(MV (aio .u64 m.slot) 4).length:Nat)<=(9223372036854775807:Int):=by rw[I,J];decide
 have z:((MV (aio .u64 m.kind) 1++MV (aio .u64 m.slot) 4).length+m.target.l.length:Nat)<=(9223372036854775807:Int):=by rw[aiu,I,J,lT];decide
 refine⟨_,Q,_,S,⟨bL 1 _ _ _ δ λK a=>⟨_,rfl,a,⟨bL 4 _ _ _ δ λA b=>⟨_,rfl,y,aiE _ _,?_⟩,aiE _ _,bL 4 _ _ _ δ λA b=>⟨_,rfl,y,?_⟩⟩⟩,aiE _ _,bL 1 _ _ _ δ λK a=>⟨_,rfl,a,bL 4 _ _ _ δ λA b=>⟨_,rfl,y,?_⟩⟩⟩⟩
 ·have z2:=a.size;have z3:=b.size;have c:=(a.trans b).trans (aiE A (Vc.row (aiD []) 5));exact GA (v1.ext c) (wW ω) λL g j=>⟨_,rfl,z,u _ g (ais c j λi M=>ω) x⟩
 ·have z2:=a.size;have c:=(a.trans (aiE K (Vc.row (aiD []) 5))).trans b;exact GA (v1.ext c) ((wW ω).ext b) λL g j=>⟨_,rfl,z,u _ g (ais c j λi M=>ω) x⟩
 ·have c:=((aiE p (Vc.row (aiD []) 5)).trans a).trans b;exact GA (v1.ext c) ((wW ω).ext (a.trans b)) λL g j=>⟨_,rfl,z,u _ g (ais c j λi M=>ω) x⟩
theorem b16{x:Bs 16}:(ai3 16 x).size=16:=by simp only[ajr]
theorem Fc{slot who:Int}{target:Bs 32}(q:∀a,Ext h a->R (aiK (dA ⟨2,slot,target,who,0,Sl.nil,aiJ 16⟩ [])).val a):
 Cl 158 [.agg [.i 2,.i slot,.bytes 32 target,.i who,.int .u64 0,.slice Sl.nil,.bytes 16 (aiJ 16)]] h R:=
 pg (m:=⟨2,slot,target,who,0,Sl.nil,aiJ 16⟩) (row:=[]) (aj.Bf 1 h) δ (.inr (.inl rfl)) ⟨aiw 0,by show(0:Int)<_;decide⟩ q
end
end Board
end Go.Proofs.YtennbinbffdimaaGreat

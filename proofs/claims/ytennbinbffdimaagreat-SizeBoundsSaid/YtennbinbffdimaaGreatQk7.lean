/- Texts that the proof needs, joined. -/
import Derived.Shelf.SlSortCmp.NoneTotal
import Derived.Ground.SlsfProg
import Derived.Test.YtennbinbffdimaaGreatProg
import Derived.Test.YtennbinbffdimaaGreatQk6
set_option maxRecDepth 100000
open Go.IntKind renaming wrap->aih,bits->aii,u64->aik,i64->ajk
open Int renaming toNat->aij,le_refl->aip,fdiv->air,tmod->ais,tdiv->aiM,toNat_natCast->ai2,tmod_eq_emod_of_nonneg->aje
open Go.Vc.ag renaming cut->ail,an->aiI,refl->aiL
open List renaming length_map->aim,length_append->ain,getD_eq_getElem?_getD->aiq,replicate->aiy,getElem?_eq_getElem->aiH,length_singleton->aiJ,getElem?_map->aiK,length_take->aiP,map_append->aiQ,range->aiR,length_drop->aiT,map_cons->aiU,mem_map->aiZ,append_assoc->ai1,sum_cons->ai3,ext_getElem->ai7,getElem?_eq_some_iff->ai8,drop_eq_nil_of_le->ai9,take_length->ajd,eq_nil_of_length_eq_zero->ajf,mem_cons->aji,map_nil->ajl,getElem?_append_left->ajm,toArray->ajo
open UInt8 renaming ofNat->aio,toNat_ofNat'->ai6
open BitVec renaming ofInt->ait,toNat->aiV
open Nat renaming le_refl->aiu,zero_le->aiW,mul_one->ai5,lt_irrefl->ajh,pow_le_pow_right->ajn
open Go.Vc.TV renaming bool->aiv,int->aiB,bg->aiC,str->aiF,ptr->aiN,slice->aiO,bytes->aiX
open Go.Vc.Ext renaming push->aiw,refl->ai0
open Go.Vc.If renaming no->aix,yes->aiA,split->aiD,dec->ajc
open Go.Vc.ak renaming cells->aiz,vals->aja
open Go.Vc.Bs renaming zero->aiE,ext'->ajj
open Go.Op renaming bytesLess->aiG
open Option renaming map_eq_some_iff->aiS
open ByteArray renaming mk->aiY
open Go.Value renaming int->ai4
open Bool renaming and_eq_true->ajb
open Array renaming size_push->ajg
namespace Go.Proofs.YtennbinbffdimaaGreat
open Go Go.Vc
namespace Board
def jw(x y:Int):Int:=(aih aik (aih aik (aih aik (air x ((2:Int)^min (aij (32:Int)) (aii aik))*air y ((2:Int)^min (aij (32:Int)) (aii aik)))+air (aih aik (aih aik (air x ((2:Int)^min (aij (32:Int)) (aii aik))*aih aik (↑(aiV (ait (aii aik) y&&&ait (aii aik) (4294967295:Int))):Int))+air (aih aik (aih aik (↑(aiV (ait (aii aik) x&&&ait (aii aik) (4294967295:Int))):Int)*aih aik (↑(aiV (ait (aii aik) y&&&ait (aii aik) (4294967295:Int))):Int))) ((2:Int)^min (aij (32:Int)) (aii aik)))) ((2:Int)^min (aij (32:Int)) (aii aik)))+air (aih aik (aih aik (↑(aiV (ait (aii aik) (aih aik (aih aik (air x ((2:Int)^min (aij (32:Int)) (aii aik))*aih aik (↑(aiV (ait (aii aik) y&&&ait (aii aik) (4294967295:Int))):Int))+air (aih aik (aih aik (↑(aiV (ait (aii aik) x&&&ait (aii aik) (4294967295:Int))):Int)*aih aik (↑(aiV (ait (aii aik) y&&&ait (aii aik) (4294967295:Int))):Int))) ((2:Int)^min (aij (32:Int)) (aii aik))))&&&ait (aii aik) (4294967295:Int))):Int)+aih aik (aih aik (↑(aiV (ait (aii aik) x&&&ait (aii aik) (4294967295:Int))):Int)*air y ((2:Int)^min (aij (32:Int)) (aii aik))))) ((2:Int)^min (aij (32:Int)) (aii aik))))
def nI(x y:Int):Int:=aih .u64 (x*y)
def Oz(x p q:Int):Bool:=
 if q=2 then(if p<jw x x then true else if jw x x=p then decide (0<nI x x)else false)
 else
  let a:=(nI (jw x x) x+jw (nI x x) x+0)%18446744073709551616
  let top:=aih .u64 (jw (jw x x) x+(nI (jw x x) x+jw (nI x x) x+0)/18446744073709551616)
  if top=air p ((2:Int)^min (aij 32) (aii .u64))then
   (if a=aih .u64 (p*(2:Int)^min (aij 32) (aii .u64))then decide (0<nI (nI x x) x)
    else decide (aih .u64 (p*(2:Int)^min (aij 32) (aii .u64))<a))
  else decide (air p ((2:Int)^min (aij 32) (aii .u64))<top)
def DY(p q:Int):Nat->Int->Int
 |0,x=>x
 |k+1,x=>if Oz (aih .u64 (x+aih .u64 (1*(2:Int)^min (aij (aih .u64 (k:Int))) (aii .u64)))) p q=true then DY p q k x
  else DY p q k (aih .u64 (x+aih .u64 (1*(2:Int)^min (aij (aih .u64 (k:Int))) (aii .u64))))
def MS(p q:Int):Int:=aih .u32 (ais (DY p q 40 0) 4294967296)
def mO:Nat->List Int
 |0=>[]
 |k+1=>if(mO k).all (λp=>!decide (ais ((k:Int)+2) p=0))=true then mO k++[(k:Int)+2]else mO k
abbrev ab6(l:List Int):List TV:=l.map (aiB .u64)
section
variable{R:Rq}{h:af}
theorem J5{x y:Int}(q:R (aiC [.int .u64 (jw x y),.int .u64 (nI x y)]).val h):Cl 312 [.int .u64 x,.int .u64 y] h R:=by
 apply Aa;exact⟨δ,δ,δ,δ,δ,q⟩
theorem Ts{x p A:Int}(q:R (aiv (Oz x p A)).val h):Cl 275 [.int .u64 x,.int .u64 p,.i A] h R:=by
 apply wL;delta dQ aF aO Gk fE lq;refine J5 ⟨_,_,rfl,?_⟩;unfold Oz at q;refine ID (λc=>?_) λc=>?_
 ·rw[if_pos c]at q;refine ID (λa=>?_) λa=>ajc.2 ⟨λb=>?_,λb=>?_⟩
  ·rw[if_pos a]at q;exact q
  ·rw[if_neg a,if_pos b]at q;exact q
  ·rw[if_neg a,if_neg b]at q;exact q
 ·rw[if_neg c]at q;refine J5 ⟨_,_,rfl,J5 ⟨_,_,rfl,wrap_u64_nonneg _,?_⟩⟩;refine⟨wrap_u64_nonneg _,aip _,δ,δ,aiD (λd=>⟨δ,?_⟩) λd=>⟨δ,aiD (λe=>?_) λe=>?_⟩⟩
  ·have a:¬(aih .u64 (jw (jw x x) x+(nI (jw x x) x+jw (nI x x) x+0)/18446744073709551616)=air p (2^min (aij 32) (aii .u64))):=by simp_all
   simp only[if_neg a]at q;exact q
  ·have a:(aih .u64 (jw (jw x x) x+(nI (jw x x) x+jw (nI x x) x+0)/18446744073709551616)=air p (2^min (aij 32) (aii .u64))):=by simp_all
   have b:¬((nI (jw x x) x+jw (nI x x) x+0)%18446744073709551616=aih .u64 (p*2^min (aij 32) (aii .u64))):=by simp_all
   simp only[if_pos a,if_neg b]at q;exact q
  ·have a:(aih .u64 (jw (jw x x) x+(nI (jw x x) x+jw (nI x x) x+0)/18446744073709551616)=air p (2^min (aij 32) (aii .u64))):=by simp_all
   have b:((nI (jw x x) x+jw (nI x x) x+0)%18446744073709551616=aih .u64 (p*2^min (aij 32) (aii .u64))):=by simp_all
   simp only[if_pos a,if_pos b]at q;exact q
theorem MT{p q:Int}(A:R (aiB .u32 (MS p q)).val h):Cl 220 [.int .u64 p,.i q] h R:=by
 apply yt;obtain⟨G,b⟩:∃G,G=DY p q 40 0:=⟨_,rfl⟩;unfold MS at A;rw[<-b]at A;refine⟨λσ c=>c=h/\∃k:Nat,k<=40/\σ.2=k-1/\G=DY p q k σ.1,λσ _=>(σ.2+1).toNat,⟨rfl,40,aiu _,rfl,b⟩,?_⟩;rintro⟨x,i⟩ c ⟨rfl,k,j,d,a⟩;subst d;refine ID (λe=>?_) λe=>?_
 ·obtain⟨m,rfl⟩:∃m,k=m+1:=⟨k-1,ω⟩;have f:(m+1:Nat)-1=(m:Int):=ω;rw[f,wrap_i64 ω ω];rw[DY]at a;refine⟨wrap_u64_nonneg _,Ts ⟨_,rfl,?_⟩⟩;cases g:Oz (aih .u64 (x+aih .u64 (1*2^min (aij (aih .u64 m)) (aii .u64)))) p q with
  |true=>
   rw[if_pos g]at a;exact aix ⟨⟨by rfl,m,ω,rfl,a⟩,by simp_all⟩
  |false=>
   rw[if_neg (by simp_all)]at a;exact aiA ⟨wrap_u64_nonneg _,⟨by rfl,m,ω,rfl,a⟩,by simp_all⟩
 ·have:k=0:=ω
  grind [DY]
theorem Vo:(ctx.ti 53).bytes=8:=by rfl
theorem aea:(ctx.ti 53).size=1:=by rfl
theorem ab7:(ctx.ti 53).z.size=1:=by rfl
theorem J6{s:Sl}{l:List Int}{i:Int}(e:aj 1 h s (ab6 l))(q:0<=i)(B:i<l.length){K:Int->Prop}(A:∀x,l[i.toNat]? =some x->K x):
 0<=i/\i<(s.len:Int)/\Nn s.a λ(p:Vc.Loc)=>∃(n:Int),ah h p.b (p.o+i.toNat*1) (.int .u64 n)/\K n:=by
 have b:=e.len;rw[aim]at b;refine e.read q ω λp t f a c=>?_;rw[aiK]at a;obtain⟨x,d,rfl⟩:=aiS.1 a;exact⟨x,c,A x d⟩
theorem J7:∀k,∀p∈mO k,p≠0
 |0,p,a=>by cases a
 |k+1,p,a=>by
  rw[mO]at a;split at a
  ·rcases List.mem_append.1 a with b|b
   ·exact J7 k p b
   grind
  ·exact J7 k p a
theorem Q0:∀k,(mO k).length<=k
 |0=>aiu _
 |k+1=>by
  have:=Q0 k
  grind [aiJ,ain,mO]
theorem bW{n:Int}(q:0<=n)(A:n<18446744073709551616):aih .u64 n=n:=by
 have:aih .u64 n=n%18446744073709551616:=by
  rfl
 omega
theorem Hx{n:Int}(q:Nat)(G:q<1000)(H:∀j,j<q->((mO j).length:Int)<n)(I:n<=((mO q).length:Int))(A:∀k s,Vc.Own 53 1 k s (ab6 (mO q))->Ext h k->R (aiO s).val k):
 Cl 219 [.i n] h R:=by
 apply uW;delta sD mu dD;refine⟨λσ a=>∃j:Nat,j<=q/\σ.2=j+2/\Vc.Own 53 1 a σ.1 (ab6 (mO j))/\(∀l,σ.1.a=some l->h.size<=l.b)/\Ext h a,λσ _=>(q+2-σ.2).toNat,⟨0,aiW _,rfl,Vc.Own.nil _ _ _,(λl d=>by cases d),ai0 _⟩,?_⟩;rintro⟨s,c⟩ o ⟨j,F,r,b,t,g⟩;dsimp only at r b t⊢;subst r;have v:=b.len;rw[aim]at v;have J:=Q0 j;refine ID (λw=>?_) λw=>?_
 ·have K:j<q:=by
   grind
  refine⟨λσ a=>a=o/\0<=σ.2/\σ.2<=s.len/\σ.1=((mO j).take σ.2.toNat).all (λp=>!decide (ais (j+2) p=0)),λσ _=>(s.len-σ.2).toNat,⟨rfl,aip 0,ω,rfl⟩,?_⟩;rintro⟨f,i⟩ a ⟨y,z,L,m⟩;obtain rfl:=y.symm;refine ID (λB=>?_) λB=>?_
  ·refine J6 b.elems z ω λx u=>?_;have C:=J7 j x (List.mem_of_getElem? u);have M:(i+1).toNat=i.toNat+1:=ω;rw[wrap_i64 ω ω]
   have N:((mO j).take (i.toNat+1)).all (λp=>!decide (ais (j+2) p=0))=(f&&!decide (ais (j+2) x=0)):=by
    rw[aU u,List.all_append,<-m];simp
   cases f with
   |true=>
    refine aiA ⟨C,⟨by rfl,ω,ω,?_⟩,by grind⟩;simp_all
   |false=>
    refine aix ⟨⟨by rfl,ω,ω,?_⟩,by grind⟩;simp_all
  ·have D:i.toNat=(mO j).length:=ω;rw[D,ajd]at m;rw[bW ω ω];have O:mO (j+1)=if f=true then mO j++[(j:Int)+2]else mO j:=by rw[mO,<-m]
   cases f with
   |true=>
    refine aiA (cD aea ab7 δ (by rw[Vo];omega) b rfl rfl λP Q S f4 b4=>?_);refine⟨⟨j+1,ω,by rfl,?_,λl d=>?_,ail g f4 λi⟨l,d,e⟩=>by simp_all⟩,ω⟩
    ·simp_all
    ·rcases b4 l d with⟨T,E,U⟩|E
     ·simp_all
     ·have:=g.size;omega
   |false=>
    refine aix ⟨⟨j+1,ω,by rfl,?_,t,g⟩,ω⟩;simp_all
 ·have:j=q:=by
   grind
  subst this;exact A o s b g
theorem MU:∀k m,k<=m->(mO k).length<=(mO m).length:=by
 intro k m a
 induction m with
 |zero=>simp_all
 |succ m b=>
  by_cases c:k=m+1
  ·simp_all
  grind [ain,mO]
theorem p8:(mO 17).length=7/\(mO 18).length=8:=by decide+kernel
theorem p64:(mO 309).length=63/\(mO 310).length=64:=by decide+kernel
theorem firsts:(mO 18).map (λp=>MS p 2)=gN.l:=by rfl
theorem afG:(mO 310).map (λp=>MS p 3)=uw.l:=by decide+kernel
end
end Board
namespace Board
def tP(n:Nat):Nat:=(119-n%64)%64
def wM(n:Int):Nat->LU
 |0=>[]
 |m+1=>wM n m++[aio (aih .u8 (air (aih .u64 (aih .u64 n*8)) ((2:Int)^min (aij (aih .u64 (aih .i64 (8*(7-(m:Int)))))) (aii .u64)))).toNat]
def Ii(s:LU):LU:=((s++[128])++aiy (tP s.length) 0)++wM (s.length:Int) 8
def lW(t:LU)(w:Ws 8):Nat->Ws 8
 |0=>w
 |n+1=>Bz (lW t w n) ((t.drop (64*n)).take 64)
def mz(s:LU):Bs 32:=Oq (lW (Ii s) gN ((Ii s).length/64)) 8
theorem yu(n:Int):∀m,(wM n m).length=m
 |0=>rfl
 |m+1=>by simp[wM,yu n m]
theorem Hy(s:LU):(Ii s).length=s.length+1+tP s.length+8:=by
 grind [yu,ain,Ii]
theorem Q1(s:LU):(Ii s).length%64=0:=by
 grind [Hy,tP]
def rb(w:Ws 8)(i:Nat):UInt8:=if i%4=3 then aio (aih .u8 (wd w (i/4))).toNat else aio (ob (wd w (i/4)) (24-8*((i%4:Nat):Int))).toNat
def ab8(w:Ws 8):Nat->Bs 32
 |0=>aiE 32
 |i+1=>(ab8 w i).set i (rb w i)
theorem ZD(w:Ws 8):ab8 w 32=Oq w 8:=by rfl
theorem ZE:∀i:Fin 32,min (aij (aih .u64 (aih .i64 (24-aih .i64 (8*ais ((i.val:Nat):Int) 4))))) (aii .u32)=24-8*(i.val%4):=by decide+kernel
theorem aeb:∀i:Fin 32,min (aij (24-8*((i.val%4:Nat):Int))) (aii .u32)=24-8*(i.val%4):=by decide+kernel
theorem afH(w:Ws 8)(i:Nat)(q:i<32):rb w i=aio (aih .u8 (air (wd w (i/4)) ((2:Int)^min (aij (aih .u64 (aih .i64 (24-aih .i64 (8*ais (i:Int) 4))))) (aii .u32)))).toNat:=by
 have a:=ZE ⟨i,q⟩;have b:=aeb ⟨i,q⟩;rw[a];unfold rb ob;simp_all
section
variable{R:Rq}{h:af}
theorem str1{h:af}{c:Int}(c0:0<=c)(q:c<256):kG (h.push (row (aiz [aiB .u8 c]) 5)) (Sl.mk (some (Vc.Loc.mk h.size 0)) 1 1) [aio c.toNat]:=by
 refine⟨rfl,.inr ⟨_,rfl,λj a=>?_⟩⟩;have b:=by simpa using a
 subst b;have d:=cO h (row (aiz [aiB .u8 c]) 5);have:=yb (o:=0) d rfl
 grind [aio,ah,ai6]
theorem filled{n:Nat}{W:Ws n}{l:List Int}(q:l.length=n)(h:∀j x,l[j]? =some x->wd W j=x):W.l=l:=by
 apply ai7 (by rw[W.h,q]);intro j b a;have:=h j l[j] (aiH a);simp_all [aiq,wd]
set_option maxHeartbeats 1000000 in
theorem lI{s:LU}(hs:s.length<100000)(hr:∀S,Ext h S->R (aiX 32 (mz s)).val S):Cl 156 [.str s] h R:=by
 apply BE;delta Dt Hu aF gZ zM QH Zi gL zL cQ cE dz bz eU bJ bK bA;refine aa λU v1 x1 s1=>⟨by grind,?_⟩;have bx:tP s.length<64:=by unfold tP;omega
 refine⟨λt c=>c=U/\∃k,k<=tP s.length/\t=(s++[128])++aiy k 0,λt _=>s.length+200-t.length,⟨rfl,0,aiW _,by simp⟩,?_⟩;rintro t c ⟨am,k,hk,rfl⟩;obtain rfl:=am.symm;have ao:((s++[128])++aiy k 0).length=s.length+1+k:=by grind
 refine⟨δ,aiD (λA=>?_) λA=>?_⟩
 ·have V:¬ais ((s++[128])++aiy k (0:UInt8)).length 64=56:=by simp_all
  rw[ao,aje ω]at V;have b0:k≠tP s.length:=λe=>V (by grind [tP]);have b1:List.length (aiY #[0]).data.toList=1:=rfl;refine⟨ω,⟨by rfl,k+1,ω,?_⟩,?_⟩
  ·grind [aiy,ai1,List.replicate_succ']
  grind
 have heq:ais ((s++[128])++aiy k (0:UInt8)).length 64=56:=by simp_all
 rw[aje ω]at heq;have ap:k=tP s.length:=by grind [tP]
 subst ap;have ar:Ii s=((s++[128])++aiy (tP s.length) 0)++wM s.length 8:=rfl;generalize(s++[128])++aiy (tP s.length) 0=base at*;refine⟨λσ c=>∃m:Nat,m<=8/\σ.2=7-m/\σ.1=base++wM s.length m/\Ext U c,λσ _=>(σ.2+1).toNat,⟨0,δ,rfl,by simp[wM],ai0 _⟩,?_⟩;rintro⟨t,kk⟩ f ⟨m,hm,X,Y,F⟩;dsimp only at X Y⊢;subst X Y;refine ID (λh0=>?_) λh0=>?_
 ·have B:=aS (air (aih .u64 (aih .u64 s.length*8)) (2^min (aij (aih .u64 (aih .i64 (8*(7-m))))) (aii .u64)));rw[wrap_i64 (n:=7-m-1) ω ω];refine⟨wrap_u64_nonneg _,_,str1 B.1 B.2,?_,⟨m+1,ω,ω,?_,F.trans (aiw _ _)⟩,ω⟩
  ·grind [aiJ,yu,ain]
  simp[ai1,wM]
 have aw:m=8:=ω;subst aw;rw[<-ar];have b2:=Hy s;generalize hT:Ii s=T at*;have aE:=x1.trans F;refine aa λh3 v3 x3 s3=>Hx 18 δ (λj d=>?_) δ λZ a0 I x4=>⟨_,rfl,?_⟩
 ·have:=MU j 17 ω
  grind [p8]
 have l4:=I.len;rw[aim,p8.2]at l4;have v4:=v3.ext x4
 refine⟨λi c=>0<=i/\i<=8/\ag (·=f.size) Z c/\∃W:Ws 8,Var 289 c f.size (.words .u32 8 W)/\∀j x,j<i.toNat->(mO 18)[j]? =some x->wd W j=MS x 2,λi _=>(8-i).toNat,
  ⟨aip 0,δ,aiL _ _,_,v4,λj x d=>absurd d (by simp)⟩,?_⟩
 rintro i q ⟨v,i1,f5,W,J,C⟩
 have a1:∀l,a0.a=some l->l.b≠f.size:=λl r=>by
  intro z;rcases I.row with G|⟨b,a2,K,A,_⟩
  ·rw[G]at r;cases r
  ·rw[K]at r;cases r;have:=z;subst this;have o:Z[f.size]? =_:=v4;rw[A]at o;injection o with o;unfold row at o;injection o with _ p;exact absurd p δ
 have o5:=I.only f5 a1;refine ID (λg=>?_) λg=>?_
 ·rw[wrap_i64 (n:=i+1) ω ω];refine J6 o5.elems v (by rw[p8.2];omega) λx u=>MT ⟨_,rfl,v,ω,pS J (i:=i.toNat) ω ω λh6 v6 f6 s6=>?_⟩;have L:(i+1).toNat=i.toNat+1:=ω;refine⟨⟨ω,ω,f5.trans f6,_,v6,λj y d a=>?_⟩,Ω⟩;rw[oc];by_cases D:i.toNat=j
  ·subst D;rw[if_pos ⟨rfl,ω⟩];rw[u]at a;injection a with a;rw[a]
  ·rw[if_neg (λz=>D z.1)];exact C j y ω a
 have a3:i=8:=ω;subst a3
 have a4:W=gN:=by
  apply Ws.ext';rw[<-firsts];refine filled (by rw[aim,p8.2]) λj x u=>?_;rw[aiK]at u;obtain⟨y,a,rfl⟩:=aiS.1 u;have d:=(ai8.1 a).1;rw[p8.2]at d;exact C j y (by simpa using d) a
 subst a4;have b3:f.size<q.size:=J.lt;have ab:Ext f q:=ail (x3.trans x4) f5 λi g=>ω;have b5:=ab.size;refine aa λh6 v6 x6 s6=>Hx 310 δ (λj d=>?_) (by rw[p64.2];decide) λM a5 N O=>⟨_,rfl,?_⟩
 ·have:=MU j 309 ω;rw[p64.1]at this;omega
 have l7:=N.len;rw[aim,p64.2]at l7;have v7:=v6.ext O;have a6:Var 289 M f.size (.words .u32 8 gN):=(J.ext x6).ext O
 refine⟨λi c=>0<=i/\i<=64/\ag (·=q.size) M c/\∃W:Ws 64,Var 293 c q.size (.words .u32 64 W)/\∀j x,j<i.toNat->(mO 310)[j]? =some x->wd W j=MS x 3,λi _=>((64:Int)-i).toNat,
  ⟨aip 0,δ,aiL _ _,_,v7,λj x d=>absurd d (by simp)⟩,?_⟩
 rintro i P ⟨v,i1,f8,W,v8,C⟩
 have a7:∀l,a5.a=some l->l.b≠q.size:=λl r=>by
  intro z;rcases N.row with G|⟨b,a2,K,A,_⟩
  ·rw[G]at r;cases r
  ·rw[K]at r;cases r;have:b=q.size:=z;subst this;have o:M[q.size]? =_:=v7;rw[A]at o;injection o with o;unfold row at o;injection o with _ p;exact absurd p δ
 have o8:=N.only f8 a7;refine ID (λg=>?_) λg=>?_
 ·rw[wrap_i64 (n:=i+1) ω ω];refine J6 o8.elems v (by rw[p64.2];omega) λx u=>MT ⟨_,rfl,v,ω,pS v8 (i:=i.toNat) ω ω λp w f9 s9=>?_⟩;have L:(i+1).toNat=i.toNat+1:=ω;refine⟨⟨ω,ω,f8.trans f9,_,w,λj y d a=>?_⟩,Ω⟩;rw[oc];by_cases D:i.toNat=j
  ·subst D;rw[if_pos ⟨rfl,ω⟩];rw[u]at a;injection a with a;rw[a]
  ·rw[if_neg (λz=>D z.1)];exact C j y ω a
 have a8:i=64:=ω;subst a8
 have a9:W=uw:=by
  apply Ws.ext';rw[<-afG];refine filled (by rw[aim,p64.2]) λj x u=>?_;rw[aiK]at u;obtain⟨y,a,rfl⟩:=aiS.1 u;have d:=(ai8.1 a).1;rw[p64.2]at d;exact C j y (by simpa using d) a
 subst a9;have a':Var 289 P f.size (.words .u32 8 gN):=a6.only f8 ω;have ba:Ext q P:=ail (x6.trans O) f8 λi g=>ω;refine⟨λat_ c=>∃n:Nat,64*n<=T.length/\at_=((64*n:Nat):Int)/\Var 289 c f.size (.words .u32 8 (lW T gN n))/\ag (·=f.size) P c,λat_ _=>((T.length:Int)-at_).toNat,⟨0,aiW _,rfl,a',aiL _ _⟩,?_⟩;rintro at_ p ⟨n,G,rfl,w,f9⟩;have bb:Var 293 p q.size (.words .u32 64 uw):=v8.only f9 ω;refine ID (λg=>?_) λg=>?_
 ·rw[wrap_i64 (n:=((64*n:Nat):Int)+64) ω ω];refine⟨_,w.at,_,bb.at,ω,ω,ω,ω,?_⟩
  have bc:List.take ((((64*n:Nat):Int)+64).toNat-((64*n:Nat):Int).toNat) (List.drop ((64*n:Nat):Int).toNat T)=(T.drop (64*n)).take 64:=by
   have e1:(((64*n:Nat):Int)+64).toNat-((64*n:Nat):Int).toNat=64:=ω;rw[e1,ai2]
  rw[bc];refine sI (by rw[aiP,aiT];omega) λac E=>⟨_,rfl,?_⟩;refine aH (w.ext E) (t:=.words .u32 8 (lW T gN (n+1))) bV λH v11 f11 b6=>?_;have bd:=w.lt;refine⟨⟨n+1,ω,ω,v11,f9.trans ((aiI E).trans f11)⟩,Ω⟩
 have bi:n=T.length/64:=ω;rw[bi]at w;have z9:=f9.size;have bd:=w.lt;have b7:h.size<f.size:=by have:=F.size;omega
 refine aa λac v10 E b8=>?_;refine⟨λi c=>0<=i/\i<=32/\ag (·=p.size) ac c/\Var 52 c p.size (.bytes 32 (ab8 (lW T gN (T.length/64)) i.toNat)),λi _=>((32:Int)-i).toNat,⟨aip 0,δ,aiL _ _,v10⟩,?_⟩;rintro i H ⟨v,i1,f11,v11⟩;have bj:Var 289 H f.size (.words .u32 8 (lW T gN (T.length/64))):=(w.ext E).only f11 ω;refine ID (λg=>?_) λg=>?_
 ·have hq:aiM i 4=i/4:=Int.tdiv_eq_ediv_of_nonneg v;have bk:(i/4).toNat=i.toNat/4:=ω;rw[wrap_i64 (n:=i+1) ω ω,hq,wrap_i64 (n:=i/4) ω ω,bk];refine⟨δ,ω,ω,_,bF bj ω,δ,wrap_u64_nonneg _,v,ω,?_⟩;have B:=aS (air (wd (lW T gN (T.length/64)) (i.toNat/4)) ((2:Int)^min (aij (aih .u64 (aih .i64 (24-aih .i64 (8*ais i 4))))) (aii .u32)));refine kV v11 (i:=i.toNat) ω ω B.1 B.2 λad Q f12 bl=>?_;have L:(i+1).toNat=i.toNat+1:=ω;refine⟨⟨ω,ω,f11.trans f12,?_⟩,Ω⟩;rw[L,ab8,afH _ _ ω];have bm:((i.toNat:Nat):Int)=i:=ω;rw[bm];exact Q
 have bo:i.toNat=32:=ω;rw[bo,ZD]at v11;have ae:Ext p H:=ail E f11 λi g=>ω;have al:=ab.trans ba;have bp:Var 52 H h.size (.bytes 32 (aiE 32)):=((((v1.ext F).ext al).only f9 ω).ext ae);have br:mz s=Oq (lW T gN (T.length/64)) 8:=by unfold mz;rw[hT]
 refine⟨_,v11.bytes,aH bp (t:=.bytes 32 (Oq (lW T gN (T.length/64)) 8)) wI λad Q f12 bl=>⟨_,Q.bytes,?_⟩⟩;rw[<-br];refine hr ad ?_;have bt:Ext h p:=ail (aE.trans al) f9 λi g=>ω;exact ail (bt.trans ae) f12 λi g=>ω
end
end Board
namespace Board
abbrev jg(bs:LU):List Value:=bs.map λc=>ai4 .u8 (c.toNat:Int)
theorem sJ(bs:LU):∀v∈jg bs,bU v=true:=λv a=>by
 obtain⟨c,_,rfl⟩:=aiZ.1 a;rfl
structure Ab(Q:Nat->Prop)(h:af)(s:Sl)(bs:LU):Prop where
 len:bs.length=s.len
 cap:s.len<=s.cap
 row:(s.a=none/\s.cap=0)\/∃b pre rest,s.a=some ⟨b,pre.length⟩/\h[b]? =some (Go.Vc.row (pre++jg bs++rest) 5)/\s.cap-s.len<=rest.length
 uT:∀l,s.a=some l->Q l.b
 new:∀i,h.size<=i->Q i
section
variable{R:Rq}{h:af}{Q:Nat->Prop}{s:Sl}{bs:LU}
theorem Ab.lt(r:Ab Q h s bs):∀l,s.a=some l->l.b<h.size:=λl a=>by
 rcases r.row with⟨c,_⟩|⟨b,pre,d,e,f,_⟩<;>grind
theorem Ab.only{S:Nat->Prop}{q:af}(r:Ab Q h s bs)(o:ag S h q)(A:∀l,s.a=some l->¬S l.b):Ab Q q s bs:=by
 refine⟨r.len,r.cap,?_,r.uT,λi d=>r.new i (Nat.le_trans o.size d)⟩;rcases r.row with g|⟨b,pre,e,a,c,f⟩
 ·simp_all
 ·exact .inr ⟨b,pre,e,a,(o.same b (kO c) (A _ a)).trans c,f⟩
theorem Ab.elems(r:Ab Q h s bs):aj 1 h s (QT bs):=by
 refine⟨by rw[aim];exact r.len,λf=>?_,λl a i t d=>?_⟩
 ·rcases r.row with⟨_,g⟩|⟨b,pre,j,e,_⟩
  ·have:=r.len;have:=r.cap;simp_all
  simp_all
 ·rcases r.row with⟨f,_⟩|⟨b,pre,j,e,k,_⟩
  ·simp_all
  ·rw[e]at a;cases a;rw[aiK]at d;obtain⟨c,g,rfl⟩:=aiS.1 d;refine yb k ?_
   grind
theorem Ab.agN(r:Ab Q h s bs){q:af}(o:ag (In s) h q):ag Q h q:=o.mono λi⟨l,a,e⟩=>by rw[<-e];exact r.uT l a
theorem afI{us:LU}{K:Sl->af->Prop}(r:Ab Q h s bs)(q:bs.length+us.length<1000000)
 (A:∀k m,Ab Q m k (bs++us)->ag (In s) h m->(∀l,k.a=some l->(∃o,s.a=some o/\o.b=l.b)\/h.size<=l.b)->K k m):
 au ctx 5 s us.length (jg us) h K:=by
 have E:=r.len;have F:=r.cap;have G:(jg bs).length=s.len:=by simp_all
 have u:(jg us).length=us.length:=aim ..;have both:jg (bs++us)=jg bs++jg us:=aiQ ..;refine⟨jg bs,?_,by rw[Gn];omega,by rw[Gn];decide,λn=>?_,λn a=>?_,λn c e=>?_⟩
 ·rw[Vi];refine⟨ω,?_⟩;rcases r.row with⟨a,e⟩|⟨b,pre,f,d,g,_⟩
  ·simp_all
  ·refine .inr ⟨_,d,λj v=>?_⟩;rw[aiH v];refine yb g ?_
   grind
 ·rcases r.row with⟨a,e⟩|⟨b,pre,f,d,g,H⟩
  ·simp_all
  ·refine⟨.inr (by simp_all),λl q=>?_⟩;rw[d]at q;cases q;rw[Vi];rw[ai5]
   have p:pre.length+s.len+(jg us).length<=(pre++jg bs++f).length:=by
    grind
   refine⟨iH g p,?_⟩;obtain⟨w,I,x⟩:=jo (jg us) h b (pre.length+s.len) _ 5 g p
   refine A _ _ ⟨by simp_all,n,.inr ⟨b,pre,f.drop us.length,rfl,?_,?_⟩,?_,λi t=>r.new i (by simp_all)⟩ ⟨by simp_all,λb' J a=>x b' (λy=>a ⟨_,d,y.symm⟩)⟩ λl q=>by
    simp_all
   ·rw[w,both];have B:pre.length+s.len=(pre++jg bs).length:=by simp_all
    rw[B,List.take_left,u,List.drop_append,ai9 ω,List.nil_append,Nat.add_sub_cancel_left,<-ai1]
   ·grind
   ·intro l q;cases q;exact r.uT _ d
 ·rcases r.row with⟨_,e⟩|⟨b,pre,f,d,_⟩
  ·have C:us=[]:=ajf ω;have D:bs=[]:=ajf ω;subst C D;refine A _ _ ⟨by grind,ω,.inl ⟨a,e⟩,(λl q=>by have q:=q;rw[a]at q;cases q),r.new⟩ (aiL _ _) (λl q=>by simp_all)
  ·rw[d]at a;cases a
 ·refine A _ _ ⟨by simp_all,e,.inr ⟨h.size,[],cq (ctx.ti 5).z (c-(s.len+us.length)),rfl,?_,?_⟩,?_,?_⟩ (aiI (aiw _ _)) ?_
  ·simp_all
  ·rw[je,Tm,ai5];exact aiu _
  ·intro l q;cases q;exact r.new _ (aiu _)
  ·intro i t;rw[ajg]at t;exact r.new i ω
  ·intro l q;cases q;exact .inr (aiu _)
theorem Gt{c:Int}{K:Sl->af->Prop}(r:Ab Q h s bs)(q:bs.length<900000)(c0:0<=c)(B:c<256)
 (A:∀a b,Ab Q b a (bs++[aio c.toNat])->ag (In s) h b->(∀l,a.a=some l->(∃d,s.a=some d/\d.b=l.b)\/h.size<=l.b)->K a b):
 ∃new,cn (h.push (row (aiz [aiB .u8 c]) 5)) (Sl.mk (some (Vc.Loc.mk h.size 0)) 1 1) 1 new/\(∀v∈new,bU v=true)/\au ctx 5 s 1 new (h.push (row (aiz [aiB .u8 c]) 5)) K:=by
 have e:(aio c.toNat).toNat=c:=by
  grind [ai6]
 have f:=aiw h (row (aiz [aiB .u8 c]) 5);refine⟨jg [aio c.toNat],⟨rfl,.inr ⟨_,rfl,λj g=>?_⟩⟩,sJ _,?_⟩
 ·have i:=by simpa using g
  subst i;have:=yb (o:=0) (cO h (row (aiz [aiB .u8 c]) 5)) rfl;simp_all [ah,aio]
 ·have k:=r.only (aiI f (S:=λ_=>False)) (λ_ _ m=>m);refine afI (us:=[aio c.toNat]) k (by grind) λa b n p t=>A a b n ((aiI f).trans p) λl q=>?_
  grind
theorem Ab.after{q:af}(r:Ab Q h s bs)(A:64<=bs.length)(o:ag (λi=>¬In s i) h q)(B:∀i,q.size<=i->Q i):Ab Q q (ay s 64 s.len 1) (bs.drop 64):=by
 have p:=r.len;have t:=r.cap;refine⟨by simp_all [ay,aiT],by grind [ay],?_,λl f=>?_,B⟩
 ·rcases r.row with⟨_,a⟩|⟨b,pre,d,c,e,u⟩
  ·omega
  ·have g:=(o.same b (kO e) (λj=>j ⟨_,c,rfl⟩)).trans e;by_cases a:s.cap=64
   ·refine .inr ⟨b,pre,jg bs++d,by simp only[ay];rw[if_pos a,c],?_,by simp_all [ay]⟩
    grind
   ·refine .inr ⟨b,pre++jg (bs.take 64),d,?_,?_,by grind [ay]⟩
    ·simp only[ay];rw[if_neg a,c,ain,aim,aiP,Nat.min_eq_left A,ai5];rfl
    ·rw[g];congr 2;have:jg bs=jg (bs.take 64)++jg (bs.drop 64):=by rw[<-aiQ,List.take_append_drop]
     rw[this];simp
 ·obtain⟨k,m,n⟩:=Gq f;rw[<-n];exact r.uT k m
theorem E5(T q:LU)(w:Ws 8):∀k,64*k<=T.length->lW (T++q) w k=lW T w k
 |0,_=>rfl
 |k+1,a=>by
  rw[lW,lW,E5 T q w k ω,List.drop_append_of_le_length ω,List.take_append_of_le_length (by grind)]
structure J8(Q:Nat->Prop)(h:af)(b:Nat)(T:LU)(k:Nat)(N:Int)(s:Sl):Prop where
 var:Var 333 h b (.agg [.words .u32 8 (lW T gN k),.slice s,.int .u64 N])
 row:Ab Q h s (T.drop (64*k))
 fit:64*k<=T.length
 uT:Q b
 apart:∀l,s.a=some l->l.b≠b
variable{b k:Nat}{T:LU}{N:Int}
theorem J8.words(st:J8 Q h b T k N s):jH h b 0 .u32 8 (lW T gN k):=st.var.at.1
theorem J8.rest(st:J8 Q h b T k N s):ah h b 8 (bu s):=st.var.at.2.1
theorem J8.count(st:J8 Q h b T k N s):ah h b 9 (.int .u64 N):=st.var.at.2.2
theorem J8.grown{q:af}{A:Sl}{B:LU}(st:J8 Q h b T k N s)(r1:Ab Q q A (T.drop (64*k)++B))(E:ag (In s) h q)(G:∀l,A.a=some l->(∃c,s.a=some c/\c.b=l.b)\/h.size<=l.b){K:af->Prop}
 (H:∀a,J8 Q a b (T++B) k N A->ag Q h a->a.size=q.size->K a):gT q b 8 1/\Bind ((aiO A).put q b 8) K:=by
 have f:∀l,A.a=some l->l.b≠b:=λl d e=>by
  rcases G l d with⟨c,g,m⟩|g
  ·exact st.apart c g (m.trans e)
  ·have:=st.var.lt;omega
 have v1:=st.var.only E (λ⟨l,d,e⟩=>st.apart l d e);refine aI (i:=1) v1 rfl rfl rfl rfl λa n j o=>H a ⟨?_,?_,?_,st.uT,f⟩ ((st.row.agN E).trans (j.mono λi p=>by subst p;exact st.uT)) o
 ·rw[E5 T B gN k st.fit];exact n
 ·rw[List.drop_append_of_le_length st.fit];exact r1.only j f
 ·rw[ain];have:=st.fit;omega
theorem J8.step(st:J8 Q h b T k N s)(q:64<=s.len)
 (A:∀a r,Var 333 a b (.agg [.words .u32 8 (lW T gN (k+1)),.slice s,.int .u64 N])->ag (·=b) h a->(∀K:af->Prop,(∀d,J8 Q d b T (k+1) N (ay s 64 s.len 1)->ag Q h d->K d)->gT a b 8 1/\Bind ((aiO (ay s 64 s.len 1)).put a b 8) K)->r=a->R (aiC []).val a):
 Cl 292 [.ptr (PT b),.slice (ay s 0 64 1)] h R:=by
 have t:=st.row.len;rw[aiT]at t;have n:=wH (i:=0) st.row.elems ω q st.row.cap;rw[List.drop_zero,<-List.map_take]at n
 refine To h R b (lW T gN k) s (ay s 0 64 1) ((T.drop (64*k)).take 64) N st.var n (by simp_all) (λl f=>by
  obtain⟨j,m,a⟩:=Gq f;rw[<-a];exact st.apart j m) λa o g=>?_
 refine A a a o g (λK u=>?_) rfl;refine aI (i:=1) o rfl rfl rfl rfl λd v4 p v=>u d ⟨v4,?_,ω,st.uT,λl f=>?_⟩ ((g.mono λi c=>by subst c;exact st.uT).trans (p.mono λi c=>by subst c;exact st.uT))
 ·have:T.drop (64*(k+1))=(T.drop (64*k)).drop 64:=by grind [List.drop_drop]
  rw[this];refine st.row.after (by simp_all) ((g.trans p).mono λi c=>?_) λi c=>st.row.new i (by have:=g.size;omega);rintro⟨l,f,e⟩;exact st.apart l f (e.trans c)
 ·obtain⟨j,m,a⟩:=Gq f;rw[<-a];exact st.apart j m
theorem WC(st:J8 Q h b T k (T.length:Int) s){text:LU}(B:T.length+text.length<800000)
 (q:∀f d o,J8 Q f b (T++text) o ((T++text).length:Int) d->d.len<64->ag Q h f->R (aiC []).val f):
 Cl 258 [.ptr (PT b),.str text] h R:=by
 apply C6;delta dQ aF aJ jX fP dz bK;refine⟨_,st.count,?_⟩
 have p:aih .u64 (T.length+aih .u64 text.length)=(T++text).length:=by
  grind [bW,ain]
 dsimp only;rw[p];refine aI (i:=2) st.var rfl rfl rfl rfl λl v1 m C=>?_;have g:J8 Q l b T k (T++text).length s:=⟨v1,st.row.only m st.apart,st.fit,st.uT,st.apart⟩;have f1:ag Q h l:=m.mono λi r=>by subst r;exact st.uT
 have dl:(T.drop (64*k)).length<=T.length:=by simp_all
 refine⟨s,g.rest,afI g.row ω λd D t u v=>g.grown t u v λE w f3 F=>?_⟩;refine⟨λ_ e=>∃a j,J8 Q e b (T++text) j (T++text).length a/\ag Q h e,λ_ e=>QV e b,⟨d,k,w,f1.trans f3⟩,?_⟩;rintro _ x ⟨a,j,c,f4⟩;refine⟨a,c.rest,ID (λy=>?_) λy=>q x a j c ω f4⟩;have G:=c.row.cap;refine⟨a,c.rest,δ,ω,?_⟩;refine c.step ω λH _ z I A _=>⟨rfl,a,z.at.2.1,δ,ω,A _ λJ n f6=>?_⟩;refine⟨⟨_,_,n,f4.trans f6⟩,?_⟩;have K:=wG c.rest;have L:=wG n.rest
 grind [ay]
def rlx(x:Int):Nat->LU
 |0=>[]
 |m+1=>rlx x m++[aio (aih .u8 (air x ((2:Int)^min (aij (aih .u64 (aih .i64 (8*(7-(m:Int)))))) (aii .u64)))).toNat]
def lnx(x:Int):Nat->LU
 |0=>[]
 |i+1=>lnx x i++[aio (aih .u8 (air x (2^min (aij (aih .i64 (56-aih .i64 (8*(i:Int))))) (aii .u64)))).toNat]
theorem ZF(n:Int):∀m,wM n m=rlx (aih .u64 (aih .u64 n*8)) m
 |0=>rfl
 |m+1=>by rw[wM,rlx,ZF n m]
theorem ZG(n:Int):∀m,lens n m=lnx (aih .u64 (n*8)) m
 |0=>rfl
 |m+1=>by rw[lens,ZG n m];rfl
theorem ab9(x:Int):rlx x 8=lnx x 8:=by rfl
theorem Tt(n:Int)(q:0<=n)(A:n<18446744073709551616):wM n 8=lens n 8:=by
 rw[ZF,ZG,bW q A,ab9]
set_option maxHeartbeats 1000000 in
theorem WD(st:J8 Q h b T k (T.length:Int) s)(hl:T.length<700000)(I:∀J,ag Q h J->R (aiX 32 (mz T)).val J):Cl 259 [.ptr (PT b)] h R:=by
 apply C7;delta dQ aF Zm aJ zM U4 cQ mN jX cE bz eU bJ bK;have blt:=st.var.lt;have a2:=st.row.lt;refine aa λp v1 w s1=>?_;have r:J8 (λi=>Q i/\i≠h.size) p b T k T.length s:=⟨st.var.ext w,⟨st.row.len,st.row.cap,(st.row.only (aiI w (S:=λ_=>False)) (λ_ _ V=>V)).row,λl W=>⟨st.row.uT l W,by grind⟩,λi d=>⟨st.row.new i ω,ω⟩⟩,st.fit,⟨st.uT,ω⟩,st.apart⟩;have f1:ag Q h p:=aiI w;have a3:=st.fit;have a4:=st.row.len;refine⟨_,r.count,s,r.rest,?_⟩;refine Gt r.row (by grind) δ δ λX h2 Y Z b2=>?_;have a5:aio (aij 128)=128:=δ;refine r.grown Y Z b2 λh3 a6 f3 s3=>?_;have a7:tP T.length<64:=by unfold tP;omega
 have x:∀j,((T++[128])++aiy j 0).length=T.length+1+j:=λj=>by grind
 refine⟨λ_ a=>∃q j,J8 (λi=>Q i/\i≠h.size) a b ((T++[128])++aiy j 0) k T.length q/\j<=tP T.length/\ag (λi=>Q i/\i≠h.size) p a,λ_ a=>T.length+100-QV a b,⟨X,0,by simp_all,aiW _,f3⟩,?_⟩;rintro _ h4 ⟨m,j,f,hj,f4⟩;have l4:=f.row.len;rw[aiT,x]at l4
 have ab:ais m.len 64=(m.len%64:Nat):=by
  rfl
 refine⟨m,f.rest,δ,?_⟩;rw[ab];refine aiD (λa8=>?_) (λheq=>?_)
 ·have a9:¬m.len%64=56:=λe=>by grind
  have K:j<tP T.length:=by
   grind [Nat.lt_or_ge,tP]
  refine⟨m,f.rest,?_⟩;refine Gt f.row (by grind) δ δ λu h5 r5 o5 b5=>?_;refine f.grown r5 o5 b5 λv c f6 g=>?_;have e0:aio (aij 0)=0:=δ
  have er:((T++[128])++aiy j 0)++[aio (aij 0)]=(T++[128])++aiy (j+1) 0:=by
   rw[e0,ai1,List.replicate_succ']
  rw[er]at c;have y:=c.row.len;rw[aiT,x]at y;refine⟨⟨u,j+1,c,ω,f4.trans f6⟩,?_⟩;have g1:=wG f.rest;have L:=wG c.rest
  grind
 have a':=by simp at heq;omega
 have K:j=tP T.length:=by grind [tP]
 subst K
 have ac:Ii T=((T++[128])++aiy (tP T.length) 0)++lens T.length 8:=by
  grind [Tt,Ii]
 have M:=x (tP T.length);generalize(T++[128])++aiy (tP T.length) (0:UInt8)=base at*;refine⟨λi a=>0<=i/\i<=8/\∃q,J8 (λi=>Q i/\i≠h.size) a b (base++lens (T.length:Int) i.toNat) k (T.length:Int) q/\ag (λi=>Q i/\i≠h.size) p a,λi _=>((8:Int)-i).toNat,⟨aip 0,δ,m,by simpa[lens]using f,f4⟩,?_⟩;rintro i h5 ⟨N,i1,u,o,f5⟩;have l5:=o.row.len;rw[aiT,ain,BA,M]at l5;refine ID (λd=>?_) λd=>?_
 ·refine⟨u,o.rest,?_,aiw _ _,?_⟩
  ·rw[wrap_i64 (n:=8*i) ω ω,wrap_i64 ω ω];omega
  refine Gt o.row (by rw[aiT,ain,BA,M];omega) (aS _).1 (aS _).2 λg v r6 o6 b6=>?_;refine o.grown r6 o6 b6 λz ad f7 s7=>?_;rw[wrap_i64 (n:=i+1) ω ω];have A:(i+1).toNat=i.toNat+1:=ω;refine⟨⟨ω,ω,g,?_,f5.trans f7⟩,Ω⟩;rw[A];unfold lens Oo;rw[show((i.toNat:Nat):Int)=i by omega,<-ai1];exact ad
 have ae:i.toNat=8:=ω;rw[ae,<-ac]at o;have ba:=Q1 T;have al:mz T=Oq (lW (Ii T) gN ((Ii T).length/64)) 8:=rfl;rw[al]at I;generalize Ii T=P at*;refine⟨λ_ a=>∃q k',J8 (λi=>Q i/\i≠h.size) a b P k' (T.length:Int) q/\ag (λi=>Q i/\i≠h.size) p a,λ_ a=>QV a b,⟨u,k,o,f5⟩,?_⟩;rintro _ v ⟨g,k6,c,f6⟩;have y:=c.row.len;have bb:=c.fit;rw[aiT]at y;refine⟨g,c.rest,ID (λbc=>?_) λhz=>?_⟩
 ·have am:64<=g.len:=ω;have hc:=c.row.cap;refine⟨g,c.rest,δ,ω,?_⟩;refine c.step am λz _ B o7 ao _=>⟨rfl,g,B.at.2.1,δ,ω,ao _ λO U f8=>?_⟩;refine⟨⟨_,_,U,f6.trans f8⟩,?_⟩;have g1:=wG c.rest;have L:=wG U.rest;simp only[ay]at L;dsimp only;omega
 have ap:k6=P.length/64:=ω;refine aa λz B C s7=>?_;refine⟨_,(c.var.ext C).at.1,?_⟩;rw[ap];have bd:=f6.size;refine⟨λi a=>0<=i/\i<=8/\Var 52 a v.size (.bytes 32 (Oq (lW P gN (P.length/64)) i.toNat))/\ag (·=v.size) z a,λi _=>((8:Int)-i).toNat,⟨aip 0,δ,B,aiL _ _⟩,?_⟩;rintro i O ⟨N,i1,D,E⟩;refine ID (λd=>?_) λd=>?_
 ·rw[wrap_i64 (n:=4*i) ω ω,wrap_i64 (n:=4*i+1) ω ω,wrap_i64 (n:=4*i+2) ω ω,wrap_i64 (n:=4*i+3) ω ω,wrap_i64 (n:=i+1) ω ω];refine⟨N,ω,δ,δ,δ,ω,ω,kV D (i:=4*i.toNat) ω ω (aS _).1 (aS _).2 λF G H s9=>?_⟩;refine⟨ω,ω,kV G (i:=4*i.toNat+1) ω ω (aS _).1 (aS _).2 λbi v10 ar bj=>?_⟩;refine⟨ω,ω,kV v10 (i:=4*i.toNat+2) ω ω (aS _).1 (aS _).2 λbk v11 aw bl=>?_⟩;refine⟨ω,ω,kV v11 (i:=4*i.toNat+3) ω ω (aS _).1 (aS _).2 λbm aE a0 bo=>?_⟩;have A:(i+1).toNat=i.toNat+1:=ω;refine⟨⟨ω,ω,?_,E.trans (H.trans (ar.trans (aw.trans a0)))⟩,Ω⟩;rw[A];unfold Oq afA ob;exact aE
 ·have a1:i.toNat=8:=ω;rw[a1]at D;have vr:Var 52 O h.size (.bytes 32 (aiE 32)):=((v1.only f6 (λF=>F.2 rfl)).ext C).only E ω;refine⟨_,D.bytes,aH vr (t:=.bytes 32 (Oq (lW P gN (P.length/64)) 8)) wI λF G H s9=>⟨_,G.bytes,?_⟩⟩;refine I _ (f1.trans ((f6.mono λi d=>d.1).trans ((aiI C).trans ((E.mono λi d=>?_).trans (H.mono λi d=>?_)))))
  ·subst d;exact st.row.new _ ω
  ·subst d;exact st.row.new _ (aiu _)
theorem pT{s:Sl}{ts:List (LU)}(e:aj 1 h s (ts.map aiF))(q:ts.flatten.length<700000)(U:ts.length<100000)(A:∀m,Ext h m->R (aiX 32 (mz ts.flatten)).val m):Cl 201 [.slice s] h R:=by
 apply Oy;delta Dt aF gL cQ cE fW qD bz eU bJ bK fD;refine aa λQ v1 n S=>?_;refine yl λp d=>⟨_,rfl,aa λf y r T=>?_⟩;have V:=n.size;have W:=d.size;have z:J8 (λi=>h.size<i) f p.size [] 0 0 Sl.nil:=⟨y,⟨rfl,aiu _,.inl ⟨rfl,rfl⟩,(λl q=>by cases q),λi b=>ω⟩,aiu _,ω,λl q=>by cases q⟩;have B:=(n.trans d).trans r;have C:=(v1.ext d).ext r;have u:∀a,ag (λi=>h.size<i) f a->Ext h a:=λa o=>ail B o λi b=>ω;have X:=by have:=e.len;rwa [aim]at this
 refine⟨λi a=>0<=i/\i<=s.len/\(∃D k,J8 (λi=>h.size<i) a p.size (ts.take i.toNat).flatten k (ts.take i.toNat).flatten.length D)/\ag (λi=>h.size<i) f a,λi _=>(s.len-i).toNat,⟨aip 0,ω,⟨Sl.nil,0,z⟩,aiL _ _⟩,?_⟩;rintro i E ⟨F,Y,⟨Z,k4,g⟩,c⟩;refine ID (λb=>?_) λb=>?_
 ·refine(e.ext (u E c)).read F ω λl t ab v G=>?_;rw[aiK]at v;obtain⟨x,H,rfl⟩:=aiS.1 v;refine⟨x,G,?_⟩;have I:=aU H;have w:=zQ ts (i.toNat+1);rw[I,List.flatten_append,ain]at w;have J:[x].flatten=x:=by simp
  rw[J]at w;refine WC g ω λj K L ac _ f5=>⟨rfl,?_⟩;rw[wrap_i64 ω ω];have ad:(i+1).toNat=i.toNat+1:=ω;refine⟨⟨ω,ω,⟨K,L,?_⟩,c.trans f5⟩,by grind⟩;simp_all
 ·have M:i.toNat=ts.length:=ω;rw[M,ajd]at g;refine WD g q λj f5=>⟨_,rfl,?_⟩;have N:Var 52 j h.size (.bytes 32 (aiE 32)):=(C.only c (ajh _)).only f5 (ajh _);refine aH N (t:=.bytes 32 (mz ts.flatten)) wI λO v6 P s6=>⟨_,v6.bytes,?_⟩;exact A O (ail (u j (c.trans f5)) P λi b=>ω)
end
end Board
namespace Board
def MV(n:Int):Nat->LU
 |0=>[]
 |k+1=>aio (aih .u8 (ais n 256)).toNat::MV (aih .u64 (aiM n 256)) k
theorem dN:∀(k:Nat)(n:Int),(MV n k).length=k
 |0,_=>rfl
 |k+1,n=>by simp[MV,dN k]
theorem BF:∀(k:Nat)(n:Int),0<=n->n<18446744073709551616->MV n k=yo n k
 |0,_,_,_=>rfl
 |k+1,n,a,e=>by
  have b:ais n 256=n%256:=aje a;have c:aiM n 256=n/256:=Int.tdiv_eq_ediv_of_nonneg a
  have d:air n ((2:Int)^min (aij 8) (aii .u64))=n/256:=by
   show air n 256=n/256;exact Int.fdiv_eq_ediv_of_nonneg n δ
  rw[MV,yo,b,c,d,bW (n:=n/256) ω ω,BF k (n/256) ω ω,wrap_u8,wrap_u8];congr 3;omega
section
variable{R:Rq}{h:af}
theorem bL:∀(k:Nat)(n:Int)(h:af)(R:Rq),k<=8->(∀A,Ext h A->R (aiF (MV n k)).val A)->Cl 222 [.int .u64 n,.i (k:Int)] h R
 |0,n,h,R,_,q=>by
  apply nJ;delta aF gZ Br Bq On d_ fD;exact ID (λ_=>q h (ai0 _)) λB=>absurd δ B
 |k+1,n,h,R,f,q=>by
  apply nJ;delta aF gZ Br Bq On d_ fD;refine ID (λB=>ω) λ_=>⟨δ,δ,?_⟩
  have e:aih .i64 (mn ((k+1:Nat):Int) 8-1)=(k:Int):=by
   rw[Mq,wrap_i64 ω ω];omega
  rw[e];have b:=aS (ais n 256);have c:=dN k (aih .u64 (aiM n 256));refine⟨⟨aiw _ _,_,str1 b.1 b.2,bL k _ _ _ ω λd a=>⟨_,rfl,a,?_,?_⟩⟩,bL k _ _ _ ω λd a=>⟨_,rfl,a,aiw _ _,_,str1 b.1 b.2,?_,?_⟩⟩
  ·rw[c,aiJ];omega
  ·exact q d ((aiw _ _).trans a)
  ·rw[c,aiJ];omega
  ·exact q _ (a.trans (aiw _ _))
theorem OA{a b:Bs 32}(q:∀k,Ext h k->R (aiv (aiG a.l b.l)).val k):Cl 133 [.bytes 32 a,.bytes 32 b] h R:=by
 apply mP;delta mq cr bJ lq;refine aa λC v1 l D=>aa λr m g E=>?_;have n:=v1.ext g
 have iI:∀{h:af}{b:Nat}{x:Bs 32}{i:Nat},Var 52 h b (.bytes 32 x)->(d:i<32)->ah h b (0+i*1) (.int .u8 ((x.l[i]'(by rw[x.h];exact d)).toNat:Int)):=by
  intro h b x i v d;have:=v.bytes i d;rw[ai5];unfold ah;rw[this];have c:i<x.l.length:=by rw[x.h];exact d
  simp[List.getD,c]
 refine⟨λs o=>0<=s.2/\s.2<=32/\o=r/\aiG a.l b.l=aiG (a.l.drop s.2.toNat) (b.l.drop s.2.toNat),λs _=>((32:Int)-s.2).toNat,⟨by simp,by simp,rfl,by simp⟩,?_⟩;rintro⟨x,i⟩ o ⟨e,t,rfl,c⟩;simp only at e t c⊢;have F:=a.h;have G:=b.h;refine ID (λd=>?_) λd=>?_
 ·have f:i.toNat<32:=ω;have u:a.l.drop i.toNat=a.l[i.toNat]::a.l.drop (i.toNat+1):=List.drop_eq_getElem_cons ω;have w:b.l.drop i.toNat=b.l[i.toNat]::b.l.drop (i.toNat+1):=List.drop_eq_getElem_cons ω;rw[u,w]at c;simp only[aiG]at c;refine⟨e,d,_,iI n f,e,d,_,iI m f,?_⟩;refine aiD (λp=>?_) (λy=>?_)
  ·refine⟨e,d,_,iI n f,e,d,_,iI m f,?_⟩
   have z:(a.l[i.toNat]==b.l[i.toNat])=false:=by
    rw[beq_eq_false_iff_ne];intro A;rw[A]at p;simp at p
   rw[z,Bool.false_and,Bool.or_false]at c
   have:aiG a.l b.l=decide (((a.l[i.toNat]).toNat:Int)<((b.l[i.toNat]).toNat:Int)):=by
    rw[c];refine decide_eq_decide.2 ?_;rw[UInt8.lt_iff_toNat_lt];omega
   dsimp only;rw[<-this];exact q _ (l.trans g)
  ·have B:a.l[i.toNat]=b.l[i.toNat]:=by
    simp only[Bool.not_eq_false',decide_eq_true_eq]at y;exact UInt8.toNat_inj.1 ω
   rw[wrap_i64 ω ω];refine⟨⟨ω,ω,by trivial,?_⟩,Ω⟩;have j:(i+1).toNat=i.toNat+1:=ω;rw[j,c,B];have:¬(b.l[i.toNat]<b.l[i.toNat]):=UInt8.lt_irrefl _;simp[this]
 ·have j:i.toNat=32:=ω;rw[j,ai9 ω,ai9 ω]at c;simp only[aiG]at c;rw[c]at q;exact q _ (l.trans g)
theorem gC(n:Int):0<=aih .u64 n/\aih .u64 n<18446744073709551616:=by
 have:aih .u64 n=n%18446744073709551616:=by
  unfold aih;show(if(false&&_)=true then _ else n%2^64)=n%18446744073709551616;simp
 rw[this];omega
end
end Board
namespace Board
section
variable{R:Rq}{h:af}
def zR:LU:=(aiY #[(98:UInt8),(111:UInt8),(97:UInt8),(114:UInt8),(100:UInt8)]).data.toList
def tR(slot who:Int):Bs 32:=mz ((zR++yo (aih .u64 slot) 4)++yo (aih .u64 who) 2)
theorem ZH{R:Rq}{h:af}{slot who:Int}(q:∀b,Ext h b->R (aiX 32 (tR slot who)).val b):Cl 314 [.i slot,.i who] h R:=by
 apply Ij;delta jN gZ MF cQ tM d_ qD bz eU bJ bA fD;refine aa λm v1 n A=>?_;have r1:Row (λi=>h.size<i) m Sl.nil []:=⟨Vc.Own.nil _ _ _,(λl o=>by cases o),λi c=>ω⟩;refine ia (k:=4) r1 δ δ λB C p r=>⟨_,rfl,?_⟩;have D:=gA 4 (aih .u64 slot);have l2:=gA 2 (aih .u64 who);refine ia (k:=2) p (by rw[ain];simp only[List.length_nil];omega) δ λa E s u=>⟨_,rfl,_,s.str,?_⟩;have d:=r.trans u;have v:Ext h a:=ail n d λi c=>ω;have w:Var 52 a h.size (.bytes 32 (aiE 32)):=v1.only d (ajh _);have e:[zR,([]++yo (aih .u64 slot) 4)++yo (aih .u64 who) 2].flatten=(zR++yo (aih .u64 slot) 4)++yo (aih .u64 who) 2:=by simp
 have f:=aiw a (row (aiz [aiF zR,aiF (([]++yo (aih .u64 slot) 4)++yo (aih .u64 who) 2)]) 9);refine pT (ts:=[zR,([]++yo (aih .u64 slot) 4)++yo (aih .u64 who) 2]) ?_ ?_ (by simp) λF g=>⟨_,rfl,?_⟩
 ·exact(Vc.Own.new (T:=9) (sz:=1) a [aiF zR,aiF (([]++yo (aih .u64 slot) 4)++yo (aih .u64 who) 2)] (λt j=>by
   simp only[aji,List.not_mem_nil,or_false]at j;rcases j with rfl|rfl<;>rfl)).elems
 ·have:zR.length=5:=δ;rw[e,ain,ain];omega
 ·rw[e];refine aH ((w.ext f).ext g) (t:=.bytes 32 (tR slot who)) wI λx y z G=>⟨_,y.bytes,?_⟩;exact q x (ail ((v.trans f).trans g) z λi c=>ω)
structure ij where
 Du:Bs 32
 who:Int
instance:Inhabited ij:=⟨⟨aiE 32,0⟩⟩
def ij.tv(s:ij):TV:=.agg [.bytes 32 s.Du,.i s.who]
def Ik(x y:ij):Int:=
 if aiG x.Du.l y.Du.l=true then-1 else if aiG y.Du.l x.Du.l=true then 1 else if x.who<y.who then-1 else if y.who<x.who then 1 else 0
theorem Q2{x:Int}(q:R (aiv false).val h):jc Tryz.prog 334 (aja [.i x]) h R:=by
 apply BG;have:(!decide (x=x))=false:=by simp
 rw[this];exact q
theorem J9{x y:Int}(q:R (TV.i (if x<y then-1 else if y<x then 1 else 0)).val h):jc Tryz.prog 336 (aja [.i x,.i y]) h R:=by
 apply yw;delta sE nj dX aT bA;refine Q2 ⟨_,rfl,Q2 ⟨_,rfl,?_⟩⟩;refine aix (aix (ID (λa=>?_) λa=>ajc.2 ⟨λb=>?_,λb=>?_⟩))
 ·rw[if_pos a]at q;exact q
 ·rw[if_neg a,if_pos b]at q;exact q
 ·rw[if_neg a,if_neg b]at q;exact q
theorem ux{x y:ij}(q:∀f,Ext h f->R (TV.i (Ik x y)).val f):jc Tryz.prog 316 (aja [x.tv,y.tv]) h R:=by
 apply DZ x.Du x.who y.Du y.who;delta eG sE dx nj bz dX bJ aT bA;refine aa λp v1 n r=>aa λs g i t=>?_;have j:=v1.ext i;have c:=n.trans i;refine⟨x.Du,j.at.1,y.Du,g.at.1,nZ λo a=>⟨_,rfl,aiD (λe=>?_) λe=>?_⟩⟩
 ·have:=q o (c.trans a)
  rwa [show Ik x y=-1 from if_pos e]at this
 ·have k:=j.ext a;have l:=g.ext a;refine⟨y.Du,l.at.1,x.Du,k.at.1,nZ λm b=>⟨_,rfl,aiD (λd=>?_) λd=>?_⟩⟩
  ·have:=q m ((c.trans a).trans b)
   rwa [show Ik x y=1 by unfold Ik;rw[if_neg (by rw[e];decide),if_pos d]]at this
  ·refine⟨x.who,(k.ext b).at.2,y.who,(l.ext b).at.2,J9 ⟨_,rfl,?_⟩⟩;have:=q m ((c.trans a).trans b)
   rwa [show Ik x y=if x.who<y.who then-1 else if y.who<x.who then 1 else 0 by unfold Ik;rw[if_neg (by rw[e];decide),if_neg (by rw[d];decide)]]at this
end
end Board
end Go.Proofs.YtennbinbffdimaaGreat
namespace Go.Proofs
open Go.Shelf
def Tryz.sortIts_ren:Go.Shelf.Ren:=⟨λ|6=>254|15=>273|14=>291|28=>310|29=>311|20=>317|21=>318|22=>319|23=>320|24=>321|25=>322|26=>323|27=>324|46=>337|47=>330|48=>331|49=>338|50=>339|57=>350|n=>n,λ|22=>240|24=>242|25=>329|3=>3|39=>88|0=>0|53=>288|55=>53|4=>4|46=>372|45=>371|50=>169|5=>5|9=>9|66=>397|70=>401|76=>408|77=>409|n=>n,λ|n=>n⟩
theorem Tryz.sortIts:Go.Proofs.SlLaysF0.n6 Tryz.prog Tryz.sortIts_ren:={
 mixed:=κ
 f6:=⟨Tryz.f254.name,δ,Tryz.func254.trans (congrArg some κ)⟩
 f14:=⟨Tryz.f291.name,δ,Tryz.func291.trans (congrArg some κ)⟩
 f15:=Tryz.func273.trans (congrArg some κ)
 f20:=⟨Tryz.f317.name,δ,Tryz.func317.trans (congrArg some κ)⟩
 f21:=⟨Tryz.f318.name,δ,Tryz.func318.trans (congrArg some κ)⟩
 f22:=⟨Tryz.f319.name,δ,Tryz.func319.trans (congrArg some κ)⟩
 f23:=⟨Tryz.f320.name,δ,Tryz.func320.trans (congrArg some κ)⟩
 f24:=⟨Tryz.f321.name,δ,Tryz.func321.trans (congrArg some κ)⟩
 f25:=⟨Tryz.f322.name,δ,Tryz.func322.trans (congrArg some κ)⟩
 f26:=⟨Tryz.f323.name,δ,Tryz.func323.trans (congrArg some κ)⟩
 f27:=⟨Tryz.f324.name,δ,Tryz.func324.trans (congrArg some κ)⟩
 f28:=Tryz.func310.trans (congrArg some κ)
 f29:=Tryz.func311.trans (congrArg some κ)
 f46:=⟨Tryz.f337.name,δ,Tryz.func337.trans (congrArg some κ)⟩
 f47:=Tryz.func330.trans (congrArg some κ)
 f48:=Tryz.func331.trans (congrArg some κ)
 f49:=⟨Tryz.f338.name,δ,Tryz.func338.trans (congrArg some κ)⟩
 f50:=⟨Tryz.f339.name,δ,Tryz.func339.trans (congrArg some κ)⟩
 f57:=⟨Tryz.f350.name,δ,Tryz.func350.trans (congrArg some κ)⟩
 t0:=Tryz.underlying0
 a0:=Tryz.isAgg0
 z0:=Tryz.sizeOf0
 v0:=Tryz.zeroValue0
 t3:=Tryz.underlying3
 a3:=Tryz.isAgg3
 z3:=Tryz.sizeOf3
 v3:=Tryz.zeroValue3
 t4:=Tryz.underlying4
 a4:=Tryz.isAgg4
 z4:=Tryz.sizeOf4
 v4:=Tryz.zeroValue4
 t5:=Tryz.underlying5
 a5:=Tryz.isAgg5
 z5:=Tryz.sizeOf5
 v5:=Tryz.zeroValue5
 t9:=Tryz.underlying9
 a9:=Tryz.isAgg9
 z9:=Tryz.sizeOf9
 v9:=Tryz.zeroValue9
 t22:=Tryz.underlying240
 a22:=Tryz.isAgg240
 z22:=Tryz.sizeOf240
 v22:=Tryz.zeroValue240
 t25:=Tryz.underlying329
 a25:=Tryz.isAgg329
 z25:=Tryz.sizeOf329
 v25:=Tryz.zeroValue329
 t39:=Tryz.underlying88
 a39:=Tryz.isAgg88
 z39:=Tryz.sizeOf88
 v39:=Tryz.zeroValue88
 t45:=Tryz.underlying371
 a45:=Tryz.isAgg371
 z45:=Tryz.sizeOf371
 v45:=Tryz.zeroValue371
 t46:=Tryz.underlying372
 a46:=Tryz.isAgg372
 z46:=Tryz.sizeOf372
 v46:=Tryz.zeroValue372
 t50:=Tryz.underlying169
 a50:=Tryz.isAgg169
 z50:=Tryz.sizeOf169
 v50:=Tryz.zeroValue169
 t53:=Tryz.underlying288
 a53:=Tryz.isAgg288
 z53:=Tryz.sizeOf288
 v53:=Tryz.zeroValue288
 t55:=Tryz.underlying53
 a55:=Tryz.isAgg53
 z55:=Tryz.sizeOf53
 v55:=Tryz.zeroValue53
 t66:=Tryz.underlying397
 a66:=Tryz.isAgg397
 z66:=Tryz.sizeOf397
 v66:=Tryz.zeroValue397
 t70:=Tryz.underlying401
 a70:=Tryz.isAgg401
 z70:=Tryz.sizeOf401
 v70:=Tryz.zeroValue401
 t76:=Tryz.underlying408
 a76:=Tryz.isAgg408
 z76:=Tryz.sizeOf408
 v76:=Tryz.zeroValue408
 t77:=Tryz.underlying409
 a77:=Tryz.isAgg409
 z77:=Tryz.sizeOf409
 v77:=Tryz.zeroValue409}
def Tryz.sortSts_ren:Go.Shelf.Ren:=⟨λ|6=>315|15=>273|14=>335|28=>310|29=>311|20=>342|21=>343|22=>344|23=>345|24=>346|25=>347|26=>348|27=>349|46=>351|47=>330|48=>331|49=>352|50=>353|57=>354|n=>n,λ|22=>382|24=>385|25=>387|3=>3|39=>88|0=>0|53=>288|55=>53|4=>4|46=>372|45=>371|50=>169|5=>5|9=>9|66=>397|70=>401|76=>408|77=>409|n=>n,λ|n=>n⟩
theorem Tryz.sortSts:Go.Proofs.SlLaysF0.n6 Tryz.prog Tryz.sortSts_ren:={
 mixed:=κ
 f6:=⟨Tryz.f315.name,δ,Tryz.func315.trans (congrArg some κ)⟩
 f14:=⟨Tryz.f335.name,δ,Tryz.func335.trans (congrArg some κ)⟩
 f15:=Tryz.func273.trans (congrArg some κ)
 f20:=⟨Tryz.f342.name,δ,Tryz.func342.trans (congrArg some κ)⟩
 f21:=⟨Tryz.f343.name,δ,Tryz.func343.trans (congrArg some κ)⟩
 f22:=⟨Tryz.f344.name,δ,Tryz.func344.trans (congrArg some κ)⟩
 f23:=⟨Tryz.f345.name,δ,Tryz.func345.trans (congrArg some κ)⟩
 f24:=⟨Tryz.f346.name,δ,Tryz.func346.trans (congrArg some κ)⟩
 f25:=⟨Tryz.f347.name,δ,Tryz.func347.trans (congrArg some κ)⟩
 f26:=⟨Tryz.f348.name,δ,Tryz.func348.trans (congrArg some κ)⟩
 f27:=⟨Tryz.f349.name,δ,Tryz.func349.trans (congrArg some κ)⟩
 f28:=Tryz.func310.trans (congrArg some κ)
 f29:=Tryz.func311.trans (congrArg some κ)
 f46:=⟨Tryz.f351.name,δ,Tryz.func351.trans (congrArg some κ)⟩
 f47:=Tryz.func330.trans (congrArg some κ)
 f48:=Tryz.func331.trans (congrArg some κ)
 f49:=⟨Tryz.f352.name,δ,Tryz.func352.trans (congrArg some κ)⟩
 f50:=⟨Tryz.f353.name,δ,Tryz.func353.trans (congrArg some κ)⟩
 f57:=⟨Tryz.f354.name,δ,Tryz.func354.trans (congrArg some κ)⟩
 t0:=Tryz.underlying0
 a0:=Tryz.isAgg0
 z0:=Tryz.sizeOf0
 v0:=Tryz.zeroValue0
 t3:=Tryz.underlying3
 a3:=Tryz.isAgg3
 z3:=Tryz.sizeOf3
 v3:=Tryz.zeroValue3
 t4:=Tryz.underlying4
 a4:=Tryz.isAgg4
 z4:=Tryz.sizeOf4
 v4:=Tryz.zeroValue4
 t5:=Tryz.underlying5
 a5:=Tryz.isAgg5
 z5:=Tryz.sizeOf5
 v5:=Tryz.zeroValue5
 t9:=Tryz.underlying9
 a9:=Tryz.isAgg9
 z9:=Tryz.sizeOf9
 v9:=Tryz.zeroValue9
 t22:=Tryz.underlying382
 a22:=Tryz.isAgg382
 z22:=Tryz.sizeOf382
 v22:=Tryz.zeroValue382
 t25:=Tryz.underlying387
 a25:=Tryz.isAgg387
 z25:=Tryz.sizeOf387
 v25:=Tryz.zeroValue387
 t39:=Tryz.underlying88
 a39:=Tryz.isAgg88
 z39:=Tryz.sizeOf88
 v39:=Tryz.zeroValue88
 t45:=Tryz.underlying371
 a45:=Tryz.isAgg371
 z45:=Tryz.sizeOf371
 v45:=Tryz.zeroValue371
 t46:=Tryz.underlying372
 a46:=Tryz.isAgg372
 z46:=Tryz.sizeOf372
 v46:=Tryz.zeroValue372
 t50:=Tryz.underlying169
 a50:=Tryz.isAgg169
 z50:=Tryz.sizeOf169
 v50:=Tryz.zeroValue169
 t53:=Tryz.underlying288
 a53:=Tryz.isAgg288
 z53:=Tryz.sizeOf288
 v53:=Tryz.zeroValue288
 t55:=Tryz.underlying53
 a55:=Tryz.isAgg53
 z55:=Tryz.sizeOf53
 v55:=Tryz.zeroValue53
 t66:=Tryz.underlying397
 a66:=Tryz.isAgg397
 z66:=Tryz.sizeOf397
 v66:=Tryz.zeroValue397
 t70:=Tryz.underlying401
 a70:=Tryz.isAgg401
 z70:=Tryz.sizeOf401
 v70:=Tryz.zeroValue401
 t76:=Tryz.underlying408
 a76:=Tryz.isAgg408
 z76:=Tryz.sizeOf408
 v76:=Tryz.zeroValue408
 t77:=Tryz.underlying409
 a77:=Tryz.isAgg409
 z77:=Tryz.sizeOf409
 v77:=Tryz.zeroValue409}
end Go.Proofs
namespace Go.Proofs.YtennbinbffdimaaGreat
open Go Go.Vc
namespace Board
def sb(x y:ij):Prop:=aiG x.Du.l y.Du.l=true\/(x.Du=y.Du/\x.who<y.who)
theorem ZI{x y:ij}:Ik x y<0↔sb x y:=by
 unfold Ik sb;by_cases a:aiG x.Du.l y.Du.l=true
 ·simp_all
 ·rw[if_neg a];by_cases b:aiG y.Du.l x.Du.l=true
  ·grind
  ·rw[if_neg b]
   have e:=by
    apply ajj;apply Classical.byContradiction;intro c;rcases jf _ _ c with h|h
    ·exact a h
    ·exact b h
   grind
theorem MX(x:ij):¬sb x x:=by
 rintro(h|⟨_,h⟩)
 ·simp_all [iY]
 ·omega
theorem E7{x y z:ij}(h:sb x y)(k:sb y z):sb x z:=by
 rcases h with h|⟨h,a⟩<;>rcases k with k|⟨k,b⟩
 ·exact .inl (lE _ _ _ h k)
 ·exact .inl (by simp_all)
 ·exact .inl (by simp_all)
 ·exact .inr ⟨h.trans k,ω⟩
theorem Q4{x y:ij}(h:x.who≠y.who):sb x y\/sb y x:=by
 by_cases e:x.Du=y.Du
 ·rcases Int.lt_or_gt_of_ne h with a|a
  ·exact .inl (.inr ⟨e,a⟩)
  ·exact .inr (.inr ⟨e.symm,a⟩)
 ·rcases jf x.Du.l y.Du.l (λb=>e (ajj b))with a|a
  ·exact .inl (.inl a)
  ·exact .inr (.inl a)
theorem Q5(x y:ij):sb x y\/sb y x\/x=y:=by
 by_cases h:x.who=y.who
 ·by_cases e:x.Du=y.Du
  ·cases x;simp_all
  ·rcases jf x.Du.l y.Du.l (λb=>e (ajj b))with a|a
   ·exact .inl (.inl a)
   ·exact .inr (.inl (.inl a))
 grind [Q4]
theorem ady{x y:ij}:Go.Proofs.ltOf Ik x y=true↔sb x y:=by
 unfold Go.Proofs.ltOf;rw[decide_eq_true_iff,ZI]
theorem D1{x y:ij}:Go.Proofs.ltOf Ik x y=false↔¬sb x y:=by
 rw[<-ady];simp
theorem swo:Go.Sort.SWO (Go.Proofs.ltOf Ik) where
 irrefl x:=by simp[MX,D1]
 trans x y z h k:=by grind [ady,E7]
 ntrans x y z h k:=by
  grind [D1,E7,Q5]
def Tu(slot:Int)(n:Nat):List ij:=(aiR n).map λ(i:Nat)=>⟨tR slot (i:Int),(i:Int)⟩
theorem ZJ(slot:Int)(n:Nat):Tu slot (n+1)=Tu slot n++[⟨tR slot (n:Int),(n:Int)⟩]:=by
 simp[Tu,List.range_succ,aiQ]
theorem yx(slot:Int)(n:Nat):(Tu slot n).length=n:=by simp[Tu]
noncomputable def leb(x y:ij):Bool:=!Go.Proofs.ltOf Ik y x
noncomputable def sorted(slot:Int)(n:Nat):List ij:=(Tu slot n).mergeSort leb
theorem IN{x y:ij}:leb x y=true↔¬sb y x:=by
 unfold leb;rw[Bool.not_eq_true',D1]
theorem sorted_perm(slot:Int)(n:Nat):(sorted slot n).Perm (Tu slot n):=List.mergeSort_perm _ _
theorem Hz(slot:Int)(n:Nat):(sorted slot n).Pairwise λx y=>¬sb y x:=by
 have:=List.pairwise_mergeSort (le:=leb) (λa b c h k=>by
  rw[IN]at*;exact D1.1 (swo.ntrans _ _ _ (D1.2 k) (D1.2 h))) (λa b=>by
  rw[Bool.or_eq_true,IN,IN]
  grind [sb,MX,E7]) (Tu slot n)
 exact this.imp λ{x y} h=>IN.1 h
theorem kW{slot:Int}{n:Nat}{L:List ij}(q:L.Perm (Tu slot n))(A:L.Pairwise λx y=>¬sb y x):L=sorted slot n:=by
 refine List.Perm.eq_of_pairwise (λa b _ _ h k=>?_) A (Hz slot n) (q.trans (sorted_perm slot n).symm)
 grind [absurd,Q5]
noncomputable def mem(n:Nat)(aQ slot:Int):List Int:=
 if slot<0\/1073741824<slot then[]else((sorted slot n).take (min (max aQ 0) (n:Int)).toNat).map ij.who
theorem o_(slot:Int)(n:Nat):(sorted slot n).length=n:=by rw[(sorted_perm slot n).length_eq,yx]
structure Cf where
 vals:Sl
 ep:Int
 aQ:Int
 no:Int
 eV:Int
 eH:Int
 quo:Int
 pe:Int
 iy:Int
 win:Int
 bH:Int
 dec:Int
def Cf.tv(c:Cf):TV:=.agg [.slice c.vals,.i c.ep,.i c.aQ,.i c.no,.i c.eV,.i c.eH,.i c.quo,.i c.pe,.i c.iy,.i c.win,.i c.bH,.i c.dec]
section
variable{R:Rq}{h:af}
abbrev Q6(l:List ij):List TV:=l.map ij.tv
theorem ij.size(s:ij):s.tv.size=33:=by rfl
theorem ij.plain(s:ij):s.tv.plain=true:=by rfl
theorem E8:(ctx.ti 385).bytes=40:=κ
theorem OB:(ctx.ti 385).size=33:=κ
theorem OC:(ctx.ti 385).z.size=33:=κ
theorem agP:∀w,(isAgg (Tryz.sortSts_ren.t 24)).run Tryz.prog w=.ok true w:=λw=>by
 have a:∃b,Tryz.prog.underlying 385=some (.struct b):=by
  simp_all
 obtain⟨b,a⟩:=a;have:=nQ (w:=w) a;exact this
theorem agQ:∀w,(sizeOf (Tryz.sortSts_ren.t 24)).run Tryz.prog w=.ok 33 w:=λw=>by
 have:=EJ bP (t:=385) κ w;rw[OB]at this;exact this
theorem WH{s:Sl}{L:List ij}(o:Vc.Own 385 33 h s (Q6 L))(A:L.length<1000)
 (q:∀a L',L'.Perm L->L'.Pairwise (λx y=>¬sb y x)->Vc.Own 385 33 a s (Q6 L')->ag (In s) h a->R (aiC []).val a):Cl 315 [.slice s,.fn (.func 316) [] []] h R:=by
 refine Q3 Tryz.sortSts agP agQ ij.size ij.plain swo (bP.LI κ) (λa x y=>?_) o ω (λa L' b c d f=>?_)
 ·exact ux λi e=>⟨rfl,e⟩
 ·refine q a L' b (c.imp λ{x y} g=>?_) d f
  rwa [D1]at g
theorem WI{s:Sl}{L:List ij}{i:Int}(e:aj 33 h s (Q6 L))(q:0<=i)(B:i<L.length){K:Bs 32->Int->Prop}(A:∀x,L[i.toNat]? =some x->K x.Du x.who):
 0<=i/\i<(s.len:Int)/\Nn s.a λ(l:Vc.Loc)=>∃(b:Bs 32),∃(n:Int),(av h l.b (l.o+i.toNat*33) 32 b/\ah h l.b (l.o+i.toNat*33+32) (.i n))/\K b n:=by
 have c:=e.len;rw[aim]at c;refine e.read q ω λl t g a d=>?_;rw[aiK]at a;obtain⟨x,f,rfl⟩:=aiS.1 a;exact⟨x.Du,x.who,d,A x f⟩
theorem Q7{s:Sl}{ts:List TV}{i j:Nat}(e:aj 33 h s ts)(q:i<=j)(A:j<=s.len)(B:s.len<=s.cap):aj 33 h (ay s i j 33) ((ts.drop i).take (j-i)):=by
 have g:=e.len;refine⟨by grind [ay,aiT,aiP],λd=>?_,λl a k t b=>?_⟩
 ·unfold ay at d
  have:ts=[]\/i=j:=by
   split at d
   ·omega
   ·left;cases c:s.a with
    |none=>exact e.nil c
    |some l=>simp_all
  rcases this with rfl|rfl<;>simp_all
 ·unfold ay at a;rw[List.getElem?_take]at b;split at b
  ·rw[List.getElem?_drop]at b;split at a
   ·omega
   ·cases c:s.a with
    |none=>simp_all
    |some f=>
     rw[c]at a;simp only[Option.map_some,Option.some.injEq]at a;subst a;have:=e.get f c (i+k) t b
     grind
  grind
theorem yy{c:Cf}{slot:Int}(hv:c.vals.len<900)(O:∀E F,Vc.Own 3 1 E F (ints (mem c.vals.len c.aQ slot))->Ext h E->(∀l,F.a=some l->h.size<=l.b)->R (aiO F).val E):
 Cl 279 [c.tv,.i slot] h R:=by
 apply C8 c.vals c.ep c.aQ c.no c.eV c.eH c.quo c.pe c.iy c.win c.bH c.dec slot;delta gz sD mu pR jr dD eW aN bK aT;refine aa λp v1 P s1=>?_;intro J hJ
 have Q:=λw=>by
  refine O p Sl.nil ?_ P (λl a=>by cases a);unfold mem;rw[if_pos w];exact Vc.Own.nil _ _ _
 refine ID (λw=>Q (.inl w)) λw=>ajc.2 ⟨λS=>Q (.inr S),λS=>?_⟩
 have ab:mem c.vals.len c.aQ slot=((sorted slot c.vals.len).take (min (max c.aQ 0) c.vals.len).toNat).map ij.who:=by
  simp_all [if_neg,mem]
 refine hJ _ _ ?_;have ac:∀d,ag (λi=>h.size<i) p d->Ext h d:=λd o=>ail P o λi G=>ω;have var:∀d,ag (λi=>h.size<i) p d->Var 24 d h.size c.tv:=λd o=>v1.only o (ajh _);refine⟨c.vals,v1.ah rfl,?_⟩
 refine⟨λσ d=>0<=σ.2/\σ.2<=c.vals.len/\Vc.Own 385 33 d σ.1 (Q6 (Tu slot σ.2.toNat))/\(∀l,σ.1.a=some l->h.size<l.b)/\ag (λi=>h.size<i) p d,λσ _=>(c.vals.len-σ.2).toNat,
  ⟨aip 0,ω,Vc.Own.nil _ _ _,(λl a=>by cases a),aiL _ _⟩,?_⟩
 rintro⟨s,i⟩ h2 ⟨i0,i1,q,y,f2⟩;dsimp only at i0 i1 q y⊢;have z2:=f2.size;refine ID (λG=>?_) λG=>?_
 ·refine ZH λf H=>⟨_,rfl,?_⟩;have r:=q.ext H;have I:=r.len;rw[aim,yx]at I;refine cD (x:=(ij.mk (tR slot i) i).tv) OB OC (by rw[E8];decide) (by rw[E8];omega) r (ij.size _) rfl λs4 g m f4 b4=>?_;rw[wrap_i64 (n:=i+1) ω ω];have ad:(i+1).toNat=i.toNat+1:=ω;have z3:=H.size;refine⟨⟨ω,ω,?_,λl a=>?_,?_⟩,Ω⟩
  ·rw[ad,ZJ];have ae:((i.toNat:Nat):Int)=i:=ω;rw[ae];show Vc.Own 385 33 g s4 ((Tu slot i.toNat++[ij.mk (tR slot i) i]).map ij.tv);rw[aiQ];exact m
  ·rcases b4 l a with⟨l',u,L⟩|u
   ·rw[<-L];exact y l' u
   ·omega
  ·refine f2.trans ((aiI H).trans (f4.mono λj⟨l,a,e⟩=>?_));rw[<-e];exact y l a
 ·have al:i.toNat=c.vals.len:=ω;rw[al]at q;have U:=q.len;rw[aim,yx]at U;refine WH q (by rw[yx];omega) λf L' hp hs r f3=>⟨rfl,?_⟩;obtain rfl:=kW hp hs;have M:ag (λi=>h.size<i) p f:=f2.trans (f3.mono λj⟨l,a,e⟩=>by rw[<-e];exact y l a);refine⟨c.aQ,(var f M).ah rfl,?_⟩;have hm:mn (mx c.aQ 0) (s.len:Int)=min (max c.aQ 0) (c.vals.len:Int):=by rw[adm,Mq,U]
  dsimp only;rw[hm];have am:=r.cap;have ao:0<=min (max c.aQ 0) (c.vals.len:Int):=ω;have a2:min (max c.aQ 0) (c.vals.len:Int)<=(c.vals.len:Int):=ω;refine⟨ao,ω,?_⟩;generalize a3:(min (max c.aQ 0) (c.vals.len:Int)).toNat=k at*;have a4:k<=c.vals.len:=ω
  have e3:aj 33 f (ay s 0 k 33) (Q6 ((sorted slot c.vals.len).take k)):=by
   have:=Q7 (i:=0) (j:=k) r.elems (aiW _) ω am;rw[List.drop_zero,Nat.sub_zero,<-List.map_take]at this;exact this
  have V:(ay s 0 k 33).len=k:=by simp[ay]
  have ap:((sorted slot c.vals.len).take k).length=k:=by rw[aiP,o_];omega
  rw[V]
  refine⟨λσ d=>0<=σ.2/\σ.2<=k/\Vc.Own 3 1 d σ.1 (ints (((sorted slot c.vals.len).take σ.2.toNat).map ij.who))/\(∀l,σ.1.a=some l->f.size<=l.b)/\Ext f d,λσ _=>((k:Int)-σ.2).toNat,
   ⟨aip 0,by dsimp only;omega,Vc.Own.nil _ _ _,(λl a=>by cases a),ai0 _⟩,?_⟩
  rintro⟨t,j⟩ g ⟨W,j1,m,b4,z⟩;dsimp only at W j1 m b4⊢;have z3:=M.size;have z4:=z.size;refine ID (λhj=>?_) λhj=>?_
  ·have X:=WI (e3.ext z) W (by rw[ap];omega) (K:=λb n=>Vc.Bind (iW g (TV.agg [aiX 32 (aiE 32),TV.i 0]) 385) λY=>
    gT Y g.size 0 33/\Vc.Bind (TV.put Y g.size 0 (TV.agg [aiX 32 b,TV.i n])) λA=>∃(n:Int),ah A g.size 32 (Value.i n)/\
     ∃(new:List Value),cn (Array.push A (row (aiz [TV.i n]) 3)) (Sl.mk (some (Vc.Loc.mk (Array.size A) 0)) 1 1) 1 new/\(∀(v:Value),v∈new->bU v=true)/\
      au ctx 3 t 1 new (Array.push A (row (aiz [TV.i n]) 3)) λB h=>(0<=(B,aih ajk (j+1)).snd/\(B,aih ajk (j+1)).snd<=k/\Vc.Own 3 1 h B (ints (((sorted slot c.vals.len).take (aih ajk (j+1)).toNat).map ij.who))/\(∀l,B.a=some l->f.size<=l.b)/\Ext f h)/\((k:Int)-aih ajk (j+1)).toNat<((k:Int)-j).toNat) λx D=>?_
   ·rw[V]at X;exact X
   ·refine aa λh5 v5 x5 s5=>aH v5 (t:=x.tv) (by simp only[ij.tv,TV.size,ak.size]) λh6 v6 o6 s6=>⟨x.who,v6.ah (by
     have:x.tv.cells=(aiX 32 x.Du).cells++[Value.i x.who]:=by simp only[ij.tv,TV.cells,aiz,List.append_nil]
     rw[this,List.getElem?_append_right (by rw[TV.ai];exact aiu _),TV.ai];rfl),?_⟩
    have N:Ext g h6:=ail x5 o6 λi G=>ω;have Z:=m.ext N;have I:=Z.len;have ar:((sorted slot c.vals.len).take j.toNat).length=j.toNat:=by rw[aiP,o_];omega
    rw[aim,aim,ar]at I;refine cD (C:=ctx) (T:=3) (sz:=1) (x:=.i x.who) MR Gs (by rw[sG];decide) (by rw[sG];omega) Z rfl rfl λs7 h7 o7 f7 b7=>?_;rw[wrap_i64 (n:=j+1) ω ω];have aw:(j+1).toNat=j.toNat+1:=ω
    have aE:(sorted slot c.vals.len)[j.toNat]? =some x:=by
     rw[List.getElem?_take]at D;split at D
     ·exact D
     ·cases D
    refine⟨⟨by dsimp only;omega,by dsimp only;omega,?_,λl a=>?_,?_⟩,ω⟩
    ·rw[aw,aU aE];simp only[ints,aiQ,aiU,ajl]at o7⊢;exact o7
    ·have z6:=N.size;rcases b7 l a with⟨l',u,L⟩|u
     ·rw[<-L];exact b4 l' u
     ·omega
    ·refine ail (z.trans N) f7 λi⟨l,a,e⟩=>?_;rw[<-e];exact b4 l a
  ·have a0:j.toNat=k:=ω;rw[a0]at m;have a1:Ext h g:=(ac f M).trans z;have:=O g t (by rw[ab];exact m) a1 (λl a=>by have:=b4 l a;omega);exact this
end
end Board
namespace Board
structure Vd where
 cF:Int
 key:LU
instance:Inhabited Vd:=⟨⟨0,[]⟩⟩
def Vd.tv(v:Vd):TV:=.agg [.i v.cF,.str v.key]
theorem Vd.size(v:Vd):v.tv.size=2:=by rfl
abbrev jx(l:List Vd):List TV:=l.map Vd.tv
def idx:List Int->Int->Int->Int
 |[],_,_=>-1
 |x::a,v,i=>if v=x then i else idx a v (i+1)
def uy:List Int->Int
 |[]=>-1
 |x::_=>x
def pk:List Int->List Bool->List Int
 |x::a,b::bs=>if b=true then x::pk a bs else pk a bs
 |_,_=>[]
theorem OD:∀(q:List Int)(bs:List Bool)(x:Int)(b:Bool),q.length=bs.length->pk (q++[x]) (bs++[b])=pk q bs++(if b=true then[x]else[])
 |[],[],x,b,_=>by rfl
 |[],_::_,_,_,h=>by cases h
 |_::_,[],_,_,h=>by cases h
 |y::a,c::d,x,b,h=>by
  have e:=OD a d x b (by simp_all);simp only[List.cons_append,pk];rw[e];cases c<;>simp
section
variable{R:Rq}{h:af}{c:Cf}
theorem D2{s:Sl}{l:List Int}{v:Int}(e:aj 1 h s (ints l))(A:l.length<100000)(q:R (TV.i (idx l v 0)).val h):Cl 280 [.slice s,.i v] h R:=by
 apply pU;delta iZ nj gI bK;have el:=iP e;refine⟨λσ c=>0<=σ.2/\σ.2<=s.len/\c=h/\idx l v 0=idx (l.drop σ.2.toNat) v σ.2,λσ _=>(s.len-σ.2).toNat,⟨aip 0,ω,rfl,rfl⟩,?_⟩;rintro⟨f,i⟩ c ⟨d,m,rfl,a⟩;refine ID (λg=>?_) λg=>?_
 ·refine gB e d ω λx j=>?_;rw[BD j,idx]at a;refine ID (λb=>?_) λb=>?_
  ·rw[if_pos b]at a;rw[a]at q;exact q
  ·rw[if_neg b]at a;rw[wrap_i64 ω ω]
   grind
 ·have k:l.drop i.toNat=[]:=ai9 ω;rw[k]at a;rw[a]at q;exact q
theorem sK(n:Nat)(aQ slot:Int):(mem n aQ slot).length<=n:=by
 unfold mem
 grind
theorem Tv{slot who:Int}(q:c.vals.len<900)(A:∀a,Ext h a->R (TV.i (idx (mem c.vals.len c.aQ slot) who 0)).val a):Cl 235 [c.tv,.i slot,.i who] h R:=by
 apply E9 c.vals c.ep c.aQ c.no c.eV c.eH c.quo c.pe c.iy c.win c.bH c.dec slot who;refine aa λg v1 b j=>?_;refine⟨c.vals,c.ep,c.aQ,c.no,c.eV,c.eH,c.quo,c.pe,c.iy,c.win,c.bH,c.dec,v1.at,?_⟩;refine yy q λd k e f _=>⟨_,rfl,?_⟩;have:=sK c.vals.len c.aQ slot;exact D2 e.elems ω ⟨_,rfl,A d (b.trans f)⟩
theorem LS{slot:Int}(q:c.vals.len<900)(A:∀b,Ext h b->R (TV.i (uy (mem c.vals.len c.aQ slot))).val b):Cl 234 [c.tv,.i slot] h R:=by
 apply BH c.vals c.ep c.aQ c.no c.eV c.eH c.quo c.pe c.iy c.win c.bH c.dec slot;delta gK yh nj dJ bK aT;refine aa λm v1 f n=>?_;refine⟨c.vals,c.ep,c.aQ,c.no,c.eV,c.eH,c.quo,c.pe,c.iy,c.win,c.bH,c.dec,v1.at,?_⟩;refine yy q λg o d j _=>⟨_,rfl,?_⟩;have e:=A g (f.trans j);have el:=iP d.elems;generalize mem c.vals.len c.aQ slot=l at*;refine ID (λk=>gB d.elems (aip 0) ω λx a=>?_) λk=>?_
 ·cases l with
  |nil=>cases a
  |cons y p=>
   injection a with a;subst a;exact e
 ·have:l=[]:=ajf ω;subst this;exact e
theorem Gv{slot:Int}{bits:Sl}{row:List Bool}(G:c.vals.len<900)(e:aj 1 h bits (aY row))
 (A:∀a,Ext h a->(mem c.vals.len c.aQ slot=[]\/row.length≠(mem c.vals.len c.aQ slot).length)->R (aiC [.slice Sl.nil,.bool false]).val a)
 (H:∀a w,Vc.Own 3 1 a w (ints (pk (mem c.vals.len c.aQ slot) row))->Ext h a->mem c.vals.len c.aQ slot≠[]->row.length=(mem c.vals.len c.aQ slot).length->R (aiC [.slice w,.bool true]).val a):
 Cl 233 [c.tv,.i slot,.slice bits] h R:=by
 apply Gu c.vals c.ep c.aQ c.no c.eV c.eH c.quo c.pe c.iy c.win c.bH c.dec slot bits;delta jr dD eW uQ bK aT;refine aa λZ v1 I s1=>?_;refine⟨c.vals,c.ep,c.aQ,c.no,c.eV,c.eH,c.quo,c.pe,c.iy,c.win,c.bH,c.dec,v1.at,?_⟩;refine yy G λk m y x2 _=>⟨_,rfl,?_⟩;have o:=I.trans x2;have el:=iP y.elems;have ml:=sK c.vals.len c.aQ slot;generalize mem c.vals.len c.aQ slot=l at*;have bl:=by have:=e.len;rwa [aim]at this
 intro J K;refine ID (λL=>A k o (.inl (ajf ω))) λL=>aiD (λz=>?_) λz=>?_
 ·refine A k o (.inr λq=>?_);simp_all
 ·have ab:bits.len=m.len:=by
   have:((bits.len:Nat):Int)=((m.len:Nat):Int):=by simpa using z
   omega
  refine K _ _ ?_
  refine⟨λσ B=>0<=σ.2/\σ.2<=m.len/\Vc.Own 3 1 B σ.1 (ints (pk (l.take σ.2.toNat) (row.take σ.2.toNat)))/\(∀p,σ.1.a=some p->k.size<=p.b)/\Ext k B/\σ.1.len<=σ.2.toNat,λσ _=>((m.len:Int)-σ.2).toNat,
   ⟨aip 0,Ω,Vc.Own.nil _ _ _,(λp g=>by cases g),ai0 _,aiW _⟩,?_⟩
  rintro⟨t,i⟩ M ⟨s,N,d,r,f,O⟩;dsimp only at s N d r O⊢;refine ID (λP=>?_) λP=>?_
  ·refine gB (y.elems.ext f) s ω λx q=>kD ((e.ext o).ext f) s ω λb Q=>?_;have D:(i+1).toNat=i.toNat+1:=ω;have u:=OD (l.take i.toNat) (row.take i.toNat) x b (by rw[aiP,aiP];omega);rw[<-aU q,<-aU Q]at u;rw[wrap_i64 (n:=i+1) ω ω];have z3:=f.size;cases b with
   |false=>
    refine aix ⟨⟨Ω,Ω,?_,r,f,Ω⟩,Ω⟩
    try dsimp only
    rw[D,u];simpa using d
   |true=>
    have S:=d.len;rw[aim]at S;refine aiA (cD (C:=ctx) (T:=3) (sz:=1) (x:=.i x) MR Gs (by rw[sG];decide) (by rw[sG];omega) d rfl rfl λs4 h4 v f4 b4=>?_);have U:=v.len;rw[ain,aim,aiJ]at U;refine⟨⟨Ω,Ω,?_,λp g=>?_,?_,Ω⟩,Ω⟩
    ·try dsimp only
     rw[D,u];simp only[ints,if_true,aiQ,aiU,ajl]at v⊢;exact v
    ·rcases b4 p g with⟨V,E,W⟩|E
     ·rw[<-W];exact r V E
     ·omega
    ·refine ail f f4 λj⟨p,g,X⟩=>?_;rw[<-X];exact r p g
  ·have Y:i.toNat=l.length:=ω;have F:row.length=l.length:=ω;rw[Y,ajd,<-F,ajd]at d;exact H M t d (o.trans f) (λq=>by subst q;simp at el;omega) F
theorem E_{s:Sl}{l:List Vd}{i:Int}(e:aj 2 h s (jx l))(q:0<=i)(B:i<l.length){K:Int->LU->Prop}(A:∀x,l[i.toNat]? =some x->K x.cF x.key):
 0<=i/\i<(s.len:Int)/\Nn s.a λ(p:Vc.Loc)=>∃(n:Int),∃(k:LU),(ah h p.b (p.o+i.toNat*2) (.i n)/\ah h p.b (p.o+i.toNat*2+1) (.string (aiY k.toArray)))/\K n k:=by
 have b:=e.len;rw[aim]at b;refine e.read q ω λp t f a c=>?_;rw[aiK]at a;obtain⟨x,d,rfl⟩:=aiS.1 a;exact⟨x.cF,x.key,c,A x d⟩
theorem J_{L:List Vd}(e:aj 2 h c.vals (jx L))(q:∀a,Ext h a->R (aiv true).val a)(A:∀a,Ext h a->c.vals.len<=100->R (aiv false).val a):Cl 18 [c.tv] h R:=by
 apply wN c.vals c.ep c.aQ c.no c.eV c.eH c.quo c.pe c.iy c.win c.bH c.dec;delta fH jM mq fE dz bK lq;refine aa λj v1 d u=>⟨c.vals,v1.ah rfl,ID (λk=>q j d) λk=>⟨c.vals,v1.ah rfl,?_⟩⟩;have el:=by have:=e.len;rwa [aim]at this
 refine⟨λσ l=>0<=σ.2/\σ.2<=c.vals.len/\Ext h l,λσ _=>(c.vals.len-σ.2).toNat,⟨aip 0,ω,d⟩,?_⟩;rintro⟨f,i⟩ m ⟨n,v,b⟩;refine ID (λg=>?_) λg=>A m b ω;refine E_ (e.ext b) n ω λx w=>aa λy o p z=>aH o rfl λr v4 s B=>?_;have t:=b.trans (ail p s λi g=>ω);refine⟨x.key,v4.ah rfl,ID (λ_=>q r t) λ_=>?_⟩
 grind [wrap_i64]
theorem acz{s:Sl}{L:List Vd}(e:aj 2 h s (jx L))(A:s.len<100000)(q:∀f n b,Ext h f->R (aiC [.i n,.bool b]).val f):Cl 163 [.slice s] h R:=by
 apply wO;delta Hs dz bK bA;have el:=by have:=e.len;rwa [aim]at this
 refine⟨λσ k=>0<=σ.2.2.2/\σ.2.2.2<=s.len/\Ext h k,λσ _=>(s.len-σ.2.2.2).toNat,⟨aip 0,by simp_all,ai0 _⟩,?_⟩;rintro⟨t,u,v,i⟩ l ⟨g,m,d⟩;dsimp only at g m⊢;refine ID (λj=>?_) λj=>q l _ _ d;refine E_ (e.ext d) g ω λx w=>aa λy o p z=>aH o rfl λa v4 r B=>?_;have c:=d.trans (ail p r λi j=>ω);refine⟨x.cF,v4.ah rfl,ID (λ_=>q a _ _ c) λ_=>⟨x.key,v4.ah rfl,ID (λ_=>q a _ _ c) λ_=>⟨x.key,v4.ah rfl,ID (λ_=>q a _ _ c) λ_=>⟨x.cF,v4.ah rfl,ID (λ_=>q a _ _ c) λ_=>?_⟩⟩⟩⟩
 grind [wrap_i64]
def eA(c:Cf):List Int:=[c.ep,32,c.aQ,mn 16 (c.vals.len:Int),c.no,256,c.eV,64,c.eH,64,c.quo,64,c.pe,16,c.iy,256,c.win,64,c.bH,1048576,c.dec,1048576,(c.vals.len:Int),64]
theorem Fa(q:∀a s,aj 1 a s (ints (eA c))->Ext h a->R (aiO s).val a):Cl 162 [c.tv] h R:=by
 apply tS c.vals c.ep c.aQ c.no c.eV c.eH c.quo c.pe c.iy c.win c.bH c.dec;refine aa λb v1 d f=>?_;refine⟨c.ep,v1.ah rfl,c.aQ,v1.ah rfl,c.vals,v1.ah rfl,c.no,v1.ah rfl,c.eV,v1.ah rfl,c.eH,v1.ah rfl,c.quo,v1.ah rfl,c.pe,v1.ah rfl,c.iy,v1.ah rfl,c.win,v1.ah rfl,c.bH,v1.ah rfl,c.dec,v1.ah rfl,c.vals,v1.ah rfl,?_⟩
 have o:=Vc.Own.new (T:=3) b (ints (eA c)) (λt e=>by
  obtain⟨x,_,rfl⟩:=aiZ.1 e;rfl)
 exact q _ _ o.elems (d.trans (aiw _ _))
structure Gw(c:Cf):Prop where
 agR:1<=c.aQ
 agS:c.aQ<=c.vals.len
 agT:c.aQ<=16
 len:c.vals.len<=64
end
end Board
namespace Gate
open Board (Vd Cf yo)
def tH(n most:Int):Bool:=decide (1<=n)&&decide (n<=most)
def Q8(v:Vd):Bool:=decide (0<=v.cF)&&decide (v.cF<4611686018427387904)&&tH v.key.length 32
def pV:List Vd->Int->Option Int
 |[],s=>some s
 |v::L,s=>if Q8 v=true/\s+v.cF<4611686018427387904 then pV L (s+v.cF)else none
def uz(c:Cf)(L:List Vd):Bool:=
 (pV L 0).isSome&&tH L.length 64&&(tH c.ep 32&&tH c.aQ (min 16 L.length)&&tH c.no 256&&tH c.eV 64&&tH c.eH 64&&tH c.quo 64&&tH c.pe 16&&tH c.iy 256&&tH c.win 64&&tH c.bH 1048576&&tH c.dec 1048576)
theorem ace{n m:Int}:tH n m=true↔1<=n/\n<=m:=by simp[tH]
structure Can(c:Cf)(L:List Vd):Prop where
 tot:∃s,pV L 0=some s
 len:1<=L.length/\L.length<=64
 ep:1<=c.ep/\c.ep<=32
 aQ:1<=c.aQ/\c.aQ<=16/\c.aQ<=L.length
 no:1<=c.no/\c.no<=256
 eV:1<=c.eV/\c.eV<=64
 eH:1<=c.eH/\c.eH<=64
 quo:1<=c.quo/\c.quo<=64
 pe:1<=c.pe/\c.pe<=16
 iy:1<=c.iy/\c.iy<=256
 win:1<=c.win/\c.win<=64
 bH:1<=c.bH/\c.bH<=1048576
 dec:1<=c.dec/\c.dec<=1048576
theorem mR{c:Cf}{L:List Vd}:uz c L=true↔Can c L:=by
 unfold uz;simp only[ajb,ace,Option.isSome_iff_exists];constructor
 ·rintro⟨⟨a,m⟩,⟨⟨⟨⟨⟨⟨⟨⟨⟨⟨b,n⟩,d⟩,e⟩,f⟩,g⟩,h⟩,i⟩,j⟩,k⟩,l⟩⟩;exact⟨a,ω,b,ω,d,e,f,g,h,i,j,k,l⟩
 ·rintro⟨a,m,b,n,d,e,f,g,h,i,j,k,l⟩;exact⟨⟨a,ω,ω⟩,⟨⟨⟨⟨⟨⟨⟨⟨⟨⟨b,ω,ω⟩,d⟩,e⟩,f⟩,g⟩,h⟩,i⟩,j⟩,k⟩,l⟩⟩
theorem OE:∀{L:List Vd}{s t:Int},0<=s->s<4611686018427387904->pV L s=some t->(∀v∈L,Q8 v=true)/\t=s+(L.map Vd.cF).sum/\t<4611686018427387904
 |[],s,t,f,q,h=>by cases h;exact⟨λv A=>(by cases A),by simp,q⟩
 |v::L,s,t,f,q,h=>by
  unfold pV at h;split at h
  ·rename_i d;have A:0<=v.cF:=by have:=d.1;simp only[Q8,ajb,decide_eq_true_eq]at this;exact this.1.1
   obtain⟨a,b,c⟩:=OE ω d.2 h;refine⟨λx e=>?_,by rw[b];simp;omega,c⟩;rcases aji.1 e with rfl|e
   ·exact d.1
   ·exact a x e
  ·cases h
def yA:LU:=(aiY #[(116:UInt8),(111:UInt8),(108:UInt8),(108:UInt8),(101:UInt8),(114:UInt8)]).data.toList
def WJ(n:Int):LU:=yo (aih .u64 n) 4
def qF(v:Vd):LU:=(yo (aih .u64 v.cF) 8++yo (aih .u64 (v.key.length:Int)) 1)++v.key
def kH(c:Cf)(n:Nat):List Int:=[c.ep,c.aQ,c.no,c.eV,c.eH,c.quo,c.pe,c.iy,c.win,c.bH,c.dec,(n:Int)]
def qG(c:Cf)(L:List Vd):LU:=(kH c L.length).flatMap WJ++L.flatMap qF
def wP(c:Cf)(L:List Vd):Bs 32:=Board.mz (yA++qG c L)
end Gate
namespace Board
structure Vt where
 who:Int
 slot:Int
 target:Bs 32
def Vt.tv(v:Vt):TV:=.agg [.i v.who,.i v.slot,.bytes 32 v.target]
abbrev Et(l:List Vt):List TV:=l.map Vt.tv
end Board
namespace Gate
open Pool (zH)
open Board (Vt)
structure Tb where
 slots:Int
 bE:List (Option Vt)
 out:List Bool
 first:List ((Int×Int)×Bs 32)
structure wQ(t:Tb)(n:Nat):Prop where
 slots:1<=t.slots/\t.slots<=32
 nn:1<=n/\n<=64
 Ac:t.bE.length=n
 uN:t.out.length=n
 Tw:∀(i:Nat)(v:Vt),t.bE[i]? =some (some v)->v.who=i/\0<=v.slot/\v.slot<=1073741824
 one:(nC t.first).Nodup
 fst:∀e∈t.first,0<=e.1.1/\e.1.1<n/\0<=e.1.2/\e.1.2<=1073741824
def iQ(n:Nat)(q:Int):Tb:=⟨q,aiy n none,aiy n false,[]⟩
theorem Q9{n:Nat}{q:Int}(h:1<=q/\q<=32)(A:1<=n/\n<=64):wQ (iQ n q) n:=
 ⟨h,A,by simp[iQ],by simp[iQ],λi v a=>by
   have:=List.mem_of_getElem? a;simp[iQ,List.mem_replicate]at this,List.nodup_nil,λe b=>by cases b⟩
def eB(t:Tb)(who:Int):Option Vt:=if 0<=who then(t.bE.getD who.toNat none)else none
def uA(t:Tb)(who:Int):Bool:=t.out.getD who.toNat false
def aP(t:Tb)(slot:Int):Int:=aiM slot t.slots
def c_(t:Tb)(v:Vt):Int×Tb:=
 if¬(0<=v.who/\v.who<t.bE.length/\0<=v.slot/\v.slot<=1073741824)then(5,t)
 else if uA t v.who=true then(4,t)
 else match lG (v.who,aP t v.slot) t.first with
  |some r=>if r=v.target then(1,t)else(2,{t with out:=t.out.set v.who.toNat true})
  |none=>match eB t v.who with
   |some l=>if aP t v.slot<aP t l.slot then(3,{t with first:=t.first++[((v.who,aP t v.slot),v.target)]})
    else(0,{t with bE:=t.bE.set v.who.toNat (some v),first:=t.first++[((v.who,aP t v.slot),v.target)]})
   |none=>(0,{t with bE:=t.bE.set v.who.toNat (some v),first:=t.first++[((v.who,aP t v.slot),v.target)]})
def dW(t:Tb)(slot:Int):Tb:=if slot<0 then t else{t with first:=t.first.filter λe=>decide (aP t slot<=e.1.2)}
theorem sL{t:Tb}{n:Nat}(o:wQ t n){s:Int}(q:0<=s)(A:s<=1073741824):0<=aP t s/\aP t s<=1073741824:=by
 unfold aP;have:=o.slots;rw[Int.tdiv_eq_ediv_of_nonneg q];exact⟨Int.ediv_nonneg q ω,Int.le_trans (Int.ediv_le_self _ q) A⟩
theorem wQ.forget{t:Tb}{n:Nat}(o:wQ t n)(slot:Int):wQ (dW t slot) n:=by
 unfold dW;split
 ·exact o
 ·exact⟨o.slots,o.nn,o.Ac,o.uN,o.Tw,o.one.sublist (List.filter_sublist.map _),λe a=>o.fst e (List.mem_filter.1 a).1⟩
theorem yB{t:Tb}{n:Nat}(o:wQ t n){k:Int×Int}{r:Bs 32}(q:lG k t.first=none):(nC (t.first++[(k,r)])).Nodup:=by
 have:=CA.1 q;unfold nC at this⊢;rw[aiQ,List.nodup_append];refine⟨o.one,by simp,λa c b d=>?_⟩;have:b=k:=by simpa using d
 rw[this];rintro rfl;exact(CA.1 q) c
theorem wQ.take{t:Tb}{n:Nat}(o:wQ t n)(v:Vt):wQ (c_ t v).2 n:=by
 unfold c_;split
 ·exact o
 ·rename_i h;have h:=Decidable.not_not.1 h;have f:=o.Ac;have d:=sL o h.2.2.1 h.2.2.2
  have more:∀e∈t.first++[((v.who,aP t v.slot),v.target)],0<=e.1.1/\e.1.1<n/\0<=e.1.2/\e.1.2<=1073741824:=λe b=>by
   rcases List.mem_append.1 b with b|b
   ·exact o.fst e b
   ·rw[List.mem_singleton.1 b];exact⟨h.1,by simp only;omega,d⟩
  have Tw:∀(i:Nat)(x:Vt),(t.bE.set v.who.toNat (some v))[i]? =some (some x)->x.who=i/\0<=x.slot/\x.slot<=1073741824:=λi x a=>by
   rw[List.getElem?_set]at a;split at a
   ·rename_i g;split at a
    ·cases a;exact⟨ω,h.2.2⟩
    ·cases a
   ·exact o.Tw i x a
  split
  ·exact o
  ·split
   ·split
    ·exact o
    ·exact⟨o.slots,o.nn,o.Ac,by simp[o.uN],o.Tw,o.one,o.fst⟩
   ·rename_i c;split
    ·split
     ·exact⟨o.slots,o.nn,o.Ac,o.uN,o.Tw,yB o c,more⟩
     ·exact⟨o.slots,o.nn,by simp[o.Ac],o.uN,Tw,yB o c,more⟩
    ·exact⟨o.slots,o.nn,by simp[o.Ac],o.uN,Tw,yB o c,more⟩
def jh(st:List Int)(i:Nat):Int:=st.getD i 0
def aK(t:Tb)(st:List Int)(i:Nat)(r:Bs 32):Int:=
 if t.out.getD i false=true then 0 else match t.bE.getD i none with
  |some v=>if v.target=r then jh st i else 0
  |none=>0
def pW(t:Tb)(st:List Int)(r:Bs 32):Int:=((aiR st.length).map λi=>aK t st i r).sum
structure wR(st:List Int):Prop where
 pos:∀x∈st,0<=x
 sum:st.sum<4611686018427387904
theorem D4{st:List Int}(o:wR st)(i:Nat):0<=jh st i:=by
 unfold jh;rw[aiq];cases h:st[i]? with
 |none=>simp
 |some x=>exact o.pos x (List.mem_of_getElem? h)
theorem lJ{t:Tb}{st:List Int}(o:wR st)(i:Nat)(r:Bs 32):0<=aK t st i r:=by
 have:=D4 o i;unfold aK;split
 ·omega
 ·split
  ·split<;>omega
  ·omega
theorem aec{l:List Nat}{f g:Nat->Int}(h:∀x∈l,f x<=g x):(l.map f).sum<=(l.map g).sum:=by
 induction l with
 |nil=>simp
 |cons x l a=>
  simp only[aiU,ai3];have:=h x (List.mem_cons_self ..);have:=a λy b=>h y (List.mem_cons_of_mem _ b);omega
theorem Vp{α:Type}{l:List α}{f:α->Int}(h:∀x∈l,0<=f x):0<=(l.map f).sum:=by
 induction l with
 |nil=>simp
 |cons x l a=>
  simp only[aiU,ai3];have:=h x (List.mem_cons_self ..);have:=a λy b=>h y (List.mem_cons_of_mem _ b);omega
theorem Q_{t:Tb}{st:List Int}(o:wR st)(r:Bs 32):0<=pW t st r:=Vp λi _=>lJ o i r
theorem ZK(st:List Int):((aiR st.length).map (jh st)).sum=st.sum:=by
 have:(aiR st.length).map (jh st)=st:=by
  apply ai7
  ·simp
  ·intro i b a;simp[jh,aiH a]
 rw[this]
theorem ZL{α:Type}(l:List α)(m:List Nat)(f:α->Nat->Int):(l.map λx=>(m.map (f x)).sum).sum=(m.map λi=>(l.map λx=>f x i).sum).sum:=by
 induction l with
 |nil=>simp[pP]
 |cons x l a=>
  simp only[aiU,ai3,a];rw[<-uk]
theorem J'{t:Tb}{st:List Int}(o:wR st)(i:Nat):∀{q:List (Bs 32)},q.Nodup->(q.map λr=>aK t st i r).sum<=jh st i
 |[],_=>D4 o i
 |r::q,f=>by
  obtain⟨A,B⟩:=List.nodup_cons.1 f;have m:=J' (t:=t) o i B;simp only[aiU,ai3];by_cases a:aK t st i r=0
  ·rw[a];omega
  ·have c:(t.bE.getD i none).map (·.target)=some r/\aK t st i r=jh st i:=by
    unfold aK at a⊢;split at a
    ·exact absurd rfl a
    ·rename_i g;rw[if_neg g];cases b:t.bE.getD i none with
     |none=>rw[b]at a;exact absurd rfl a
     |some v=>
      rw[b]at a;simp only at a⊢;by_cases d:v.target=r
      ·rw[if_pos d];exact⟨by simp[d],rfl⟩
      ·rw[if_neg d]at a;exact absurd rfl a
   have h:∀x∈q,aK t st i x=0:=λx j=>by
    have k:x≠r:=λe=>A (by rw[<-e];exact j);cases b:t.bE.getD i none with
    |none=>rw[b]at c;cases c.1
    |some v=>
     rw[b]at c;have d:v.target=r:=by simpa using c.1
     have l:¬v.target=x:=λe=>k (by rw[<-e,d]);unfold aK;rw[b];simp only[l,if_false,ite_self]
   rw[pP h,c.2];omega
theorem Vq{t:Tb}{st:List Int}(o:wR st){q:List (Bs 32)}(A:q.Nodup):(q.map λr=>pW t st r).sum<=st.sum:=by
 unfold pW;rw[ZL,<-ZK st];exact aec λi _=>J' o i A
end Gate
namespace Gate
open Board (Vd Cf)
open Pool (It)
structure St where
 N:List Nd
 tb:Tb
 kids:List It
 wait:List It
 sc:List (Int×Int)
 gone:Int
 now:Int
 left:Int
def aL(V:List Vd):List Int:=V.map Vd.cF
def bZ(st:List Int)(t:Tb)(N:List Nd)(i:Nat):Int:=((N[i]?).map λx=>pW t st x.root).getD 0
theorem ZM(n:Nat)(q:Int)(st:List Int)(r:Bs 32):pW (iQ n q) st r=0:=by
 unfold pW
 have:∀i,aK (iQ n q) st i r=0:=λi=>by
  unfold aK iQ;simp only[aiq,List.getElem?_replicate];by_cases a:i<n
  ·simp[a]
  ·simp[a]
 simp only[this];generalize aiR st.length=l
 induction l with
 |nil=>rfl
 |cons x c b=>rw[aiU,ai3,b];rfl
theorem WK(n:Nat)(q:Int)(st:List Int)(N:List Nd):bZ st (iQ n q) N=λ_=>0:=by
 funext i;unfold bZ;cases N[i]? with
 |none=>rfl
 |some x=>exact ZM n q st x.root
def iq(c:Cf)(V:List Vd):St:=⟨[⟨wP c V,0,-1⟩],iQ V.length c.ep,[],[],[],0,0,0⟩
theorem wS{c:Cf}{V:List Vd}(k:Can c V):∀v∈V,1<=v.key.length/\v.key.length<=32:=λv a=>by
 obtain⟨s,b⟩:=k.tot;have:=(OE (aip 0) δ b).1 v a;unfold Q8 tH at this;simp only[ajb,decide_eq_true_eq]at this;omega
theorem Ka{c:Cf}{V:List Vd}(k:Can c V):wR (aL V):=by
 obtain⟨s,a⟩:=k.tot;obtain⟨b,f,g⟩:=OE (aip 0) δ a;refine⟨λx d=>?_,by unfold aL;omega⟩;obtain⟨v,e,rfl⟩:=aiZ.1 d;have:=b v e;unfold Q8 at this;simp only[ajb,decide_eq_true_eq]at this;exact this.1.1
end Gate
namespace Gate
open Pool (zH)
open Board (Vt)
theorem acf(v:Vt):v.tv.size=34:=by rfl
def ji:Vt:=⟨0,0,aiE 32⟩
abbrev kM(k:Int×Int):TV:=.agg [.i k.1,.i k.2]
abbrev afJ:TypeDesc:=TypeDesc.struct #[Field.mk "who" 3 0 false "" "toller/table" 0,Field.mk "epoch" 3 1 false "" "toller/table" 8]
theorem afK:(ctx.ti 3).d=some (.int .i64):=κ
theorem Vr:Emb ctx afJ kM:=⟨λa b=>by
 simp only[jR,AZ,Bool.and_true]
 grind,λa=>by simp[dB,cz,afK,isInt]⟩
def ZN(h:af):Option Nat->Option Vt->Prop
 |none,none=>True
 |some q,some v=>Var 124 h q v.tv
 |_,_=>False
inductive BJ(h:af):List (Option Nat)->List (Option Vt)->Prop
 |nil:BJ h [] []
 |cons {p v ps vs}:ZN h p v->BJ h ps vs->BJ h (p::ps) (v::vs)
theorem BJ.len{h:af}{ps:List (Option Nat)}{vs:List (Option Vt)}(a:BJ h ps vs):ps.length=vs.length:=by
 induction a with
 |nil=>rfl
 |cons _ _ b=>grind
theorem BJ.get{h:af}{ps:List (Option Nat)}{vs:List (Option Vt)}(a:BJ h ps vs):∀{i:Nat}{v:Option Vt},vs[i]? =some v->∃p,ps[i]? =some p/\ZN h p v:=by
 induction a with
 |nil=>simp_all
 |cons b _ c=>
  grind
theorem BJ.set{h:af}{ps:List (Option Nat)}{vs:List (Option Vt)}(a:BJ h ps vs){p:Option Nat}{v:Option Vt}(q:ZN h p v):∀i:Nat,BJ h (ps.set i p) (vs.set i v):=by
 induction a with
 |nil=>intro i;exact .nil
 |cons b a c=>
  intro i;cases i with
  |zero=>exact .cons q a
  |succ i=>exact .cons b (c i)
theorem ZN.only{S:Nat->Prop}{h h':af}(f:ag S h h'){p:Option Nat}{v:Option Vt}(A:∀q,p=some q->¬S q)(a:ZN h p v):ZN h' p v:=by
 cases p with
 |none=>cases v with
  |none=>trivial
  |some v=>exact a
 |some q=>cases v with
  |none=>exact a
  |some v=>exact Var.only a f (A q rfl)
theorem BJ.only{S:Nat->Prop}{h h':af}(f:ag S h h'){ps:List (Option Nat)}{vs:List (Option Vt)}(a:BJ h ps vs):(∀q,some q∈ps->¬S q)->BJ h' ps vs:=by
 induction a with
 |nil=>intro _;exact .nil
 |cons d a e=>intro b;exact .cons (d.only f λq c=>b q (by grind)) (e λq c=>b q (List.mem_cons_of_mem _ c))
theorem BJ.lt{h:af}{ps:List (Option Nat)}{vs:List (Option Vt)}(a:BJ h ps vs):∀q,some q∈ps->q<h.size:=by
 induction a with
 |nil=>simp_all
 |@cons p v ps vs c a d=>
  intro q b;rcases aji.1 b with b|b
  ·subst b;cases v<;>grind [absurd,Var.lt,ZN]
  simp_all
abbrev ZO(ps:List (Option Nat)):List TV:=ps.map λp=>aiN (p.map λq=>⟨q,0⟩)
abbrev WM(l:List Bool):List TV:=l.map aiv
section
variable{R:Rq}{h h':af}{b r n:Nat}{La Ou:Sl}{ps:List (Option Nat)}{t:Tb}
structure Kb(h:af)(b r:Nat)(La Ou:Sl)(ps:List (Option Nat))(t:Tb)(n:Nat):Prop where
 var:Var 202 h b (.agg [.i t.slots,.slice La,.slice Ou,.map (some r)])
 la:Vc.Own 198 1 h La (ZO ps)
 vs:BJ h ps t.bE
 ou:Vc.Own 4 1 h Ou (WM t.out)
 map:mj kM kR h r t.first
 ok:wQ t n
 nla:¬In La b/\¬In La r
 nou:¬In Ou b/\¬In Ou r
 lo:∀i,In La i->¬In Ou i
 nv:∀q,some q∈ps->q≠b/\q≠r/\¬In La q/\¬In Ou q
def uY(b r:Nat)(La Ou:Sl)(ps:List (Option Nat))(i:Nat):Prop:=i=b\/i=r\/In La i\/In Ou i\/some i∈ps
theorem Kb.only{S:Nat->Prop}(p:Kb h b r La Ou ps t n)(f:ag S h h')(A:∀i,uY b r La Ou ps i->¬S i):Kb h' b r La Ou ps t n:=
 ⟨p.var.only f (A b (.inl rfl)),p.la.keep f λi a=>A i (.inr (.inr (.inl a))),p.vs.only f λq c=>A q (.inr (.inr (.inr (.inr c)))),p.ou.keep f λi a=>A i (.inr (.inr (.inr (.inl a)))),
  p.map.only f (A r (.inr (.inl rfl))),p.ok,p.nla,p.nou,p.lo,p.nv⟩
theorem Kb.ext(p:Kb h b r La Ou ps t n)(x:Ext h h'):Kb h' b r La Ou ps t n:=p.only (S:=λ_=>False) (.an x) λ_ _ a=>a
theorem Kb.lt(p:Kb h b r La Ou ps t n){i:Nat}(q:uY b r La Ou ps i):i<h.size:=by
 rcases q with rfl|rfl|q|q|q
 ·exact p.var.lt
 ·exact p.map.lt
 ·exact p.la.g_ i q
 ·exact p.ou.g_ i q
 ·exact p.vs.lt i q
theorem Kb.ll(p:Kb h b r La Ou ps t n):La.len=n:=by have:=p.la.len;rw[aim,p.vs.len,p.ok.Ac]at this;omega
def Ra(n:Nat)(who:Int):Bool:=decide (0<=who/\who<n)
theorem OF(p:Kb h b r La Ou ps t n){who:Int}(q:R (aiv (Ra n who)).val h):Cl 135 [.ptr (PT b),.i who] h R:=by
 apply BI;have l:=p.ll;refine aiA (ID (λa=>⟨La,p.var.ah rfl,?_⟩) λa=>?_)
 ·rw[show Ra n who=decide (who<La.len)from decide_eq_decide.2 ⟨λh=>ω,λh=>ω⟩]at q;exact q
 simp_all [decide_eq_false,Ra]
def kI(t:Tb)(who:Int):Vt×Bool:=match eB t who with
 |some v=>(v,true)
 |none=>(ji,false)
theorem Vs{T:TypeId}{b:Nat}{x:Vt}(v:Var T h b x.tv){K:Int->Int->Bs 32->Prop}(q:K x.who x.slot x.target):
 ∃(n m:Int),∃(k:Bs 32),(ah h b 0 (.i n)/\ah h b 1 (.i m)/\av h b 2 32 k)/\K n m k:=⟨_,_,_,v.at,q⟩
theorem Tx{A:Sl}(o:Vc.Own 198 1 h A (ZO ps)){i:Int}(E:0<=i){p:Option Nat}(B:ps[i.toNat]? =some p){K:OL->Prop}(G:K (p.map λq=>⟨q,0⟩)):
 0<=i/\i<(A.len:Int)/\Nn A.a λl=>∃q:OL,ah h l.b (l.o+i.toNat*1) (Value.pointer (Option.map Loc.addr q))/\K q:=by
 have b:=o.len;have:=(ai8.1 B).1;rw[aim]at b;refine o.elems.read E ω λl t _ a c=>?_;rw[aiK,B]at a;cases a;exact⟨_,c,G⟩
theorem Vu{A:Sl}{l:List Bool}(o:Vc.Own 4 1 h A (WM l)){i:Int}(B:0<=i){v:Bool}(q:l[i.toNat]? =some v){K:Bool->Prop}(E:K v):
 0<=i/\i<(A.len:Int)/\Nn A.a λp=>∃c:Bool,ah h p.b (p.o+i.toNat*1) (Value.bool c)/\K c:=by
 have b:=o.len;have:=(ai8.1 q).1;rw[aim]at b;refine o.elems.read B ω λp t _ a d=>?_;rw[aiK,q]at a;cases a;exact⟨v,d,E⟩
theorem Rb{g:af}{q:Nat}(x:Ext h g)(v:Var 124 g q ji.tv)(E:h.size<=q)(B:∀h',Ext h h'->R (aiC [ji.tv,.bool false]).val h'):
 gT g q 0 34/\Bind (TV.put g q 0 ji.tv) λA=>∃(n m:Int),∃(k:Bs 32),(ah A q 0 (.i n)/\ah A q 1 (.i m)/\av A q 2 32 k)/\R (TV.val (.bg [.agg [.i n,.i m,.bytes 32 k],.bool false])) A:=
 aH v (t:=ji.tv) rfl λa b f2 _=>Vs b (B a (ail x f2 λi c=>ω))
theorem Gx{i:Int}(o:wQ t n)(q:0<=i)(A:i<n):∃v,t.bE[i.toNat]? =some v/\eB t i=v:=by
 have a:=o.Ac;have:t.bE[i.toNat]? =some (t.bE[i.toNat]'ω):=aiH ω;refine⟨_,this,?_⟩;unfold eB;rw[if_pos q,aiq,this];rfl
theorem Kc{i:Int}(o:wQ t n)(h:¬(0<=i/\i<n)):eB t i=none:=by
 have a:=o.Ac;unfold eB;split
 ·rw[aiq,List.getElem?_eq_none ω];rfl
 ·rfl
theorem CD(p:Kb h b r La Ou ps t n){who:Int}(A:∀h',Ext h h'->R (aiC [(kI t who).1.tv,.bool (kI t who).2]).val h'):Cl 70 [.ptr (PT b),.i who] h R:=by
 apply yC;refine aa λm v1 a o=>OF (p.ext a) ⟨_,rfl,aiD (λe=>?_) λc=>?_⟩
 ·have e:=of_decide_eq_false (show Ra n who=false by simp_all);unfold kI at A;rw[Kc p.ok e]at A;exact Rb a v1 (aiu _) A
 ·have c:=of_decide_eq_true (show Ra n who=true by simp_all);obtain⟨v,g,j⟩:=Gx p.ok c.1 c.2;obtain⟨q,f,d⟩:=(p.ext a).vs.get g;unfold kI at A;rw[j]at A;refine⟨La,(p.var.ext a).ah rfl,Tx (p.ext a).la c.1 f ?_⟩;cases q with
  |none=>
   cases v with
   |some v=>exact absurd d (by simp[ZN])
   |none=>exact aiA (Rb a v1 (aiu _) A)
  |some q=>
   cases v with
   |none=>exact absurd d (by simp[ZN])
   |some v=>
    have d:=d;refine aix ⟨La,(p.var.ext a).ah rfl,Tx (p.ext a).la c.1 f (Vs d (aH v1 rfl λk l f2 _=>Vs l ?_))⟩;exact A k (ail a f2 λi s=>ω)
def uB(t:Tb)(n:Nat)(who:Int):Bool:=Ra n who&&!uA t who
theorem OG{i:Int}(o:wQ t n)(q:0<=i)(A:i<n):t.out[i.toNat]? =some (uA t i):=by
 have a:=o.uN;unfold uA;rw[aiq,aiH ω];rfl
theorem HA(p:Kb h b r La Ou ps t n){who:Int}(q:R (aiv (uB t n who)).val h):Cl 71 [.ptr (PT b),.i who] h R:=by
 apply uX;unfold uB at q;refine OF p ⟨_,rfl,aiD (λa=>?_) λc=>?_⟩
 ·rw[a]at q;have a:=of_decide_eq_true (show Ra n who=true by omega);exact⟨Ou,p.var.ah rfl,Vu p.ou a.1 (OG p.ok a.1 a.2) q⟩
 simp_all
theorem Ty(p:Kb h b r La Ou ps t n)(q:R (TV.i (t.first.length:Int)).val h):Cl 86 [.ptr (PT b)] h R:=by
 apply wT;exact aix ⟨some r,p.var.ah rfl,p.map.len (P:=λm=>R (TV.i m).val h) q⟩
end
end Gate
namespace Gate
open Pool (zH)
open Board (Vt)
section
variable{R:Rq}{h h':af}{b r n:Nat}{La Ou:Sl}{ps:List (Option Nat)}{t:Tb}
theorem Vv{T:TypeId}{b:Nat}{k:Int×Int}(v:Var T h b (kM k)){K:Int->Int->Prop}(q:K k.1 k.2):∃(n m:Int),(ah h b 0 (.i n)/\ah h b 1 (.i m))/\K n m:=⟨_,_,v.at,q⟩
theorem Kb.marked(p:Kb h b r La Ou ps t n){A:af}{L':List ((Int×Int)×Bs 32)}(m:mj kM kR A r L')(f:ag (·=r) h A)(o:wQ {t with first:=L'} n):Kb A b r La Ou ps {t with first:=L'} n:=
 ⟨p.var.only f λe=>(p.map.ne p.var) e,p.la.keep f λ_ a e=>p.nla.2 (e▸a),p.vs.only f λq c e=>(p.nv q c).2.1 e,p.ou.keep f λ_ a e=>p.nou.2 (e▸a),m,o,p.nla,p.nou,p.lo,p.nv⟩
theorem Tz(p:Kb h b r La Ou ps t n){v:Vt}
 (A:∀h' X,Kb h' b r La Ou X (c_ t v).2 n->Step (uY b r La Ou ps) h (uY b r La Ou X) h'->R (TV.i (c_ t v).1).val h'):
 Cl 172 [.ptr (PT b),v.tv] h R:=by
 apply yD (PT b) v.who v.slot v.target;delta kU uu aJ aD cQ QE dx cu EV fW bz dX aN eU bJ aT bA fD;have hs:=p.ok.slots;have H:=p.ok.take v;refine aa λf v1 B s1=>?_;have v1:=v1;have w:=p.ext B;intro J HJ
 have O:=λY=>by
  have e:c_ t v=(5,t):=by unfold c_;rw[if_pos (by rw[p.ok.Ac];exact Y)]
  have:=A f ps;rw[e]at this;exact this w (.an B)
 refine⟨v.who,v1.ah rfl,OF w ⟨_,rfl,aiD (λY=>O λy=>?_) λj=>⟨v.slot,v1.ah rfl,ID (λy=>O λC=>ω) λg1=>⟨v.slot,v1.ah rfl,ID (λy=>O λC=>ω) λg2=>?_⟩⟩⟩⟩
 ·grind [Ra,decide_eq_true]
 have j:=of_decide_eq_true (show Ra n v.who=true by simp_all);have can:0<=v.who/\v.who<t.bE.length/\0<=v.slot/\v.slot<=1073741824:=by rw[p.ok.Ac];omega
 refine HJ 0 f ?_
 have d:c_ t v=if uA t v.who=true then((4:Int),t)else match lG (v.who,aP t v.slot) t.first with
  |some r=>if r=v.target then(1,t)else(2,{t with out:=t.out.set v.who.toNat true})
  |none=>match eB t v.who with
   |some l=>if aP t v.slot<aP t l.slot then(3,{t with first:=t.first++[((v.who,aP t v.slot),v.target)]})
    else(0,{t with bE:=t.bE.set v.who.toNat (some v),first:=t.first++[((v.who,aP t v.slot),v.target)]})
   |none=>(0,{t with bE:=t.bE.set v.who.toNat (some v),first:=t.first++[((v.who,aP t v.slot),v.target)]}):=by
  unfold c_;rw[if_neg (λC=>C can)]
  all_goals rfl
 refine⟨Ou,w.var.ah rfl,v.who,v1.ah rfl,Vu w.ou j.1 (OG p.ok j.1 j.2) (aiD (λz=>?_) λz=>?_)⟩
 ·rw[if_pos z]at d;rw[d]at A;exact A f ps w (.an B)
 rw[if_neg (by rw[z];decide)]at d;have P:=sL p.ok can.2.2.1 can.2.2.2;have am:aih .i64 (aiM v.slot t.slots)=aP t v.slot:=wrap_i64 (by unfold aP at P;omega) (by unfold aP at P;omega);obtain⟨k,I⟩:∃k:Int×Int,k=(v.who,aP t v.slot):=⟨_,rfl⟩;rw[<-I]at d;refine⟨v.who,v1.ah rfl,v.slot,v1.ah rfl,t.slots,w.var.ah rfl,ω,aa λh2 v2 Z s2=>⟨Z,?_⟩⟩;rw[am];refine aH v2 (t:=kM (v.who,aP t v.slot)) rfl λQ S f3 s3=>?_;rw[<-I]at S;have T:Ext f Q:=ail Z f3 λi a=>ω;have U:=w.ext T;have ao:Var 124 Q h.size v.tv:=Var.ext (t:=v.tv) v1 T;refine⟨some r,U.var.ah rfl,Vv S ?_⟩;obtain⟨es,c,hb,hl,ap,y⟩:=U.map.look Vr k (aiE 32);refine⟨es,c,hb,hl,_,ap,aa λh4 v4 x4 s4=>⟨x4,aH v4 (t:=.bytes 32 _) rfl λD V f5 s5=>?_⟩⟩;have x35:Ext Q D:=ail x4 f5 λi a=>ω;have K:Ext h D:=(B.trans T).trans x35;have s:=U.ext x35;have L:Var 124 D h.size v.tv:=Var.ext (t:=v.tv) ao x35;have ab:Var 310 D f.size (kM k):=Var.ext (t:=kM k) S x35;rw[y];cases M:lG k t.first with
 |some q=>
  rw[M]at d V;simp only[Option.getD_some]at V;refine aiA ⟨_,V.bytes,_,L.at.2.2,?_⟩;have hd:decide (q.l=v.target.l)=decide (q=v.target):=Gb _ _;dsimp only;rw[hd];refine ID (λm=>?_) λm=>⟨Ou,s.var.ah rfl,v.who,L.ah rfl,?_⟩
  ·simp only[m,if_true]at d;rw[d]at A;exact A D ps s (.an K)
  ·simp only[m,if_false]at d;rw[d]at A H
   refine s.ou.aH (sz:=1) (n:=1) (t:=.bool true) j.1 (by simp[p.ok.uN];omega) rfl rfl λu o6 f6 s6=>A u ps ⟨s.var.only f6 p.nou.1,s.la.keep f6 p.lo,s.vs.only f6 λq m=>(p.nv q m).2.2.2,?_,s.map.only f6 p.nou.2,H,p.nla,p.nou,p.lo,p.nv⟩
    ⟨(aiI K).trans (f6.mono λi a=>.inr (.inr (.inr (.inl a)))),λi a=>.inl a⟩
   simpa[WM,List.map_set]using o6
 |none=>
  rw[M]at d;refine aix ⟨some r,s.var.ah rfl,Vv ab ⟨v.target,L.at.2.2,s.map.put Vr k v.target λu m6 f6 s6=>?_⟩⟩;rw[Qw (CA.1 M)]at m6;have W:∀i,uY b r La Ou ps i->i<h.size:=λi a=>p.lt a;have a3:=p.map.lt;have z5:=K.size;have z1:=B.size;have N:Var 124 u h.size v.tv:=Var.only (t:=v.tv) L f6 ω;have ar:Var 310 u f.size (kM k):=Var.only (t:=kM k) ab f6 ω;obtain⟨old,ac,aw⟩:=Gx p.ok j.1 j.2
  have aE:wQ {t with first:=t.first++[(k,v.target)]} n:=⟨p.ok.slots,p.ok.nn,p.ok.Ac,p.ok.uN,p.ok.Tw,yB p.ok M,λe F=>by
   rcases List.mem_append.1 F with F|F
   ·exact p.ok.fst e F
   ·rw[List.mem_singleton.1 F,I];exact⟨j.1,j.2,P⟩⟩
  have g:=s.marked m6 f6 aE;obtain⟨q,m,G⟩:=g.vs.get ac;have ad:ag (uY b r La Ou ps) h u:=(aiI K).trans (f6.mono λi a=>.inr (.inl a))
  have last:c_ t v=(0,{t with bE:=t.bE.set v.who.toNat (some v),first:=t.first++[(k,v.target)]})->
   0<=v.who/\v.who<(La.len:Int)/\Nn La.a λl=>gT u l.b (l.o+v.who.toNat*1) 1/\Bind (TV.put u l.b (l.o+v.who.toNat*1) (.ptr (some (Loc.mk h.size 0)))) λy=>R (TV.val (.i 0)) y:=λE=>by
   rw[E]at A H;refine g.la.aH (sz:=1) (n:=1) (t:=.ptr (some (Loc.mk h.size 0))) j.1 (by simp[p.vs.len,p.ok.Ac];omega) rfl rfl λh7 o7 f7 s7=>?_;have ae:¬In La h.size:=λa=>by have:=W _ (.inr (.inr (.inl a)));omega
   have a0:Var 124 h7 h.size v.tv:=Var.only (t:=v.tv) N f7 ae
   refine A h7 (ps.set v.who.toNat (some h.size)) ⟨g.var.only f7 p.nla.1,?_,(g.vs.only f7 λq m=>(p.nv q m).2.2.1).set (p:=some h.size) (v:=some v) a0 _,g.ou.keep f7 λi a C=>p.lo i C a,g.map.only f7 p.nla.2,H,p.nla,p.nou,p.lo,λq m=>?_⟩
    ⟨ad.trans (f7.mono λi a=>.inr (.inr (.inl a))),λi a=>?_⟩
   ·simpa[ZO,List.map_set]using o7
   ·rcases List.mem_or_eq_of_mem_set m with f|f
    ·exact p.nv q f
    ·cases f;exact⟨λe=>by have:=W b (.inl rfl);omega,λe=>ω,ae,λa=>by have:=W _ (.inr (.inr (.inr (.inl a))));omega⟩
   ·rcases a with a|a|a|a|a
    ·exact .inl (.inl a)
    ·exact .inl (.inr (.inl a))
    ·exact .inl (.inr (.inr (.inl a)))
    ·exact .inl (.inr (.inr (.inr (.inl a))))
    ·rcases List.mem_or_eq_of_mem_set a with f|f
     ·exact .inl (.inr (.inr (.inr (.inr f))))
     ·cases f;exact .inr (aiu _)
  refine⟨La,g.var.ah rfl,v.who,N.ah rfl,Tx g.la j.1 m ?_⟩;rw[aw]at d;cases q with
  |none=>
   cases old with
   |some _=>exact absurd G (by simp[ZN])
   |none=>
    refine aix ⟨La,g.var.ah rfl,v.who,N.ah rfl,last d⟩
  |some q=>
   cases old with
   |none=>exact absurd G (by simp[ZN])
   |some old=>
    have G:Var 124 u q old.tv:=G;have z:=p.ok.Tw _ old ac;have al:=sL p.ok z.2.1 z.2.2;refine aiA ⟨old.slot,G.ah rfl,t.slots,g.var.ah rfl,ω,aP t v.slot,by have:=ar.ah (o:=1) (x:=.i k.2) rfl;rw[I]at this;exact this,?_⟩;rw[show aih .i64 (aiM old.slot t.slots)=aP t old.slot from wrap_i64 (by unfold aP at al;omega) (by unfold aP at al;omega)];refine ID (λa1=>?_) λa2=>⟨La,g.var.ah rfl,v.who,N.ah rfl,last ?_⟩
    ·simp only[a1,if_true]at d;rw[d]at A;exact A u ps g ⟨ad,λi a=>.inl a⟩
    ·simp only[a2,if_false]at d;exact d
end
end Gate
namespace Gate
open Board (Vt)
theorem WN{n:Nat}{par q:Nat->Nat}(up:Up n par)(A:Up n q)(h:∀i,0<i->i<n->par i=q i)(k:Nat):∀i,i<n->bO par k i=bO q k i:=by
 intro i
 induction i using Nat.strongRecOn with
 |ind i c=>
  intro a;rw[fO up a,fO A a];by_cases b:0<i
  ·have d:=up i b a
   grind
  simp_all
theorem WO{n:Nat}{f g:Nat->Int}(h:∀i,i<n->f i=g i):tot n f=tot n g:=by
 unfold tot;rw[List.map_congr_left λi a=>h i (List.mem_range.1 a)]
theorem ZP{n:Nat}{par q:Nat->Nat}(up:Up n par)(B:Up (n+1) q)(h:∀i,0<i->i<n->par i=q i){own:Nat->Int}(A:own n=0){k:Nat}(E:k<n):nU (n+1) q own k=nU n par own k:=by
 have a:Up n q:=λi A b=>B i A ω;rw[IL B own ω,IL up own E,jv,A,Int.zero_mul,Int.add_zero]
 grind [WO,WN]
theorem ZQ{n:Nat}{par:Nat->Nat}(up:Up (n+1) par){own:Nat->Int}(q:own n=0):nU (n+1) par own n=0:=by
 rw[IL up own ω,jv,q,Int.zero_mul,Int.add_zero];refine pP λi a=>?_;have a:=List.mem_range.1 a
 have:bO par n i=false:=by
  cases b:bO par n i with
  |false=>rfl
  |true=>have:=Bg up i ω b;omega
 simp_all [one]
theorem Vw{n:Nat}{f g:Nat->Int}(h:∀i,i<n->f i=g i)(q:g n=0):pad (gO n f) (n+1) 0=gO (n+1) g:=by
 unfold pad;rw[yq,show n+1-n=1 by omega,gm h];unfold gO;rw[List.range_succ,aiQ];simp[q]
section
variable{st:List Int}{t:Tb}{L:List Nd}{x:Nd}
theorem yE{i:Nat}{x:Nd}(h:L[i]? =some x):bZ st t L i=pW t st x.root:=by simp_all [bZ]
theorem j7{i:Nat}(h:L.length<=i):bZ st t L i=0:=by unfold bZ;rw[List.getElem?_eq_none h];rfl
theorem rE(o:wR st)(i:Nat):0<=bZ st t L i:=by
 by_cases h:i<L.length
 ·rw[yE (aiH h)];exact Q_ o _
 ·rw[j7 ω];exact aip 0
theorem uC(o:wR st)(q:(L.map Nd.root).Nodup):tot L.length (bZ st t L)<4611686018427387904:=by
 have a:=Vq (t:=t) o q;have b:=o.sum
 have e:tot L.length (bZ st t L)=((L.map Nd.root).map λr=>pW t st r).sum:=by
  unfold tot;congr 1;apply ai7
  ·simp
  ·intro i a b;have c:i<L.length:=by simpa using a
   simp only[List.getElem_map,List.getElem_range];exact yE (aiH c)
 omega
theorem ZR(o:wR st)(q:(L.map Nd.root).Nodup)(i:Nat):bZ st t L i<4611686018427387904:=by
 by_cases h:i<L.length
 ·have:=DX L.length (λj _=>rE (t:=t) (L:=L) o j) i h;have:=uC (t:=t) o q;omega
 simp_all [j7]
theorem Rc(q:((L++[x]).map Nd.root).Nodup):bZ st t (L++[x])=laid (L++[x]) [(x.root,pW t st x.root)] (bZ st t L):=by
 have a:(L++[x])[L.length]? =some x:=by simp
 have b:=gX q a;funext i;unfold laid;simp only[List.foldl_cons,List.foldl_nil,b,ai2];unfold bump;by_cases h:i=L.length
 ·subst h;rw[if_pos rfl,yE a,j7 (aiu _),Int.zero_add]
 ·rw[if_neg h]
  grind [bZ,ajm,j7]
theorem aci(o:wR st)(q:((L++[x]).map Nd.root).Nodup):Gr (L++[x]) [(x.root,pW t st x.root)] (bZ st t L):=by
 have a:(L++[x])[L.length]? =some x:=by simp
 have b:=gX q a;have e:=Rc (st:=st) (t:=t) q;have d:=uC (t:=t) o q;have f:=λi=>rE (t:=t) (L:=L++[x]) o i;have c:=ZR (t:=t) o q L.length;rw[yE a]at c;have g:=Q_ (t:=t) o x.root;unfold laid at e;simp only[List.foldl_cons,List.foldl_nil]at e;refine⟨by simp_all,ω,ω,?_,?_,?_⟩
 ·rw[b,ai2,j7 (aiu _)];simp only;omega
 ·rw[b,ai2,j7 (aiu _)];simp only;omega
 simp_all [Gr]
def qH(t:Tb)(st:List Int)(who:Int)(r:Bs 32):Int:=if 0<=who then aK t st who.toNat r else 0
theorem Vx{f g:Nat->Int}:∀(n w:Nat),w<n->(∀i,i≠w->f i=g i)->((aiR n).map f).sum=((aiR n).map g).sum+(f w-g w)
 |0,w,h,_=>ω
 |n+1,w,h,a=>by
  rw[List.range_succ,aiQ,aiQ,List.sum_append,List.sum_append];simp only[aiU,ajl,ai3,List.sum_nil,Int.add_zero];by_cases e:w=n
  ·subst e;have:(aiR w).map f=(aiR w).map g:=List.map_congr_left λi b=>a i (by have:=List.mem_range.1 b;omega);rw[this];omega
  ·rw[Vx n w ω a,a n (λh=>e h.symm)];omega
theorem acj{t':Tb}{w:Nat}(q:w<st.length)(r:Bs 32)(h:∀i,i≠w->aK t' st i r=aK t st i r):pW t' st r=pW t st r+(aK t' st w r-aK t st w r):=Vx _ w q h
theorem ZS{t':Tb}(r:Bs 32)(h:∀i,aK t' st i r=aK t st i r):pW t' st r=pW t st r:=by
 unfold pW;rw[List.map_congr_left λi _=>h i]
theorem Re{t':Tb}(h:∀r i,aK t' st i r=aK t st i r):bZ st t' L=bZ st t L:=by
 funext i;unfold bZ;cases L[i]? with
 |none=>rfl
 |some x=>simp only[Option.map_some,Option.getD_some];exact ZS x.root (h x.root)
def mA(L:List Nd)(own:Nat->Int)(r:Bs 32)(d:Int):Nat->Int:=if 0<=place r L then bump own (place r L).toNat d else own
theorem IP{own:Nat->Int}{r:Bs 32}{d:Int}(q:(L.map Nd.root).Nodup){i:Nat}{x:Nd}(A:L[i]? =some x):mA L own r d i=if r=x.root then own i+d else own i:=by
 unfold mA;by_cases h:r=x.root
 ·subst h;rw[if_pos rfl,gX q A,if_pos ω];unfold bump;rw[if_pos ω]
 ·split
  ·rename_i a;obtain⟨k,y,b,c,e,f,g⟩:=fG a;unfold bump
   grind
  ·rfl
theorem Ke{own:Nat->Int}{r:Bs 32}{d:Int}{i:Nat}(q:L.length<=i):mA L own r d i=own i:=by
 unfold mA;split
 ·rename_i a;obtain⟨k,y,b,c,e,f,g⟩:=fG a;unfold bump;omega
 ·rfl
theorem MY{t':Tb}{w:Nat}(q:(L.map Nd.root).Nodup)(B:w<st.length){A r1:Bs 32}{a b:Int}(E:∀i,i≠w->∀r,aK t' st i r=aK t st i r)
 (G:∀r,aK t st w r=if A=r then a else 0)(H:∀r,aK t' st w r=if r1=r then b else 0):bZ st t' L=mA L (mA L (bZ st t L) A (-a)) r1 b:=by
 funext i;by_cases d:i<L.length
 ·have c:=aiH d;rw[IP q c,IP q c,yE c,yE c,acj B L[i].root λj e=>E j e _,G,H]
  grind
 simp_all [Ke,j7]
theorem WQ(t:Tb)(w:Nat)(r:Bs 32):aK t st w r=if((kI t (w:Int)).1.target)=r then aK t st w (kI t (w:Int)).1.target else 0:=by
 have e:eB t w=t.bE.getD w none:=by
  rfl
 unfold kI;rw[e];unfold aK
 grind
theorem WR(o:wR st){i:Nat}{w:Nat}(q:w<st.length){x:Nd}(A:L[i]? =some x):aK t st w x.root<=bZ st t L i:=by
 rw[yE A];exact DX st.length (λj _=>lJ o j _) w q
theorem MZ(o:wR st)(w:Nat)(r:Bs 32):aK t st w r<4611686018427387904:=by
 have b:=o.sum
 have c:jh st w<=st.sum\/jh st w=0:=by
  by_cases a:w<st.length
  ·left;rw[<-ZK st];exact DX st.length (λj _=>D4 o j) w a
  ·right;unfold jh;rw[aiq,List.getElem?_eq_none ω];rfl
 have d:aK t st w r=0\/aK t st w r=jh st w:=by
  unfold aK
  grind
 omega
theorem M0(o:wR st)(r:Bs 32){n:Nat}(q:n<=st.length):0<=tot n (λj=>aK t st j r)/\tot n (λj=>aK t st j r)<4611686018427387904:=by
 have a:=Vq (t:=t) o (show[r].Nodup by simp);have c:=o.sum;have d:pW t st r=tot st.length (λj=>aK t st j r):=rfl;simp only[aiU,ajl,ai3,List.sum_nil]at a
 have mono:∀k,tot n (λj=>aK t st j r)<=tot (n+k) (λj=>aK t st j r):=λk=>by
  induction k with
  |zero=>simp_all
  |succ k e=>
   rw[show n+(k+1)=(n+k)+1 by omega,jv];have:=lJ (t:=t) o (n+k) r;omega
 have b:=mono (st.length-n);rw[show n+(st.length-n)=st.length by omega]at b;exact⟨IM n λi _=>lJ o i r,ω⟩
theorem TA{n:Nat}(ok:wQ t n){v:Vt}(A:(c_ t v).1=0\/(c_ t v).1=2):
 (0<=v.who/\v.who<n)/\(∀i,i≠v.who.toNat->∀r,aK (c_ t v).2 st i r=aK t st i r)/\
 ((c_ t v).1=0->∀r,aK (c_ t v).2 st v.who.toNat r=if v.target=r then aK (c_ t v).2 st v.who.toNat v.target else 0)/\
 ((c_ t v).1=2->∀r,aK (c_ t v).2 st v.who.toNat r=0):=by
 have o:=ok.Ac;have lo:=ok.uN;unfold c_ at A⊢;split at A
 ·omega
 rename_i b;have b:=Decidable.not_not.1 b;rw[if_neg (λf=>f b)];split at A
 ·omega
 rename_i g;rw[if_neg g];have c:0<=v.who/\v.who<n:=ω
 have a:∀F,(∀i,i≠v.who.toNat->∀r,aK {t with bE:=t.bE.set v.who.toNat (some v),first:=F} st i r=aK t st i r)/\
  ∀r,aK {t with bE:=t.bE.set v.who.toNat (some v),first:=F} st v.who.toNat r=if v.target=r then aK {t with bE:=t.bE.set v.who.toNat (some v),first:=F} st v.who.toNat v.target else 0:=by
  intro F;constructor
  ·intro i d r;unfold aK;simp only[aiq,List.getElem?_set_ne (λh=>d h.symm)]
  ·intro r;unfold aK
   grind
 cases e:lG (v.who,aP t v.slot) t.first with
 |some q=>
  rw[e]at A;simp only at A⊢;split at A
  ·omega
  rename_i j;rw[if_neg j];refine⟨c,λi d r=>?_,(λh=>by cases h),λ_ r=>?_⟩
  ·unfold aK;simp only[aiq,List.getElem?_set_ne (λh=>d h.symm)]
  ·unfold aK
   have:(t.out.set v.who.toNat true).getD v.who.toNat false=true:=by
    rw[aiq,List.getElem?_set_self ω];rfl
   simp only[this,if_true]
 |none=>
  rw[e]at A;simp only at A⊢;cases k:eB t v.who with
  |none=>
   simp only;exact⟨c,(a _).1,λ_=>(a _).2,(λh=>by cases h)⟩
  |some l=>
   rw[k]at A;simp only at A⊢;split at A
   ·rcases A with h|h<;>cases h
   rename_i m;rw[if_neg m];exact⟨c,(a _).1,λ_=>(a _).2,(λh=>by cases h)⟩
theorem WS{v:Vt}(A:(c_ t v).1≠0)(B:(c_ t v).1≠2):∀r i,aK (c_ t v).2 st i r=aK t st i r:=by
 intro r i;unfold c_ at A B⊢;split
 ·rfl
 split
 ·rfl
 rename_i a b;rw[if_neg a,if_neg b]at A B;cases c:lG (v.who,aP t v.slot) t.first with
 |some q=>
  grind
 |none=>
  rw[c]at A;cases d:eB t v.who with
  |none=>simp_all
  |some l=>
   rw[d]at A;simp only at A⊢;split
   ·rfl
   simp_all
end
end Gate
namespace Board
def fc{n:Nat}(b:Bs n)(i:Nat):UInt8:=b.l.getD i 0
def kX{n:Nat}(f:Nat->UInt8)(b:Bs n):Nat->Bs n
 |0=>b
 |i+1=>(kX f b i).set i (f i)
theorem lX{n:Nat}(f:Nat->UInt8)(b:Bs n):∀(k j:Nat),k<=n->fc (kX f b k) j=if j<k then f j else fc b j
 |0,j,_=>by simp[kX]
 |k+1,j,e=>by
  have a:=lX f b k j ω;unfold fc at a⊢;simp only[kX,Bs.set,aiq,List.getElem?_set]at a⊢;by_cases c:k=j
  ·subst c;rw[if_pos rfl,if_pos (by rw[(kX f b k).h];omega),if_pos (Nat.lt_succ_self k)];rfl
  ·rw[if_neg c,a];by_cases d:j<k
   ·rw[if_pos d,if_pos ω]
   ·rw[if_neg d,if_neg ω]
theorem ack{n:Nat}(f:Nat->UInt8)(b:Bs n):(kX f b n).l=(aiR n).map f:=by
 apply ai7 (by rw[(kX f b n).h];simp);intro j a d;have c:j<n:=by rw[<-(kX f b n).h];exact a
 have:=lX f b n j (aiu n);rw[if_pos c]at this;unfold fc at this;rw[aiq,aiH a]at this;simpa using this
theorem iI{T:TypeId}{h:af}{b n:Nat}{x:Bs n}(v:Var T h b (.bytes n x)){i:Nat}(q:i<n):ah h b (0+i*1) (.int .u8 ((fc x i).toNat:Int)):=by
 refine v.ah ?_;simp only[TV.cells,ai5,Nat.zero_add];exact getElem?_toBytes x i q
theorem Bs.OH{n:Nat}{a b:Bs n}(h:∀j,j<n->fc a j=fc b j):a=b:=by
 apply ajj;apply ai7 (by rw[a.h,b.h]);intro j c d;have e:j<n:=by rw[<-a.h];exact c
 have:=h j e;unfold fc at this;rw[aiq,aiq,aiH c,aiH d]at this;simpa using this
theorem acm{x:af}{K:af->Prop}(h:K x):Bind x K:=h
section
variable{R:Rq}{h:af}
theorem og{T:TypeId}(h:af)(ts:List (LU)):aj 1 (h.push (row (aiz (ts.map aiF)) T)) ⟨some ⟨h.size,0⟩,ts.length,ts.length⟩ (ts.map aiF):=by
 have:=(Vc.Own.new (T:=T) (sz:=1) h (ts.map aiF) (λt a=>by
  obtain⟨u,_,rfl⟩:=aiZ.1 a;rfl)).elems
 simpa using this
theorem OI:(ctx.ti 9).bytes=16:=κ
theorem adz:(ctx.ti 9).size=1:=κ
theorem ZT:(ctx.ti 9).z.size=1:=κ
end
end Board
namespace Board
section
variable{R:Rq}{h:af}
def orv(c i:Int):Int:=aih .u8 ((ait (aii .u8) c|||ait (aii .u8) (aih .u8 (1*2^min (aij (ais i 8)) (aii .u8)))).toNat:Int)
def LV(q:LU)(i:Nat):LU:=q.set (i/8) (aio (orv (Ie q (i/8)) (i:Int)).toNat)
def gJ(row:List Bool):Nat->LU
 |0=>aiy (row.length/8+1) 0
 |i+1=>if row.getD i false=true then LV (gJ row i) i else gJ row i
def Rg(row:List Bool):LU:=LV (gJ row row.length) row.length
theorem c4(row:List Bool):∀i,(gJ row i).length=row.length/8+1
 |0=>by simp[gJ]
 |i+1=>by
  unfold gJ;split
  ·simp[LV,c4 row i]
  ·exact c4 row i
theorem M1(bs g:LU)(k:Nat):Ie (bs++g) (bs.length+k)=Ie g k:=by
 simp[aiq,List.getElem?_append_right,Ie]
theorem Row.set{Q:Nat->Prop}{s:Sl}{bs:LU}(r:Row Q h s bs){i c:Int}(q:0<=i)(B:i<bs.length)(c0:0<=c)(E:c<256){K:af->Prop}
 (A:∀a,Row Q a s (bs.set i.toNat (aio c.toNat))->ag Q h a->K a):0<=i/\i<(s.len:Int)/\Nn s.a λl=>gT h l.b (l.o+i.toNat*1) 1/\Bind ((aiB .u8 c).put h l.b (l.o+i.toNat*1)) K:=by
 refine r.own.aH q (by simp_all) rfl rfl λb d f1 f=>A b ⟨?_,r.uT,λj g=>r.new j ω⟩ (r.cut f1)
 have e:JW (aio c.toNat)=aiB .u8 c:=by
  grind [JW,ai6]
 simp_all
theorem Gy{Q:Nat->Prop}{s q:Sl}{bs:LU}{row:List Bool}(r:Row Q h s bs)(G:bs.length<1000)(H:row.length<1000)(A:row.length=q.len)(e:∀d,ag Q h d->aj 1 d q (aY row))
 (B:∀d l,Row Q d l (bs++Rg row)->ag Q h d->R (aiO l).val d):Cl 296 [.slice s,.slice q] h R:=by
 apply Fb;delta QL zO aF JP gL cE bK;have F:=r.len
 have u:aiM q.len 8=(row.length/8:Nat):=by
  simp_all
 rw[u,wrap_i64 (n:=(row.length/8:Nat)) ω ω,wrap_i64 ω ω];have v:aij ((row.length/8:Nat)+1)=row.length/8+1:=ω;refine⟨δ,ω,ω,?_⟩;rw[v];have w:aiy (row.length/8+1) (ai4 .u8 0)=(gJ row 0).map λc=>ai4 .u8 c.toNat:=by simp[gJ]
 rw[w,<-c4 row 0];refine Gp r (by grind [c4]) λa I r1 f1 J=>?_;have f1:=r.cut f1;refine⟨λi m=>0<=i/\i<=row.length/\Row Q m a (bs++gJ row i.toNat)/\ag Q h m,λi _=>(row.length-i).toNat,⟨aip 0,ω,r1,f1⟩,?_⟩;rintro i y ⟨z,K,b,f2⟩;have l2:=b.len;rw[ain,c4]at l2;rw[wrap_i64 (n:=i+1) ω ω];refine ID (λC=>?_) λC=>?_
 ·refine kD (e y f2) z ω λx L=>?_;have o:row.getD i.toNat false=x:=by simp_all
  have p:(i+1).toNat=i.toNat+1:=ω;cases x with
  |false=>
   refine aix ⟨⟨ω,ω,?_,f2⟩,by grind⟩;rw[p];unfold gJ;rw[o,if_neg δ];exact b
  |true=>
   have D:aiM i 8=(i.toNat/8:Nat):=by
    grind
   have j:0<=ais i 8:=by grind
   rw[D,wrap_i64 (n:=(i.toNat/8:Nat)) ω ω,wrap_i64 ω ω];have k:aij (s.len+(i.toNat/8:Nat))=bs.length+i.toNat/8:=ω;refine aiA ⟨δ,yj b.own.elems ω (by grind [c4,ain]) ⟨δ,j,?_⟩⟩;have f:0<=orv (Ie (bs++gJ row i.toNat) (aij ((s.len:Int)+((i.toNat/8:Nat):Int)))) i/\orv (Ie (bs++gJ row i.toNat) (aij ((s.len:Int)+((i.toNat/8:Nat):Int)))) i<256:=aS _;refine b.set (i:=(s.len:Int)+((i.toNat/8:Nat):Int)) (c:=orv (Ie (bs++gJ row i.toNat) (aij ((s.len:Int)+((i.toNat/8:Nat):Int)))) i) ω (by rw[ain,c4];omega) f.1 f.2 λt g f3=>?_;refine⟨⟨ω,ω,?_,f2.trans f3⟩,Ω⟩;rw[k,M1,List.set_append_right _ _ ω,show bs.length+i.toNat/8-bs.length=i.toNat/8 by omega]at g;rw[p];unfold gJ;rw[o,if_pos rfl,LV,show((i.toNat:Nat):Int)=i by omega];exact g
 ·have E:i.toNat=row.length:=ω;rw[E]at b;have j:0<=ais (q.len:Int) 8:=by rw[aje ω];omega
  rw[wrap_i64 (n:=(a.len:Int)-1) ω ω];have k:aij ((a.len:Int)-1)=bs.length+row.length/8:=ω;refine yj (bs:=bs++gJ row row.length) b.own.elems ω (by rw[ain,c4];omega) ⟨δ,j,?_⟩;have f:0<=orv (Ie (bs++gJ row row.length) (aij ((a.len:Int)-1))) (q.len:Int)/\orv (Ie (bs++gJ row row.length) (aij ((a.len:Int)-1))) (q.len:Int)<256:=aS _;refine b.set (i:=(a.len:Int)-1) (c:=orv (Ie (bs++gJ row row.length) (aij ((a.len:Int)-1))) (q.len:Int)) ω (by rw[ain,c4];omega) f.1 f.2 λt g f3=>?_;refine B t a ?_ (f2.trans f3);rw[k,M1,List.set_append_right _ _ ω,show bs.length+row.length/8-bs.length=row.length/8 by omega,<-A]at g;exact g
structure Ms where
 kind:Int
 slot:Int
 target:Bs 32
 ax:Int
 body:Int
 bits:Sl
 tag:Bs 16
def Ms.tv(m:Ms):TV:=.agg [.i m.kind,.i m.slot,.bytes 32 m.target,.i m.ax,.int .u64 m.body,.slice m.bits,.bytes 16 m.tag]
def bh:Ms:=⟨0,0,aiE 32,0,0,Sl.nil,aiE 16⟩
theorem bB{m:Ms}{b:Nat}(v:Var 58 h b m.tv){K:Int->Int->Bs 32->Int->Int->Sl->Bs 16->Prop}(H:K m.kind m.slot m.target m.ax m.body m.bits m.tag):
 ∃(n:Int),∃(q:Int),∃(A:Bs 32),∃(B:Int),∃(E:Int),∃(s:Sl),∃(G:Bs 16),(ah h b 0 (.i n)/\ah h b 1 (.i q)/\av h b 2 32 A/\ah h b 34 (.i B)/\ah h b 35 (.int .u64 E)/\ah h b 36 (bu s)/\av h b 37 16 G)/\K n q A B E s G:=
 ⟨m.kind,m.slot,m.target,m.ax,m.body,m.bits,m.tag,v.at,H⟩
theorem fR{c d:Ms}:c.tv.size=d.tv.size:=by rfl
theorem cv{c:Ms}:53=c.tv.size:=by rfl
def dU(m:Ms)(row:List Bool):Bool:=
 !(decide (m.slot<0)||decide (1073741824<m.slot)||decide (m.ax<0)||decide (65535<m.ax)||(!decide (m.kind=1)&&!decide (m.body=0)))&&
   if m.kind=3 then decide (m.ax=0)&&(decide (row.length<=16)&&row.contains true)else(decide (m.kind=1)||decide (m.kind=2))&&decide (row.length=0)
def bidx:List Bool->Int->Int
 |[],_=>-1
 |b::bs,i=>if b=true then i else bidx bs (i+1)
theorem HB:∀(l:List Bool)(i:Int),0<=i->(decide (0<=bidx l i)=l.contains true)
 |[],i,_=>by rfl
 |b::bs,i,a=>by
  unfold bidx;cases b with
  |true=>simp_all
  |false=>rw[if_neg δ,HB bs (i+1) ω];simp
theorem Rh{s:Sl}{l:List Bool}(e:aj 1 h s (aY l))(A:l.length<100000)(q:R (TV.i (bidx l 0)).val h):Cl 200 [.slice s,.bool true] h R:=by
 apply iG;delta iZ nj gI bK;have el:=by have:=e.len;rwa [aim]at this
 refine⟨λσ b=>0<=σ.2/\σ.2<=s.len/\b=h/\bidx l 0=bidx (l.drop σ.2.toNat) σ.2,λσ _=>(s.len-σ.2).toNat,⟨aip 0,ω,rfl,rfl⟩,?_⟩;rintro⟨f,i⟩ b ⟨c,k,rfl,a⟩;refine ID (λd=>?_) λd=>?_
 ·refine kD e c ω λx g=>?_;rw[BD g,bidx]at a;cases x with
  |true=>
   rw[a]at q;exact aiA q
  |false=>
   rw[wrap_i64 ω ω];have m:(i+1).toNat=i.toNat+1:=ω;refine aix ⟨⟨ω,ω,rfl,?_⟩,by grind⟩;simp_all
 ·have j:l.drop i.toNat=[]:=ai9 ω;rw[j]at a;rw[a]at q;exact q
theorem uZ{s:Sl}{l:List Bool}(e:aj 1 h s (aY l))(q:l.length<100000)(A:R (aiv (l.contains true)).val h):Cl 140 [.slice s,.bool true] h R:=by
 apply gD;refine Rh e q ⟨_,rfl,?_⟩;dsimp only;rw[HB l 0 (aip 0)];exact A
theorem Kf{m:Ms}{row:List Bool}(e:aj 1 h m.bits (aY row))(A:row.length<100000)(B:∀p,Ext h p->R (aiv (dU m row)).val p):Cl 232 [m.tv] h R:=by
 apply Il m.kind m.slot m.target m.ax m.body m.bits m.tag;delta gz dK iM aO dx aN bK lq;have el:=by have:=e.len;rwa [aim]at this
 refine aa λf v1 q G=>?_;have u:=v1.at;obtain⟨i,r,H,l,v,j,I⟩:=u;have a:=B f q;intro w x
 have s:∀b,m.slot>=0->m.slot<=1073741824->m.ax>=0->m.ax<=65535->(m.kind=1\/m.body=0)->w b f:=by
  intro b y z C D t;refine x b f ⟨_,i,?_⟩
  have n:(!(decide (m.slot<0)||decide (1073741824<m.slot)||decide (m.ax<0)||decide (65535<m.ax)||(!decide (m.kind=1)&&!decide (m.body=0))))=true:=by
   simp_all
  unfold dU at a;rw[n]at a;refine ID (λo=>?_) λo=>?_
  ·rw[if_pos o]at a;refine⟨_,l,ID (λc=>⟨_,j,ID (λk=>⟨_,j,?_⟩) λk=>?_⟩) λc=>?_⟩
   ·refine uZ (e.ext q) A ⟨_,rfl,?_⟩
    grind
   ·rw[decide_eq_true c,decide_eq_false (show¬row.length<=16 by omega)]at a;exact a
   ·rw[decide_eq_false c]at a;exact a
  ·rw[if_neg o,el]at a
   have E:decide ((m.bits.len:Int)=0)=decide (m.bits.len=0):=by
    simp_all
   rw[<-E]at a;refine⟨_,i,ID (λc=>⟨_,j,?_⟩) λc=>⟨_,i,ID (λk=>⟨_,j,?_⟩) λk=>?_⟩⟩
   ·simp_all
   ·simp_all
   ·rw[decide_eq_false c,decide_eq_false k]at a;exact a
 have d:(m.slot<0\/1073741824<m.slot\/m.ax<0\/65535<m.ax\/(m.kind≠1/\m.body≠0))->R (aiv false).val f:=by
  intro J
  have n:(!(decide (m.slot<0)||decide (1073741824<m.slot)||decide (m.ax<0)||decide (65535<m.ax)||(!decide (m.kind=1)&&!decide (m.body=0))))=false:=by
   grind
  unfold dU at a;rw[n]at a;exact a
 refine⟨_,r,ID (λg=>d (.inl g)) λy=>⟨_,r,ID (λg=>d (.inr (.inl g))) λz=>⟨_,l,ID (λg=>d (.inr (.inr (.inl g)))) λC=>⟨_,l,ID (λg=>d (.inr (.inr (.inr (.inl g))))) λD=>⟨_,i,aiD (λt=>⟨_,v,aiD (λF=>?_) λF=>?_⟩) λt=>?_⟩⟩⟩⟩⟩
 ·exact d (.inr (.inr (.inr (.inr ⟨by simp_all,by simp_all⟩))))
 ·exact s _ ω ω ω ω (.inr (by simp_all))
 ·exact s _ ω ω ω ω (.inl (by simp_all))
end
end Board
namespace Board
section
variable{R:Rq}{h:af}
def dA(m:Ms)(row:List Bool):LU:=
 (([aio (aih .u8 m.kind).toNat]++yo (aih .u64 m.slot) 4)++m.target.l)++
   if m.kind=1 then yo (aih .u64 m.ax) 2++yo m.body 8 else if m.kind=2 then yo (aih .u64 m.ax) 2 else if m.kind=3 then Rg row else[]
theorem yF(n:Int)(k:Nat):(yo n k).length=k:=gA k n
theorem Ri(row:List Bool):(Rg row).length=row.length/8+1:=by simp[Rg,LV,c4]
theorem ov(m:Ms)(row:List Bool):(dA m row).length<=60+row.length:=by
 unfold dA;simp only[ain,yF,m.target.h,aiJ];split
 ·simp only[ain,yF];omega
 ·split
  ·simp only[yF];omega
  ·split
   ·rw[Ri];omega
   ·simp only[List.length_nil];omega
theorem uD{b o n c:Nat}{x:Bs n}(a:av h b o n x):aj 1 h ⟨some ⟨b,o⟩,n,c⟩ (QT x.l):=by
 refine⟨by rw[aim,x.h],(λf=>by cases f),λl g i t d=>?_⟩;obtain rfl:=Option.some.inj g;rw[aiK]at d;obtain⟨u,e,rfl⟩:=aiS.1 d;have j:i<n:=by rw[<-x.h];exact(ai8.1 e).1
 have:=a i j;rw[aiq,e]at this;show ah _ _ _ _;rw[ai5];exact this
theorem M3{e:TypeId}{s:Sl}{n:Nat}{new:List Value}{K:Sl->af->Prop}(H:au ctx e s n new h K):au vS e s n new h K:=H
theorem aq{T:TypeId}{b n:Nat}{t0 t:TV}{K:af->Prop}(v:Var T h b t0)(q:n=t0.size)(A:t.size=t0.size)(B:∀a,Var T a b t->ag (·=b) h a->a.size=h.size->K a):gT h b 0 n/\Bind (t.put h b 0) K:=by
 subst q;exact aH v A B
theorem yG{Q:Nat->Prop}{s:Sl}{bs us:LU}{n:Nat}{K:Sl->af->Prop}(q:n=us.length)(r:Row Q h s bs)(A:bs.length+us.length<10000)
 (B:∀a b,Row Q b a (bs++us)->ag (In s) h b->(∀l,a.a=some l->(∃d,s.a=some d/\d.b=l.b)\/h.size<=l.b)->K a b):
 au ctx 5 s n (us.map λc=>ai4 .u8 (c.toNat:Int)) h K:=by
 subst q;exact Gp r A B
theorem Kg{m:Ms}{row:List Bool}(e:aj 1 h m.bits (aY row))(A:row.length<500)(q:∀v,Ext h v->R (aiF (dA m row)).val v):Cl 265 [m.tv] h R:=by
 apply Gz m.kind m.slot m.target m.ax m.body m.bits m.tag;delta jN fH dK Dj iA tM d_ gY gj aN bA fD;have el:row.length=m.bits.len:=by have:=e.len;rwa [aim]at this
 refine aa λa v1 F s1=>?_;have G:=v1.at (t:=m.tv);obtain⟨H,I,J,K,L,a5,a6⟩:=G;have hw:=aS m.kind;have w:=aiw a (Vc.row (aiz [aiB .u8 (aih .u8 m.kind)]) 5)
 have r1:Row (λi=>h.size<i) (a.push (Vc.row (aiz [aiB .u8 (aih .u8 m.kind)]) 5)) ⟨some ⟨a.size,0⟩,1,1⟩ [aio (aih .u8 m.kind).toNat]:=by
  have o:=Vc.Own.new (T:=5) (sz:=1) a [aiB .u8 (aih .u8 m.kind)] (λt z=>by
   simp only[aji,List.not_mem_nil,or_false]at z;subst z;rfl)
  have M:JW (aio (aih .u8 m.kind).toNat)=aiB .u8 (aih .u8 m.kind):=by
   unfold JW;rw[ai6];congr 1;omega
  refine⟨?_,λl A=>?_,λi b=>?_⟩
  ·have N:QT [aio (aih .u8 m.kind).toNat]=[aiB .u8 (aih .u8 m.kind)]:=by simp[QT,M]
   rw[N];exact o
  ·obtain rfl:=Option.some.inj A;show h.size<a.size;omega
  ·rw[ajg]at b;omega
 refine⟨_,H,_,mI w I,?_⟩;refine ia (k:=4) r1 (by simp) δ λO s2 B C=>⟨_,rfl,?_⟩;have P:Ext a O:=ail w C λi b=>ω;have Q:ay (Sl.mk (some (Vc.Loc.mk h.size 2)) 32 32) 0 32 1=⟨some ⟨h.size,2⟩,32,32⟩:=rfl;rw[Q];refine⟨m.target.l.map λc=>ai4 .u8 (c.toNat:Int),by rw[<-rW];exact(uD (Qn P J)).cells (By _) δ,sJ m.target.l,M3 ?_⟩;refine yG m.target.h.symm B (by rw[ain,yF,aiJ,m.target.h];decide) λs3 x p f3 D=>?_;have f3:=B.cut f3;have r:Ext a x:=ail w (C.trans f3) λi b=>ω;have f:=F.trans r;have S:Var 58 x h.size m.tv:=v1.ext r;have U:=S.at;obtain⟨V,b1,b2,D,b4,W,b6⟩:=U
 have s:(([aio (aih .u8 m.kind).toNat]++yo (aih .u64 m.slot) 4)++m.target.l).length=37:=by
  rw[ain,ain,yF,aiJ,m.target.h]
 refine⟨_,V,ID (λg=>?_) λg=>ajc.2 ⟨λu=>?_,λu=>ID (λy=>?_) λy=>?_⟩⟩
 ·refine⟨a,r.sub,_,K,_,L,?_⟩;refine ia (k:=2) p (by rw[s];decide) δ λj E n d=>⟨_,rfl,(ail r d λi b=>by omega:Ext a j).sub,?_⟩;refine ia (k:=8) n (by rw[ain,s,yF];decide) δ λX s5 Y Z=>⟨_,rfl,_,Y.str,?_⟩;have:=q X (ail f (d.trans Z) λi b=>ω);unfold dA at this;rw[if_pos g,<-ai1]at this;exact this
 ·refine⟨_,D,?_⟩;refine ia (k:=2) p (by rw[s];decide) δ λj E n d=>⟨_,rfl,_,n.str,?_⟩;have:=q j (ail f d λi b=>ω);unfold dA at this;rw[if_neg g,if_pos u]at this;exact this
 ·refine⟨_,W,?_⟩;refine Gy p (by rw[s];decide) ω el (λv o'=>e.ext (ail f o' λi b=>ω)) λj E n d=>⟨_,rfl,_,n.str,?_⟩;have:=q j (ail f d λi b=>ω);unfold dA at this;rw[if_neg g,if_neg u,if_pos y]at this;exact this
 ·have:=q x f;unfold dA at this;rw[if_neg g,if_neg u,if_neg y,List.append_nil]at this;exact⟨_,p.str,this⟩
end
end Board
namespace Board
section
variable{R:Rq}{h:af}
theorem aed:∀k:Fin 8,∀c:Fin 256,c.val<2^k.val->
 aih .u8 ((ait (aii .u8) ((c.val:Nat):Int)|||ait (aii .u8) (aih .u8 (1*2^min (aij ((k.val:Nat):Int)) (aii .u8)))).toNat:Int)=((c.val+2^k.val:Nat):Int):=by decide+kernel
theorem adA(i:Nat):ais (i:Int) 8=((i%8:Nat):Int):=by
 rfl
theorem Vy{c i:Nat}(q:c<2^(i%8)):orv (c:Int) (i:Int)=((c+2^(i%8):Nat):Int):=by
 unfold orv;have a:i%8<8:=Nat.mod_lt _ δ;have b:2^(i%8)<=2^7:=ajn δ ω;exact aed ⟨i%8,a⟩ ⟨c,ω⟩ q
def bn(l:LU)(j:Nat):Nat:=(l.getD j 0).toNat
theorem TB(l:LU)(j:Nat):Ie l j=(bn l j:Int):=rfl
theorem aee{l:LU}{i j:Nat}{x:UInt8}(q:i<l.length):bn (l.set i x) j=if i=j then x.toNat else bn l j:=by
 unfold bn
 grind
theorem yI(row:List Bool):∀(i:Nat),i<=row.length->∀j,bn (gJ row i) j<2^(i-8*j)
 |0,_,j=>by
  have:bn (gJ row 0) j=0:=by
   unfold bn gJ;rw[aiq,List.getElem?_replicate];split<;>rfl
  simp_all
 |i+1,e,j=>by
  have b:=yI row i ω;have mono:2^(i-8*j)<=2^(i+1-8*j):=ajn δ ω;unfold gJ;split
  ·have c:i/8<(gJ row i).length:=by grind [c4]
   unfold LV;rw[aee c];split
   ·have a:=b (i/8);have d:i-8*(i/8)=i%8:=ω;rw[d]at a;rw[TB,Vy a,ai6];have f:2^(i%8)<=2^7:=ajn δ ω;have g:i+1-8*j=i%8+1:=ω
    grind
   grind
  grind
def dG(row:List Bool)(i:Nat):LU:=(gJ row i).take ((i+7)/8)
theorem WU{row:List Bool}{i:Nat}(q:i<=row.length+1):(dG row i).length=(i+7)/8:=by
 grind [c4,dG,aiP]
theorem aco{row:List Bool}{i:Nat}(q:i<=row.length):(gJ row i).take ((i+8)/8)=if i%8=0 then dG row i++[0]else dG row i:=by
 unfold dG;split
 ·have c:(i+8)/8=i/8+1:=ω;have d:(i+7)/8=i/8:=ω;have b:i/8<(gJ row i).length:=by grind [c4]
  have e:=yI row i q (i/8);rw[show i-8*(i/8)=0 by omega]at e;rw[c,d,List.take_add_one,aiH b];have a:bn (gJ row i) (i/8)=0:=ω;unfold bn at a;rw[aiq,aiH b]at a;have:(gJ row i)[i/8]=0:=UInt8.toNat_inj.1 a;simp_all
 grind
theorem b4:(ctx.ti 4).bytes=1:=κ
theorem sz4:(ctx.ti 4).size=1:=κ
theorem zz4:(ctx.ti 4).z.size=1:=κ
def cG(row:List Bool)(i:Nat):LU:=if i<=row.length then dG row i else Rg row
theorem ZU{l:LU}{m j:Nat}(h:j<m):Ie (l.take m) j=Ie l j:=by
 unfold Ie;rw[aiq,aiq,List.getElem?_take,if_pos h]
theorem afL{row:List Bool}{i:Nat}(A:i<=row.length)(q:(row++[true])[i]? =some false):cG row (i+1)=(gJ row i).take ((i+8)/8):=by
 have a:i<row.length:=by
  grind
 rw[ajm a]at q;unfold cG dG;rw[if_pos ω]
 have b:gJ row (i+1)=gJ row i:=by
  rw[gJ,if_neg];rw[aiq,q];decide
 rw[b]
theorem aef{row:List Bool}{i:Nat}(A:i<=row.length)(q:(row++[true])[i]? =some true):cG row (i+1)=((gJ row i).take ((i+8)/8)).set (i/8) (aio (bn (gJ row i) (i/8)+2^(i%8))):=by
 have a:=yI row i A (i/8);rw[show i-8*(i/8)=i%8 by omega]at a
 have c:(LV (gJ row i) i).take ((i+8)/8)=((gJ row i).take ((i+8)/8)).set (i/8) (aio (bn (gJ row i) (i/8)+2^(i%8))):=by
  grind [ai2,Vy,LV,List.take_set,TB]
 by_cases b:i<row.length
 ·rw[ajm b]at q;unfold cG dG;rw[if_pos ω]
  have d:gJ row (i+1)=LV (gJ row i) i:=by
   rw[gJ,if_pos];rw[aiq,q];rfl
  grind
 ·have e:i=row.length:=ω;simp_all [c4,if_neg,Rg,List.take_of_length_le,cG,LV]
theorem OJ{s:Sl}{row:List Bool}(e:aj 1 h s (aY row))(q:row.length<500)(W:∀G,Ext h G->R (aiF (Rg row)).val G):Cl 223 [.slice s] h R:=by
 apply wU;delta aF gZ iA jr gI dD d_ eW kT gY bK fD;have el:=by have:=e.len;rwa [aim]at this
 have H:=aiw h (Vc.row (aiz []) 4);refine oW sz4 zz4 δ δ (by grind [b4]) (Vc.Own.new h [] (λt X=>by cases X)) (e.ext H) (λu a=>by obtain⟨b,_,rfl⟩:=aiZ.1 a;rfl) (λu a=>by obtain⟨b,_,rfl⟩:=aiZ.1 a;rfl) λY Z I ar f1 b1=>?_
 have ab:Ext h Z:=ail H f1 λi⟨l,q,f⟩=>by
  obtain rfl:=Option.some.inj q;rw[<-f];exact aiu _
 have l1:Y.len=row.length:=by have:=I.len;rw[List.nil_append,aim]at this;exact this.symm
 refine cD (C:=ctx) (T:=4) (sz:=1) (x:=.bool true) sz4 zz4 (by rw[b4];decide) (by rw[b4];omega) I rfl rfl λy m o2 f2 b2=>?_
 have ac:Ext h m:=ail ab f2 λi⟨l,q,f⟩=>by
  rcases b1 l q with⟨l',ad,B⟩|B
  ·obtain rfl:=Option.some.inj ad;rw[<-f,<-B];exact aiu _
  ·rw[ajg]at B;omega
 have e2:aj 1 m y (aY (row++[true])):=by
  have:=o2.elems;simpa[aY]using this
 have l2:y.len=row.length+1:=by have:=e2.len;rw[aim,ain]at this;exact this.symm
 refine⟨λσ r=>0<=σ.2/\σ.2<=y.len/\Row (λb=>m.size<=b) r σ.1 (cG row σ.2.toNat)/\Ext m r,λσ _=>((y.len:Int)-σ.2).toNat,
  ⟨aip 0,Ω,⟨Vc.Own.nil _ _ _,(λl q=>by cases q),λi f=>f⟩,ai0 _⟩,?_⟩
 rintro⟨out,i⟩ K ⟨L,i1,c,v⟩;dsimp only at L i1 c v⊢;refine ID (λf=>?_) λf=>?_
 ·refine kD (e2.ext v) L (by rw[ain,aiJ];omega) λx M=>?_;have g:i.toNat<=row.length:=ω;have ae:cG row i.toNat=dG row i.toNat:=if_pos g;rw[ae]at c;have aw:=WU (row:=row) (i:=i.toNat) ω
  have D:ais i 8=((i.toNat%8:Nat):Int):=by
   have:=adA i.toNat
   rwa [show((i.toNat:Nat):Int)=i by omega]at this
  rw[wrap_i64 (n:=i+1) ω ω];have N:(i+1).toNat=i.toNat+1:=ω;intro J O
  have step:∀(o:Sl)(d:af),Row (λb=>m.size<=b) d o ((gJ row i.toNat).take ((i.toNat+8)/8))->Ext m d->J o d:=by
   intro o d p Q;refine O o d ?_;have E:((gJ row i.toNat).take ((i.toNat+8)/8)).length=i.toNat/8+1:=by rw[aiP,c4];omega
   have al:=p.len;rw[E]at al;cases x with
   |false=>
    refine aix ⟨⟨Ω,Ω,?_,Q⟩,Ω⟩
    try dsimp only
    rw[N,afL g M];exact p
   |true=>
    refine aiA ?_;refine⟨λσ r=>0<=σ.2/\σ.2<=ais i 8/\d=r/\σ.1=((2^σ.2.toNat:Nat):Int),λσ _=>(ais i 8-σ.2).toNat,⟨aip 0,by rw[D];exact Int.natCast_nonneg _,rfl,rfl⟩,?_⟩;rintro⟨u,k⟩ r ⟨k0,S,rfl,a⟩;dsimp only at k0 S a⊢;refine⟨δ,?_⟩;rw[D]at S⊢;have aE:i.toNat%8<8:=Nat.mod_lt _ δ;have am:2^k.toNat<=2^7:=ajn δ ω;obtain⟨P,w⟩:∃P,P=2^k.toNat:=⟨_,rfl⟩;rw[<-w]at a am;refine ID (λhk=>?_) λhk=>?_
    ·rw[wrap_i64 (n:=2*u) ω ω,wrap_i64 (n:=k+1) ω ω];refine⟨⟨ω,ω,rfl,?_⟩,Ω⟩;rw[a,show(k+1).toNat=k.toNat+1 by omega,Nat.pow_succ,<-w];omega
    ·have ao:k.toNat=i.toNat%8:=ω;rw[ao]at w;rw[wrap_i64 (n:=(o.len:Int)-1) ω ω];have z:aij ((o.len:Int)-1)=i.toNat/8:=ω;have U:=yI row i.toNat g (i.toNat/8);rw[show i.toNat-8*(i.toNat/8)=i.toNat%8 by omega]at U;refine yj (bs:=(gJ row i.toNat).take ((i.toNat+8)/8)) p.own.elems ω (by rw[E];omega) ?_;rw[z,ZU ω,TB]
     have ap:aih .u8 ((bn (gJ row i.toNat) (i.toNat/8):Int)+aih .u8 u)=((bn (gJ row i.toNat) (i.toNat/8)+2^(i.toNat%8):Nat):Int):=by
      rw[a,wrap_u8,wrap_u8,<-w];rw[<-w]at U;omega
     rw[ap,show i.toNat/8=((o.len:Int)-1).toNat from z.symm];refine p.set (i:=(o.len:Int)-1) ω (by rw[E];omega) ω (by rw[z];omega) λh5 V f5=>?_;refine⟨⟨Ω,Ω,?_,ail Q f5 λj F=>F⟩,Ω⟩
     try dsimp only
     rw[N,aef g M];rw[z,ai2]at V;exact V
  clear O;refine⟨δ,?_⟩;rw[D];have A:=aco (row:=row) (i:=i.toNat) g;refine ID (λh8=>?_) λh8=>?_
  ·rw[if_pos ω]at A;refine QU c ω δ δ λs4 d p f4 b4=>?_;refine step s4 d ?_ (ail v (c.cut f4) λj F=>F);rw[A];exact p
  ·rw[if_neg ω]at A;refine step out K ?_ v;rw[A];exact c
 ·have g:i.toNat=row.length+1:=ω;rw[g]at c;have hc:cG row (row.length+1)=Rg row:=if_neg ω;rw[hc]at c;exact⟨_,c.str,W K (ac.trans v)⟩
def yes:List Bool->Nat
 |[]=>0
 |b::l=>(if b=true then 1 else 0)+yes l
theorem Rj:∀(l:List Bool)(b:Bool),yes (l++[b])=yes l+if b=true then 1 else 0
 |[],b=>by simp[yes]
 |a::l,b=>by rw[List.cons_append,yes,yes,Rj l b];omega
theorem ZV:∀l:List Bool,yes l<=l.length
 |[]=>aiu _
 |b::l=>by have:=ZV l;grind [yes,List.length_cons]
theorem Vz:∀l:List Bool,decide (0<((yes l:Nat):Int))=l.contains true
 |[]=>by rfl
 |b::l=>by
  have a:=Vz l
  grind [yes]
theorem yJ{m:Ms}{row:List Bool}(e:aj 1 h m.bits (aY row))(U:row.length<100000)(A:∀q,Ext h q->R (aiv (dU m row)).val q):Cl 97 [m.tv] h R:=by
 apply yH m.kind m.slot m.target m.ax m.body m.bits m.tag;delta gz dK iZ aO dx gI fE aN bK lq;have el:=by have:=e.len;rwa [aim]at this
 refine aa λj v1 r S=>?_;have B:=v1.at;obtain⟨k,s,T,l,t,n,V⟩:=B;have a:=A j r;intro C u
 have D:∀b,1<=m.kind->m.kind<=3->m.slot>=0->m.slot<=1073741824->m.ax>=0->m.ax<=65535->C b j:=by
  intro b W X E F G H;refine u b j ⟨m.bits,n,?_⟩;refine⟨λσ v=>0<=σ.2/\σ.2<=m.bits.len/\v=j/\σ.1=(yes (row.take σ.2.toNat):Nat),λσ _=>(m.bits.len-σ.2).toNat,⟨aip 0,ω,rfl,by rfl⟩,?_⟩;rintro⟨y,i⟩ v ⟨w,I,rfl,o⟩;dsimp only at w I o⊢;refine ID (λJ=>?_) λJ=>?_
  ·refine kD (e.ext r) w ω λx K=>?_;have L:=Rj (row.take i.toNat) x;rw[<-aU K]at L;have M:=ZV (row.take i.toNat);rw[aiP]at M;rw[wrap_i64 ω ω];have Y:(i+1).toNat=i.toNat+1:=ω;cases x with
   |true=>
    rw[wrap_i64 ω ω];refine aiA ⟨⟨ω,ω,rfl,?_⟩,ω⟩;simp_all
   |false=>
    refine aix ⟨⟨ω,ω,rfl,?_⟩,ω⟩;simp_all
  ·have N:row.take i.toNat=row:=List.take_of_length_le ω;rw[N]at o;subst o;have O:=Vz row
   have P:∀z:Bool,(!(decide (m.slot<0)||decide (1073741824<m.slot)||decide (m.ax<0)||decide (65535<m.ax)||z))=!z:=by
    simp_all
   unfold dU at a;rw[P]at a;refine⟨_,k,ID (λp=>?_) λp=>?_⟩
   ·rw[if_pos p,decide_eq_false (show¬m.kind=1 by omega),<-O]at a;refine⟨_,l,ID (λg=>⟨_,t,ID (λd=>⟨_,n,ID (λQ=>?_) λQ=>?_⟩) λd=>?_⟩) λg=>?_⟩
    ·rw[decide_eq_true g,decide_eq_true d,decide_eq_true (show row.length<=16 by omega)]at a;simpa using a
    ·rw[decide_eq_false (show¬row.length<=16 by omega)]at a;simpa using a
    ·rw[decide_eq_false d]at a;simpa using a
    ·rw[decide_eq_false g]at a;simpa using a
   ·rw[if_neg p]at a;refine⟨_,n,ID (λg=>⟨_,k,ID (λd=>?_) λd=>⟨_,t,?_⟩⟩) λg=>?_⟩
    ·rw[decide_eq_true d,decide_eq_true (show row.length=0 by omega)]at a;simpa using a
    ·rw[decide_eq_false d,decide_eq_true (show row.length=0 by omega),decide_eq_true (show m.kind=2 by omega)]at a;simpa using a
    ·rw[decide_eq_false (show¬row.length=0 by omega)]at a;simpa using a
 have f:(m.kind<1\/3<m.kind\/m.slot<0\/1073741824<m.slot\/m.ax<0\/65535<m.ax)->R (aiv false).val j:=by
  intro c
  have:dU m row=false:=by
   unfold dU;rcases c with c|c|c|c|c|c
   ·rw[if_neg ω,decide_eq_false (show¬m.kind=1 by omega),decide_eq_false (show¬m.kind=2 by omega)];simp
   ·rw[if_neg ω,decide_eq_false (show¬m.kind=1 by omega),decide_eq_false (show¬m.kind=2 by omega)];simp
   ·simp[c]
   ·simp[c]
   ·simp[c]
   ·simp[c]
  rw[this]at a;exact a
 clear u;exact⟨_,k,ID (λg=>f (.inl g)) λE=>⟨_,k,ID (λg=>f (.inr (.inl g))) λF=>⟨_,s,ID (λg=>f (.inr (.inr (.inl g)))) λG=>⟨_,s,ID (λg=>f (.inr (.inr (.inr (.inl g))))) λH=>⟨_,l,ID (λg=>f (.inr (.inr (.inr (.inr (.inl g)))))) λZ=>⟨_,l,ID (λg=>f (.inr (.inr (.inr (.inr (.inr g)))))) λg6=>D _ ω ω ω ω ω ω⟩⟩⟩⟩⟩⟩
end
end Board
namespace Board
section
variable{R:Rq}{h:af}
def j9(m:Ms):Prop:=0<=m.body/\m.body<18446744073709551616
theorem WV{n:Int}(h:n=1\/n=2\/n=3):MV (aih .u64 n) 1=[aio (aih .u8 n).toNat]:=by
 rcases h with h|h|h<;>subst h<;>rfl
theorem lY{m:Ms}{row:List Bool}(q:dU m row=true):m.kind=1\/m.kind=2\/m.kind=3:=by
 by_cases a:m.kind=3
 ·exact .inr (.inr a)
 ·unfold dU at q;rw[if_neg a]at q;simp only[ajb,Bool.or_eq_true,decide_eq_true_eq]at q;rcases q.2.1 with h|h
  ·exact .inl h
  ·exact .inr (.inl h)
theorem wW{b:Nat}{q:af}(A:b<q.size):Row (λi=>b<i) (q.push (Vc.row (aiz []) 5)) ⟨some ⟨q.size,0⟩,0,0⟩ []:=by
 refine⟨Vc.Own.new (T:=5) (sz:=1) q [] (λt a=>by cases a),λl c=>?_,λi d=>?_⟩
 ·obtain rfl:=Option.some.inj c;exact A
 ·rw[ajg]at d;omega
theorem Row.ext{Q:Nat->Prop}{q:af}{s:Sl}{bs:LU}(r:Row Q h s bs)(e:Ext h q):Row Q q s bs:=
 ⟨r.own.ext e,r.uT,λi a=>r.new i (Nat.le_trans e.size a)⟩
theorem GA{m:Ms}{b:Nat}{s:Sl}{K:Sl->Rq}(v:Var 58 h b m.tv)(r:Row (λi=>b<i) h s [])(A:∀d a,ag (λi=>b<i) h a->K d (aiF m.target.l).val a):
 ∃(new:List Value),cn h (ay (Sl.mk (some (Vc.Loc.mk b 2)) 32 32) 0 32 1) 1 new/\(∀(v:Value),v∈new->bU v=true)/\au ctx 5 s (ay (Sl.mk (some (Vc.Loc.mk b 2)) 32 32) 0 32 1).len new h λ(q:Sl)(B:Array Obj)=>Cl 159 [aiO q] B (K q):=by
 obtain⟨l,n,e,o,p,u,w⟩:=v.at (t:=m.tv);have f:ay (Sl.mk (some (Vc.Loc.mk b 2)) 32 32) 0 32 1=⟨some ⟨b,2⟩,32,32⟩:=rfl;rw[f];refine⟨m.target.l.map λc=>ai4 .u8 (c.toNat:Int),by rw[<-rW];exact(uD e).cells (By _) δ,sJ m.target.l,?_⟩;refine yG m.target.h.symm r (by rw[m.target.h];decide) λg j k f3 x=>?_;apply mS;delta Dj;exact⟨_,k.str,A g j (r.cut f3)⟩
theorem pg{m:Ms}{row:List Bool}(e:aj 1 h m.bits (aY row))(O:row.length<500)(U:m.kind=1\/m.kind=2\/m.kind=3)(B:j9 m)(q:∀C,Ext h C->R (aiF (dA m row)).val C):Cl 158 [m.tv] h R:=by
 apply wV m.kind m.slot m.target m.ax m.body m.bits m.tag;delta gz dK Bq iA dx tM nY d_ kT gY gj aN bA fD;refine aa λp v1 N s1=>?_;have v1:Var 58 p h.size m.tv:=v1;obtain⟨Q,S,a2,a3,a4,a5,a6⟩:=v1.at (t:=m.tv);intro T D;obtain⟨P,f⟩:∃P,P=([aio (aih .u8 m.kind).toNat]++yo (aih .u64 m.slot) 4)++m.target.l:=⟨_,rfl⟩
 have r:P.length=37:=by
  rw[f,ain,ain,yF,aiJ,m.target.h]
 have k:=gC m.ax;have E:=gC m.slot
 have u:∀(s:Int×Int×LU×Int×Int×LU×LU×Sl×Sl×Sl×LU×LU×LU)(l:af),Ext p l->s.2.2.2.2.2.2.2.2.2.2.2.2=P->T s l:=by
  intro s l F V;refine D s l ?_;dsimp only;rw[V];have W:=v1.ext F;obtain⟨G,b1,b2,X,b4,Y,b6⟩:=W.at (t:=m.tv);have o:=N.trans F;refine⟨_,G,ID (λH=>⟨_,Y,OJ (e.ext o) O λv d=>⟨_,rfl,?_,?_⟩⟩) λH=>⟨_,X,bL 2 _ _ _ δ λv d=>⟨_,rfl,?_,_,mI d G,ID (λw=>⟨_,mI d b4,bL 8 _ _ _ δ λZ x7=>⟨_,rfl,?_,?_⟩⟩) λw=>?_⟩⟩⟩
  ·rw[r,Ri];omega
  ·have:=q v (o.trans d);unfold dA at this;rw[if_neg ω,if_neg ω,if_pos H,<-f]at this;exact this
  ·rw[r,dN];decide
  ·rw[ain,r,dN,dN];decide
  ·have:=q Z ((o.trans d).trans x7);unfold dA at this;rw[if_pos w,<-f,<-BF 2 _ k.1 k.2,<-BF 8 _ B.1 B.2,<-ai1]at this;exact this
  ·have:=q v (o.trans d);unfold dA at this;rw[if_neg w,if_pos ω,<-f,<-BF 2 _ k.1 k.2]at this;exact this
 clear D;have I:∀n,(MV n 1).length=1:=dN 1;have J:∀n,(MV n 4).length=4:=dN 4;have lT:=m.target.h
 have x:(MV (aih .u64 m.kind) 1++MV (aih .u64 m.slot) 4)++m.target.l=P:=by
  rw[f,WV U,BF 4 _ E.1 E.2]
 have y:((MV (aih .u64 m.kind) 1).length+(MV (aih .u64 m.slot) 4).length:Nat)<=(9223372036854775807:Int):=by rw[I,J];decide
 have z:((MV (aih .u64 m.kind) 1++MV (aih .u64 m.slot) 4).length+m.target.l.length:Nat)<=(9223372036854775807:Int):=by rw[ain,I,J,lT];decide
 refine⟨_,Q,_,S,⟨bL 1 _ _ _ δ λK a=>⟨_,rfl,a,⟨bL 4 _ _ _ δ λA b=>⟨_,rfl,y,aiw _ _,?_⟩,aiw _ _,bL 4 _ _ _ δ λA b=>⟨_,rfl,y,?_⟩⟩⟩,aiw _ _,bL 1 _ _ _ δ λK a=>⟨_,rfl,a,bL 4 _ _ _ δ λA b=>⟨_,rfl,y,?_⟩⟩⟩⟩
 ·have z2:=a.size;have z3:=b.size;have c:=(a.trans b).trans (aiw A (Vc.row (aiz []) 5));exact GA (v1.ext c) (wW ω) λL g j=>⟨_,rfl,z,u _ g (ail c j λi M=>ω) x⟩
 ·have z2:=a.size;have c:=(a.trans (aiw K (Vc.row (aiz []) 5))).trans b;exact GA (v1.ext c) ((wW ω).ext b) λL g j=>⟨_,rfl,z,u _ g (ail c j λi M=>ω) x⟩
 ·have c:=((aiw p (Vc.row (aiz []) 5)).trans a).trans b;exact GA (v1.ext c) ((wW ω).ext (a.trans b)) λL g j=>⟨_,rfl,z,u _ g (ail c j λi M=>ω) x⟩
theorem b16{x:Bs 16}:(aiX 16 x).size=16:=by simp only[TV.size]
theorem Fc{slot who:Int}{target:Bs 32}(q:∀a,Ext h a->R (aiF (dA ⟨2,slot,target,who,0,Sl.nil,aiE 16⟩ [])).val a):
 Cl 158 [.agg [.i 2,.i slot,.bytes 32 target,.i who,.int .u64 0,.slice Sl.nil,.bytes 16 (aiE 16)]] h R:=
 pg (m:=⟨2,slot,target,who,0,Sl.nil,aiE 16⟩) (row:=[]) (aj.Bf 1 h) δ (.inr (.inl rfl)) ⟨aip 0,by show(0:Int)<_;decide⟩ q
end
end Board
namespace Pool
theorem afM{h:af}{b o:Nat}{x:It}(E:x.tv.at h b o){K:Int->Bs 32->Int->Bs 32->LU->Prop}(G:K x.slot x.root x.peer x.fr x.text):
 ∃(n:Int),∃(c:Bs 32),∃(q:Int),∃(B:Bs 32),∃(s:LU),(ah h b o (.i n)/\av h b (o+1) 32 c/\ah h b (o+1+32) (.i q)/\av h b (o+1+32+1) 32 B/\ah h b (o+1+32+1+32) (.string (aiY (ajo s))))/\K n c q B s:=by
 have a:=E;obtain⟨d,e,f,g,j⟩:=a;exact⟨_,_,_,_,_,⟨d,e,f,g,j⟩,G⟩
section
variable{T:TypeId}{h:af}{b:Nat}{x:It}(v:Var T h b x.tv)
include v
theorem oz:ah h b 0 (.i x.slot):=v.at.1
theorem jF:av h b 1 32 x.root:=v.at.2.1
theorem Ki:ah h b 33 (.i x.peer):=v.at.2.2.1
theorem aeg:av h b 34 32 x.fr:=v.at.2.2.2.1
theorem OK:ah h b 66 (.string (aiY (ajo x.text))):=v.at.2.2.2.2
theorem rG{K:Int->Bs 32->Int->Bs 32->LU->Prop}(E:K x.slot x.root x.peer x.fr x.text):
 ∃(n:Int),∃(c:Bs 32),∃(q:Int),∃(B:Bs 32),∃(s:LU),(ah h b 0 (.i n)/\av h b 1 32 c/\ah h b 33 (.i q)/\av h b 34 32 B/\ah h b 66 (.string (aiY (ajo s))))/\K n c q B s:=
 ⟨_,_,_,_,_,⟨oz v,jF v,Ki v,aeg v,OK v⟩,E⟩
end
abbrev qw(L:List It):List TV:=L.map It.tv
theorem sM(L:List It):∀t∈qw L,t.size=67:=λt a=>by
 obtain⟨x,_,rfl⟩:=aiZ.1 a;rfl
theorem wY(L:List It):∀t∈qw L,t.plain=true:=λt a=>by
 obtain⟨x,_,rfl⟩:=aiZ.1 a;rfl
theorem gE{h:af}{s:Sl}{L:List It}{i:Int}(e:aj 67 h s (qw L))(E:0<=i)(H:i<L.length){K:Vc.Loc->Int->Bs 32->Int->Bs 32->LU->Prop}
 (G:∀l x,s.a=some l->L[i.toNat]? =some x->K l x.slot x.root x.peer x.fr x.text):
 0<=i/\i<(s.len:Int)/\Nn s.a λ(l:Vc.Loc)=>∃(n:Int),∃(c:Bs 32),∃(q:Int),∃(B:Bs 32),∃(t:LU),(ah h l.b (l.o+i.toNat*67) (.i n)/\av h l.b (l.o+i.toNat*67+1) 32 c/\ah h l.b (l.o+i.toNat*67+1+32) (.i q)/\av h l.b (l.o+i.toNat*67+1+32+1) 32 B/\ah h l.b (l.o+i.toNat*67+1+32+1+32) (.string (aiY (ajo t))))/\K l n c q B t:=by
 have b:=e.len;rw[aim]at b;refine e.read E ω λl t d a f=>?_;rw[aiK]at a;obtain⟨x,g,rfl⟩:=aiS.1 a;exact afM f (G l x d g)
theorem IQ{L:List It}{i:Nat}{x:It}(h:L[i]? =some x):x=cm L i:=(yc h).symm
theorem yp{T:TypeId}{h:af}{b n c:Nat}{x:Bs n}(v:Var T h b (.bytes n x)):kG h ⟨some ⟨b,0⟩,n,c⟩ x.l:=
 ⟨x.h,.inr ⟨_,rfl,λj a=>by
  have:=v.bytes j (by rw[<-x.h];exact a);simp_all⟩⟩
section
variable{R:Rq}{h:af}
theorem nZ{a b:Bs 32}(q:∀c,Ext h c->R (aiv (aiG a.l b.l)).val c):jc Tryz.prog 198 (aja [.bytes 32 a,.bytes 32 b]) h R:=by
 apply BC;refine aa λg v1 e i=>aa λj f d k=>?_;exact⟨a.l,yp (v1.ext d),b.l,yp f,q _ (e.trans d)⟩
theorem MM{a b:Bs 32}(q:∀c,Ext h c->R (aiv (aiG a.l b.l)).val c):Cl 198 [.bytes 32 a,.bytes 32 b] h R:=(nZ q).weak
theorem yK{x y:It}(q:∀a,Ext h a->R (aiv (bf x y)).val a):jc Tryz.prog 256 (aja [x.tv,y.tv]) h R:=by
 apply Fe x.slot x.root x.peer x.fr x.text y.slot y.root y.peer y.fr y.text;refine aa λl v1 f m=>aa λg b d n=>?_;have c:=v1.ext d;have e:=f.trans d;refine⟨x.slot,oz c,y.slot,oz b,ID (λi=>?_) λo=>?_⟩
 ·have:=q g e
  rwa [Oh.2 (.inl i)]at this
 ·refine⟨x.slot,oz c,y.slot,oz b,ID (λj=>?_) λp=>?_⟩
  ·refine⟨x.root,jF c,y.root,jF b,nZ λa k=>⟨_,rfl,?_⟩⟩;have:=q a (e.trans k)
   rwa [show bf x y=aiG x.root.l y.root.l by unfold bf;simp[j]]at this
  simp_all [bf]
theorem ux{x y:It}(q:∀a,Ext h a->R (aiv (bf x y)).val a):Cl 256 [x.tv,y.tv] h R:=(yK q).weak
structure HL(h:af)(b:Nat)(A:Sl)(L:List It)(most quota:Int):Prop where
 var:Var 244 h b (.agg [.slice A,.i most,.i quota])
 own:Vc.Own 242 67 h A (qw L)
 apart:¬In A b
 iz:L.length<1000
section
variable{b:Nat}{A:Sl}{L:List It}{most quota:Int}
theorem HL.len(H:HL h b A L most quota):L.length=A.len:=by have:=H.own.len;simp_all
theorem HL.ext{q:af}(H:HL h b A L most quota)(x:Ext h q):HL q b A L most quota:=⟨H.var.ext x,H.own.ext x,H.apart,H.iz⟩
theorem HL.only{q:af}{S:Nat->Prop}(H:HL h b A L most quota)(o:ag S h q)(B:¬S b)(E:∀i,In A i->¬S i):HL q b A L most quota:=
 ⟨H.var.only o B,H.own.only o (λl a=>E _ ⟨l,a,rfl⟩),H.apart,H.iz⟩
theorem Ff(q:R (TV.i (A.len:Int)).val h):Cl 213 [.slice A] h R:=by
 apply C9;exact q
theorem BN(H:HL h b A L most quota){i k:Int}(q:0<=i)(B:i<L.length)(E:0<=k)(G:k<L.length)
 (I:∀a,Ext h a->R (aiv (bf (cm L k.toNat) (cm L i.toNat))).val a):Cl 373 [.slice A,.i i,.i k] h R:=by
 apply BK;refine gE H.own.elems E G λl x _ c=>gE H.own.elems q B λl y _ d=>?_;have e:=yc c;have f:=yc d;refine ux λa g=>⟨_,rfl,?_⟩;simp_all
theorem OM(L:List It)(i:Nat)(x:It):qw (L.set i x)=(qw L).set i x.tv:=by simp_all
theorem M4(H:HL h b A L most quota){i k:Int}(q:0<=i)(E:i<L.length)(B:0<=k)(G:k<L.length)
 (I:∀a,HL a b A (sw L i.toNat k.toNat) most quota->ag (In A) h a->a.size=h.size->R (aiC []).val a):Cl 374 [.slice A,.i i,.i k] h R:=by
 apply BL;refine gE H.own.elems B G λl x _ c=>gE H.own.elems q E λl y _ d=>?_;refine H.own.aH q (by simp_all) rfl rfl λn e f1 o=>?_;refine e.aH B (by simp_all) rfl rfl λf g f2 p=>?_;refine I f ⟨(H.var.only f1 H.apart).only f2 H.apart,?_,H.apart,by rw[vW];exact H.iz⟩ (f1.trans f2) ω;have j:=IQ c;have m:=IQ d;unfold sw;rw[OM,OM,<-j,<-m];exact g
theorem CE:(ctx.ti 242).bytes=96:=κ
theorem ON:(ctx.ti 242).size=67:=κ
theorem OO:(ctx.ti 242).z.size=67:=κ
theorem WW(H:HL h b A L most quota)(x:It)(q:L.length<900)
 {v:One}(B:v.v=.iface 242 x.tv.val)
 (E:∀c A',HL c b A' (L++[x]) most quota->ag (λi=>i=b\/In A i) h c->(∀i,In A' i->In A i\/h.size<=i)->R (aiC []).val c):Cl 375 [.ptr (PT b),.one v] h R:=by
 apply BM;have p:=H.len;refine⟨A,H.var.ah rfl,x.slot,x.root,x.peer,x.fr,x.text,B,aiw _ _,?_⟩;refine cD ON OO (by rw[CE];decide) (by rw[CE];omega) H.own rfl rfl λA' r m f1 j=>?_
 have k:∀l,A'.a=some l->l.b≠b:=by
  intro l q e;rcases j l q with⟨d,a,f⟩|a
  ·exact H.apart ⟨d,a,f.trans e⟩
  ·have:=H.var.lt;omega
 have v1:=H.var.only f1 H.apart;refine aI (i:=0) v1 rfl rfl rfl rfl λn o f2 s=>?_;refine E n A' ⟨o,?_,λ⟨l,q,e⟩=>k l q e,by grind⟩ ((f1.mono λi g=>.inr g).trans (f2.mono λi g=>.inl g)) (λi⟨l,q,e⟩=>?_)
 ·have:qw (L++[x])=qw L++[x.tv]:=by grind
  rw[this];exact m.only f2 k
 ·rcases j l q with⟨d,a,f⟩|a
  ·exact .inl ⟨d,a,f.trans e⟩
  omega
theorem jC:0<ctx.P.types.size:=of_decide_eq_true κ
end
end
end Pool
namespace Pool
section
variable{R:Rq}{h:af}{b:Nat}{A:Sl}{L:List It}{most quota:Int}
theorem ZW(H:HL h b A L most quota):gq Tryz.prog h 299 (aiN (PT b)).val "Len" 213 (aiO A).val:=
 JA bP (e:=241) κ κ jC κ κ κ (H.var.ah rfl)
theorem TC(H:HL h b A L most quota):gq Tryz.prog h 299 (aiN (PT b)).val "Less" 373 (aiO A).val:=
 JA bP (e:=241) κ κ jC κ κ κ (H.var.ah rfl)
theorem ZX(H:HL h b A L most quota):gq Tryz.prog h 299 (aiN (PT b)).val "Swap" 374 (aiO A).val:=
 JA bP (e:=241) κ κ jC κ κ κ (H.var.ah rfl)
theorem aeh:gq Tryz.prog h 299 (aiN (PT b)).val "Push" 375 (aiN (PT b)).val:=
 Bi bP (e:=241) κ κ jC κ
theorem adB(n:Int)(h:0<=n):aiM n 2=((n.toNat/2:Nat):Int):=by
 grind
theorem VA(H:HL h b A L most quota){v:One}(q:v.v=.iface 299 (aiN (PT b)).val){j:Int}(E:0<=j)(j1:j<L.length)(G:Qt L j.toNat)
 (B:∀d L',HL d b A L' most quota->L'.Perm L->gv 0 L'->ag (In A) h d->R (aiC []).val d):Cl 300 [.one v,.i j] h R:=by
 apply wX;delta aF jt fP aT;have y:=H.iz;refine⟨λs a=>0<=s/\s<L.length/\∃L',HL a b A L' most quota/\L'.Perm L/\Qt L' s.toNat/\ag (In A) h a,λs _=>s.toNat,⟨E,j1,L,H,List.Perm.refl _,G,aiL _ _⟩,?_⟩;rintro s a ⟨f,z,L',H',c,g,o⟩;have C:=c.length_eq;refine⟨δ,?_⟩;rw[wrap_i64 (n:=s-1) ω ω]
 have r:aiM (s-1) 2=if s=0 then 0 else((s.toNat-1)/2:Nat):=by
  grind
 rw[r];refine ID (λD=>?_) λk=>?_
 ·have l:s=0:=by
   grind [wrap_i64]
  exact B a L' H' c (UZ g ω (.inl ω)) o
 ·have l:¬s=0:=λe=>by rw[e]at k;exact k δ
  rw[if_neg l,wrap_i64 ω ω];have t:(((s.toNat-1)/2:Nat):Int).toNat=(s.toNat-1)/2:=ai2 _;refine⟨_,_,_,_,q,TC H',?_⟩;refine BN H' f ω ω ω λu m=>⟨_,rfl,?_⟩;have H2:=H'.ext m;have p:=o.trans (aiI m);rw[t];cases w:bf (cm L' ((s.toNat-1)/2)) (cm L' s.toNat)with
  |false=>exact aiA (B u L' H2 c (UZ g ω (.inr w)) p)
  |true=>
   refine aix ⟨_,_,_,_,q,ZX H2,?_⟩;refine M4 H2 ω ω f ω λF H3 x _=>⟨rfl,?_⟩;refine⟨⟨ω,ω,_,H3,(UY ω ω).trans c,?_,p.trans x⟩,by grind⟩
   grind [abJ]
theorem M5(H:HL h b A L most quota){v:One}(q:v.v=.iface 299 (aiN (PT b)).val){i n:Int}(U:0<=i)(G:i<L.length)(I:n=L.length){lo:Nat}(W:lo<=i.toNat)(hD:uo lo L i.toNat)
 (B:∀m L' r,HL m b A L' most quota->L'.Perm L->gv lo L'->ag (In A) h m->R (aiv r).val m):Cl 277 [.one v,.i i,.i n] h R:=by
 apply tU;delta mN aT;have S:=H.iz;subst I;refine⟨λs d=>i<=s/\s<L.length/\∃L',HL d b A L' most quota/\L'.Perm L/\uo lo L' s.toNat/\ag (In A) h d,λs _=>(L.length-s).toNat,⟨aip _,G,L,H,List.Perm.refl _,hD,aiL _ _⟩,?_⟩;rintro s d ⟨T,V,L',H',e,w,o⟩;have X:=e.length_eq;have p:∀x:Int,0<=x->x<10000->aih .i64 x=x:=λx Y Z=>wrap_i64 ω ω;rw[p (2*s) ω ω,p (2*s+1) ω ω,p (2*s+1+1) ω ω];have F:L.length<=2*s+1->gv lo L':=λy=>Mv w λk f g K=>ω;intro J M;refine ID (λy=>B d L' _ H' e (F y) o) λab=>?_;refine ID (λac=>ω) λ_=>?_;refine M _ _ ?_;intro N O
 have key:∀(c:Int)(a:af),0<c->c<L.length->(c.toNat-1)/2=s.toNat->HL a b A L' most quota->ag (In A) h a->
  (∀k,0<k->k<L'.length->(k-1)/2=s.toNat->bf (cm L' c.toNat) (cm L' k)=false)->N c a:=by
  intro c a c0 c1 K H2 j ad;refine O _ _ ?_;refine⟨_,_,_,_,q,TC H2,?_⟩;refine BN H2 ω ω ω ω λP z=>⟨_,rfl,?_⟩;have H3:=H2.ext z;have C:=j.trans (aiI z);cases t:bf (cm L' s.toNat) (cm L' c.toNat)with
  |false=>
   refine aiA (B P L' _ H3 e (Mv w λk f g u=>?_) C)
   grind [Bl]
  |true=>
   refine aix ⟨_,_,_,_,q,ZX H3,?_⟩;refine M4 H3 ω ω ω ω λh4 H4 Q _=>⟨rfl,?_⟩;refine⟨⟨ω,ω,_,H4,(UY ω ω).trans e,?_,C.trans Q⟩,by grind⟩
   grind [Wi]
 refine ID (λae=>?_) λal=>?_
 ·refine⟨_,_,_,_,q,TC H',?_⟩;refine BN H' ω ω ω ω λa D=>⟨_,rfl,?_⟩;have H2:=H'.ext D;have j:=o.trans (aiI D);have l:(2*s+1).toNat=2*s.toNat+1:=ω;have E:(2*s+1+1).toNat=2*s.toNat+2:=ω;rw[l,E];cases t:bf (cm L' (2*s.toNat+1)) (cm L' (2*s.toNat+2))with
  |true=>
   refine aiA (key _ a ω ω ω H2 j λk f g u=>?_);rw[E];have:k=2*s.toNat+1\/k=2*s.toNat+2:=ω;rcases this with rfl|rfl
   ·exact Bj t
   ·exact rV _
  |false=>
   refine aix (key _ a ω ω ω H2 j λk f g u=>?_);rw[l];have:k=2*s.toNat+1\/k=2*s.toNat+2:=ω;rcases this with rfl|rfl
   ·exact rV _
   ·exact t
 ·refine key _ d ω ω ω H' o λk f g u=>?_;have l:(2*s+1).toNat=2*s.toNat+1:=ω;rw[l];have:k=2*s.toNat+1:=ω;subst this;exact rV _
theorem TD(H:HL h b A L most quota)(B:gv 0 L)(E:L.length<900){v:One}(q:v.v=.iface 299 (aiN (PT b)).val)(x:It){u:One}(G:u.v=.iface 242 x.tv.val)
 (I:∀a A' L',HL a b A' L' most quota->L'.Perm (L++[x])->gv 0 L'->ag (λi=>i=b\/In A i) h a->(∀i,In A' i->In A i\/h.size<=i)->R (aiC []).val a):Cl 269 [.one v,.one u] h R:=by
 apply tV;delta jt fP aT;refine⟨_,_,_,_,q,aeh,?_⟩;refine WW H x E G λt A' H1 d l=>⟨rfl,?_⟩;refine⟨_,_,_,_,q,ZW H1,?_⟩;refine Ff ⟨_,rfl,?_⟩;have e:=H1.len;rw[ain,aiJ]at e;rw[<-e,wrap_i64 ω ω];have w:=ω;refine VA H1 q ω (by grind) ?_ λm L' H2 n o f=>⟨rfl,?_⟩
 ·have g:∀k,k<L.length->cm (L++[x]) k=cm L k:=λk c=>by
   simp_all [aiq,cm,ajm]
  refine⟨λk c j y=>?_,λk c j z C=>?_⟩
  ·rw[ain,aiJ]at j;rw[g k ω,g _ ω];exact B k c ω (aiW _)
  grind
 ·refine I m A' L' H2 n o ?_ l;have p:=d.size;refine⟨Nat.le_trans p f.size,λi r s=>?_⟩;rw[f.same i ω (λD=>?_),d.same i r s]
  grind
theorem WX(H:HL h b A L most quota)(G:0<L.length)(E:uo 0 L 0){v:One}(q:v.v=.iface 299 (aiN (PT b)).val)
 (B:∀a L',HL a b A L' most quota->L'.Perm L->gv 0 L'->ag (In A) h a->R (aiC []).val a):Cl 270 [.one v,.i 0] h R:=by
 apply u9;delta fP aT;refine⟨_,_,_,_,q,ZW H,?_⟩;refine Ff ⟨_,rfl,?_⟩;have e:=H.len;refine M5 H q (lo:=0) δ ω ω δ E λf L' r H1 c d o=>⟨_,rfl,?_⟩;cases r with
 |true=>exact aix (B f L' H1 c d o)
 |false=>
  have u:=c.length_eq;refine aiA (VA H1 q δ ω ⟨λk g j _=>d k g j (aiW _),λk _ _ _ l=>absurd l δ⟩ λm n H2 p s t=>⟨rfl,?_⟩);exact B m n H2 (p.trans c) s (o.trans t)
theorem TE(H:HL h b A L most quota){v:One}(q:v.v=.iface 299 (aiN (PT b)).val)
 (B:∀d L',HL d b A L' most quota->L'.Perm L->gv 0 L'->ag (In A) h d->R (aiC []).val d):Cl 225 [.one v] h R:=by
 apply tW;delta aF jt fP aT;refine⟨_,_,_,_,q,ZW H,?_⟩;refine Ff ⟨_,rfl,δ,?_⟩;have e:=H.len;have u:=H.iz;rw[<-e,adB _ ω,wrap_i64 (n:=((L.length:Int).toNat/2:Nat)) ω ω,wrap_i64 ω ω];refine⟨λs a=>-1<=s/\s<L.length/\∃L',HL a b A L' most quota/\L'.Perm L/\gv (s+1).toNat L'/\ag (In A) h a,λs _=>(s+1).toNat,⟨ω,ω,L,H,List.Perm.refl _,?_,aiL _ _⟩,?_⟩
 ·intro k w i x;omega
 rintro s a ⟨y,z,L',H',f,c,o⟩;have i:=f.length_eq;refine ID (λg=>?_) λg=>?_
 ·have es:(s+1).toNat=s.toNat+1:=ω;rw[es]at c;refine M5 H' q (lo:=s.toNat) g ω ω (aiu _) (SZ c) λC j r H1 l m p=>⟨_,rfl,?_⟩;rw[wrap_i64 ω ω];have t:(s-1+1).toNat=s.toNat:=ω;exact⟨⟨ω,ω,j,H1,l.trans f,by rw[t];exact m,o.trans p⟩,by dsimp only;omega⟩
 ·have es:(s+1).toNat=0:=ω;rw[es]at c;exact B a L' H' f c o
end
end Pool
end Go.Proofs.YtennbinbffdimaaGreat

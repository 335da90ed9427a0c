/- Texts that the proof needs, joined. -/
import Derived.Test.YtennbinbffdimaaGreatQk4
set_option maxRecDepth 100000
open Go.IntKind renaming u32->agi,wrap->agk,bits->agl,u64->ahK
open Go.Vc.Ws renaming set->agn,zero->ahQ
open BitVec renaming ofInt->agu,toNat->agO
open Go.Vc.ak renaming cells->agD,size->ahJ
open Go.Op renaming bytesLess->agU
open Array renaming push->agV,getElem?_eq_some_iff->aib
open Int renaming toNat->aha,fdiv->ahr,le_refl->ahz
open Go.Vc.Sl renaming mk->ahb,nil->ahA
open Nat renaming le_refl->ahd,strongRecOn->ah8,zero_le->ah9,mul_one->aie
open Go.Vc.Ext renaming refl->ahe,push->ahO
open Go.Vc.TV renaming size->ahf,int->ahy,words->ahD,bg->ahV,cells->ah2,bool->ah3
open Go.Vc.ag renaming cut->aho,refl->ahP,an->ahW
open List renaming length_map->ahp,getElem?_eq_getElem->ahq,mem_map->ahI,getD_eq_getElem?_getD->ahL,mem_singleton->ahM,getElem?_map->ahN,map_congr_left->ahR,map_cons->ahS,mem_cons->ahT,mem_append->ahU,mem_cons_self->ahY,pairwise_cons->ahZ,getElem?_eq_some_iff->ah0,length_append->ah1,sum_cons->ah4,nodup_append->aia,map_append->aic,map_set->aif
open Go.Vc.Loc renaming mk->ahB
open UInt8 renaming ofNat->ahC,lt_iff_toNat_lt->ahE
open Bool renaming or_eq_true->ahG,and_eq_true->ahH
open Go.Value renaming int->ahX
open Option renaming map_eq_some_iff->aid
namespace Go.Proofs.YtennbinbffdimaaGreat
open Go Go.Vc
namespace Gate
section
variable{n:Nat}{par:Nat->Nat}
def Up(n:Nat)(par:Nat->Nat):Prop:=∀i,0<i->i<n->par i<i
def We(n:Nat)(par:Nat->Nat)(k i:Nat):Bool:=decide (0<i/\i<n/\par i=k)
def kids(n:Nat)(par:Nat->Nat)(k:Nat):List Nat:=(List.range n).filter (We n par k)
theorem ew{k i:Nat}:i∈kids n par k↔0<i/\i<n/\par i=k:=by
 simp only[kids,We,List.mem_filter,List.mem_range,decide_eq_true_eq];exact⟨λh=>h.2,λh=>⟨h.2.1,h⟩⟩
def wt(n:Nat)(par:Nat->Nat)(own:Nat->Int):Nat->Nat->Int
 |0,_=>0
 |f+1,k=>own k+((kids n par k).map (wt n par own f)).sum
def nU(n:Nat)(par:Nat->Nat)(own:Nat->Int)(k:Nat):Int:=wt n par own n k
theorem UW(up:Up n par)(own:Nat->Int):∀f g k,n-k<=f->n-k<=g->k<n->wt n par own f k=wt n par own g k
 |0,_,k,h,_,a=>ω
 |_+1,0,k,_,h,a=>ω
 |f+1,g+1,k,c,d,a=>by
  unfold wt;congr 2;refine ahR λi b=>?_;obtain⟨A,q,B⟩:=ew.1 b;have:=up i A q;exact UW up own f g i ω ω q
theorem uk{α:Type}(l:List α)(f g:α->Int):(l.map λx=>f x+g x).sum=(l.map f).sum+(l.map g).sum:=by
 induction l with
 |nil=>rfl
 |cons x l a=>simp only[ahS,ah4,a];omega
theorem YT(own d:Nat->Int):∀f k,wt n par (λi=>own i+d i) f k=wt n par own f k+wt n par d f k
 |0,_=>rfl
 |f+1,k=>by
  unfold wt;rw[ahR λi _=>YT own d f i,uk];omega
theorem Jy{own q:Nat->Int}(up:Up n par):∀f k,k<n->(∀i,i<n->own i=q i)->wt n par own f k=wt n par q f k
 |0,_,_,_=>rfl
 |f+1,k,A,h=>by
  unfold wt;rw[h k A];congr 2;refine ahR λi B=>?_;exact Jy up f i (ew.1 B).2.1 h
def Wf(par:Nat->Nat)(k:Nat):Nat->Nat->Bool
 |0,i=>decide (i=k)
 |f+1,i=>decide (i=k)||(decide (0<i)&&Wf par k f (par i))
def bO(par:Nat->Nat)(k i:Nat):Bool:=Wf par k i i
theorem Qq(up:Up n par)(k:Nat):∀f g i,i<=f->i<=g->i<n->Wf par k f i=Wf par k g i
 |0,0,_,_,_,_=>rfl
 |0,g+1,i,h,_,_=>by
  have:i=0:=ω;subst this;simp[Wf]
 |f+1,0,i,_,h,_=>by
  have:i=0:=ω;subst this;simp[Wf]
 |f+1,g+1,i,c,d,b=>by
  unfold Wf;by_cases a:0<i
  ·have:=up i a b;rw[Qq up k f g (par i) ω ω ω]
  ·simp[a]
theorem fO(up:Up n par){k i:Nat}(q:i<n):bO par k i=(decide (i=k)||(decide (0<i)&&bO par k (par i))):=by
 unfold bO;cases i with
 |zero=>simp[Wf]
 |succ j=>
  conv=>lhs;unfold Wf
  have:=up (j+1) ω q;rw[Qq up k j (par (j+1)) (par (j+1)) ω (ahd _) ω]
theorem pO(k:Nat):bO par k k=true:=by
 unfold bO;cases k<;>simp[Wf]
theorem Bg(up:Up n par){k:Nat}:∀i,i<n->bO par k i=true->k<=i:=by
 intro i
 induction i using ah8 with
 |ind i b=>
  intro a h;rw[fO up a]at h;simp only[ahG,decide_eq_true_eq,ahH]at h;rcases h with h|⟨c,h⟩
  ·omega
  ·have:=up i c a;have:=b (par i) this ω h;omega
def one(b:Bool):Int:=if b=true then 1 else 0
theorem pP{α:Type}{l:List α}{f:α->Int}(h:∀x∈l,f x=0):(l.map f).sum=0:=by
 induction l with
 |nil=>rfl
 |cons x l a=>
  simp only[ahS,ah4];rw[h x (ahY ..),a λy b=>h y (List.mem_cons_of_mem _ b)];rfl
theorem YU{l:List Nat}(q:l.Nodup)(i:Nat):(l.map λc=>one (decide (i=c))).sum=one (decide (i∈l)):=by
 induction l with
 |nil=>simp[one]
 |cons x l b=>
  obtain⟨d,e⟩:=List.nodup_cons.1 q;simp only[ahS,ah4,b e,ahT];by_cases a:i=x
  ·subst a;simp[one,d]
  ·simp[one,a]
theorem Jz(k:Nat):(kids n par k).Nodup:=List.nodup_range.filter _
theorem YV(up:Up n par)(k:Nat):∀i,i<n->((kids n par k).map λc=>one (bO par c i)).sum=if k=i then 0 else one (bO par k i):=by
 intro i
 induction i using ah8 with
 |ind i m=>
  intro a;by_cases g:k=i
  ·subst g;rw[if_pos rfl];refine pP λc f=>?_;obtain⟨b,o,t⟩:=ew.1 f;have:=up c b o;unfold one;rw[if_neg];intro p;have:=Bg up _ a p;omega
  ·rw[if_neg g];by_cases b:0<i
   ·have q:=up i b a
    have e:∀c∈kids n par k,one (bO par c i)=one (decide (i=c))+one (bO par c (par i)):=λc f=>by
     rw[fO up a];by_cases j:i=c
     ·subst j
      have:bO par i (par i)=false:=by
       cases r:bO par i (par i)with
       |false=>rfl
       |true=>have:=Bg up _ ω r;omega
      rw[this];simp[one]
     ·simp[one,j,b]
    rw[ahR e,uk,YU (Jz k),m (par i) q ω,fO up a];have l:(i∈kids n par k)↔par i=k:=by rw[ew];exact⟨λh=>h.2.2,λh=>⟨b,a,h⟩⟩
    by_cases d:par i=k
    ·rw[if_pos d.symm];have:bO par k (par i)=true:=by rw[d];exact pO k
     simp[one,l,d,b,pO]
    ·rw[if_neg (λh=>d h.symm)];have:¬i=k:=λh=>g h.symm;simp[one,l,d,this,b]
   ·have s:i=0:=ω;subst s;rw[fO up a];have:bO par k 0=false:=by rw[fO up a];simp;omega
    have e:∀c∈kids n par k,one (bO par c 0)=0:=λc f=>by
     have:=(ew.1 f).1;rw[fO up a];simp[one];omega
    rw[pP e];simp[one];omega
theorem YW(up:Up n par)(i:Nat)(q:i<n)(d:Int):∀f k,n-k<=f->k<n->wt n par (λj=>if j=i then d else 0) f k=d*one (bO par k i)
 |0,k,h,a=>ω
 |f+1,k,r,a=>by
  unfold wt
  have e:∀c∈kids n par k,wt n par (λj=>if j=i then d else 0) f c=d*one (bO par c i):=λc g=>by
   obtain⟨m,b,s⟩:=ew.1 g;have:=up c m b;exact YW up i q d f c ω b
  have o:∀l:List Nat,(l.map λc=>d*one (bO par c i)).sum=d*(l.map λc=>one (bO par c i)).sum:=by
   intro l
   induction l with
   |nil=>simp
   |cons x l p=>simp only[ahS,ah4,p,Int.mul_add]
  rw[ahR e,o,YV up k i q];by_cases a:k=i
  ·subst a;rw[if_pos rfl,if_pos rfl,pO];simp[one]
  ·rw[if_neg a,if_neg a];omega
theorem Qr(up:Up n par)(own:Nat->Int){i k:Nat}(A:i<n)(q:k<n)(d:Int):nU n par (λj=>if j=i then own j+d else own j) k=nU n par own k+d*one (bO par k i):=by
 unfold nU;rw[<-YW up i A d n k ω q,<-YT];refine Jy up n k q λj _=>?_;by_cases h:j=i
 ·rw[if_pos h,if_pos h]
 ·rw[if_neg h,if_neg h];omega
def SE(s:Nat->Int)(r:Nat->LU)(x y:Nat):Bool:=decide (s y<s x)||(decide (s x=s y)&&agU (r y) (r x))
def cZ(s:Nat->Int)(r:Nat->LU)(b:Option Nat)(x:Nat):Option Nat:=match b with
 |none=>some x
 |some y=>if SE s r x y=true then some x else some y
def adn(s:Nat->Int)(r:Nat->LU)(l:List Nat):Option Nat:=l.foldl (cZ s r) none
def sA(s:Nat->Int)(r:Nat->LU)(l:List Nat):Option Nat->Prop
 |none=>l=[]
 |some b=>b∈l/\∀x∈l,x≠b->SE s r b x=true
end
end Gate
namespace Pool
instance zH{n:Nat}:DecidableEq (Bs n):=λa b=>decidable_of_iff (a.l=b.l) ⟨λe=>Bs.ext' e,λe=>by rw[e]⟩
structure It where
 slot:Int
 root:Bs 32
 peer:Int
 fr:Bs 32
 text:LU
def It.tv(x:It):TV:=.agg [.i x.slot,.bytes 32 x.root,.i x.peer,.bytes 32 x.fr,.str x.text]
def It.zero:It:=⟨0,Bs.zero 32,0,Bs.zero 32,[]⟩
instance:Inhabited It:=⟨It.zero⟩
theorem It.size(x:It):x.tv.size=67:=rfl
theorem It.plain(x:It):x.tv.plain=true:=rfl
theorem iY:∀a:LU,agU a a=false
 |[]=>rfl
 |x::q=>by simp[agU,iY q]
theorem DQ:∀a b:LU,agU a b=true->agU b a=false
 |[],[],h=>by rfl
 |[],y::c,_=>rfl
 |x::d,[],h=>by cases h
 |x::d,y::c,h=>by
  simp only[agU,ahG,ahH,decide_eq_true_eq,beq_iff_eq]at h;simp only[agU,Bool.or_eq_false_iff,Bool.and_eq_false_iff,decide_eq_false_iff_not,beq_eq_false_iff_ne];rw[ahE]at h;rw[ahE];rcases h with h|⟨h,q⟩
  ·grind
  ·subst h;exact⟨ω,.inr (DQ d c q)⟩
theorem lE:∀a b c:LU,agU a b=true->agU b c=true->agU a c=true
 |[],[],_,h,_=>by cases h
 |_::_,[],_,h,_=>by cases h
 |_,_::_,[],_,k=>by cases k
 |[],_::_,_::_,_,_=>rfl
 |x::q,y::A,z::B,h,k=>by
  simp only[agU,ahG,ahH,decide_eq_true_eq,beq_iff_eq]at h k⊢;rw[ahE]at h k⊢;rcases h with h|⟨h,E⟩
  ·grind
  ·rcases k with k|⟨k,G⟩
   ·simp_all
   ·right;exact⟨h.trans k,lE q A B E G⟩
theorem jf:∀a b:LU,a≠b->agU a b=true\/agU b a=true
 |[],[],h=>absurd rfl h
 |[],y::c,_=>.inl rfl
 |x::d,[],_=>.inr rfl
 |x::d,y::c,h=>by
  simp only[agU,ahG,ahH,decide_eq_true_eq,beq_iff_eq];rw[ahE,ahE];by_cases e:x=y
  ·subst e;rcases jf d c (λq=>h (by rw[q]))with f|f<;>simp_all
  grind [Nat.lt_or_ge,UInt8.toNat_inj]
def bf(x y:It):Bool:=decide (x.slot<y.slot)||(decide (x.slot=y.slot)&&agU x.root.l y.root.l)
theorem Oh{x y:It}:bf x y=true↔x.slot<y.slot\/(x.slot=y.slot/\agU x.root.l y.root.l=true):=by
 unfold bf;simp
theorem rV(x:It):bf x x=false:=by
 simp[bf,iY]
theorem EN{x y z:It}(h:bf x y=true)(k:bf y z=true):bf x z=true:=by
 grind [Oh,lE]
theorem Bj{x y:It}(h:bf x y=true):bf y x=false:=by
 grind [rV,EN,bf]
theorem JE{x y:It}(h:¬(x.slot=y.slot/\x.root=y.root)):bf x y=true\/bf y x=true:=by
 grind [Bs.ext',Int.lt_or_gt_of_ne,jf,Oh]
theorem Bl{x y z:It}(h:bf x y=false)(k:bf y z=false):bf x z=false:=by
 grind [EN,bf,JE]
def YX(S:List It):Prop:=S.Pairwise λx y=>bf x y=true
def dP(x:It):List It->List It
 |[]=>[x]
 |y::a=>if bf x y=true then x::y::a else y::dP x a
theorem dy(x:It):∀S,(dP x S).Perm (x::S)
 |[]=>List.Perm.refl _
 |y::q=>by
  unfold dP;split
  ·rfl
  ·exact((dy x q).cons y).trans (List.Perm.swap x y q)
theorem F_{x:It}:∀{S:List It},YX S->(∀y∈S,x.root≠y.root)->YX (dP x S)
 |[],_,_=>by simp[dP,YX]
 |y::c,h,d=>by
  unfold dP;have e:=ahZ.1 h;split
  ·rename_i b;refine ahZ.2 ⟨λz a=>?_,h⟩;rcases ahT.1 a with rfl|a
   ·exact b
   grind [EN]
  ·rename_i b
   have f:bf y x=true:=by
    grind [absurd,ahY,JE]
   refine ahZ.2 ⟨λz a=>?_,F_ e.2 (λz a=>d z (List.mem_cons_of_mem _ a))⟩;rcases ahT.1 ((dy x c).mem_iff.1 a)with rfl|a<;>simp_all
theorem JF:∀{S T:List It},YX S->YX T->S.Perm T->S=T
 |[],T,_,_,c=>c.nil_eq
 |x::S,[],_,_,c=>by simp_all
 |x::S,y::T,h,i,c=>by
  have f:=ahZ.1 h;have g:=ahZ.1 i
  have e:x=y:=by
   rcases ahT.1 (c.mem_iff.1 (ahY (a:=x) (l:=S)))with e|e
   ·exact e
   ·rcases ahT.1 (c.mem_iff.2 (ahY (a:=y) (l:=T)))with d|d
    ·exact d.symm
    ·have a:=g.1 x e;have b:=f.1 y d;rw[Bj a]at b;cases b
  subst e;rw[JF f.2 g.2 (List.Perm.cons_inv c)]
def cm(L:List It)(i:Nat):It:=L.getD i It.zero
def gv(lo:Nat)(L:List It):Prop:=∀k,0<k->k<L.length->lo<=(k-1)/2->bf (cm L ((k-1)/2)) (cm L k)=false
theorem Qs{L:List It}(h:gv 0 L):∀(n k:Nat),k<=n->k<L.length->bf (cm L 0) (cm L k)=false
 |n,0,_,_=>rV _
 |0,k+1,a,_=>ω
 |n+1,k+1,a,b=>by
  have c:=h (k+1) ω b (ah9 _);have d:=Qs h n ((k+1-1)/2) ω ω;exact Bl d c
theorem YY{L:List It}{i:Nat}(h:i<L.length):cm L i∈L:=by
 unfold cm;rw[ahL,ahq h];exact List.getElem_mem h
theorem Wg{L:List It}{i:Nat}(h:i<L.length):L[i]? =some (cm L i):=by
 unfold cm;rw[ahL,ahq h];rfl
theorem yc{L:List It}{i:Nat}{x:It}(h:L[i]? =some x):cm L i=x:=by
 simp_all [ahL,cm]
theorem Wh{L S:List It}(h:gv 0 L)(q:L.Perm S)(A:YX S)(B:0<L.length):S.getLast? =some (cm L 0):=by
 have l:=q.length_eq;have a:S≠[]:=λe=>by simp_all
 rw[List.getLast?_eq_some_getLast a];congr 1;have c:=q.mem_iff.2 (List.getLast_mem a);obtain⟨i,b,d⟩:=List.mem_iff_getElem.1 c;have f:=Qs h i i (ahd _) b;rw[yc (ah0.2 ⟨b,d⟩)]at f;have g:=q.mem_iff.1 (YY B);obtain⟨j,k,m⟩:=List.mem_iff_getElem.1 g;by_cases e:j=S.length-1
 ·grind
 ·have:=List.pairwise_iff_getElem.1 A j (S.length-1) k ω ω
  grind
def sw(L:List It)(i j:Nat):List It:=(L.set i (cm L j)).set j (cm L i)
theorem vW(L:List It)(i j:Nat):(sw L i j).length=L.length:=by simp[sw]
theorem YZ{L:List It}{i j k:Nat}(q:i<L.length)(A:j<L.length)(B:k<L.length):cm (sw L i j) k=if k=j then cm L i else if k=i then cm L j else cm L k:=by
 have e:(sw L i j)[k]? =some (if k=j then cm L i else if k=i then cm L j else cm L k):=by
  unfold sw;rw[List.getElem?_set,List.getElem?_set];by_cases a:j=k
  ·subst a;simp[A]
  ·rw[if_neg a,if_neg (show¬k=j from λe=>a e.symm)];by_cases b:i=k
   ·subst b;simp[q]
   ·rw[if_neg b,if_neg (λe=>b e.symm)];exact Wg B
 exact yc e
theorem UY{L:List It}{i j:Nat}(q:i<L.length)(A:j<L.length):(sw L i j).Perm L:=by
 unfold sw;have a:cm L i=L[i]:=yc (ahq q);have b:cm L j=L[j]:=yc (ahq A);rw[a,b];exact List.set_set_perm q A
def Qt(L:List It)(j:Nat):Prop:=
 (∀k,0<k->k<L.length->k≠j->bf (cm L ((k-1)/2)) (cm L k)=false)/\
 (∀k,0<k->k<L.length->(k-1)/2=j->0<j->bf (cm L ((j-1)/2)) (cm L k)=false)
theorem UZ{L:List It}{j:Nat}(h:Qt L j)(A:j<L.length)(q:j=0\/bf (cm L ((j-1)/2)) (cm L j)=false):gv 0 L:=by
 intro k a b _;by_cases e:k=j
 ·subst e;rcases q with q|q
  ·omega
  ·exact q
 ·exact h.1 k a b e
theorem abJ{L:List It}{j:Nat}(h:Qt L j)(q:0<j)(A:j<L.length)(B:bf (cm L ((j-1)/2)) (cm L j)=true):Qt (sw L ((j-1)/2) j) ((j-1)/2):=by
 have e:(j-1)/2<L.length:=ω;generalize i:(j-1)/2=p at*;have g:=λk b=>YZ (k:=k) e A b;refine⟨λk b a l=>?_,λk b a n m=>?_⟩
 ·rw[vW]at a;rw[g k a,g _ ω];by_cases c:k=j
  ·subst c;rw[if_pos rfl,i,if_neg ω,if_pos rfl];exact Bj B
  ·rw[if_neg c,if_neg l];by_cases d:(k-1)/2=j
   ·rw[if_pos d];have:=h.2 k b a d q;simp_all
   ·rw[if_neg d];by_cases f:(k-1)/2=p
    ·rw[if_pos f];have:=h.1 k b a c
     grind [Bl,Bj]
    ·rw[if_neg f];exact h.1 k b a c
 ·rw[vW]at a;rw[g k a,g _ ω,if_neg (show¬(p-1)/2=j by omega),if_neg (show¬(p-1)/2=p by omega)];have o:=h.1 p m e ω;by_cases c:k=j
  ·simp_all
  ·rw[if_neg c,if_neg (show¬k=p by omega)];have:=h.1 k b a c
   grind [Bl]
def uo(lo:Nat)(L:List It)(i:Nat):Prop:=
 (∀k,0<k->k<L.length->lo<=(k-1)/2->(k-1)/2≠i->bf (cm L ((k-1)/2)) (cm L k)=false)/\
 (∀k,0<k->k<L.length->(k-1)/2=i->0<i->lo<=(i-1)/2->bf (cm L ((i-1)/2)) (cm L k)=false)
theorem SZ{L:List It}{i:Nat}(h:gv (i+1) L):uo i L i:=
 ⟨λk a b c d=>h k a b ω,λk _ _ _ e c=>ω⟩
theorem Mv{lo:Nat}{L:List It}{i:Nat}(h:uo lo L i)(q:∀k,0<k->k<L.length->(k-1)/2=i->bf (cm L i) (cm L k)=false):gv lo L:=by
 intro k a b c;by_cases e:(k-1)/2=i
 ·simp_all
 ·exact h.1 k a b c e
theorem Wi{lo:Nat}{L:List It}{i j:Nat}(h:uo lo L i)(q:j<L.length)(A:(j-1)/2=i)(B:0<j)(G:lo<=i)(E:bf (cm L i) (cm L j)=true)
 (H:∀k,0<k->k<L.length->(k-1)/2=i->bf (cm L j) (cm L k)=false):uo lo (sw L i j) j:=by
 have f:i<L.length:=ω;have g:=λk b=>YZ (k:=k) f q b;refine⟨λk b a l m=>?_,λk b a n _ o=>?_⟩
 ·rw[vW]at a;rw[g k a,g _ ω,if_neg m];by_cases c:(k-1)/2=i
  ·rw[if_pos c];by_cases d:k=j
   ·rw[if_pos d];exact Bj E
   grind
  ·rw[if_neg c];by_cases d:k=j
   ·omega
   ·rw[if_neg d];by_cases e:k=i
    ·rw[if_pos e];subst e;exact h.2 j B q A b l
    ·rw[if_neg e];exact h.1 k b a l c
 ·rw[vW]at a;rw[A,g k a,g i f,if_neg (show¬i=j by omega),if_pos rfl,if_neg (show¬k=j by omega),if_neg (show¬k=i by omega)];have:=h.1 k b a ω ω;simp_all
end Pool
namespace Gate
open Pool (iY lE jf)
section
variable{n:Nat}{par:Nat->Nat}{s:Nat->Int}{r:Nat->LU}
theorem yd{x y:Nat}:SE s r x y=true↔s y<s x\/(s x=s y/\agU (r y) (r x)=true):=by
 simp[SE]
theorem Mw{x y z:Nat}(q:SE s r x y=true)(A:SE s r y z=true):SE s r x z=true:=by
 rw[yd]at*;rcases q with q|⟨q,a⟩<;>rcases A with A|⟨A,b⟩
 ·left;omega
 ·left;omega
 ·left;omega
 ·right;exact⟨ω,lE _ _ _ b a⟩
theorem Wj{x y:Nat}(q:SE s r x y=true):SE s r y x=false:=by
 cases h:SE s r y x with
 |false=>rfl
 |true=>
  have:=Mw q h;rw[yd]at this;rcases this with h|⟨_,h⟩
  ·omega
  ·rw[iY]at h;cases h
theorem Wk{x y:Nat}(h:r x≠r y):SE s r x y=true\/SE s r y x=true:=by
 simp only[yd];rcases Int.lt_trichotomy (s x) (s y)with a|a|a
 ·exact .inr (.inl a)
 ·rcases jf _ _ h with b|b
  ·exact .inr (.inr ⟨a.symm,b⟩)
  ·exact .inl (.inr ⟨a,b⟩)
 ·exact .inl (.inl a)
theorem Mx{l:List Nat}{b:Option Nat}{x:Nat}(B:sA s r l b)(q:∀y∈l,r x≠r y):sA s r (l++[x]) (cZ s r b x):=by
 cases b with
 |none=>
  have g:l=[]:=B;subst g;exact⟨by simp,λy a c=>by simp at a;exact absurd a c⟩
 |some b=>
  obtain⟨d,e⟩:=B;unfold cZ;simp only;split
  ·rename_i h;refine⟨by simp,λy a c=>?_⟩;rcases ahU.1 a with a|a
   ·by_cases f:y=b
    ·rw[f];exact h
    ·exact Mw h (e y a f)
   ·exact absurd (ahM.1 a) c
  ·rename_i h;refine⟨List.mem_append_left _ d,λy a c=>?_⟩;rcases ahU.1 a with a|a
   ·exact e y a c
   ·rw[ahM.1 a]at c⊢;exact(Wk (q b d)).resolve_left h
theorem Qu{l A:List Nat}{b b':Option Nat}(q:∀x,x∈l↔x∈A)(B:sA s r l b)(B':sA s r A b'):b=b':=by
 cases b with
 |none=>
  cases b' with
  |none=>rfl
  |some x=>have:=(q x).2 B'.1;rw[show l=[]from B]at this;cases this
 |some x=>
  cases b' with
  |none=>have:=(q x).1 B.1;rw[show A=[]from B']at this;cases this
  |some y=>
   by_cases h:x=y
   ·rw[h]
   ·exfalso;have c:=B.2 y ((q y).2 B'.1) (λe=>h e.symm);have a:=B'.2 x ((q x).1 B.1) h;rw[Wj c]at a;cases a
def Names(n:Nat)(r:Nat->LU):Prop:=∀i j,i<n->j<n->r i=r j->i=j
theorem My(q:Names n r):∀(l k:List Nat),(k++l).Nodup->(∀x∈k++l,x<n)->∀b,sA s r k b->sA s r (k++l) (l.foldl (cZ s r) b)
 |[],k,_,_,b,B=>by simpa using B
 |x::l,k,c,a,b,B=>by
  have e:∀y∈k,r x≠r y:=λy d f=>by
   have g:=q x y (a x (by simp)) (a y (by simp[d])) f;have:=(aia.1 c).2.2 y d x (ahY ..);exact this g.symm
  have:=My q l (k++[x]) (by simpa using c) (by simpa using a) _ (Mx B e);simpa using this
theorem Y0(q:Names n r){l:List Nat}(A:l.Nodup)(B:∀x∈l,x<n):sA s r l (adn s r l):=
 My q l [] A B none rfl
def iL(n:Nat)(par:Nat->Nat)(s:Nat->Int)(r:Nat->LU)(k:Nat):Option Nat:=adn s r (kids n par k)
theorem JG(q:Names n r)(k:Nat):sA s r (kids n par k) (iL n par s r k):=Y0 q (Jz k) λ_ a=>(ew.1 a).2.1
theorem mK(up:Up n par)(q:Names n r){k b:Nat}(h:iL n par s r k=some b):k<b/\b<n/\par b=k:=by
 have:=JG (par:=par) (s:=s) q k;rw[h]at this;obtain⟨a,c,d⟩:=ew.1 this.1;have:=up b a c;omega
def vX(n:Nat)(par:Nat->Nat)(s:Nat->Int)(r:Nat->LU):Nat->Nat->Nat
 |0,k=>k
 |f+1,k=>match iL n par s r k with
  |none=>k
  |some b=>vX n par s r f b
theorem Mz(up:Up n par)(q:Names n r):∀f g k,n-k<=f+1->n-k<=g+1->k<n->vX n par s r f k=vX n par s r g k
 |0,0,_,_,_,_=>rfl
 |0,g+1,k,h,_,c=>by
  have a:iL n par s r k=none:=by
   cases a:iL n par s r k with
   |none=>rfl
   |some b=>have:=mK up q a;omega
  simp only[vX,a]
 |f+1,0,k,_,h,c=>by
  have a:iL n par s r k=none:=by
   cases a:iL n par s r k with
   |none=>rfl
   |some b=>have:=mK up q a;omega
  simp only[vX,a]
 |f+1,g+1,k,d,e,c=>by
  unfold vX;cases a:iL n par s r k with
  |none=>rfl
  |some b=>
   have:=mK up q a;exact Mz up q f g b ω ω this.2.1
def uq(n:Nat)(par:Nat->Nat)(s:Nat->Int)(r:Nat->LU)(k:Nat):Nat:=vX n par s r n k
theorem MA(up:Up n par)(q:Names n r){k:Nat}(A:k<n):uq n par s r k=match iL n par s r k with
 |none=>k
 |some b=>uq n par s r b:=by
 unfold uq;obtain⟨m,rfl⟩:∃m,n=m+1:=⟨n-1,ω⟩
 conv=>lhs;unfold vX
 cases a:iL (m+1) par s r k with
 |none=>rfl
 |some b=>
  have:=mK up q a;exact Mz up q m (m+1) b ω ω this.2.1
theorem II(up:Up n par)(q:Names n r):∀f k,k<n->vX n par s r f k<n
 |0,k,a=>a
 |f+1,k,a=>by
  unfold vX;cases A:iL n par s r k with
  |none=>exact a
  |some b=>exact II up q f b (mK up q A).2.1
def EO(n:Nat)(par:Nat->Nat)(k i:Nat):List Nat:=(kids n par k).filter λx=>decide (i<=x)
theorem kC{k i x:Nat}:x∈EO n par k i↔x∈kids n par k/\i<=x:=by
 simp[EO]
def JH(n:Nat)(par:Nat->Nat)(s:Nat->Int)(r:Nat->LU)(i:Nat)(q:Nat->Option Nat):Prop:=∀k,k<n->sA s r (EO n par k i) (q k)
theorem S7(q:Nat->Option Nat)(h:∀k,q k=none):JH n par s r n q:=λk _=>by
 rw[h k];show EO n par k n=[];refine List.eq_nil_iff_forall_not_mem.2 λx a=>?_;have:=kC.1 a;have:=(ew.1 this.1).2.1;omega
theorem EP{l A:List Nat}{b:Option Nat}(q:∀x,x∈l↔x∈A)(B:sA s r l b):sA s r A b:=by
 cases b with
 |none=>
  have c:l=[]:=B;refine List.eq_nil_iff_forall_not_mem.2 λx a=>?_;have:=(q x).2 a;rw[c]at this;cases this
 |some b=>exact⟨(q b).1 B.1,λx a=>B.2 x ((q x).2 a)⟩
theorem Qv(E:Names n r){i:Nat}{q:Nat->Option Nat}(A:i<n)(G:0<i)(B:JH n par s r (i+1) q):
 JH n par s r i λk=>if k=par i then cZ s r (q k) i else q k:=λk d=>by
 dsimp only;have B:=B k d;by_cases b:k=par i
 ·rw[if_pos b];refine EP (λx=>?_) (Mx (x:=i) B λy f g=>?_)
  ·simp only[ahU,kC,ahM,ew];constructor
   ·rintro(⟨a,c⟩|rfl)
    ·exact⟨a,ω⟩
    ·exact⟨⟨G,A,b.symm⟩,ahd _⟩
   ·rintro⟨a,c⟩;by_cases h:x=i
    ·exact .inr h
    ·exact .inl ⟨a,ω⟩
  ·obtain⟨a,c⟩:=kC.1 f;have:=E i y A (ew.1 a).2.1 g;omega
 ·rw[if_neg b];refine EP (λx=>?_) B;simp only[kC,ew];constructor
  ·rintro⟨a,c⟩;exact⟨a,ω⟩
  ·rintro⟨a,c⟩;refine⟨a,?_⟩;have:x≠i:=λe=>b (by rw[<-e];exact a.2.2.symm);omega
theorem S8(A:Names n r){i:Nat}(G:i<=1){q:Nat->Option Nat}(B:JH n par s r i q){k:Nat}(E:k<n):q k=iL n par s r k:=by
 refine Qu (λx=>?_) (B k E) (JG A k);simp only[kC,ew];constructor
 ·exact λh=>h.1
 ·exact λh=>⟨h,ω⟩
end
end Gate
end Go.Proofs.YtennbinbffdimaaGreat
namespace Go.Vc
open Go
section
variable{K V:Type}[DecidableEq K]
def lG(k:K):List (K×V)->Option V
 |[]=>none
 |e::es=>if k=e.1 then some e.2 else lG k es
def S9(k:K)(v:V):List (K×V)->List (K×V)
 |[]=>[(k,v)]
 |e::es=>if k=e.1 then(e.1,v)::es else e::S9 k v es
structure Emb(C:Ctx)(d:TypeDesc)(κ:K->TV):Prop where
 eq:∀a b,jR (κ a) (κ b)=decide (a=b)
 like:∀a,dB C d (κ a)=true
def mh(κ:K->TV)(ν:V->TV)(es:List (K×V×Nat)):List (TV×TV×Nat):=es.map λe=>(κ e.1,ν e.2.1,e.2.2)
def vY(es:List (K×V×Nat)):List (K×V):=es.map λe=>(e.1,e.2.1)
def Oi(es:List (K×V×Nat))(c:Nat):Prop:=(∀e∈es,e.2.2<c)/\(es.map (·.2.2)).Nodup
def mj(κ:K->TV)(ν:V->TV)(h:af)(r:Nat)(L:List (K×V)):Prop:=∃es c,h[r]? =some (bX (mh κ ν es) c)/\vY es=L/\Oi es c
variable{κ:K->TV}{ν:V->TV}{C:Ctx}{d:TypeDesc}{h h':af}{r:Nat}{L:List (K×V)}
omit [DecidableEq K]in
theorem mj.ext(m:mj κ ν h r L)(e:Ext h h'):mj κ ν h' r L:=by
 obtain⟨es,c,a,b⟩:=m;exact⟨es,c,by rw[e.same r (aib.1 a).1,a],b⟩
omit [DecidableEq K]in
theorem mj.only{S:Nat->Prop}(m:mj κ ν h r L)(o:ag S h h')(q:¬S r):mj κ ν h' r L:=by
 obtain⟨es,c,a,b⟩:=m;exact⟨es,c,by rw[o.same r (aib.1 a).1 q,a],b⟩
omit [DecidableEq K]in
theorem mj.lt(m:mj κ ν h r L):r<h.size:=by
 obtain⟨es,c,a,b⟩:=m;exact(aib.1 a).1
omit [DecidableEq K]in
theorem mj.new(h:af):mj κ ν (h.push (bX [] 0)) h.size []:=⟨[],0,by simp[mh],rfl,(λe a=>by cases a),List.nodup_nil⟩
omit [DecidableEq K]in
theorem mj.ne{T:TypeId}{b:Nat}{t:TV}(m:mj κ ν h r L)(v:Var T h b t):b≠r:=by
 rintro rfl;obtain⟨es,c,a,_⟩:=m;unfold Var at v;rw[a]at v;cases v
theorem Ga(E:Emb C d κ)(es:List (K×V×Nat)):dH C d (mh κ ν es):=by
 intro e a;obtain⟨x,_,rfl⟩:=ahI.1 a;exact E.like _
theorem Cz(E:Emb C d κ)(k:K):∀es:List (K×V×Nat),eE (κ k) (mh κ ν es)=(lG k (vY es)).map ν
 |[]=>rfl
 |e::es=>by
  have a:=Cz E k es;unfold mh vY at a⊢;simp only[ahS,eE,lG,E.eq,decide_eq_true_eq];by_cases h:k=e.1
  ·rw[if_pos h,if_pos h];rfl
  ·rw[if_neg h,if_neg h];exact a
theorem Y1(E:Emb C d κ)(k:K)(es:List (K×V×Nat)):Lz (κ k) (mh κ ν es)=(lG k (vY es)).isSome:=by
 unfold Lz;rw[Cz E];simp
theorem abK(E:Emb C d κ)(k:K)(es:List (K×V×Nat))(v0:V):V5 (eE (κ k) (mh κ ν es)) (ν v0)=ν ((lG k (vY es)).getD v0):=by
 unfold V5;rw[Cz E];cases lG k (vY es)<;>rfl
theorem Y2(E:Emb C d κ)(k:K)(v:V){c:Nat}{es:List (K×V×Nat)}(q:Oi es c):
 ∃l,jb (κ k) (ν v) c (mh κ ν es)=mh κ ν l/\vY l=S9 k v (vY es)/\Oi l (fJ (κ k) c (mh κ ν es)):=by
 have key:∀es:List (K×V×Nat),(∃g,jb (κ k) (ν v) c (mh κ ν es)=mh κ ν g/\vY g=S9 k v (vY es)/\
  ((lG k (vY es)=none/\g.map (·.2.2)=es.map (·.2.2)++[c])\/(lG k (vY es)≠none/\g.map (·.2.2)=es.map (·.2.2)))):=by
  intro es
  induction es with
  |nil=>exact⟨[(k,v,c)],rfl,rfl,.inl ⟨rfl,rfl⟩⟩
  |cons e es r=>
   obtain⟨g,m,n,f⟩:=r;have d1:mh κ ν (e::es)=(κ e.1,ν e.2.1,e.2.2)::mh κ ν es:=rfl;have d2:vY (e::es)=(e.1,e.2.1)::vY es:=rfl;rw[d1,d2];simp only[jb,S9,lG,E.eq,decide_eq_true_eq];by_cases h:k=e.1
   ·rw[if_pos h,if_pos h,if_pos h];exact⟨(e.1,v,e.2.2)::es,rfl,rfl,.inr ⟨by simp,rfl⟩⟩
   ·rw[if_neg h,if_neg h,if_neg h,m,<-n];refine⟨e::g,rfl,rfl,?_⟩;rcases f with⟨f,i⟩|⟨f,i⟩
    ·exact .inl ⟨f,by simp[i]⟩
    ·exact .inr ⟨f,by simp[i]⟩
 obtain⟨g,m,n,f⟩:=key es;refine⟨g,m,n,?_⟩
 have s:fJ (κ k) c (mh κ ν es)=match lG k (vY es)with|some _=>c|none=>c+1:=by
  unfold fJ;rw[Cz E];cases lG k (vY es)<;>rfl
 rw[s];have p:∀e∈g,e.2.2∈g.map (·.2.2):=λe j=>ahI.2 ⟨e,j,rfl⟩
 have o:∀x∈es.map (·.2.2),x<c:=λx t=>by
  obtain⟨e,j,rfl⟩:=ahI.1 t;exact q.1 e j
 rcases f with⟨f,i⟩|⟨f,i⟩
 ·rw[f];refine⟨λe j=>?_,?_⟩
  ·have:=p e j;rw[i]at this;rcases ahU.1 this with h|h
   ·exact Nat.lt_succ_of_lt (o _ h)
   ·rw[ahM.1 h];exact Nat.lt_succ_self _
  ·rw[i];refine aia.2 ⟨q.2,by simp,λa u b w=>?_⟩;rw[ahM.1 w];have:=o a u;omega
 ·cases y:lG k (vY es)with
  |none=>exact absurd y f
  |some v=>
   refine⟨λe j=>?_,by rw[i];exact q.2⟩;have:=p e j;rw[i]at this;exact o _ this
theorem mj.put(E:Emb C d κ)(m:mj κ ν h r L)(k:K)(v:V){P:af->Prop}(q:∀a,mj κ ν a r (S9 k v L)->ag (·=r) h a->a.size=h.size->P a):
 ∃es c,h[r]? =some (bX es c)/\dH C d es/\Bind (h.setIfInBounds r (bX (jb (κ k) (ν v) c es) (fJ (κ k) c es))) P:=by
 obtain⟨es,c,e,rfl,f⟩:=m;refine⟨_,c,e,Ga E es,?_⟩;obtain⟨g,a,i,j⟩:=Y2 (ν:=ν) E k v f;have l:=(aib.1 e).1;refine q _ ⟨g,_,?_,i,j⟩ ⟨by simp,λb _ n=>?_⟩ (by simp)
 ·rw[a,Array.getElem?_setIfInBounds,if_pos rfl,if_pos l]
 ·rw[Array.getElem?_setIfInBounds,if_neg (λo=>n o.symm)]
theorem mj.look(E:Emb C d κ)(m:mj κ ν h r L)(k:K)(v0:V):∃es c,h[r]? =some (bX es c)/\dH C d es/\V5 (eE (κ k) es) (ν v0)=ν ((lG k L).getD v0)/\Lz (κ k) es=(lG k L).isSome:=by
 obtain⟨es,c,a,rfl,b⟩:=m;exact⟨_,c,a,Ga E es,abK E k es v0,Y1 E k es⟩
omit [DecidableEq K]in
theorem mj.len(m:mj κ ν h r L){P:Nat->Prop}(q:P L.length):∃es c,h[r]? =some (bX es c)/\P es.length:=by
 obtain⟨es,c,a,rfl,b⟩:=m;exact⟨_,c,a,by simpa[mh,vY]using q⟩
end
section
variable{K V:Type}[DecidableEq K]{L:List (K×V)}
def nC(L:List (K×V)):List K:=L.map (·.1)
theorem CA{k:K}:lG k L=none↔k∉nC L:=by
 induction L with
 |nil=>simp[lG,nC]
 |cons e es a=>
  unfold lG;by_cases h:k=e.1
  ·rw[if_pos h];simp[nC,h]
  ·rw[if_neg h,a];simp[nC,h]
theorem Qw{k:K}{v:V}(h:k∉nC L):S9 k v L=L++[(k,v)]:=by
 induction L with
 |nil=>rfl
 |cons e es a=>
  have h':k≠e.1/\k∉nC es:=by simpa[nC]using h
  unfold S9;rw[if_neg h'.1,a h'.2];rfl
theorem Y3(q:(nC L).Nodup){k:K}{v:V}(h:(k,v)∈L):lG k L=some v:=by
 induction L with
 |nil=>cases h
 |cons e es b=>
  have a:e.1∉nC es/\(nC es).Nodup:=by simpa[nC]using q
  unfold lG;rcases ahT.1 h with rfl|h
  ·rw[if_pos rfl]
  ·rw[if_neg (λc=>a.1 (by rw[<-c];exact ahI.2 ⟨_,h,rfl⟩)),b a.2 h]
end
end Go.Vc
namespace Go.Proofs.YtennbinbffdimaaGreat
open Go Go.Vc
namespace Gate
open Pool (zH)
structure Nd where
 root:Bs 32
 slot:Int
 par:Int
def Nd.tv(x:Nd):TV:=.agg [.bytes 32 x.root,.i x.slot,.i x.par]
def Nd.zero:Nd:=⟨Bs.zero 32,0,-1⟩
theorem Gb{n:Nat}(a b:Bs n):decide (a.l=b.l)=decide (a=b):=decide_eq_decide.2 ⟨Bs.ext',λh=>by rw[h]⟩
def lU(r:Bs 32):List Nd->Option Nat
 |[]=>none
 |x::l=>if r=x.root then some 0 else(lU r l).map (·+1)
def place(r:Bs 32)(L:List Nd):Int:=match lU r L with
 |some i=>(i:Int)
 |none=>-1
def ER(L:List Nd)(k:Nat):List (Bs 32×Int):=match L with
 |[]=>[]
 |x::l=>(x.root,(k:Int))::ER l (k+1)
theorem Gc(r:Bs 32):∀(L:List Nd)(k:Nat),lG r (ER L k)=(lU r L).map λi=>((k+i:Nat):Int)
 |[],_=>rfl
 |x::l,k=>by
  unfold ER lG lU;by_cases h:r=x.root
  ·simp_all
  ·rw[if_neg h,if_neg h,Gc r l (k+1)];cases lU r l<;>simp[Nat.add_assoc,Nat.add_comm 1]
theorem Gd(x:Nd):∀(L:List Nd)(k:Nat),ER (L++[x]) k=ER L k++[(x.root,((k+L.length:Nat):Int))]
 |[],k=>by rfl
 |y::l,k=>by
  simp only[List.cons_append,ER,Gd x l (k+1),List.length_cons]
  grind
theorem Ge:∀(L:List Nd)(k:Nat),nC (ER L k)=L.map Nd.root
 |[],_=>rfl
 |x::l,k=>by
  have:=Ge l (k+1);simp_all [ER,nC,ahS]
theorem MB{r:Bs 32}{i:Nat}:∀{L:List Nd},lU r L=some i->∃x,L[i]? =some x/\x.root=r
 |[],h=>by cases h
 |x::l,h=>by
  unfold lU at h;split at h
  ·grind
  ·cases q:lU r l with
   |none=>simp_all
   |some j=>
    rw[q]at h;cases h;obtain⟨y,A,B⟩:=MB q;simp_all
theorem MC{r:Bs 32}:∀{L:List Nd},lU r L=none↔r∉L.map Nd.root
 |[]=>by simp[lU]
 |x::l=>by
  unfold lU;by_cases h:r=x.root
  ·simp_all
  ·have:=MC (r:=r) (L:=l);simp_all
theorem ye{i:Nat}{x:Nd}:∀{L:List Nd},(L.map Nd.root).Nodup->L[i]? =some x->lU x.root L=some i
 |[],_,h=>by grind
 |y::l,a,h=>by
  obtain⟨q,A⟩:=List.nodup_cons.1 a;unfold lU;cases i with
  |zero=>
   simp_all
  |succ j=>
   have b:=by simpa using h
   have c:x.root≠y.root:=λe=>q (by grind);rw[if_neg c,ye A b];rfl
theorem gX{L:List Nd}{i:Nat}{x:Nd}(q:(L.map Nd.root).Nodup)(h:L[i]? =some x):place x.root L=(i:Int):=by
 unfold place;rw[ye q h]
theorem lV{r:Bs 32}{L:List Nd}:place r L<0↔r∉L.map Nd.root:=by
 grind [MC,lU,place]
theorem fG{r:Bs 32}{L:List Nd}(h:0<=place r L):∃i x,lU r L=some i/\place r L=(i:Int)/\L[i]? =some x/\x.root=r/\i<L.length:=by
 unfold place at h⊢;cases a:lU r L with
 |none=>simp_all
 |some i=>
  obtain⟨x,b,c⟩:=MB a
  grind
theorem pQ(r:Bs 32)(L:List Nd):-1<=place r L/\place r L<L.length/\(place r L<0->place r L=-1):=by
 by_cases h:0<=place r L<;>grind [place,fG,lU]
structure rz(L:List Nd)(most:Int):Prop where
 ne:L≠[]
 first:∀x,L[0]? =some x->x.par=-1
 up:∀(i:Nat)(x:Nd),L[i]? =some x->0<i->0<=x.par/\x.par<i
 nodup:(L.map Nd.root).Nodup
 slots:∀x∈L,0<=x.slot/\x.slot<=1073741824
 later:∀(i:Nat)(x y:Nd),L[i]? =some x->0<i->L[x.par.toNat]? =some y->y.slot<x.slot
 len:(L.length:Int)<=most
 most:1<=most/\most<=256
def nodeAt(L:List Nd)(i:Int):Option Nd:=if 0<=i then L[i.toNat]? else none
def nV(L:List Nd)(most:Int)(root parent:Bs 32)(slot:Int):Int:=
 if 0<=place root L then 4
 else match nodeAt L (place parent L)with
  |none=>5
  |some up=>if slot<=up.slot\/1073741824<slot then 5 else if most<=L.length then 6 else 0
def gw(L:List Nd)(most:Int)(root parent:Bs 32)(slot:Int):List Nd:=
 if nV L most root parent slot=0 then L++[⟨root,slot,place parent L⟩]else L
theorem rz.Gf{L:List Nd}{most:Int}(o:rz L most):0<L.length:=List.length_pos_iff.2 o.ne
theorem rz.add{L:List Nd}{most:Int}(o:rz L most){root parent:Bs 32}{slot:Int}:rz (gw L most root parent slot) most:=by
 unfold gw;split
 ·rename_i h;unfold nV at h;split at h
  ·cases h
  ·rename_i m;split at h
   ·cases h
   ·rename_i u n;split at h
    ·cases h
    ·split at h
     ·cases h
     ·have j:0<=place parent L/\L[(place parent L).toNat]? =some u:=by
       simp_all [nodeAt]
      have s:=(ah0.1 j.2).1
      have old:∀(i:Nat)(x:Nd),(L++[⟨root,slot,place parent L⟩])[i]? =some x->L[i]? =some x\/(i=L.length/\x=⟨root,slot,place parent L⟩):=λi x d=>by
       grind
      refine⟨by simp,λx d=>?_,λi x d f=>?_,?_,λx d=>?_,λi x y d f g=>?_,by grind,o.most⟩
      ·rcases old 0 x d with c|⟨c,_⟩
       ·exact o.first x c
       ·omega
      ·rcases old i x d with c|⟨c,k⟩
       ·exact o.up i x c f
       simp_all
      ·rw[aic,aia];refine⟨o.nodup,by simp,λa l b p=>?_⟩;have:=by simpa using p
       rw[this];intro q;rw[q]at l;exact m (by have:=mt (lV (r:=root) (L:=L)).1 (λd=>d l);omega)
      ·rcases ahU.1 d with c|c
       ·exact o.slots x c
       ·rw[ahM.1 c];have:=o.slots u (List.mem_of_getElem? j.2)
        grind
      ·rcases old i x d with c|⟨c,k⟩
       ·have n:=o.up i x c f;have t:=(ah0.1 c).1;rcases old _ y g with e|⟨e,_⟩
        ·exact o.later i x y c f e
        ·omega
       ·rw[k]at g⊢;simp only at g⊢;rcases old _ y g with e|⟨e,_⟩
        ·rw[j.2]at e;cases e;omega
        ·omega
 ·exact o
def bQ(L:List Nd)(i:Nat):Nat:=((L[i]?).map λx=>x.par.toNat).getD 0
def c7(L:List Nd)(i:Nat):LU:=((L[i]?).map λx=>x.root.l).getD []
theorem yf{L:List Nd}{i:Nat}{x:Nd}(h:L[i]? =some x):bQ L i=x.par.toNat:=by simp_all [bQ]
theorem vZ{L:List Nd}{i:Nat}{x:Nd}(h:L[i]? =some x):c7 L i=x.root.l:=by simp_all [c7]
theorem rz.tree{L:List Nd}{most:Int}(o:rz L most):Up L.length (bQ L):=λi a b=>by
 have c:=ahq b;have:=o.up i _ c a;simp_all [yf]
theorem rz.names{L:List Nd}{most:Int}(o:rz L most):Names L.length (c7 L):=λi j c d h=>by
 have a:=ahq c;have b:=ahq d;rw[vZ a,vZ b]at h;have e:=ye o.nodup a;have f:=ye o.nodup b
 grind [Option.some.inj,Bs.ext']
end Gate
namespace Gate
open Pool (zH)
abbrev kR(r:Bs 32):TV:=.bytes 32 r
abbrev vI(n:Int):TV:=.i n
abbrev nds(L:List Nd):List TV:=L.map Nd.tv
theorem agM:(ctx.ti 5).d=some (.int .u8):=κ
theorem Vf:Emb ctx (.array 32 5) kR:=⟨λa b=>by simp only[jR];exact Gb a b,λa=>by simp[dB,agM,abx]⟩
theorem Nd.size(x:Nd):x.tv.size=34:=by simp only[Nd.tv,ahf,ahJ]
theorem Nd.plain(x:Nd):x.tv.plain=true:=by simp only[Nd.tv,TV.plain,ak.plain,Bool.and_self]
theorem Zs(L:List Nd):∀t∈nds L,t.size=34:=λt a=>by obtain⟨x,_,rfl⟩:=ahI.1 a;exact x.size
section
variable{R:Rq}{h h':af}{b r:Nat}{A:Sl}{L:List Nd}{most:Int}
structure AP(h:af)(b r:Nat)(A:Sl)(L:List Nd)(most:Int):Prop where
 var:Var 168 h b (.agg [.slice A,.map (some r),.i most])
 own:Vc.Own 69 34 h A (nds L)
 map:mj kR vI h r (ER L 0)
 ok:rz L most
 ne:¬In A b/\¬In A r
def lH(b r:Nat)(A:Sl)(i:Nat):Prop:=i=b\/i=r\/In A i
theorem AP.only{S:Nat->Prop}(p:AP h b r A L most)(o:ag S h h')(q:∀i,lH b r A i->¬S i):AP h' b r A L most:=
 ⟨p.var.only o (q b (.inl rfl)),p.own.only o λl a=>q l.b (.inr (.inr ⟨l,a,rfl⟩)),p.map.only o (q r (.inr (.inl rfl))),p.ok,p.ne⟩
theorem AP.ext(p:AP h b r A L most)(x:Ext h h'):AP h' b r A L most:=p.only (S:=λ_=>False) (.an x) λ_ _ a=>a
theorem AP.lt(p:AP h b r A L most){i:Nat}(q:lH b r A i):i<h.size:=by
 rcases q with rfl|rfl|⟨l,a,rfl⟩
 ·exact p.var.lt
 ·exact p.map.lt
 ·exact p.own.lt l a
theorem AP.len(p:AP h b r A L most):L.length=A.len:=by have:=p.own.len;rwa [ahp]at this
theorem dM(p:AP h b r A L most){k:Bs 32}(q:∀h',Ext h h'->R (TV.i (place k L)).val h'):Cl 35 [.ptr (PT b),.bytes 32 k] h R:=by
 apply zZ;delta nj cr dJ bz bJ aT bA;refine aa λe v1 a m=>If.no ⟨some r,(p.var.ext a).ah rfl,k,v1.bytes,?_⟩;obtain⟨es,c,f,g,j,l⟩:=(p.map.ext a).look Vf k 0;refine⟨es,c,f,g,_,j,?_⟩;have q:=q e a;rw[l];rw[Gc];unfold place at q;cases d:lU k L with
 |none=>rw[d]at q;exact If.no q
 |some i=>rw[d]at q;refine If.yes ?_;simpa using q
theorem Bw(p:AP h b r A L most)(q:R (TV.i (L.length:Int)).val h):Cl 57 [.ptr (PT b)] h R:=by
 apply C4;delta nG aJ aD dX bK bA;refine If.no ⟨A,p.var.ah rfl,?_⟩;dsimp only;rw[<-p.len];exact q
theorem Gl(p:AP h b r A L most)(q:R (TV.i (most-L.length)).val h):Cl 210 [.ptr (PT b)] h R:=by
 apply Bv;delta aJ aD dX bK bA;have a:=p.ok.most;have c:=p.ok.len;refine If.no ⟨most,p.var.ah rfl,A,p.var.ah rfl,?_⟩;dsimp only;rw[<-p.len,wrap_i64 ω ω];exact q
def c8(L:List Nd)(i:Int):Nd×Bool:=match nodeAt L i with
 |some x=>(x,true)
 |none=>(Nd.zero,false)
theorem adw{T:TypeId}{b:Nat}{x:Nd}(v:Var T h b x.tv){K:Bs 32->Int->Int->Prop}(q:K x.root x.slot x.par):
 ∃(k:Bs 32),∃(n m:Int),(av h b 0 32 k/\ah h b 32 (.i n)/\ah h b 33 (.i m))/\K k n m:=⟨_,_,_,v.at,q⟩
theorem QM(b:af){q:Nat}(x:Ext h b)(v:Var 69 b q (TV.agg [.bytes 32 (Bs.zero 32),.i 0,.i 0]))(G:h.size<=q)(E:∀h',Ext h h'->R (ahV [Nd.zero.tv,.bool false]).val h'):
 gT b q 0 34/\Bind (TV.put b q 0 (.agg [.bytes 32 (Bs.zero 32),.i 0,.i (-1)])) λB=>∃(k:Bs 32),∃(n m:Int),(av B q 0 32 k/\ah B q 32 (.i n)/\ah B q 33 (.i m))/\R (TV.val (.bg [.agg [.bytes 32 k,.i n,.i m],.bool false])) B:=
 aH v (t:=Nd.zero.tv) rfl λa c f2 _=>adw c (E a (aho x f2 λi d=>ω))
theorem dg(p:AP h b r A L most){i:Int}(q:∀h',Ext h h'->R (ahV [(c8 L i).1.tv,.bool (c8 L i).2]).val h'):Cl 34 [.ptr (PT b),.i i] h R:=by
 apply Bu;delta aJ U3 bK;have n:=p.len;refine aa λc v1 a o=>If.no (ID (λd=>?_) λd=>⟨A,(p.var.ext a).ah rfl,ID (λf=>?_) λf=>⟨A,(p.var.ext a).ah rfl,?_⟩⟩)
 ·refine QM c a v1 (ahd _) λh' x=>?_;have:=q h' x;unfold c8 nodeAt at this;rw[if_neg ω]at this;exact this
 ·refine QM c a v1 (ahd _) λh' x=>?_;have:=q h' x;unfold c8 nodeAt at this;rw[if_pos ω,List.getElem?_eq_none ω]at this;exact this
 ·refine(p.own.ext a).elems.read ω ω λl t s e g=>?_;rw[ahN]at e;obtain⟨x,j,rfl⟩:=aid.1 e;refine⟨x.root,x.slot,x.par,g,aH v1 (t:=x.tv) rfl λk m f2 _=>adw m ?_⟩;have:=q k (aho a f2 λi d=>ω);unfold c8 nodeAt at this;rw[if_pos ω,j]at this;exact this
end
end Gate
end Go.Proofs.YtennbinbffdimaaGreat
namespace Go.Vc
open Go
structure Step(M:Nat->Prop)(h:af)(M':Nat->Prop)(h':af):Prop where
 only:ag M h h'
 new:∀i,M' i->M i\/h.size<=i
theorem Step.an{M:Nat->Prop}{h h':af}(x:Ext h h'):Step M h M h':=⟨.an x,λ_ a=>.inl a⟩
theorem Step.trans{M M' M'':Nat->Prop}{h h' q:af}(a:Step M h M' h')(b:Step M' h' M'' q):Step M h M'' q:=
 ⟨⟨Nat.le_trans a.only.size b.only.size,λi d e=>by
   rw[b.only.same i (Nat.lt_of_lt_of_le d a.only.size) (λf=>by rcases a.new i f with c|c;exact e c;omega),a.only.same i d e]⟩,λi d=>by
   rcases b.new i d with c|c
   ·exact a.new i c
   ·have:=a.only.size;exact .inr ω⟩
theorem Step.mono{M N M':Nat->Prop}{h h':af}(a:Step M h M' h')(q:∀i,M i->N i):Step N h M' h':=⟨a.only.mono q,λi b=>(a.new i b).imp (q i) id⟩
theorem Step.cut{M M':Nat->Prop}{h q h':af}(x:Ext h q)(a:Step M q M' h'):Step M h M' h':=(Step.an x).trans a
theorem Step.loc{M:Nat->Prop}{S:Nat->Prop}{h q h':af}(x:Ext h q)(a:ag S q h')(B:∀i,S i->h.size<=i):Step M h M h':=.an (aho x a B)
end Go.Vc
namespace Go.Proofs.YtennbinbffdimaaGreat
open Go Go.Vc
namespace Gate
open Pool (zH)
theorem Hw:(ctx.ti 69).bytes=48:=κ
theorem Tj:0<(ctx.ti 69).bytes:=by rw[Hw];decide
theorem Wx:(ctx.ti 69).size=34:=κ
theorem Tk:(ctx.ti 69).z.size=34:=κ
section
variable{R:Rq}{h h':af}{b r:Nat}{A:Sl}{L:List Nd}{most:Int}
theorem QN(p:AP h b r A L most){root parent:Bs 32}{slot:Int}
 (U:∀h' A',AP h' b r A' (gw L most root parent slot) most->Step (lH b r A) h (lH b r A') h'->R (TV.i (nV L most root parent slot)).val h'):
 Cl 283 [.ptr (PT b),.bytes 32 root,.bytes 32 parent,.i slot] h R:=by
 apply C5;delta uu nG eG aJ aD fk Dp cu jX EV cr jW bz dX aN bJ bK aT bA;have nb:=p.var.lt;refine aa λS v1 V s1=>aa λW X Y s2=>⟨parent,X.bytes,?_⟩;have H:=V.trans Y;refine dM (p.ext H) λZ I=>⟨_,rfl,?_⟩;have ab:=H.trans I;refine dg (p.ext ab) λw x4=>⟨_,_,_,_,rfl,?_⟩;have aw:=ab.trans x4;obtain⟨u,g⟩:∃u,u=c8 L (place parent L):=⟨_,rfl⟩;rw[<-g];refine aa λh5 v5 x5 s5=>aH v5 (t:=u.1.tv) rfl λh6 v6 f6 s6=>?_;have K:Ext w h6:=aho x5 f6 λi hi=>ω;have y:=aw.trans K;have ac:=((((v1.ext Y).ext I).ext x4).ext K);have aE:=(((X.ext I).ext x4).ext K)
 have m:∀{e:Int}{v:af},Ext h v->nV L most root parent slot=e->e≠0->R (TV.i e).val v:=λ{e v} x f j=>by
  have:=U v A;unfold gw at this;rw[f,if_neg j]at this;exact this (p.ext x) (.an x)
 intro J HJ;refine If.no ⟨root,ac.bytes,dM (p.ext y) λh7 q=>⟨_,rfl,ID (λz=>?_) λz=>If.split (λM=>?_) λM=>?_⟩⟩
 ·refine m (y.trans q) ?_ δ;unfold nV;rw[if_pos z]
 ·refine m (y.trans q) ?_ δ;unfold nV;rw[if_neg z];have:u.2=false:=by simpa using M
  unfold c8 at g;split at g
  ·rw[g]at this;cases this
  ·rename_i j;rw[j]
 have ad:u.2=true:=by simpa using M
 have B:nodeAt L (place parent L)=some u.1:=by
  unfold c8 at g;split at g
  ·rename_i x hx;rw[hx,g]
  ·rw[g]at ad;cases ad
 have k:=y.trans q;have a0:Var 69 h7 w.size u.1.tv:=Var.ext (t:=u.1.tv) v6 q
 have D:nV L most root parent slot=if slot<=u.1.slot\/1073741824<slot then 5 else if most<=L.length then 6 else 0:=by
  unfold nV;rw[if_neg z,B]
 refine⟨u.1.slot,a0.at.2.1,ID (λae=>?_) λae=>If.dec.2 ⟨λal=>?_,λal=>?_⟩⟩
 ·exact m k (by rw[D,if_pos (.inl ae)]) δ
 ·exact m k (by rw[D,if_pos (.inr al)]) δ
 refine Gl (p.ext k) ⟨_,rfl,ID (λhm=>?_) λhm=>?_⟩
 ·exact m k (by rw[D,if_neg ω,if_pos ω]) δ
 have am:nV L most root parent slot=0:=by rw[D,if_neg ω,if_neg ω]
 refine HJ 0 h7 ?_;clear HJ J m;have s:=p.ext k;have a9:=s.var.lt;have ao:=ac.ext q;have a1:=aE.ext q
 have hk:root∉nC (ER L 0):=by
  rw[Ge];exact lV.1 ω
 refine⟨some r,s.var.ah rfl,root,ao.bytes,A,s.var.ah rfl,s.map.put Vf root (A.len:Int) λE N f8 s8=>?_⟩;rw[Qw hk]at N;have ap:b≠r:=p.map.ne p.var;have a':=p.map.lt;have ba:=p.var.lt;have bb:=k.size;have bc:=H.size;have z1:=V.size;have O:Var 168 E b (.agg [.slice A,.map (some r),.i most]):=s.var.only f8 ap;have o8:Vc.Own 69 34 E A (nds L):=s.own.only f8 λl d f=>p.ne.2 ⟨l,d,f⟩;have a2:Var 52 E h.size (.bytes 32 root):=ao.only f8 ω;have a3:Var 52 E S.size (.bytes 32 parent):=a1.only f8 ω;refine⟨A,O.ah rfl,root,a2.bytes,some r,O.ah rfl,parent,a3.bytes,?_⟩;obtain⟨es,c,hb,d,ho,v⟩:=N.look Vf parent 0;refine⟨es,c,hb,d,_,ho,ahO _ _,?_⟩
 have hp:(lG parent (ER L 0++[(root,(A.len:Int))])).getD 0=place parent L:=by
  obtain⟨i,x,S,W,Z,w,h5⟩:=fG (r:=parent) (L:=L) (by unfold nodeAt at B;split at B;assumption;cases B);have e:ER L 0++[(root,(A.len:Int))]=ER (L++[⟨root,slot,place parent L⟩]) 0:=by rw[Gd,p.len];simp
  have hf:lU parent (L++[⟨root,slot,place parent L⟩])=some i:=by
   have:=ye (i:=i) (x:=x) (L:=L++[⟨root,slot,place parent L⟩]) (by
    rw[aic,aia];refine⟨p.ok.nodup,by simp,λa ha b' a4=>?_⟩;have:b'=root:=by simpa using a4
    rw[this];rintro rfl;exact hk (by rw[Ge];exact ha)) (by rw[List.getElem?_append_left h5];exact Z)
   rw[w]at this;exact this
  rw[e,Gc,hf,W];simp
 rw[hp];have a5:=p.len;have bd:=p.ok.most;refine cD (C:=ctx) (T:=69) (sz:=34) (x:=(⟨root,slot,place parent L⟩:Nd).tv) Wx Tk Tj (by rw[Hw,<-p.len];omega) o8 (Nd.size _) (Nd.plain _) λP h9 o9 f9 n9=>?_;have v9:Var 168 h9 b (.agg [.slice A,.map (some r),.i most]):=O.only f9 p.ne.1;have m9:=N.only f9 p.ne.2;refine⟨(v9.gT (o:=0) (n:=1) (by simp[ahf,ahJ])),?_⟩;refine(aI v9 (i:=0) (t:=.slice P) rfl rfl rfl rfl λa6 v10 f10 bi=>?_).2
 have Q:∀l,P.a=some l->l.b≠b/\l.b≠r:=λl d=>by
  rcases n9 l d with⟨F,G,f⟩|ar
  ·exact⟨λe=>p.ne.1 ⟨F,G,ω⟩,λe=>p.ne.2 ⟨F,G,ω⟩⟩
  ·omega
 have hL:gw L most root parent slot=L++[⟨root,slot,place parent L⟩]:=by unfold gw;rw[if_pos am]
 have a7:=p.ok.add (root:=root) (parent:=parent) (slot:=slot);have:=U a6 P ⟨?_,?_,?_,a7,⟨λ⟨l,d,f⟩=>(Q l d).1 f,λ⟨l,d,f⟩=>(Q l d).2 f⟩⟩ ⟨⟨?_,?_⟩,?_⟩
 ·rw[am]at this;exact this
 ·exact v10
 ·rw[hL];have a8:=o9.only f10 λl d=>(Q l d).1;simpa[nds]using a8
 ·rw[hL,Gd,Nat.zero_add,a5];exact m9.only f10 (Ne.symm ap)
 ·have:=f8.size;have:=f9.size;have:=f10.size;omega
 ·intro i hi j;have bj:=f8.size;have ar:=f9.size;rw[f10.same i ω (λe=>j (.inl e)),f9.same i ω (λ⟨l,d,f⟩=>j (.inr (.inr ⟨l,d,f⟩))),f8.same i ω (λe=>j (.inr (.inl e))),k.same i hi]
 ·rintro i (rfl|rfl|⟨l,d,rfl⟩)
  ·exact .inl (.inl rfl)
  ·exact .inl (.inr (.inl rfl))
  ·rcases n9 l d with⟨F,G,f⟩|ar
   ·exact .inl (.inr (.inr ⟨F,G,f⟩))
   ·exact .inr (by have:=f8.size;omega)
end
end Gate
end Go.Proofs.YtennbinbffdimaaGreat
namespace Go.Vc
open Go
section
variable{C:Ctx}{T:TypeId}{sz:Nat}{h h0:af}{s1 s2:Sl}{ts1 ts2:List TV}{x y:TV}{K:Sl->Sl->af->Prop}
theorem IK{K:Sl->af->Prop}{q:Nat}(A:(C.ti T).size=sz)(B:(C.ti T).z.size=sz)(E:0<(C.ti T).bytes)(G:0<sz)(H:(s1.len+1)*(C.ti T).bytes<=70368744177664)
 (o:Vc.Own T sz h s1 ts1)(v:h[q]? =some (row (agD [x]) T))(I:x.size=sz)(J:x.plain=true)
 (M:∀b a,Vc.Own T sz a b (ts1++[x])->ag (In s1) h a->(∀i,In b i->In s1 i\/h.size<=i)->K b a):
 ∃new,cn h (ahb (some (ahB q 0)) 1 1) sz new/\(∀v∈new,bU v=true)/\au C T s1 1 new h K:=by
 have one:∀t∈[x],t.size=sz:=λt c=>by rw[ahM.1 c];exact I
 have f:∀t∈[x],t.plain=true:=λt c=>by rw[ahM.1 c];exact J
 have e:aj sz h (ahb (some (ahB q 0)) 1 1) [x]:=by
  have:Vc.Own T sz h (ahb (some (ahB q 0)) 1 1) [x]:=⟨one,rfl,ahd _,.inr ⟨q,[],rfl,by simpa using v,by simp⟩⟩;exact this.elems
 exact oW (s:=ahb (some (ahB q 0)) 1 1) A B E G H o e one f λt' a g _ j k=>M t' a g j λi⟨l,m,p⟩=>by
  rcases k l m with⟨n,d,r⟩|d
  ·exact .inl ⟨n,d,ω⟩
  ·exact .inr ω
theorem Vg(E:(C.ti T).size=sz)(G:(C.ti T).z.size=sz)(H:0<(C.ti T).bytes)(I:0<sz)(U:(s1.len+1)*(C.ti T).bytes<=70368744177664)(W:(s2.len+1)*(C.ti T).bytes<=70368744177664)
 (M:Vc.Own T sz h s1 ts1)(O:Vc.Own T sz h s2 ts2)(ap:∀i,In s1 i->¬In s2 i)(Z:x.size=sz)(ab:x.plain=true)(hy:y.size=sz)(hyp:y.plain=true)
 (J:∀c,ag (λi=>In s1 i\/In s2 i) h c->Sub h0 c)
 (hk:∀u w c,Vc.Own T sz c u (ts1++[x])->Vc.Own T sz c w (ts2++[y])->ag (λi=>In s1 i\/In s2 i) h c->(∀i,In u i->In s1 i\/h.size<=i)->(∀i,In w i->In s2 i\/h.size<=i)->(∀i,In u i->¬In w i)->K u w c):
 (Sub h0 (agV h (row (agD [x]) T))/\
  (∃new,cn (agV h (row (agD [x]) T)) (ahb (some (ahB h.size 0)) 1 1) sz new/\(∀v∈new,bU v=true)/\au C T s1 1 new (agV h (row (agD [x]) T)) λs h=>Sub h0 h/\Sub h0 (agV h (row (agD [y]) T))/\
   ∃new,cn (agV h (row (agD [y]) T)) (ahb (some (ahB h.size 0)) 1 1) sz new/\(∀v∈new,bU v=true)/\au C T s2 1 new (agV h (row (agD [y]) T)) λB h=>K s B h)/\
  Sub h0 (agV (agV h (row (agD [x]) T)) (row (agD [y]) T))/\
  ∃new,cn (agV (agV h (row (agD [x]) T)) (row (agD [y]) T)) (ahb (some (ahB h.size 0)) 1 1) sz new/\(∀v∈new,bU v=true)/\au C T s1 1 new (agV (agV h (row (agD [x]) T)) (row (agD [y]) T)) λs A=>Sub h0 A/\
   ∃new,cn A (ahb (some (ahB (Array.size (agV h (row (agD [x]) T))) 0)) 1 1) sz new/\(∀v∈new,bU v=true)/\au C T s2 1 new A λB h=>K s B h)/\
 Sub h0 (agV h (row (agD [y]) T))/\Sub h0 (agV (agV h (row (agD [y]) T)) (row (agD [x]) T))/\
  ∃new,cn (agV (agV h (row (agD [y]) T)) (row (agD [x]) T)) (ahb (some (ahB (Array.size (agV h (row (agD [y]) T))) 0)) 1 1) sz new/\(∀v∈new,bU v=true)/\au C T s1 1 new (agV (agV h (row (agD [y]) T)) (row (agD [x]) T)) λs A=>Sub h0 A/\
   ∃new,cn A (ahb (some (ahB h.size 0)) 1 1) sz new/\(∀v∈new,bU v=true)/\au C T s2 1 new A λB h=>K s B h:=by
 have Y:∀i,In s1 i->i<h.size:=λi⟨l,b,a⟩=>by have:=M.lt l b;omega
 have V:∀i,In s2 i->i<h.size:=λi⟨l,b,a⟩=>by have:=O.lt l b;omega
 have sub:∀c,Ext h c->Sub h0 c:=λc e=>J c (.an e)
 have both:∀{g:af}{p q:Nat},Ext h g->g[p]? =some (row (agD [x]) T)->g[q]? =some (row (agD [y]) T)->h.size<=q->
  ∃new,cn g (ahb (some (ahB p 0)) 1 1) sz new/\(∀v∈new,bU v=true)/\au C T s1 1 new g λs A=>Sub h0 A/\
   ∃new,cn A (ahb (some (ahB q 0)) 1 1) sz new/\(∀v∈new,bU v=true)/\au C T s2 1 new A λB h=>K s B h:=by
  intro g p q D vp X hq;have zg:=D.size;refine IK E G H I U (M.ext D) vp Z ab λs f n f1 o=>?_;have ac:=f1.size;have m:ag (λi=>In s1 i\/In s2 i) h f:=(ahW D).trans (f1.mono λi a=>.inl a);have F:Vc.Own T sz f s2 ts2:=(O.ext D).only f1 λl b a=>ap _ a ⟨l,b,rfl⟩;have ad:f[q]? =some (row (agD [y]) T):=by rw[f1.same q (kO X) (λa=>by have:=Y q a;omega),X]
  refine⟨J f m,IK E G H I W F ad hy hyp λL N P f2 r=>?_⟩
  have d1:∀i,In s i->¬In s2 i:=λi a j=>by
   rcases o i a with d|d
   ·exact ap i d j
   ·have:=V i j;omega
  refine hk s L N (n.only f2 λl b a=>d1 _ ⟨l,b,rfl⟩ a) P (m.trans (f2.mono λi a=>.inr a)) (λi a=>(o i a).imp id (λh=>ω)) (λi a=>(r i a).imp id (λh=>ω)) λi a j=>?_;rcases r i j with d|d
  ·exact d1 i a d
  ·obtain⟨l,b,he⟩:=a;have:=n.lt l b;omega
 have k:=ahO h (row (agD [x]) T);have Q:=ahO h (row (agD [y]) T);have R:=ahO (agV h (row (agD [x]) T)) (row (agD [y]) T);have S:=ahO (agV h (row (agD [y]) T)) (row (agD [x]) T);refine⟨⟨sub _ k,?_,sub _ (k.trans R),both (k.trans R) ?_ (cO _ _) k.size⟩,sub _ Q,sub _ (Q.trans S),both (Q.trans S) (cO _ _) ?_ (ahd _)⟩
 ·have zg:=k.size;refine IK E G H I U (M.ext k) (cO _ _) Z ab λs f n f1 o=>?_;have ac:=f1.size;have m:ag (λi=>In s1 i\/In s2 i) h f:=(ahW k).trans (f1.mono λi a=>.inl a);have F:Vc.Own T sz f s2 ts2:=(O.ext k).only f1 λl b a=>ap _ a ⟨l,b,rfl⟩;have t:=ahO f (row (agD [y]) T);have zy:=t.size;refine⟨J f m,J _ (m.trans (.an t)),IK E G H I W (F.ext t) (cO _ _) hy hyp λL N P f2 r=>?_⟩
  have d1:∀i,In s i->¬In s2 i:=λi a j=>by
   rcases o i a with d|d
   ·exact ap i d j
   ·have:=V i j;omega
  refine hk s L N ((n.ext t).only f2 λl b a=>d1 _ ⟨l,b,rfl⟩ a) P ((m.trans (.an t)).trans (f2.mono λi a=>.inr a)) (λi a=>(o i a).imp id (λh=>ω)) (λi a=>(r i a).imp id (λh=>ω)) λi a j=>?_;rcases r i j with d|d
  ·exact d1 i a d
  ·obtain⟨l,b,he⟩:=a;have:=n.lt l b;omega
 ·exact(R.same _ (by simp)).trans (cO _ _)
 ·exact(S.same _ (by simp)).trans (cO _ _)
end
end Go.Vc
namespace Go.Vc
open Go
theorem uv{A A' B:Sl}{n:Nat}(d:∀i,In A i->¬In B i)(q:∀i,In A' i->In A i\/n<=i)(lt:∀i,In B i->i<n):∀i,In A' i->¬In B i:=λi a b=>by
 grind
theorem Own.g_{T:TypeId}{sz:Nat}{h:af}{s:Sl}{ts:List TV}(o:Vc.Own T sz h s ts):∀i,In s i->i<h.size:=λi⟨l,a,b⟩=>by have:=o.lt l a;omega
theorem Own.keep{T:TypeId}{sz:Nat}{S:Nat->Prop}{h h':af}{s:Sl}{ts:List TV}(o:Vc.Own T sz h s ts)(f:ag S h h')(q:∀i,In s i->¬S i):Vc.Own T sz h' s ts:=o.only f λl a=>q l.b ⟨l,a,rfl⟩
def JT(h:af)(b o:Nat):Nat:=match ng h b o with
 |some (.slice _ n _)=>n
 |_=>0
theorem QO{h:af}{b o:Nat}{s:Sl}(a:ah h b o (bu s)):JT h b o=s.len:=by
 unfold JT;rw[a];rfl
end Go.Vc
namespace Go.Proofs.YtennbinbffdimaaGreat
open Go Go.Vc
namespace Gate
abbrev eA(l:List Int):List TV:=l.map vI
theorem Gm(l:List Int):∀t∈eA l,t.size=1:=λt a=>by obtain⟨x,_,rfl⟩:=ahI.1 a;rfl
theorem wF:(vS.ti 3).bytes=8:=κ
theorem QS:(vS.ti 3).size=1:=κ
theorem MK:(vS.ti 3).z.size=1:=κ
theorem Vh:0<(vS.ti 3).bytes:=by simp[wF]
section
variable{R:Rq}{h h':af}{w tb:Nat}{O S B G:Sl}{os ss bs fs:List Int}
structure WP(h:af)(w tb:Nat)(O S B G:Sl)(os ss bs fs:List Int):Prop where
 var:Var 270 h w (.agg [.ptr (PT tb),.slice O,.slice S,.slice B,.slice G])
 o:Vc.Own 3 1 h O (eA os)
 s:Vc.Own 3 1 h S (eA ss)
 b:Vc.Own 3 1 h B (eA bs)
 f:Vc.Own 3 1 h G (eA fs)
 now:¬In O w/\¬In S w/\¬In B w/\¬In G w
 os_:∀i,In O i->¬In S i
 ob:∀i,In O i->¬In B i
 of:∀i,In O i->¬In G i
 sb:∀i,In S i->¬In B i
 sf:∀i,In S i->¬In G i
 bf:∀i,In B i->¬In G i
def iN(w:Nat)(O S B G:Sl)(i:Nat):Prop:=i=w\/In O i\/In S i\/In B i\/In G i
theorem WP.only{Q:Nat->Prop}(p:WP h w tb O S B G os ss bs fs)(f:ag Q h h')(q:∀i,iN w O S B G i->¬Q i):WP h' w tb O S B G os ss bs fs:=
 ⟨p.var.only f (q w (.inl rfl)),p.o.keep f λi a=>q i (.inr (.inl a)),p.s.keep f λi a=>q i (.inr (.inr (.inl a))),p.b.keep f λi a=>q i (.inr (.inr (.inr (.inl a)))),p.f.keep f λi a=>q i (.inr (.inr (.inr (.inr a)))),
  p.now,p.os_,p.ob,p.of,p.sb,p.sf,p.bf⟩
theorem WP.ext(p:WP h w tb O S B G os ss bs fs)(x:Ext h h'):WP h' w tb O S B G os ss bs fs:=p.only (Q:=λ_=>False) (.an x) λ_ _ a=>a
theorem WP.lt(p:WP h w tb O S B G os ss bs fs){i:Nat}(q:iN w O S B G i):i<h.size:=by
 rcases q with rfl|q|q|q|q
 ·exact p.var.lt
 ·exact p.o.g_ i q
 ·exact p.s.g_ i q
 ·exact p.b.g_ i q
 ·exact p.f.g_ i q
theorem WP.lo(p:WP h w tb O S B G os ss bs fs):os.length=O.len:=by have:=p.o.len;simp_all
theorem WP.ls(p:WP h w tb O S B G os ss bs fs):ss.length=S.len:=by have:=p.s.len;simp_all
theorem WP.lb(p:WP h w tb O S B G os ss bs fs):bs.length=B.len:=by have:=p.b.len;simp_all
theorem WP.lf(p:WP h w tb O S B G os ss bs fs):fs.length=G.len:=by have:=p.f.len;simp_all
def pad(l:List Int)(n:Nat)(v:Int):List Int:=l++List.replicate (n-l.length) v
theorem E2{l:List Int}{n:Nat}{v:Int}(h:l.length<n):pad (l++[v]) n v=pad l n v:=by
 unfold pad;rw[List.append_assoc,ah1,List.length_singleton];obtain⟨m,a⟩:∃m,n-l.length=m+1:=⟨n-l.length-1,ω⟩
 grind
theorem CB{l:List Int}{n:Nat}{v:Int}(h:n<=l.length):pad l n v=l:=by
 simp_all [Nat.sub_eq_zero_of_le,pad]
theorem ML{r:Nat}{A:Sl}{L:List Nd}{most:Int}(p:WP h w tb O S B G os ss bs fs)(t:AP h tb r A L most)(ap:∀i,lH tb r A i->¬iN w O S B G i)
 (l1:ss.length=os.length)(l2:bs.length=os.length)(l3:fs.length=os.length)(E:os.length<=L.length)
 (hr:∀h' O' S' B' G',WP h' w tb O' S' B' G' (pad os L.length 0) (pad ss L.length 0) (pad bs L.length (-1)) (pad fs L.length (-1))->Step (iN w O S B G) h (iN w O' S' B' G') h'->R (ahV []).val h'):
 Cl 203 [.ptr (PT w)] h R:=by
 apply uS;delta MG JM iA jX Tg fP d_ QB gY bK bA fD;have a8:=t.ok.len;have a9:=t.ok.most
 refine⟨λ_ u=>∃O' S' B' G' v ab ac ad,WP u w tb O' S' B' G' v ab ac ad/\Step (iN w O S B G) h (iN w O' S' B' G') u/\ab.length=v.length/\ac.length=v.length/\ad.length=v.length/\v.length<=L.length/\
  pad v L.length 0=pad os L.length 0/\pad ab L.length 0=pad ss L.length 0/\pad ac L.length (-1)=pad bs L.length (-1)/\pad ad L.length (-1)=pad fs L.length (-1),
  λ_ u=>L.length-JT u w 1,⟨O,S,B,G,os,ss,bs,fs,p,.an (ahe _),l1,l2,l3,E,rfl,rfl,rfl,rfl⟩,?_⟩
 rintro _ k ⟨F,S1,z,D,os1,al,am,ao,b,ae,l1,l2,l3,E,e1,e2,e3,e4⟩;have v1:=b.var;have K:Var 270 (keeps (·=w) k) w _:=v1.keeps rfl;have t1:=t.only ae.only ap;refine⟨keeps (·=w) k,jT,F,K.ah rfl,some ⟨tb,0⟩,K.ah rfl,Bw t1 ⟨_,rfl,jT,ID (λa'=>?_) λba=>?_⟩⟩
 ·have a2:=b.lo;have bb:=b.ls;have bc:=b.lb;have bd:=b.lf;have a3:os1.length<L.length:=ω;have bi:JT k w 1=F.len:=QO (v1.ah rfl)
  have ar:∀{X Y:Sl}{g g':af},¬In X w->¬In Y w->ag (λi=>In X i\/In Y i) g g'->Sub (keeps (·=w) g) g':=λM hY f=>vV f λi a c=>by
   simp_all
  intro J HJ
  refine⟨keeps (·=w) k,jT,F,K.ah rfl,S1,K.ah rfl,Vg QS MK Vh δ (by grind [wF]) (by grind [wF])
   b.o b.s b.os_ rfl rfl rfl rfl (λh' f=>ar b.now.1 b.now.2.1 f) λl s h2 o2 s2 f2 N P aw=>?_⟩
  have z2:=f2.size;have v2:Var 270 h2 w _:=v1.only f2 λc=>c.elim b.now.1 b.now.2.1;have b2:=b.b.keep f2 λi a c=>c.elim (λc=>b.ob i c a) λc=>b.sb i c a;have g2:=b.f.keep f2 λi a c=>c.elim (λc=>b.of i c a) λc=>b.sf i c a
  have nw:∀{X X':Sl},¬In X w->(∀i,In X' i->In X i\/k.size<=i)->¬In X' w:=λM E c=>by
   rcases E w c with H|H
   ·exact M H
   ·have:=v1.lt;omega
  refine⟨v2.gT (o:=1) (n:=1) (by simp[ahf,ahJ]),?_⟩;refine(aI v2 (i:=1) (t:=.slice l) rfl rfl rfl rfl λh3 v3 f3 s3=>?_).2;refine⟨v3.gT (o:=2) (n:=1) (by simp[ahf,ahJ]),?_⟩;refine(aI v3 (i:=2) (t:=.slice s) rfl rfl rfl rfl λm v4 f4 s4=>?_).2;have f24:ag (·=w) h2 m:=f3.trans f4;have z4:=f24.size;have Q:=nw b.now.1 N;have U:=nw b.now.2.1 P
  have j:WP m w tb l s z D (os1++[0]) (al++[0]) am ao:=by
   refine⟨v4,?_,?_,b2.keep f24 λi a e=>b.now.2.2.1 (e▸a),g2.keep f24 λi a e=>b.now.2.2.2 (e▸a),⟨Q,U,b.now.2.2⟩,aw,uv b.ob N b.b.g_,uv b.of N b.f.g_,uv b.sb P b.b.g_,uv b.sf P b.f.g_,b.bf⟩
   ·have:=o2.keep f24 λi a e=>Q (e▸a);simpa[eA]using this
   ·have:=s2.keep f24 λi a e=>U (e▸a);simpa[eA]using this
  have a4:Step (iN w F S1 z D) k (iN w l s z D) m:=by
   refine⟨(f2.mono λi a=>?_).trans (f24.mono λi a=>.inl a),λi a=>?_⟩
   ·exact a.elim (λh=>.inr (.inl h)) λh=>.inr (.inr (.inl h))
   ·rcases a with rfl|a|a|a|a
    ·exact .inl (.inl rfl)
    ·exact(N i a).imp (λh=>.inr (.inl h)) id
    ·exact(P i a).imp (λh=>.inr (.inr (.inl h))) id
    ·exact .inl (.inr (.inr (.inr (.inl a))))
    ·exact .inl (.inr (.inr (.inr (.inr a))))
  refine HJ _ m ?_;clear HJ J;have w4:Var 270 (keeps (·=w) m) w _:=v4.keeps rfl
  refine⟨keeps (·=w) m,jT,z,w4.ah rfl,D,w4.ah rfl,Vg (C:=vS) (T:=3) (sz:=1) (x:=.i (-1)) (y:=.i (-1)) QS MK Vh δ (by rw[wF];omega) (by rw[wF];omega)
   j.b j.f j.bf rfl rfl rfl rfl (λh' f=>ar j.now.2.2.1 j.now.2.2.2 f) λV W h5 b5 g5 f5 Z nF a5=>?_⟩
  have v5:Var 270 h5 w _:=v4.only f5 λc=>c.elim j.now.2.2.1 j.now.2.2.2;have o5:=j.o.keep f5 λi a c=>c.elim (λc=>j.ob i a c) λc=>j.of i a c;have s5:=j.s.keep f5 λi a c=>c.elim (λc=>j.sb i a c) λc=>j.sf i a c;refine⟨v5.gT (o:=3) (n:=1) (by simp[ahf,ahJ]),?_⟩;refine(aI v5 (i:=3) (t:=.slice V) rfl rfl rfl rfl λh6 v6 f6 s6=>?_).2;refine⟨v6.gT (o:=4) (n:=1) (by simp[ahf,ahJ]),?_⟩;refine(aI v6 (i:=4) (t:=.slice W) rfl rfl rfl rfl λI v7 f7 s7=>?_).2;have f57:ag (·=w) h5 I:=f6.trans f7
  have aE:∀{X X':Sl},¬In X w->(∀i,In X' i->In X i\/m.size<=i)->¬In X' w:=λM E c=>by
   rcases E w c with H|H
   ·exact M H
   ·have:=v4.lt;omega
  have a0:=aE j.now.2.2.1 Z;have a1:=aE j.now.2.2.2 nF;have q:∀{X Y:Sl},(∀i,In X i->¬In Y i)->∀i,In Y i->¬In X i:=λd i hy c=>d i c hy
  have p7:WP I w tb l s V W (os1++[0]) (al++[0]) (am++[-1]) (ao++[-1]):=by
   refine⟨v7,o5.keep f57 λi a e=>Q (e▸a),s5.keep f57 λi a e=>U (e▸a),?_,?_,⟨Q,U,a0,a1⟩,aw,q (uv (q j.ob) Z j.o.g_),q (uv (q j.of) nF j.o.g_),q (uv (q j.sb) Z j.s.g_),q (uv (q j.sf) nF j.s.g_),a5⟩
   ·have:=b5.keep f57 λi a e=>a0 (e▸a);simpa[eA]using this
   ·have:=g5.keep f57 λi a e=>a1 (e▸a);simpa[eA]using this
  have a6:Step (iN w l s z D) m (iN w l s V W) I:=by
   refine⟨(f5.mono λi a=>?_).trans (f57.mono λi a=>.inl a),λi a=>?_⟩
   ·exact a.elim (λh=>.inr (.inr (.inr (.inl h)))) λh=>.inr (.inr (.inr (.inr h)))
   ·rcases a with rfl|a|a|a|a
    ·exact .inl (.inl rfl)
    ·exact .inl (.inr (.inl a))
    ·exact .inl (.inr (.inr (.inl a)))
    ·exact(Z i a).imp (λh=>.inr (.inr (.inr (.inl h)))) id
    ·exact(nF i a).imp (λh=>.inr (.inr (.inr (.inr h)))) id
  have bj:JT I w 1=l.len:=QO (v7.ah rfl);have a7:=p7.lo;simp only[ah1,List.length_singleton]at a7;refine⟨⟨l,s,V,W,_,_,_,_,p7,(ae.trans a4).trans a6,by simp[l1],by simp[l2],by simp[l3],by simp;omega,?_,?_,?_,?_⟩,by show L.length-JT I w 1<L.length-JT k w 1;omega⟩
  ·rw[E2 a3,e1]
  ·rw[E2 ω,e2]
  ·rw[E2 ω,e3]
  ·rw[E2 ω,e4]
 ·have a2:=b.lo;have u:L.length<=os1.length:=ω;refine hr k F S1 z D ?_ ae;rw[<-e1,<-e2,<-e3,<-e4,CB u,CB ω,CB ω,CB ω];exact b
end
end Gate
namespace Board
def be(n q A B:Int):Int:=(agk agi (↑(agO (agu (agl agi) (agk agi (↑(agO (agu (agl agi) (agk agi (↑(agO (agu (agl agi) (agk agi (agk agi n*(2:Int)^min (aha (24:Int)) (agl agi)))|||agu (agl agi) (agk agi (agk agi q*(2:Int)^min (aha (16:Int)) (agl agi))))):Int))|||agu (agl agi) (agk agi (agk agi A*(2:Int)^min (aha (8:Int)) (agl agi))))):Int))|||agu (agl agi) (agk agi B))):Int))
def ex(n q A B E G H I:Int):Int:=(agk agi (agk agi (agk agi (A+agk agi (↑(agO (agu (agl agi) (agk agi (↑(agO (agu (agl agi) E^^^agu (agl agi) G)):Int))^^^agu (agl agi) (ahr n ((2:Int)^min (aha (3:Int)) (agl agi))))):Int))+B)+agk agi (↑(agO (agu (agl agi) (agk agi (↑(agO (agu (agl agi) H^^^agu (agl agi) I)):Int))^^^agu (agl agi) (ahr q ((2:Int)^min (aha (10:Int)) (agl agi))))):Int)))
def rot(x k:Int):Int:=(agk agi (↑(agO (agu (agl agi) (agk agi (x*(2:Int)^min (aha (agk ahK (↑(agO (agu (agl ahK) (agk ahK k)&&&agu (agl ahK) (31:Int))):Int))) (agl agi)))|||agu (agl agi) (ahr x ((2:Int)^min (aha (agk ahK ((32:Int)-agk ahK (↑(agO (agu (agl ahK) (agk ahK k)&&&agu (agl ahK) (31:Int))):Int)))) (agl agi))))):Int))
def fm(x n:Int):Int:=rot x (agk .i64 (0-n))
def Ie(bs:LU)(i:Nat):Int:=((bs.getD i 0).toNat:Int)
def wd{n:Nat}(w:Ws n)(i:Nat):Int:=w.l.getD i 0
def DV(bs:LU):Nat->Ws 64
 |0=>ahQ 64
 |i+1=>(DV bs i).set i (be (Ie bs (4*i)) (Ie bs (4*i+1)) (Ie bs (4*i+2)) (Ie bs (4*i+3)))
def Zt(w:Ws 64)(i:Nat):Int:=
 ex (wd w (i-15)) (wd w (i-2)) (wd w (i-16)) (wd w (i-7)) (fm (wd w (i-15)) 7) (fm (wd w (i-15)) 18) (fm (wd w (i-2)) 17) (fm (wd w (i-2)) 19)
def Ig(w:Ws 64):Nat->Ws 64
 |0=>w
 |i+1=>(Ig w i).set (16+i) (Zt (Ig w i) (16+i))
def Bx(bs:LU):Ws 64:=Ig (DV bs 16) 48
def JW(c:UInt8):TV:=.int .u8 (c.toNat:Int)
section
variable{R:Rq}{h:af}
theorem wrap_u64_nonneg(n:Int):0<=agk .u64 n:=by
 grind [agk,IntKind.signed,agl]
theorem Zu{x k:Int}(q:R (ahy .u32 (rot x k)).val h):Cl 340 [.int .u32 x,.i k] h R:=by
 apply qE;exact⟨wrap_u64_nonneg _,wrap_u64_nonneg _,q⟩
theorem jB{x n:Int}(q:R (ahy .u32 (fm x n)).val h):Cl 327 [.int .u32 x,.i n] h R:=by
 apply JU;exact Zu ⟨_,rfl,q⟩
theorem bF{T:TypeId}{b n:Nat}{k:IntKind}{w:Ws n}(v:Var T h b (.words k n w)){i:Nat}(q:i<n):ah h b (0+i*1) (.int k (wd w i)):=by
 have:=v.at i q;rw[aie];exact this
theorem pS{T:TypeId}{h:af}{b n i o:Nat}{k:IntKind}{x:Ws n}{c:Int}{K:af->Prop}(v:Var T h b (.words k n x))(q:i<n)(A:o=i)
 (B:∀a,Var T a b (.words k n (x.set i c))->ag (·=b) h a->a.size=h.size->K a):gT h b o 1/\Bind ((ahy k c).put h b o) K:=by
 subst A;have d:o+(ahy k c).size<=(ahD k n x).cells.length:=by grind [TV.ai,ahf]
 refine⟨v.gT (by grind [ahf]),B _ ?_ (gV v d) (gW v d)⟩;have:=jJ v d;unfold Var;rw[this];simp only[ah2,ahf,agn,aif];rw[List.set_eq_take_append_cons_drop,if_pos (by rw[ahp,x.h];exact q)];simp
theorem yj{s:Sl}{bs:LU}{i:Int}(e:aj 1 h s (bs.map JW))(A:0<=i)(B:i<bs.length){K:Int->Prop}(q:K (Ie bs i.toNat)):
 0<=i/\i<(s.len:Int)/\Nn s.a λ(l:Vc.Loc)=>∃(n:Int),ah h l.b (l.o+i.toNat*1) (.int .u8 n)/\K n:=by
 have b:=e.len;rw[ahp]at b;refine e.read A ω λl t d a c=>?_;rw[ahN]at a;obtain⟨x,f,rfl⟩:=aid.1 a;refine⟨_,c,?_⟩
 have:Ie bs i.toNat=x.toNat:=by
  simp_all [ahL,Ie]
 rw[this]at q;exact q
def gN:Ws 8:=(agn (agn (agn (agn (agn (agn (agn (agn (ahQ (8:Nat)) (0:Nat) (1779033703:Int)) (1:Nat) (3144134277:Int)) (2:Nat) (1013904242:Int)) (3:Nat) (2773480762:Int)) (4:Nat) (1359893119:Int)) (5:Nat) (2600822924:Int)) (6:Nat) (528734635:Int)) (7:Nat) (1541459225:Int))
def uw:Ws 64:=(agn (agn (agn (agn (agn (agn (agn (agn (agn (agn (agn (agn (agn (agn (agn (agn (agn (agn (agn (agn (agn (agn (agn (agn (agn (agn (agn (agn (agn (agn (agn (agn (agn (agn (agn (agn (agn (agn (agn (agn (agn (agn (agn (agn (agn (agn (agn (agn (agn (agn (agn (agn (agn (agn (agn (agn (agn (agn (agn (agn (agn (agn (agn (agn (ahQ (64:Nat)) (0:Nat) (1116352408:Int)) (1:Nat) (1899447441:Int)) (2:Nat) (3049323471:Int)) (3:Nat) (3921009573:Int)) (4:Nat) (961987163:Int)) (5:Nat) (1508970993:Int)) (6:Nat) (2453635748:Int)) (7:Nat) (2870763221:Int)) (8:Nat) (3624381080:Int)) (9:Nat) (310598401:Int)) (10:Nat) (607225278:Int)) (11:Nat) (1426881987:Int)) (12:Nat) (1925078388:Int)) (13:Nat) (2162078206:Int)) (14:Nat) (2614888103:Int)) (15:Nat) (3248222580:Int)) (16:Nat) (3835390401:Int)) (17:Nat) (4022224774:Int)) (18:Nat) (264347078:Int)) (19:Nat) (604807628:Int)) (20:Nat) (770255983:Int)) (21:Nat) (1249150122:Int)) (22:Nat) (1555081692:Int)) (23:Nat) (1996064986:Int)) (24:Nat) (2554220882:Int)) (25:Nat) (2821834349:Int)) (26:Nat) (2952996808:Int)) (27:Nat) (3210313671:Int)) (28:Nat) (3336571891:Int)) (29:Nat) (3584528711:Int)) (30:Nat) (113926993:Int)) (31:Nat) (338241895:Int)) (32:Nat) (666307205:Int)) (33:Nat) (773529912:Int)) (34:Nat) (1294757372:Int)) (35:Nat) (1396182291:Int)) (36:Nat) (1695183700:Int)) (37:Nat) (1986661051:Int)) (38:Nat) (2177026350:Int)) (39:Nat) (2456956037:Int)) (40:Nat) (2730485921:Int)) (41:Nat) (2820302411:Int)) (42:Nat) (3259730800:Int)) (43:Nat) (3345764771:Int)) (44:Nat) (3516065817:Int)) (45:Nat) (3600352804:Int)) (46:Nat) (4094571909:Int)) (47:Nat) (275423344:Int)) (48:Nat) (430227734:Int)) (49:Nat) (506948616:Int)) (50:Nat) (659060556:Int)) (51:Nat) (883997877:Int)) (52:Nat) (958139571:Int)) (53:Nat) (1322822218:Int)) (54:Nat) (1537002063:Int)) (55:Nat) (1747873779:Int)) (56:Nat) (1955562222:Int)) (57:Nat) (2024104815:Int)) (58:Nat) (2227730452:Int)) (59:Nat) (2361852424:Int)) (60:Nat) (2428436474:Int)) (61:Nat) (2756734187:Int)) (62:Nat) (3204031479:Int)) (63:Nat) (3329325298:Int))
theorem yl(q:∀a,Ext h a->R (ahD .u32 8 gN).val a):Cl 257 [] h R:=by
 apply Ic;refine aa λe v1 b f=>aH v1 rfl λg c d j=>⟨_,c.at,q _ (aho b d λi k=>ω)⟩
theorem aA(q:∀a,Ext h a->R (ahD .u32 64 uw).val a):Cl 326 [] h R:=by
 apply JV;refine aa λe v1 b f=>aH v1 rfl λg c d j=>⟨_,c.at,q _ (aho b d λi k=>ω)⟩
theorem fQ{s:Sl}{bs:LU}(e:aj 1 h s (bs.map JW))(H:bs.length=64)(A:∀u,Ext h u->R (ahD .u32 64 (Bx bs)).val u):Cl 325 [.slice s] h R:=by
 apply LR;delta dQ aF U9 zL U1 EX cE Wt LO Wr bK bA;refine aa λb v1 y I=>aa λg z v J=>?_;have B:=y.trans v;have w:∀a,ag (·=b.size) g a->Ext h a:=λa o=>aho B o λi c=>ω;refine⟨λi a=>0<=i/\i<=16/\ag (·=b.size) g a/\Var 293 a b.size (.words .u32 64 (DV bs i.toNat)),λi _=>(16-i).toNat,⟨ahz 0,δ,ahP _ _,z⟩,?_⟩;rintro i C ⟨x,D,j,k⟩;have f:=e.ext (w C j);refine ID (λc=>?_) λc=>?_
 ·rw[wrap_i64 ω ω,wrap_i64 ω ω,wrap_i64 ω ω,wrap_i64 ω ω,wrap_i64 ω ω];have t0:(4*i).toNat=4*i.toNat:=ω;have t1:(4*i+1).toNat=4*i.toNat+1:=ω;have t2:(4*i+2).toNat=4*i.toNat+2:=ω;have t3:(4*i+3).toNat=4*i.toNat+3:=ω;refine yj f ω ω ⟨δ,yj f ω ω ⟨δ,yj f ω ω ⟨δ,yj f ω ω ?_⟩⟩⟩;refine⟨x,ω,pS k (i:=i.toNat) ω ω λl v4 d K=>?_⟩;rw[t0,t1,t2,t3]at v4;have m:(i+1).toNat=i.toNat+1:=ω;refine⟨⟨ω,ω,j.trans d,?_⟩,by grind⟩;rw[m];exact v4
 ·have p:i.toNat=16:=ω;rw[p]at k;refine⟨λi a=>16<=i/\i<=64/\ag (·=b.size) g a/\Var 293 a b.size (.words .u32 64 (Ig (DV bs 16) (i.toNat-16))),λi _=>((64:Int)-i).toNat,⟨ahz 16,δ,j,k⟩,?_⟩;rintro i l ⟨x,D,d,v4⟩;refine ID (λc=>?_) λc=>?_
  ·rw[wrap_i64 (n:=i-15) ω ω,wrap_i64 (n:=i-2) ω ω,wrap_i64 (n:=i-16) ω ω,wrap_i64 (n:=i-7) ω ω,wrap_i64 (n:=i+1) ω ω];have t0:(i-15).toNat=i.toNat-15:=ω;have t1:(i-2).toNat=i.toNat-2:=ω;have t2:(i-16).toNat=i.toNat-16:=ω;have t3:(i-7).toNat=i.toNat-7:=ω;rw[t0,t1,t2,t3];refine⟨ω,ω,_,bF v4 ω,ω,ω,_,bF v4 ω,ω,ω,_,bF v4 ω,δ,ω,ω,_,bF v4 ω,δ,?_⟩;refine jB ⟨_,rfl,ahe _,jB ⟨_,rfl,ahe _,jB ⟨_,rfl,ahe _,jB ⟨_,rfl,ahe _,?_⟩⟩⟩⟩;refine⟨ω,ω,pS v4 (i:=i.toNat) ω ω λE q r F=>?_⟩;have m:(i+1).toNat-16=(i.toNat-16)+1:=ω;have G:16+(i.toNat-16)=i.toNat:=ω;refine⟨⟨ω,ω,d.trans r,?_⟩,Ω⟩;rw[m];unfold Ig;rw[G];unfold Zt ex;exact q
  ·have p:i.toNat-16=48:=ω;rw[p]at v4;have v0:Var 293 l h.size (.words .u32 64 (ahQ 64)):=(v1.ext v).only d ω;refine⟨_,v4.at,aH v0 (t:=.words .u32 64 (Bx bs)) (by simp only[ahf]) λE q r F=>⟨_,q.at,?_⟩⟩;exact A _ (aho (w l d) r λi c=>ω)
end
end Board
namespace Board
theorem JX{C:Ctx}{T:TypeId}{sz:Nat}{h:af}{t:Sl}{ts us:List TV}{K:Sl->af->Prop}(A:(C.ti T).size=sz)(E:(C.ti T).z.size=sz)(G:0<(C.ti T).bytes)(H:0<sz)
 (I:(t.len+us.length)*(C.ti T).bytes<=70368744177664)(o:Vc.Own T sz h t ts)(B:∀u∈us,u.size=sz)
 (q:∀t' i,Vc.Own T sz i t' (ts++us)->ag (λb=>∃l,t.a=some l/\l.b=b) h i->(∀l,t'.a=some l->(∃n,t.a=some n/\n.b=l.b)\/h.size<=l.b)->K t' i):
 au C T t us.length (agD us) h K:=by
 have p:=ak.bG us B
 have r:∀x∈ts++us,x.size=sz:=λx j=>by
  rcases ahU.1 j with k|k
  ·exact o.size x k
  ·exact B x k
 have s:=ak.bG ts o.size;have m:=o.len;have R:=o.cap;refine⟨agD ts,?_,I,G,?_,?_,?_⟩
 ·rw[A];exact o.elems.cells o.size H
 ·intro f;rcases o.row with rfl|⟨b,d,e,v,w⟩
  ·simp only[ahA]at f⊢;exact⟨.inl ω,λl a=>by cases a⟩
  ·refine⟨.inr (by rw[e];rfl),λl a=>?_⟩;rw[e]at a;cases a;rw[A];simp only[Nat.zero_add]
   have S:us.length*sz<=d.length:=by
    rw[w];exact Nat.mul_le_mul_right _ ω
   have y:t.len*sz+(agD us).length<=(agD ts++d).length:=by
    simp only[ah1,s,<-o.len,p];omega
   refine⟨iH v y,?_⟩;obtain⟨D,F,J⟩:=jo (agD us) h b (t.len*sz) _ T v y;have L:agD (ts++us)=agD ts++agD us:=ak.fT _ _
   have M:(tI h b (t.len*sz) (agD us))[b]? =some (Go.Vc.row (agD (ts++us)++d.drop (us.length*sz)) T):=by
    rw[D,L,<-o.len,<-s];congr 2;simp[p]
   have N:(d.drop (us.length*sz)).length=(t.cap-(t.len+us.length))*sz:=by
    simp only[List.length_drop,w];rw[<-Nat.sub_sub,Nat.sub_mul (t.cap-t.len)]
   refine q _ _ ⟨r,by simp[m],by simp only;omega,.inr ⟨b,d.drop (us.length*sz),rfl,M,N⟩⟩ ?_ ?_
   ·refine⟨by rw[F];exact ahd _,λb' U g=>?_⟩;exact J b' (λj=>g ⟨_,e,j.symm⟩)
   ·intro l a;cases a;exact .inl ⟨_,e,rfl⟩
 ·intro f g;rcases o.row with rfl|⟨b,d,e,_⟩
  ·simp only[ahA]at f;have O:us=[]:=List.eq_nil_of_length_eq_zero ω;have P:ts=[]:=List.eq_nil_of_length_eq_zero (by simpa[ahA]using m);subst O;refine q _ _ ?_ (ahP _ _) (λl a=>by cases a);rw[P];exact Vc.Own.nil T sz h
  ·rw[e]at g;cases g
 ·intro f c Q;refine q _ _ ⟨r,by simp[m],Q,.inr ⟨_,cq (C.ti T).z (c-(t.len+us.length)),rfl,?_,?_⟩⟩ ?_ ?_
  ·rw[cO,ak.fT]
  ·rw[je,E]
  ·exact ahW (ahO _ _)
  ·intro l a;cases a;exact .inr (ahd _)
abbrev QT(bs:LU):List TV:=bs.map JW
theorem By(bs:LU):∀u∈QT bs,u.size=1:=λu a=>by
 obtain⟨x,_,rfl⟩:=ahI.1 a;rfl
theorem rW:∀bs:LU,agD (QT bs)=bs.map λc=>ahX .u8 (c.toNat:Int)
 |[]=>rfl
 |c::bs=>by
  show ah2 (JW c)++agD (QT bs)=_;rw[rW bs];rfl
theorem Gn:(ctx.ti 5).bytes=1:=κ
theorem Vi:(ctx.ti 5).size=1:=κ
theorem Tm:(ctx.ti 5).z.size=1:=κ
section
variable{R:Rq}{h:af}
structure Row(Q:Nat->Prop)(h:af)(s:Sl)(bs:LU):Prop where
 own:Vc.Own 5 1 h s (QT bs)
 uT:∀l,s.a=some l->Q l.b
 new:∀i,h.size<=i->Q i
theorem Row.len{Q:Nat->Prop}{s:Sl}{bs:LU}(r:Row Q h s bs):bs.length=s.len:=by have:=r.own.len;rwa [ahp]at this
theorem Gp{Q:Nat->Prop}{s:Sl}{bs us:LU}{K:Sl->af->Prop}(r:Row Q h s bs)(q:bs.length+us.length<10000)
 (A:∀a d,Row Q d a (bs++us)->ag (In s) h d->(∀l,a.a=some l->(∃e,s.a=some e/\e.b=l.b)\/h.size<=l.b)->K a d):
 au ctx 5 s us.length (us.map λc=>ahX .u8 (c.toNat:Int)) h K:=by
 have m:=r.len;have:=JX (C:=ctx) (T:=5) (us:=QT us) (K:=K) Vi Tm (by rw[Gn];decide) δ (by rw[Gn,ahp];omega) r.own (By us) λa d o f b=>A a d ⟨by simpa[QT]using o,λl q=>?_,λi j=>r.new i (Nat.le_trans f.size j)⟩ f b
 ·rw[ahp,rW]at this;exact this
 ·rcases b l q with⟨e,g,k⟩|g
  ·rw[<-k];exact r.uT e g
  ·exact r.new _ g
theorem QU{Q:Nat->Prop}{s:Sl}{bs:LU}{c:Int}{K:Sl->af->Prop}(r:Row Q h s bs)(q:bs.length<10000)(c0:0<=c)(B:c<256)
 (A:∀a d,Row Q d a (bs++[ahC c.toNat])->ag (In s) h d->(∀l,a.a=some l->(∃g,s.a=some g/\g.b=l.b)\/h.size<=l.b)->K a d):
 ∃new,cn (h.push (row (agD [ahy .u8 c]) 5)) (ahb (some (Vc.Loc.mk h.size 0)) 1 1) 1 new/\(∀v∈new,bU v=true)/\au ctx 5 s 1 new (h.push (row (agD [ahy .u8 c]) 5)) K:=by
 have n:=r.len;refine cD (C:=ctx) (T:=5) (sz:=1) (x:=.int .u8 c) Vi Tm (by rw[Gn];decide) (by rw[Gn];omega) r.own rfl rfl λa d o f b=>A a d ⟨?_,λl q=>?_,λi k=>r.new i (Nat.le_trans f.size k)⟩ f b
 ·have e:JW (ahC c.toNat)=ahy .u8 c:=by
   unfold JW;rw[UInt8.toNat_ofNat'];congr 1;omega
  have:QT (bs++[ahC c.toNat])=QT bs++[ahy .u8 c]:=by simp[QT,e]
  rw[this];exact o
 ·rcases b l q with⟨g,j,m⟩|j
  ·rw[<-m];exact r.uT g j
  ·exact r.new _ j
theorem Row.cut{Q:Nat->Prop}{s:Sl}{bs:LU}(r:Row Q h s bs){q:af}(o:ag (In s) h q):ag Q h q:=o.mono λi⟨l,a,e⟩=>by rw[<-e];exact r.uT l a
structure St(Q:Nat->Prop)(h:af)(b:Nat)(w:Ws 8)(s:Sl)(bs:LU)(n:Int):Prop where
 var:Var 333 h b (.agg [.words .u32 8 w,.slice s,.int .u64 n])
 row:Row Q h s bs
 uT:Q b
 apart:∀l,s.a=some l->l.b≠b
variable{Q:Nat->Prop}{b:Nat}{w:Ws 8}{s:Sl}{bs:LU}{n:Int}
theorem St.words(st:St Q h b w s bs n):jH h b 0 .u32 8 w:=st.var.at.1
theorem St.rest(st:St Q h b w s bs n):ah h b 8 (bu s):=st.var.at.2.1
def QV(h:af)(b:Nat):Nat:=match ng h b 8 with
 |some (.slice _ l _)=>l
 |_=>0
theorem wG(q:ah h b 8 (bu s)):QV h b=s.len:=by
 unfold Board.QV;unfold ah at q;rw[q];rfl
end
end Board
namespace Board
section
variable{R:Rq}{h:af}
def afz(Bz:Ws 8->LU->Ws 8):Prop:=∀(h:af)(R:Rq)(b:Nat)(w:Ws 8)(s q:Sl)(bs:LU)(n:Int),Var 333 h b (.agg [.words .u32 8 w,.slice s,.int .u64 n])->
 aj 1 h q (QT bs)->bs.length=64->(∀l,q.a=some l->l.b≠b)->
 (∀a,Var 333 a b (.agg [.words .u32 8 (Bz w bs),.slice s,.int .u64 n])->ag (·=b) h a->R (ahV []).val a)->Cl 292 [.ptr (PT b),.slice q] h R
theorem wH{s:Sl}{ts:List TV}{i j:Nat}(e:aj 1 h s ts)(q:i<=j)(A:j<=s.len)(B:s.len<=s.cap):aj 1 h (ay s i j 1) ((ts.drop i).take (j-i)):=by
 have g:=e.len;refine⟨by simp only[ay,List.length_take,List.length_drop];omega,λc=>?_,λl a k t d=>?_⟩
 ·unfold ay at c;simp only at c
  have:ts=[]\/i=j:=by
   split at c
   ·right;omega
   ·left;cases b:s.a with
    |none=>exact e.nil b
    |some l=>rw[b]at c;simp at c
  rcases this with rfl|rfl
  ·simp
  ·simp
 ·unfold ay at a;simp only at a;rw[List.getElem?_take]at d;split at d
  ·rename_i m;rw[List.getElem?_drop]at d;split at a
   ·omega
   ·cases b:s.a with
    |none=>rw[b]at a;simp at a
    |some f=>
     rw[b]at a;simp only[Option.map_some,Option.some.injEq]at a;subst a;have:=e.get f b (i+k) t d;simp only[aie]at this⊢;rw[Nat.add_assoc];exact this
  ·cases d
theorem Gq{s:Sl}{i j:Nat}{l:Vc.Loc}(q:(ay s i j 1).a=some l):∃b,s.a=some b/\b.b=l.b:=by
 unfold ay at q;simp only at q;split at q
 ·exact⟨l,q,rfl⟩
 ·cases c:s.a with
  |none=>rw[c]at q;simp at q
  |some d=>
   rw[c]at q;simp only[Option.map_some,Option.some.injEq]at q;subst q;exact⟨d,rfl,rfl⟩
theorem wrap_u8(n:Int):agk .u8 n=n%256:=by
 unfold agk;show(if(false&&_)=true then _ else n%2^8)=n%256;simp
theorem aS(n:Int):0<=agk .u8 n/\agk .u8 n<256:=by
 rw[wrap_u8];omega
theorem kV{T:TypeId}{h:af}{b n i o:Nat}{x:Bs n}{K:af->Prop}(v:Var T h b (.bytes n x))(A:i<n)(B:o=i){c:Int}(G:0<=c)(q:c<256)
 (E:∀q,Var T q b (.bytes n (x.set i (ahC c.toNat)))->ag (·=b) h q->q.size=h.size->K q):gT h b o 1/\Bind ((ahy .u8 c).put h b o) K:=by
 subst B;have a:o+(ahy .u8 c).size<=(TV.bytes n x).cells.length:=by rw[TV.ai];simp only[ahf];omega
 refine⟨v.gT (by simp only[ahf];omega),E _ ?_ (gV v a) (gW v a)⟩;have:=jJ (t:=.int .u8 c) v a;unfold Var;rw[this];congr 2;simp only[ah2,ahf,Bs.set,aif]
 have e:((ahC c.toNat).toNat:Int)=c:=by
  rw[UInt8.toNat_ofNat'];omega
 rw[e,List.set_eq_take_append_cons_drop,if_pos (by rw[ahp,x.h];exact A)];simp
def Oo(n i:Int):Int:=agk .u8 (ahr (agk .u64 (n*8)) (2^min (aha (agk .i64 (56-agk .i64 (8*i)))) (agl .u64)))
def lens(n:Int):Nat->LU
 |0=>[]
 |i+1=>lens n i++[ahC (Oo n (i:Int)).toNat]
theorem BA(n:Int):∀i,(lens n i).length=i
 |0=>rfl
 |i+1=>by simp[lens,BA n i]
def ob(x k:Int):Int:=agk .u8 (ahr x (2^min (aha k) (agl .u32)))
def afA(w:Ws 8)(i:Nat)(x:Bs 32):Bs 32:=
 (((x.set (4*i) (ahC (ob (wd w i) 24).toNat)).set (4*i+1) (ahC (ob (wd w i) 16).toNat)).set (4*i+2) (ahC (ob (wd w i) 8).toNat)).set (4*i+3) (ahC (agk .u8 (wd w i)).toNat)
def Oq(w:Ws 8):Nat->Bs 32
 |0=>Bs.zero 32
 |i+1=>afA w i (Oq w i)
variable{Q:Nat->Prop}{b:Nat}{w:Ws 8}{s:Sl}{bs:LU}{n:Int}{Bz:Ws 8->LU->Ws 8}
end
end Board
namespace Board
def t4(A B E G H q I J M O:Int):Int:=(agk agi (A+agk agi (agk agi (agk agi (agk agi (B+agk agi (↑(agO (agu (agl agi) (agk agi (↑(agO (agu (agl agi) E^^^agu (agl agi) G)):Int))^^^agu (agl agi) H)):Int))+agk agi (↑(agO (agu (agl agi) (agk agi (↑(agO (agu (agl agi) q&&&agu (agl agi) I)):Int))^^^agu (agl agi) (agk agi (↑(agO (agu (agl agi) (agk agi (↑(agO (agu (agl agi) (if IntKind.signed agi=true then(-1:Int)else IntKind.max agi)^^^agu (agl agi) q)):Int))&&&agu (agl agi) J)):Int)))):Int))+M)+O)))
def t0(A B E G q H I J M O U W n Z ab ac ad:Int):Int:=(agk agi (agk agi (agk agi (agk agi (agk agi (A+agk agi (↑(agO (agu (agl agi) (agk agi (↑(agO (agu (agl agi) B^^^agu (agl agi) E)):Int))^^^agu (agl agi) G)):Int))+agk agi (↑(agO (agu (agl agi) (agk agi (↑(agO (agu (agl agi) q&&&agu (agl agi) H)):Int))^^^agu (agl agi) (agk agi (↑(agO (agu (agl agi) (agk agi (↑(agO (agu (agl agi) (if IntKind.signed agi=true then(-1:Int)else IntKind.max agi)^^^agu (agl agi) q)):Int))&&&agu (agl agi) I)):Int)))):Int))+J)+M)+agk agi (agk agi (↑(agO (agu (agl agi) (agk agi (↑(agO (agu (agl agi) O^^^agu (agl agi) U)):Int))^^^agu (agl agi) W)):Int)+agk agi (↑(agO (agu (agl agi) (agk agi (↑(agO (agu (agl agi) (agk agi (↑(agO (agu (agl agi) n&&&agu (agl agi) Z)):Int))^^^agu (agl agi) (agk agi (↑(agO (agu (agl agi) n&&&agu (agl agi) ab)):Int)))):Int))^^^agu (agl agi) (agk agi (↑(agO (agu (agl agi) ac&&&agu (agl agi) ad)):Int)))):Int))))
def shift(v:Ws 8):Ws 8:=⟨v.l.take 1++v.l.take 7,by simp[v.h]⟩
def sF(w k:Ws 64)(i:Nat)(v:Ws 8):Ws 8:=
 ((shift v).set 4 (t4 (wd (shift v) 4) (wd v 7) (fm (wd v 4) 6) (fm (wd v 4) 11) (fm (wd v 4) 25) (wd v 4) (wd v 5) (wd v 6) (wd k i) (wd w i))).set 0
   (t0 (wd v 7) (fm (wd v 4) 6) (fm (wd v 4) 11) (fm (wd v 4) 25) (wd v 4) (wd v 5) (wd v 6) (wd k i) (wd w i) (fm (wd v 0) 2) (fm (wd v 0) 13) (fm (wd v 0) 22) (wd v 0) (wd v 1) (wd v 2) (wd v 1) (wd v 2))
def CC(w k:Ws 64)(v:Ws 8):Nat->Ws 8
 |0=>v
 |i+1=>sF w k i (CC w k v i)
def nU(w v:Ws 8):Nat->Ws 8
 |0=>w
 |i+1=>(nU w v i).set i (agk .u32 (wd (nU w v i) i+wd v i))
def Bz(w:Ws 8)(bs:LU):Ws 8:=nU w (CC (Bx bs) uw w 64) 8
section
variable{R:Rq}{h:af}
theorem abW{T:TypeId}{b:Nat}{k:IntKind}{x:Ws 8}{K:af->Prop}{P:Prop}(v:Var T h b (.words k 8 x))
 (A:∀c,Var T c b (.words k 8 (shift x))->ag (·=b) h c->c.size=h.size->K c):
 ∃new:List Value,cn h (ahb (ay (ahb (some (Vc.Loc.mk b 0)) 8 8) 0 (aha 7) 1).a (Nat.min (ay (ahb (some (Vc.Loc.mk b 0)) 8 8) 0 (aha 7) 1).len (ay (ahb (some (Vc.Loc.mk b 0)) 8 8) (aha 1) 8 1).len)
  (Nat.min (ay (ahb (some (Vc.Loc.mk b 0)) 8 8) 0 (aha 7) 1).len (ay (ahb (some (Vc.Loc.mk b 0)) 8 8) (aha 1) 8 1).len)) 1 new/\(∀(v:Value),v∈new->bU v=true)/\
  ((ay (ahb (some (Vc.Loc.mk b 0)) 8 8) (aha 1) 8 1).a=none->P)/\
  ∀(q:Vc.Loc),(ay (ahb (some (Vc.Loc.mk b 0)) 8 8) (aha 1) 8 1).a=some q->gT h q.b q.o (List.length new)/\Bind (tI h q.b q.o new) K:=by
 have g:=x.h;have i:(ahD k 8 x).cells.length=8:=by rw[TV.ai];rfl
 refine⟨(x.l.take 7).map (ahX k),⟨?_,.inr ⟨⟨b,0⟩,rfl,λj m=>?_⟩⟩,?_,?_,?_⟩
 ·simp[g,ay]
 ·simp only[ahp,List.length_take]at m
  have c:ng h b j=some (.int k (wd x j)):=by
   have:=v.at j ω;rw[Nat.zero_add]at this;exact this
  have n:0+0*1+j=j:=ω;rw[n,c];simp only[ahN,List.getElem?_take,show j<7 by omega];unfold wd;rw[ahL,ahq ω];rfl
 ·intro v o;obtain⟨a,_,rfl⟩:=ahI.1 o;rfl
 ·intro e;cases e
 ·intro l p
  have r:l=⟨b,1⟩:=by
   have:=p;injection this with this;simp_all
  subst r;have f:((x.l.take 7).map (ahX k)).length=7:=by grind
  rw[f];have d:=jo ((x.l.take 7).map (ahX k)) h b 1 _ T v ω;refine⟨v.gT (by simp only[ahf];exact ahd _),A _ ?_ ⟨by rw[d.2.1];exact ahd _,λb' _ e=>d.2.2 b' e⟩ d.2.1⟩;unfold Var;rw[d.1];congr 2;rw[List.drop_eq_nil_of_le (by rw[f,i];exact ahd _)];simp only[ah2,shift,aic,List.map_take,List.append_nil]
theorem JY{T:TypeId}{b n i o:Nat}{k:IntKind}{x:Ws n}{ts:List TV}{c:Int}{K:af->Prop}(v:Var T h b (.agg (.words k n x::ts)))(q:i<n)(A:o=i)
 (B:∀a,Var T a b (.agg (.words k n (x.set i c)::ts))->ag (·=b) h a->a.size=h.size->K a):gT h b o 1/\Bind ((ahy k c).put h b o) K:=by
 subst A;have d:o+(ahy k c).size<=(TV.agg (.words k n x::ts)).cells.length:=by grind [TV.ai,ahJ,ahf]
 refine⟨v.gT (by grind [ahJ,ahf]),B _ ?_ (gV v d) (gW v d)⟩;have:=jJ v d;unfold Var;rw[this];simp only[ah2,agD,ahf,agn,aif];have e:o<(List.map (ahX k) x.l).length:=by rw[ahp,x.h];exact q
 have f:=e;rw[List.set_eq_take_append_cons_drop,if_pos e,List.take_append_of_le_length (Nat.le_of_lt e),List.drop_append_of_le_length f];simp
theorem _root_.Go.Vc.Var.Vj{T q:TypeId}{b b':Nat}{t t':TV}(v:Var T h b t)(A:Var q h b' t')(B:T≠q):b≠b':=by
 rintro rfl;simp_all [row,Var]
theorem Tn{T:TypeId}{b n:Nat}{k:IntKind}{w:Ws n}{ts:List TV}(v:Var T h b (.agg (.words k n w::ts))){i:Nat}(q:i<n):ah h b (0+i*1) (.int k (wd w i)):=by
 have a:=v.at;rw[aie];cases ts with
 |nil=>exact a i q
 |cons t ts=>exact a.1 i q
theorem bV{k:IntKind}{n:Nat}{x y:Ws n}:(ahD k n x).size=(ahD k n y).size:=by rfl
theorem az{k:IntKind}{n:Nat}{x:Ws n}:n=(ahD k n x).size:=by rfl
set_option maxHeartbeats 1000000 in
theorem To:afz Bz:=by
 intro h R b w s q bs n v e j W F;apply BB;delta JR Hu dQ aF wC wz QI JQ gK zL EX iA C3 JK fP cE Gj Gi Gh ad5 nh Wr gY qC jV bA wz5 sC wz1 wz0;intro G H;refine⟨w,v.at.1,?_⟩
 have leaf:∀(a c d:Nat)(k:af),Var 293 k a (.words .u32 64 (Bx bs))->Var 293 k c (.words .u32 64 uw)->Var 289 k d (.words .u32 8 w)->Ext h k->h.size<=d->
  G (some ⟨a,0⟩,some ⟨c,0⟩,some ⟨d,0⟩) k:=by
  intro a c d k C vc t x X;have I:=C.Vj t δ;have J:=vc.Vj t δ;refine H _ _ ?_;refine⟨λi m=>0<=i/\i<=64/\ag (·=d) k m/\Var 289 m d (.words .u32 8 (CC (Bx bs) uw w i.toNat)),λi _=>(64-i).toNat,⟨ahz 0,δ,ahP _ _,t⟩,?_⟩;rintro i K ⟨D,Y,o,v1⟩;have L:=C.only o I;have M:=vc.only o J;refine ID (λr=>?_) λr=>?_
  ·rw[wrap_i64 ω ω]
   refine⟨δ,δ,_,bF v1 δ,δ,δ,_,bF v1 δ,δ,δ,_,bF v1 δ,δ,δ,_,bF v1 δ,δ,δ,_,bF v1 δ,
    D,ω,_,bF M ω,D,ω,_,bF L ω,?_⟩
   refine jB ⟨_,rfl,ahe _,jB ⟨_,rfl,ahe _,jB ⟨_,rfl,ahe _,?_⟩⟩⟩;refine⟨δ,δ,_,bF v1 δ,δ,δ,_,bF v1 δ,δ,δ,_,bF v1 δ,δ,δ,_,bF v1 δ,?_⟩;refine jB ⟨_,rfl,ahe _,jB ⟨_,rfl,ahe _,jB ⟨_,rfl,ahe _,?_⟩⟩⟩;refine⟨δ,δ,δ,δ,?_⟩;refine abW v1 λE l p Z=>?_;refine⟨δ,δ,_,bF l δ,δ,δ,?_⟩;refine pS l (i:=4) δ rfl λN u y O=>⟨δ,δ,?_⟩;refine pS u (i:=0) δ rfl λh4 v4 P s4=>?_;have z:(i+1).toNat=i.toNat+1:=ω;refine⟨⟨ω,ω,((o.trans p).trans y).trans P,?_⟩,Ω⟩;rw[z];exact v4
  ·have Q:i.toNat=64:=ω;rw[Q]at v1;have v0:=(v.ext x).only o (by have:=v.lt;omega);have S:b≠d:=by have:=v.lt;omega
   refine⟨λi m=>0<=i/\i<=8/\ag (·=b) K m/\Var 333 m b (.agg [.words .u32 8 (nU w (CC (Bx bs) uw w 64) i.toNat),.slice s,.int .u64 n]),λi _=>(8-i).toNat,⟨ahz 0,δ,ahP _ _,v0⟩,?_⟩;rintro i E ⟨A,j1,p,l⟩;have T:=v1.only p (Ne.symm S);refine ID (λr=>?_) λr=>?_
   ·rw[wrap_i64 ω ω];refine⟨A,ω,_,Tn l ω,A,ω,_,bF T ω,A,ω,?_⟩;refine JY l (i:=i.toNat) ω (by show 0+i.toNat*1=i.toNat;omega) λN u y O=>?_;have z:(i+1).toNat=i.toNat+1:=ω;refine⟨⟨ω,ω,p.trans y,?_⟩,Ω⟩;rw[z];exact u
   ·have U:i.toNat=8:=ω;rw[U]at l;have V:=aho x o λi r=>ω;exact F E l ((ahW V).trans p)
 have B:=ym.nil h;exact⟨fQ (e.ext B.ext) j λf g=>have B:=B.on g;⟨_,rfl,B.ext,⟨aA λf g=>have B:=B.on g;⟨_,rfl,B.ext,⟨B.make λf g B=>⟨B.ext,⟨B.make λf g B=>⟨B.ext,B.make λf g B=>⟨B.ext,B.eu bV az λf B=>⟨B.ext,B.ee bV az λf B=>⟨B.ext,B.dR bV az λf B=>leaf _ _ _ _ B.v2 B.v1 B.v0 B.ext B.n0⟩⟩⟩⟩,B.make λf g B=>⟨B.ext,B.make λf g B=>⟨B.ext,B.eu bV az λf B=>⟨B.ext,B.dR bV az λf B=>⟨B.ext,B.ee bV az λf B=>leaf _ _ _ _ B.v2 B.v0 B.v1 B.ext B.n1⟩⟩⟩⟩⟩⟩,⟨B.make λf g B=>⟨B.ext,⟨B.make λf g B=>⟨B.ext,B.make λf g B=>⟨B.ext,B.ee bV az λf B=>⟨B.ext,B.eu bV az λf B=>⟨B.ext,B.dR bV az λf B=>leaf _ _ _ _ B.v1 B.v2 B.v0 B.ext B.n0⟩⟩⟩⟩,B.make λf g B=>⟨B.ext,B.make λf g B=>⟨B.ext,B.dR bV az λf B=>⟨B.ext,B.eu bV az λf B=>⟨B.ext,B.ee bV az λf B=>leaf _ _ _ _ B.v0 B.v2 B.v1 B.ext B.n1⟩⟩⟩⟩⟩⟩,B.make λf g B=>⟨B.ext,⟨B.make λf g B=>⟨B.ext,B.make λf g B=>⟨B.ext,B.ee bV az λf B=>⟨B.ext,B.dR bV az λf B=>⟨B.ext,B.eu bV az λf B=>leaf _ _ _ _ B.v1 B.v0 B.v2 B.ext B.n2⟩⟩⟩⟩,B.make λf g B=>⟨B.ext,B.make λf g B=>⟨B.ext,B.dR bV az λf B=>⟨B.ext,B.ee bV az λf B=>⟨B.ext,B.eu bV az λf B=>leaf _ _ _ _ B.v0 B.v1 B.v2 B.ext B.n2⟩⟩⟩⟩⟩⟩⟩⟩⟩,⟨B.make λf g B=>⟨B.ext,⟨aA λf g=>have B:=B.on g;⟨_,rfl,B.ext,⟨B.make λf g B=>⟨B.ext,B.make λf g B=>⟨B.ext,B.eu bV az λf B=>⟨B.ext,B.ee bV az λf B=>⟨B.ext,B.dR bV az λf B=>leaf _ _ _ _ B.v2 B.v1 B.v0 B.ext B.n0⟩⟩⟩⟩,B.make λf g B=>⟨B.ext,B.make λf g B=>⟨B.ext,B.eu bV az λf B=>⟨B.ext,B.dR bV az λf B=>⟨B.ext,B.ee bV az λf B=>leaf _ _ _ _ B.v2 B.v0 B.v1 B.ext B.n1⟩⟩⟩⟩⟩⟩,⟨B.make λf g B=>⟨B.ext,⟨aA λf g=>have B:=B.on g;⟨_,rfl,B.ext,B.make λf g B=>⟨B.ext,B.eu bV az λf B=>⟨B.ext,B.ee bV az λf B=>⟨B.ext,B.dR bV az λf B=>leaf _ _ _ _ B.v2 B.v1 B.v0 B.ext B.n0⟩⟩⟩⟩,B.make λf g B=>⟨B.ext,aA λf g=>have B:=B.on g;⟨_,rfl,B.ext,B.eu bV az λf B=>⟨B.ext,B.ee bV az λf B=>⟨B.ext,B.dR bV az λf B=>leaf _ _ _ _ B.v2 B.v1 B.v0 B.ext B.n0⟩⟩⟩⟩⟩⟩,B.make λf g B=>⟨B.ext,⟨aA λf g=>have B:=B.on g;⟨_,rfl,B.ext,B.make λf g B=>⟨B.ext,B.eu bV az λf B=>⟨B.ext,B.dR bV az λf B=>⟨B.ext,B.ee bV az λf B=>leaf _ _ _ _ B.v2 B.v0 B.v1 B.ext B.n1⟩⟩⟩⟩,B.make λf g B=>⟨B.ext,aA λf g=>have B:=B.on g;⟨_,rfl,B.ext,B.eu bV az λf B=>⟨B.ext,B.dR bV az λf B=>⟨B.ext,B.ee bV az λf B=>leaf _ _ _ _ B.v2 B.v0 B.v1 B.ext B.n1⟩⟩⟩⟩⟩⟩⟩⟩⟩,⟨B.make λf g B=>⟨B.ext,⟨aA λf g=>have B:=B.on g;⟨_,rfl,B.ext,⟨B.make λf g B=>⟨B.ext,B.make λf g B=>⟨B.ext,B.ee bV az λf B=>⟨B.ext,B.eu bV az λf B=>⟨B.ext,B.dR bV az λf B=>leaf _ _ _ _ B.v1 B.v2 B.v0 B.ext B.n0⟩⟩⟩⟩,B.make λf g B=>⟨B.ext,B.make λf g B=>⟨B.ext,B.dR bV az λf B=>⟨B.ext,B.eu bV az λf B=>⟨B.ext,B.ee bV az λf B=>leaf _ _ _ _ B.v0 B.v2 B.v1 B.ext B.n1⟩⟩⟩⟩⟩⟩,⟨B.make λf g B=>⟨B.ext,⟨aA λf g=>have B:=B.on g;⟨_,rfl,B.ext,B.make λf g B=>⟨B.ext,B.ee bV az λf B=>⟨B.ext,B.eu bV az λf B=>⟨B.ext,B.dR bV az λf B=>leaf _ _ _ _ B.v1 B.v2 B.v0 B.ext B.n0⟩⟩⟩⟩,B.make λf g B=>⟨B.ext,aA λf g=>have B:=B.on g;⟨_,rfl,B.ext,B.ee bV az λf B=>⟨B.ext,B.eu bV az λf B=>⟨B.ext,B.dR bV az λf B=>leaf _ _ _ _ B.v1 B.v2 B.v0 B.ext B.n0⟩⟩⟩⟩⟩⟩,B.make λf g B=>⟨B.ext,⟨aA λf g=>have B:=B.on g;⟨_,rfl,B.ext,B.make λf g B=>⟨B.ext,B.dR bV az λf B=>⟨B.ext,B.eu bV az λf B=>⟨B.ext,B.ee bV az λf B=>leaf _ _ _ _ B.v0 B.v2 B.v1 B.ext B.n1⟩⟩⟩⟩,B.make λf g B=>⟨B.ext,aA λf g=>have B:=B.on g;⟨_,rfl,B.ext,B.dR bV az λf B=>⟨B.ext,B.eu bV az λf B=>⟨B.ext,B.ee bV az λf B=>leaf _ _ _ _ B.v0 B.v2 B.v1 B.ext B.n1⟩⟩⟩⟩⟩⟩⟩⟩⟩,B.make λf g B=>⟨B.ext,⟨aA λf g=>have B:=B.on g;⟨_,rfl,B.ext,⟨B.make λf g B=>⟨B.ext,B.make λf g B=>⟨B.ext,B.ee bV az λf B=>⟨B.ext,B.dR bV az λf B=>⟨B.ext,B.eu bV az λf B=>leaf _ _ _ _ B.v1 B.v0 B.v2 B.ext B.n2⟩⟩⟩⟩,B.make λf g B=>⟨B.ext,B.make λf g B=>⟨B.ext,B.dR bV az λf B=>⟨B.ext,B.ee bV az λf B=>⟨B.ext,B.eu bV az λf B=>leaf _ _ _ _ B.v0 B.v1 B.v2 B.ext B.n2⟩⟩⟩⟩⟩⟩,⟨B.make λf g B=>⟨B.ext,⟨aA λf g=>have B:=B.on g;⟨_,rfl,B.ext,B.make λf g B=>⟨B.ext,B.ee bV az λf B=>⟨B.ext,B.dR bV az λf B=>⟨B.ext,B.eu bV az λf B=>leaf _ _ _ _ B.v1 B.v0 B.v2 B.ext B.n2⟩⟩⟩⟩,B.make λf g B=>⟨B.ext,aA λf g=>have B:=B.on g;⟨_,rfl,B.ext,B.ee bV az λf B=>⟨B.ext,B.dR bV az λf B=>⟨B.ext,B.eu bV az λf B=>leaf _ _ _ _ B.v1 B.v0 B.v2 B.ext B.n2⟩⟩⟩⟩⟩⟩,B.make λf g B=>⟨B.ext,⟨aA λf g=>have B:=B.on g;⟨_,rfl,B.ext,B.make λf g B=>⟨B.ext,B.dR bV az λf B=>⟨B.ext,B.ee bV az λf B=>⟨B.ext,B.eu bV az λf B=>leaf _ _ _ _ B.v0 B.v1 B.v2 B.ext B.n2⟩⟩⟩⟩,B.make λf g B=>⟨B.ext,aA λf g=>have B:=B.on g;⟨_,rfl,B.ext,B.dR bV az λf B=>⟨B.ext,B.ee bV az λf B=>⟨B.ext,B.eu bV az λf B=>leaf _ _ _ _ B.v0 B.v1 B.v2 B.ext B.n2⟩⟩⟩⟩⟩⟩⟩⟩⟩⟩⟩⟩⟩,⟨B.make λf g B=>⟨B.ext,⟨fQ (e.ext B.ext) j λf g=>have B:=B.on g;⟨_,rfl,B.ext,⟨aA λf g=>have B:=B.on g;⟨_,rfl,B.ext,⟨B.make λf g B=>⟨B.ext,B.make λf g B=>⟨B.ext,B.eu bV az λf B=>⟨B.ext,B.ee bV az λf B=>⟨B.ext,B.dR bV az λf B=>leaf _ _ _ _ B.v2 B.v1 B.v0 B.ext B.n0⟩⟩⟩⟩,B.make λf g B=>⟨B.ext,B.make λf g B=>⟨B.ext,B.eu bV az λf B=>⟨B.ext,B.dR bV az λf B=>⟨B.ext,B.ee bV az λf B=>leaf _ _ _ _ B.v2 B.v0 B.v1 B.ext B.n1⟩⟩⟩⟩⟩⟩,⟨B.make λf g B=>⟨B.ext,⟨aA λf g=>have B:=B.on g;⟨_,rfl,B.ext,B.make λf g B=>⟨B.ext,B.eu bV az λf B=>⟨B.ext,B.ee bV az λf B=>⟨B.ext,B.dR bV az λf B=>leaf _ _ _ _ B.v2 B.v1 B.v0 B.ext B.n0⟩⟩⟩⟩,B.make λf g B=>⟨B.ext,aA λf g=>have B:=B.on g;⟨_,rfl,B.ext,B.eu bV az λf B=>⟨B.ext,B.ee bV az λf B=>⟨B.ext,B.dR bV az λf B=>leaf _ _ _ _ B.v2 B.v1 B.v0 B.ext B.n0⟩⟩⟩⟩⟩⟩,B.make λf g B=>⟨B.ext,⟨aA λf g=>have B:=B.on g;⟨_,rfl,B.ext,B.make λf g B=>⟨B.ext,B.eu bV az λf B=>⟨B.ext,B.dR bV az λf B=>⟨B.ext,B.ee bV az λf B=>leaf _ _ _ _ B.v2 B.v0 B.v1 B.ext B.n1⟩⟩⟩⟩,B.make λf g B=>⟨B.ext,aA λf g=>have B:=B.on g;⟨_,rfl,B.ext,B.eu bV az λf B=>⟨B.ext,B.dR bV az λf B=>⟨B.ext,B.ee bV az λf B=>leaf _ _ _ _ B.v2 B.v0 B.v1 B.ext B.n1⟩⟩⟩⟩⟩⟩⟩⟩⟩,⟨B.make λf g B=>⟨B.ext,⟨fQ (e.ext B.ext) j λf g=>have B:=B.on g;⟨_,rfl,B.ext,⟨aA λf g=>have B:=B.on g;⟨_,rfl,B.ext,B.make λf g B=>⟨B.ext,B.eu bV az λf B=>⟨B.ext,B.ee bV az λf B=>⟨B.ext,B.dR bV az λf B=>leaf _ _ _ _ B.v2 B.v1 B.v0 B.ext B.n0⟩⟩⟩⟩,B.make λf g B=>⟨B.ext,aA λf g=>have B:=B.on g;⟨_,rfl,B.ext,B.eu bV az λf B=>⟨B.ext,B.ee bV az λf B=>⟨B.ext,B.dR bV az λf B=>leaf _ _ _ _ B.v2 B.v1 B.v0 B.ext B.n0⟩⟩⟩⟩⟩⟩,B.make λf g B=>⟨B.ext,fQ (e.ext B.ext) j λf g=>have B:=B.on g;⟨_,rfl,B.ext,aA λf g=>have B:=B.on g;⟨_,rfl,B.ext,B.eu bV az λf B=>⟨B.ext,B.ee bV az λf B=>⟨B.ext,B.dR bV az λf B=>leaf _ _ _ _ B.v2 B.v1 B.v0 B.ext B.n0⟩⟩⟩⟩⟩⟩⟩,B.make λf g B=>⟨B.ext,⟨fQ (e.ext B.ext) j λf g=>have B:=B.on g;⟨_,rfl,B.ext,⟨aA λf g=>have B:=B.on g;⟨_,rfl,B.ext,B.make λf g B=>⟨B.ext,B.eu bV az λf B=>⟨B.ext,B.dR bV az λf B=>⟨B.ext,B.ee bV az λf B=>leaf _ _ _ _ B.v2 B.v0 B.v1 B.ext B.n1⟩⟩⟩⟩,B.make λf g B=>⟨B.ext,aA λf g=>have B:=B.on g;⟨_,rfl,B.ext,B.eu bV az λf B=>⟨B.ext,B.dR bV az λf B=>⟨B.ext,B.ee bV az λf B=>leaf _ _ _ _ B.v2 B.v0 B.v1 B.ext B.n1⟩⟩⟩⟩⟩⟩,B.make λf g B=>⟨B.ext,fQ (e.ext B.ext) j λf g=>have B:=B.on g;⟨_,rfl,B.ext,aA λf g=>have B:=B.on g;⟨_,rfl,B.ext,B.eu bV az λf B=>⟨B.ext,B.dR bV az λf B=>⟨B.ext,B.ee bV az λf B=>leaf _ _ _ _ B.v2 B.v0 B.v1 B.ext B.n1⟩⟩⟩⟩⟩⟩⟩⟩⟩⟩,⟨B.make λf g B=>⟨B.ext,⟨fQ (e.ext B.ext) j λf g=>have B:=B.on g;⟨_,rfl,B.ext,⟨aA λf g=>have B:=B.on g;⟨_,rfl,B.ext,⟨B.make λf g B=>⟨B.ext,B.make λf g B=>⟨B.ext,B.ee bV az λf B=>⟨B.ext,B.eu bV az λf B=>⟨B.ext,B.dR bV az λf B=>leaf _ _ _ _ B.v1 B.v2 B.v0 B.ext B.n0⟩⟩⟩⟩,B.make λf g B=>⟨B.ext,B.make λf g B=>⟨B.ext,B.dR bV az λf B=>⟨B.ext,B.eu bV az λf B=>⟨B.ext,B.ee bV az λf B=>leaf _ _ _ _ B.v0 B.v2 B.v1 B.ext B.n1⟩⟩⟩⟩⟩⟩,⟨B.make λf g B=>⟨B.ext,⟨aA λf g=>have B:=B.on g;⟨_,rfl,B.ext,B.make λf g B=>⟨B.ext,B.ee bV az λf B=>⟨B.ext,B.eu bV az λf B=>⟨B.ext,B.dR bV az λf B=>leaf _ _ _ _ B.v1 B.v2 B.v0 B.ext B.n0⟩⟩⟩⟩,B.make λf g B=>⟨B.ext,aA λf g=>have B:=B.on g;⟨_,rfl,B.ext,B.ee bV az λf B=>⟨B.ext,B.eu bV az λf B=>⟨B.ext,B.dR bV az λf B=>leaf _ _ _ _ B.v1 B.v2 B.v0 B.ext B.n0⟩⟩⟩⟩⟩⟩,B.make λf g B=>⟨B.ext,⟨aA λf g=>have B:=B.on g;⟨_,rfl,B.ext,B.make λf g B=>⟨B.ext,B.dR bV az λf B=>⟨B.ext,B.eu bV az λf B=>⟨B.ext,B.ee bV az λf B=>leaf _ _ _ _ B.v0 B.v2 B.v1 B.ext B.n1⟩⟩⟩⟩,B.make λf g B=>⟨B.ext,aA λf g=>have B:=B.on g;⟨_,rfl,B.ext,B.dR bV az λf B=>⟨B.ext,B.eu bV az λf B=>⟨B.ext,B.ee bV az λf B=>leaf _ _ _ _ B.v0 B.v2 B.v1 B.ext B.n1⟩⟩⟩⟩⟩⟩⟩⟩⟩,⟨B.make λf g B=>⟨B.ext,⟨fQ (e.ext B.ext) j λf g=>have B:=B.on g;⟨_,rfl,B.ext,⟨aA λf g=>have B:=B.on g;⟨_,rfl,B.ext,B.make λf g B=>⟨B.ext,B.ee bV az λf B=>⟨B.ext,B.eu bV az λf B=>⟨B.ext,B.dR bV az λf B=>leaf _ _ _ _ B.v1 B.v2 B.v0 B.ext B.n0⟩⟩⟩⟩,B.make λf g B=>⟨B.ext,aA λf g=>have B:=B.on g;⟨_,rfl,B.ext,B.ee bV az λf B=>⟨B.ext,B.eu bV az λf B=>⟨B.ext,B.dR bV az λf B=>leaf _ _ _ _ B.v1 B.v2 B.v0 B.ext B.n0⟩⟩⟩⟩⟩⟩,B.make λf g B=>⟨B.ext,fQ (e.ext B.ext) j λf g=>have B:=B.on g;⟨_,rfl,B.ext,aA λf g=>have B:=B.on g;⟨_,rfl,B.ext,B.ee bV az λf B=>⟨B.ext,B.eu bV az λf B=>⟨B.ext,B.dR bV az λf B=>leaf _ _ _ _ B.v1 B.v2 B.v0 B.ext B.n0⟩⟩⟩⟩⟩⟩⟩,B.make λf g B=>⟨B.ext,⟨fQ (e.ext B.ext) j λf g=>have B:=B.on g;⟨_,rfl,B.ext,⟨aA λf g=>have B:=B.on g;⟨_,rfl,B.ext,B.make λf g B=>⟨B.ext,B.dR bV az λf B=>⟨B.ext,B.eu bV az λf B=>⟨B.ext,B.ee bV az λf B=>leaf _ _ _ _ B.v0 B.v2 B.v1 B.ext B.n1⟩⟩⟩⟩,B.make λf g B=>⟨B.ext,aA λf g=>have B:=B.on g;⟨_,rfl,B.ext,B.dR bV az λf B=>⟨B.ext,B.eu bV az λf B=>⟨B.ext,B.ee bV az λf B=>leaf _ _ _ _ B.v0 B.v2 B.v1 B.ext B.n1⟩⟩⟩⟩⟩⟩,B.make λf g B=>⟨B.ext,fQ (e.ext B.ext) j λf g=>have B:=B.on g;⟨_,rfl,B.ext,aA λf g=>have B:=B.on g;⟨_,rfl,B.ext,B.dR bV az λf B=>⟨B.ext,B.eu bV az λf B=>⟨B.ext,B.ee bV az λf B=>leaf _ _ _ _ B.v0 B.v2 B.v1 B.ext B.n1⟩⟩⟩⟩⟩⟩⟩⟩⟩⟩,B.make λf g B=>⟨B.ext,⟨fQ (e.ext B.ext) j λf g=>have B:=B.on g;⟨_,rfl,B.ext,⟨aA λf g=>have B:=B.on g;⟨_,rfl,B.ext,⟨B.make λf g B=>⟨B.ext,B.make λf g B=>⟨B.ext,B.ee bV az λf B=>⟨B.ext,B.dR bV az λf B=>⟨B.ext,B.eu bV az λf B=>leaf _ _ _ _ B.v1 B.v0 B.v2 B.ext B.n2⟩⟩⟩⟩,B.make λf g B=>⟨B.ext,B.make λf g B=>⟨B.ext,B.dR bV az λf B=>⟨B.ext,B.ee bV az λf B=>⟨B.ext,B.eu bV az λf B=>leaf _ _ _ _ B.v0 B.v1 B.v2 B.ext B.n2⟩⟩⟩⟩⟩⟩,⟨B.make λf g B=>⟨B.ext,⟨aA λf g=>have B:=B.on g;⟨_,rfl,B.ext,B.make λf g B=>⟨B.ext,B.ee bV az λf B=>⟨B.ext,B.dR bV az λf B=>⟨B.ext,B.eu bV az λf B=>leaf _ _ _ _ B.v1 B.v0 B.v2 B.ext B.n2⟩⟩⟩⟩,B.make λf g B=>⟨B.ext,aA λf g=>have B:=B.on g;⟨_,rfl,B.ext,B.ee bV az λf B=>⟨B.ext,B.dR bV az λf B=>⟨B.ext,B.eu bV az λf B=>leaf _ _ _ _ B.v1 B.v0 B.v2 B.ext B.n2⟩⟩⟩⟩⟩⟩,B.make λf g B=>⟨B.ext,⟨aA λf g=>have B:=B.on g;⟨_,rfl,B.ext,B.make λf g B=>⟨B.ext,B.dR bV az λf B=>⟨B.ext,B.ee bV az λf B=>⟨B.ext,B.eu bV az λf B=>leaf _ _ _ _ B.v0 B.v1 B.v2 B.ext B.n2⟩⟩⟩⟩,B.make λf g B=>⟨B.ext,aA λf g=>have B:=B.on g;⟨_,rfl,B.ext,B.dR bV az λf B=>⟨B.ext,B.ee bV az λf B=>⟨B.ext,B.eu bV az λf B=>leaf _ _ _ _ B.v0 B.v1 B.v2 B.ext B.n2⟩⟩⟩⟩⟩⟩⟩⟩⟩,⟨B.make λf g B=>⟨B.ext,⟨fQ (e.ext B.ext) j λf g=>have B:=B.on g;⟨_,rfl,B.ext,⟨aA λf g=>have B:=B.on g;⟨_,rfl,B.ext,B.make λf g B=>⟨B.ext,B.ee bV az λf B=>⟨B.ext,B.dR bV az λf B=>⟨B.ext,B.eu bV az λf B=>leaf _ _ _ _ B.v1 B.v0 B.v2 B.ext B.n2⟩⟩⟩⟩,B.make λf g B=>⟨B.ext,aA λf g=>have B:=B.on g;⟨_,rfl,B.ext,B.ee bV az λf B=>⟨B.ext,B.dR bV az λf B=>⟨B.ext,B.eu bV az λf B=>leaf _ _ _ _ B.v1 B.v0 B.v2 B.ext B.n2⟩⟩⟩⟩⟩⟩,B.make λf g B=>⟨B.ext,fQ (e.ext B.ext) j λf g=>have B:=B.on g;⟨_,rfl,B.ext,aA λf g=>have B:=B.on g;⟨_,rfl,B.ext,B.ee bV az λf B=>⟨B.ext,B.dR bV az λf B=>⟨B.ext,B.eu bV az λf B=>leaf _ _ _ _ B.v1 B.v0 B.v2 B.ext B.n2⟩⟩⟩⟩⟩⟩⟩,B.make λf g B=>⟨B.ext,⟨fQ (e.ext B.ext) j λf g=>have B:=B.on g;⟨_,rfl,B.ext,⟨aA λf g=>have B:=B.on g;⟨_,rfl,B.ext,B.make λf g B=>⟨B.ext,B.dR bV az λf B=>⟨B.ext,B.ee bV az λf B=>⟨B.ext,B.eu bV az λf B=>leaf _ _ _ _ B.v0 B.v1 B.v2 B.ext B.n2⟩⟩⟩⟩,B.make λf g B=>⟨B.ext,aA λf g=>have B:=B.on g;⟨_,rfl,B.ext,B.dR bV az λf B=>⟨B.ext,B.ee bV az λf B=>⟨B.ext,B.eu bV az λf B=>leaf _ _ _ _ B.v0 B.v1 B.v2 B.ext B.n2⟩⟩⟩⟩⟩⟩,B.make λf g B=>⟨B.ext,fQ (e.ext B.ext) j λf g=>have B:=B.on g;⟨_,rfl,B.ext,aA λf g=>have B:=B.on g;⟨_,rfl,B.ext,B.dR bV az λf B=>⟨B.ext,B.ee bV az λf B=>⟨B.ext,B.eu bV az λf B=>leaf _ _ _ _ B.v0 B.v1 B.v2 B.ext B.n2⟩⟩⟩⟩⟩⟩⟩⟩⟩⟩⟩⟩⟩
end
end Board
namespace Board
section
variable{R:Rq}{h:af}
theorem zQ:∀(ts:List (LU))(i:Nat),(ts.take i).flatten.length<=ts.flatten.length
 |[],i=>by simp
 |t::ts,0=>by simp
 |t::ts,i+1=>by
  have:=zQ ts i;simp only[List.take_succ_cons,List.flatten_cons,ah1];omega
theorem aU{α:Type}{ts:List α}{i:Nat}{t:α}(q:ts[i]? =some t):ts.take (i+1)=ts.take i++[t]:=by
 rw[List.take_add_one,q];rfl
theorem wI{n:Nat}{x y:Bs n}:(TV.bytes n x).size=(TV.bytes n y).size:=by simp only[ahf]
def yo(n:Int):Nat->LU
 |0=>[]
 |k+1=>ahC (agk .u8 n).toNat::yo (ahr n (2^min (aha 8) (agl .u64))) k
def leN(n:Int):Nat->Int
 |0=>n
 |k+1=>leN (ahr n (2^min (aha 8) (agl .u64))) k
theorem QW:∀(k:Nat)(n:Int),leN n (k+1)=ahr (leN n k) (2^min (aha 8) (agl .u64))
 |0,_=>rfl
 |k+1,_=>QW k _
theorem QX:∀(k:Nat)(n:Int),yo n (k+1)=yo n k++[ahC (agk .u8 (leN n k)).toNat]
 |0,_=>rfl
 |k+1,n=>by
  rw[yo,QX k];rfl
theorem gA:∀(k:Nat)(n:Int),(yo n k).length=k
 |0,_=>rfl
 |k+1,n=>by simp[yo,gA k]
theorem ia{Q:Nat->Prop}{s:Sl}{bs:LU}{n:Int}{k:Nat}(r:Row Q h s bs)(A:bs.length<5000)(B:k<=8)
 (q:∀a c,Row Q a c (bs++yo n k)->ag Q h a->R (TV.slice c).val a):Cl 260 [.slice s,.int .u64 n,.i (k:Int)] h R:=by
 apply Ot;delta dQ aF Gk;refine⟨λσ d=>0<=σ.2.2/\σ.2.2<=(k:Int)/\Row Q d σ.1 (bs++yo n σ.2.2.toNat)/\σ.2.1=leN n σ.2.2.toNat/\ag Q h d,λσ _=>((k:Int)-σ.2.2).toNat,⟨ahz 0,by dsimp only;omega,by simpa[yo]using r,rfl,ahP _ _⟩,?_⟩;rintro⟨j,l,i⟩ m ⟨o,p,r1,b,e⟩;dsimp only at o p r1 b⊢;have t:mn (mx (k:Int) 0) 8=(k:Int):=by rw[adm,Mq];omega
 rw[t];refine ID (λu=>?_) λu=>?_
 ·have f:=aS l;have y:=gA i.toNat n;refine QU r1 (by rw[ah1];omega) f.1 f.2 λz C v w D=>⟨δ,?_⟩;rw[wrap_i64 (n:=i+1) ω ω];have g:(i+1).toNat=i.toNat+1:=ω;refine⟨⟨ω,ω,?_,?_,e.trans (r1.cut w)⟩,Ω⟩
  ·rw[g,QX,<-List.append_assoc,<-b];exact v
  ·rw[g,QW,b]
 ·have x:i.toNat=k:=ω;rw[x]at r1;exact q m j r1 e
theorem Row.str{Q:Nat->Prop}{s:Sl}{bs:LU}(r:Row Q h s bs):kG h s bs:=by
 have e:=r.own.elems;have c:=r.len;refine⟨c,?_⟩;cases a:s.a with
 |none=>
  have:=e.nil a;refine .inl ⟨rfl,?_⟩;cases bs with
  |nil=>rfl
  |cons b bs=>cases this
 |some l=>
  refine .inr ⟨l,rfl,λj d=>?_⟩;have:=e.get l a j (JW bs[j]) (by rw[ahN,ahq d];rfl);rw[aie]at this;exact this
theorem yp{T:TypeId}{h:af}{b n c:Nat}{x:Bs n}(v:Var T h b (.bytes n x)):kG h ⟨some ⟨b,0⟩,n,c⟩ x.l:=
 ⟨x.h,.inr ⟨_,rfl,λj a=>by
  have:=v.bytes j (by rw[<-x.h];exact a);rw[this];simp[List.getD,a]⟩⟩
theorem nZ{a b:Bs 32}(q:∀c,Ext h c->R (ah3 (agU a.l b.l)).val c):jc Tryz.prog 198 (ak.vals [.bytes 32 a,.bytes 32 b]) h R:=by
 apply BC;delta gZ cr gj bJ fD;refine aa λg v1 e i=>aa λj f d k=>?_;exact⟨a.l,yp (v1.ext d),b.l,yp f,q _ (e.trans d)⟩
theorem MM{a b:Bs 32}(q:∀c,Ext h c->R (ah3 (agU a.l b.l)).val c):Cl 198 [.bytes 32 a,.bytes 32 b] h R:=(nZ q).weak
end
end Board
namespace Gate
theorem Wy{q:Rq}{h:af}{a b:Bs 32}(A:∀c,Ext h c->q (ah3 (agU a.l b.l)).val c):Cl 198 [.bytes 32 a,.bytes 32 b] h q:=Board.MM A
end Gate
namespace Gate
open Pool (zH)
abbrev gO(n:Nat)(f:Nat->Int):List Int:=(List.range n).map f
theorem yq(n:Nat)(f:Nat->Int):(gO n f).length=n:=by simp
theorem iO{n i:Nat}(f:Nat->Int)(h:i<n):(gO n f)[i]? =some (f i):=by simp[h]
theorem E3(n i:Nat)(f:Nat->Int)(v:Int):(gO n f).set i v=gO n λk=>if k=i then v else f k:=by
 apply List.ext_getElem?
 grind
theorem Zw{l:List Int}{n:Nat}(h:l.length=n):l=gO n λk=>l.getD k 0:=by
 apply List.ext_getElem
 ·simp[h]
 simp_all
theorem gm{n:Nat}{f g:Nat->Int}(h:∀k,k<n->f k=g k):gO n f=gO n g:=ahR λk a=>h k (List.mem_range.1 a)
def nk:Option Nat->Int
 |some b=>b
 |none=>-1
theorem ic{h:af}{A:Sl}{l:List Int}(o:Vc.Own 3 1 h A (eA l)){i:Int}(E:0<=i){v:Int}(q:l[i.toNat]? =some v){K:Int->Prop}(H:K v):
 0<=i/\i<(A.len:Int)/\Nn A.a λp=>∃n,ah h p.b (p.o+i.toNat*1) (.i n)/\K n:=by
 have b:=o.len;have:=(ah0.1 q).1;rw[ahp]at b;refine o.elems.read E ω λp t _ a c=>?_;rw[ahN,q]at a;cases a;exact⟨v,c,H⟩
section
variable{R:Rq}{h h':af}{w tb r:Nat}{O S B G A:Sl}{os ss bs fs:List Int}{L:List Nd}{most:Int}{n:Nat}
theorem WP.cV{bf:Nat->Int}(p:WP h w tb O S B G os (gO n bf) bs fs){i v:Int}(E:0<=i)(q:i<n){K:af->Prop}
 (H:∀q,WP q w tb O S B G os (gO n λk=>if k=i.toNat then v else bf k) bs fs->ag (In S) h q->q.size=h.size->K q):
 0<=i/\i<(S.len:Int)/\Nn S.a λl=>gT h l.b (l.o+i.toNat*1) 1/\Bind ((TV.i v).put h l.b (l.o+i.toNat*1)) K:=
 p.s.aH (sz:=1) (n:=1) (t:=.i v) E (by grind) rfl rfl λc e f2 d=>H c ⟨p.var.only f2 p.now.2.1,p.o.keep f2 p.os_,by rw[<-E3];simp_all,p.b.keep f2 λi a b=>p.sb i b a,p.f.keep f2 λi a b=>p.sf i b a,p.now,p.os_,p.ob,p.of,p.sb,p.sf,p.bf⟩ f2 d
theorem WP.afC{bf:Nat->Int}(p:WP h w tb O S B G os ss (gO n bf) fs){i v:Int}(E:0<=i)(q:i<n){K:af->Prop}
 (H:∀q,WP q w tb O S B G os ss (gO n λk=>if k=i.toNat then v else bf k) fs->ag (In B) h q->q.size=h.size->K q):
 0<=i/\i<(B.len:Int)/\Nn B.a λl=>gT h l.b (l.o+i.toNat*1) 1/\Bind ((TV.i v).put h l.b (l.o+i.toNat*1)) K:=
 p.b.aH (sz:=1) (n:=1) (t:=.i v) E (by grind) rfl rfl λa e f2 b=>H a ⟨p.var.only f2 p.now.2.2.1,p.o.keep f2 p.ob,p.s.keep f2 p.sb,by rw[<-E3];simp_all,p.f.keep f2 λi c d=>p.bf i d c,p.now,p.os_,p.ob,p.of,p.sb,p.sf,p.bf⟩ f2 b
theorem WP.afD{E:Nat->Int}(p:WP h w tb O S B G os ss bs (gO n E)){i v:Int}(H:0<=i)(q:i<n){K:af->Prop}
 (I:∀q,WP q w tb O S B G os ss bs (gO n λk=>if k=i.toNat then v else E k)->ag (In G) h q->q.size=h.size->K q):
 0<=i/\i<(G.len:Int)/\Nn G.a λl=>gT h l.b (l.o+i.toNat*1) 1/\Bind ((TV.i v).put h l.b (l.o+i.toNat*1)) K:=
 p.f.aH (sz:=1) (n:=1) (t:=.i v) H (by grind) rfl rfl λa c f2 b=>I a ⟨p.var.only f2 p.now.2.2.2,p.o.keep f2 p.of,p.s.keep f2 p.sf,p.b.keep f2 p.bf,by rw[<-E3];simp_all,p.now,p.os_,p.ob,p.of,p.sb,p.sf,p.bf⟩ f2 b
theorem ig{i:Int}{x:Nd}(q:0<=i)(E:L[i.toNat]? =some x):c8 L i=(x,true):=by
 unfold c8 nodeAt;rw[if_pos q,E]
def Zx(s:Nat->Int)(r:Nat->LU)(i:Nat):Option Nat->Bool
 |none=>true
 |some b=>SE s r i b
theorem Tp{s:Nat->Int}(p:WP h w tb O S B G os (gO n s) bs fs)(t:AP h tb r A L most)(W:L.length=n){i:Nat}{k:Option Nat}(q:i<n)(H:∀b,k=some b->b<n)
 (E:∀h',Ext h h'->R (ah3 (Zx s (c7 L) i k)).val h'):
 Cl 261 [.ptr (PT w),.i (i:Int),.i (nk k)] h R:=by
 apply tN;intro X y;intro Y g;cases k with
 |none=>
  exact g true h (If.yes (ID (λ_=>E h (ahe h)) λa=>absurd δ a))
 |some b=>
  have j:=H b rfl;have z:¬(nk (some b)<0):=by simp[nk]
  have l:((i:Int)).toNat=i:=rfl;have c:(nk (some b)).toNat=b:=rfl;refine⟨S,p.var.ah rfl,ic p.s ω (by rw[l];exact iO s q) ⟨S,p.var.ah rfl,ic p.s (by simp only[nk];omega) (v:=s b) (by rw[c];exact iO s j) ?_⟩⟩;refine g _ h (If.split (λd=>ID (λa=>absurd a z) λ_=>?_) λe=>?_)
  ·refine⟨S,p.var.ah rfl,ic p.s ω (v:=s i) (by rw[l];exact iO s q) ⟨S,p.var.ah rfl,ic p.s (by simp only[nk];omega) (v:=s b) (by rw[c];exact iO s j) ?_⟩⟩;have d:¬s i=s b:=by simpa using d
   have:=E h (ahe h);simp only[Zx,SE,d,decide_false,Bool.false_and,Bool.or_false]at this;exact this
  ·have e:s i=s b:=by simpa using e
   refine y false h ?_;have m:L[i]? =some L[i]:=ahq ω;have o:L[b]? =some L[b]:=ahq ω;refine⟨some ⟨tb,0⟩,p.var.ah rfl,dg t λC D=>⟨_,_,_,_,rfl,?_⟩⟩;rw[ig (i:=(i:Int)) ω m];refine aa λZ F I s2=>aH F (t:=L[i].tv) rfl λJ K f3 s3=>?_;have M:Ext C J:=aho I f3 λi q=>ω;have f:=D.trans M;refine⟨some ⟨tb,0⟩,(p.var.ext f).ah rfl,dg (t.ext f) λN u=>⟨_,_,_,_,rfl,?_⟩⟩;rw[ig (i:=nk (some b)) (by simp only[nk];omega) (by rw[c];exact o)];refine aa λh5 P Q s5=>aH P (t:=L[b].tv) rfl λT v6 f6 s6=>?_;have x:Ext N T:=aho Q f6 λi q=>ω;refine⟨_,v6.at.1,_,((Var.ext (t:=L[i].tv) K u).ext x).at.1,Wy λU V=>⟨_,rfl,?_⟩⟩;have:=E U (((f.trans u).trans x).trans V);have ab:¬s b<s i:=ω;simp only[Zx,SE,e,decide_true,Bool.true_and,vZ m,vZ o]at this;simpa using this
theorem MN{s:Nat->Int}(p:WP h w tb O S B G os (gO n s) bs fs)(t:AP h tb r A L most)(ap:∀i,lH tb r A i->¬iN w O S B G i)(U:L.length=n)(l2:bs.length=n)(l3:fs.length=n)
 (hr:∀h',WP h' w tb O S B G os (gO n s) (gO n λk=>nk (iL n (bQ L) s (c7 L) k)) (gO n λk=>(uq n (bQ L) s (c7 L) k:Int))->ag (λi=>In B i\/In G i) h h'->R (ahV []).val h'):
 Cl 204 [.ptr (PT w)] h R:=by
 apply uU;delta wE zO aF aJ jt gL cu fP cE aN bK aT;have up:=U▸t.ok.tree;have H:=U▸t.ok.names;have aw:=t.ok.len;have aE:=t.ok.most;have n0:=by have:=t.ok.Gf;omega
 have X:=p.lb;have ac:∀{c:af},ag (λi=>In B i\/In G i) h c->AP c tb r A L most:=λf=>t.only f λi l u=>ap i l (u.elim (λh=>.inr (.inr (.inr (.inl h)))) λh=>.inr (.inr (.inr (.inr h))));rw[Zw l2,Zw l3]at p
 refine⟨B,p.var.ah rfl,λσ c=>0<=σ/\σ<=n/\∃bf d,WP c w tb O S B G os (gO n s) (gO n bf) (gO n d)/\(∀k:Nat,k<σ->bf k=-1/\d k=k)/\ag (λi=>In B i\/In G i) h c,
  λσ _=>(n-σ).toNat,⟨ahz 0,ω,_,_,p,λk a=>ω,ahP _ _⟩,?_⟩
 rintro σ h1 ⟨Y,a1,bf,d,z,Z,f1⟩;refine ID (λad=>?_) λP=>?_
 ·refine⟨B,z.var.ah rfl,G,z.var.ah rfl,z.afC Y ω λh2 o f2 s2=>o.afD Y ω λI j f3 s3=>?_⟩;rw[wrap_i64 ω ω];refine⟨⟨ω,ω,_,_,j,λk a=>?_,(f1.trans (f2.mono λi l=>.inl l)).trans (f3.mono λi l=>.inr l)⟩,by grind⟩
  grind
 have e0:gO n bf=gO n λk=>nk ((λ_=>none:Nat->Option Nat) k):=gm λk a=>(Z k ω).1;have ae:gO n d=gO n λk=>k:=gm λk a=>(Z k ω).2;rw[e0,ae]at z;refine⟨B,z.var.ah rfl,?_⟩;dsimp only;rw[<-X,l2,wrap_i64 ω ω]
 refine⟨λσ c=>0<=σ/\σ<n/\∃e:Nat->Option Nat,WP c w tb O S B G os (gO n s) (gO n λk=>nk (e k)) (gO n λk=>k)/\JH n (bQ L) s (c7 L) (σ.toNat+1) e/\ag (λi=>In B i\/In G i) h c,
  λσ _=>σ.toNat,⟨ω,ω,_,z,?_,f1⟩,?_⟩
 ·have:((n:Int)-1).toNat+1=n:=ω;rw[this];exact S7 _ λ_=>rfl
 rintro g h2 ⟨b0,b1,e,o,Q,f2⟩;have t2:=ac f2;refine ID (λa0=>?_) λhle=>?_
 ·have u:L[g.toNat]? =some L[g.toNat]:=ahq ω;obtain⟨x,al⟩:∃x,x=L[g.toNat]:=⟨_,rfl⟩;rw[<-al]at u;have hu:=t.ok.up _ x u ω;have hp:=yf u;refine⟨some ⟨tb,0⟩,o.var.ah rfl,dg t2 λI x3=>⟨_,_,_,_,rfl,?_⟩⟩;rw[ig b0 u];refine aa λh4 v4 x4 s4=>aH v4 rfl λh5 v5 f5 s5=>?_;have am:=aho x4 f5 λi l=>ω;have T:=x3.trans am;have J:=o.ext T;refine⟨B,J.var.ah rfl,x.par,v5.at.2.2,ic J.b hu.1 (iO _ ω) ?_⟩;have ao:g=(g.toNat:Nat):=ω;rw[ao]
  have bl:∀b,e x.par.toNat=some b->b<n:=λb m=>by
   have C:=Q x.par.toNat ω;rw[m]at C;exact(ew.1 (kC.1 C.1).1).2.1
  refine Tp J (t2.ext T) U ω bl λh6 V=>⟨_,rfl,?_⟩;have K:=J.ext V;have f6:=f2.trans (ahW (T.trans V));have step:=Qv H ω ω Q;rw[wrap_i64 ω ω];have e9:(((g.toNat:Int)-1).toNat)+1=g.toNat:=ω;have v6:Var 69 h6 I.size x.tv:=Var.ext (t:=x.tv) v5 V;refine If.split (λW=>?_) λD=>?_
  ·refine⟨B,K.var.ah rfl,x.par,v6.at.2.2,K.afC hu.1 ω λh7 p7 f7 s7=>?_⟩;refine⟨⟨ω,ω,_,?_,by rw[e9];exact step,f6.trans (f7.mono λi l=>.inl l)⟩,by dsimp only;omega⟩;rw[show(gO n λk=>if k=x.par.toNat then((g.toNat:Nat):Int)else nk (e k))=gO n λk=>nk (if k=bQ L g.toNat then cZ s (c7 L) (e k) g.toNat else e k)from gm λk _=>?_]at p7
   ·exact p7
   ·rw[hp];by_cases a:k=x.par.toNat
    ·rw[if_pos a,if_pos a,a];unfold cZ;cases m:e x.par.toNat with
     |none=>rfl
     |some y=>
      rw[m]at W;simp only[Zx]at W;simp only[W,if_true];rfl
    ·rw[if_neg a,if_neg a]
  ·refine⟨⟨ω,ω,_,?_,by rw[e9];exact step,f6⟩,by dsimp only;omega⟩;rw[show(gO n λk=>nk (e k))=gO n λk=>nk (if k=bQ L g.toNat then cZ s (c7 L) (e k) g.toNat else e k)from gm λk _=>?_]at K
   ·exact K
   ·rw[hp];by_cases a:k=x.par.toNat
    ·rw[if_pos a,a];unfold cZ;cases m:e x.par.toNat with
     |none=>rw[m]at D;cases D
     |some y=>
      rw[m]at D;simp only[Zx]at D;simp[D]
    ·rw[if_neg a]
 have eb:(gO n λk=>nk (e k))=gO n λk=>nk (iL n (bQ L) s (c7 L) k):=gm λk a=>by rw[S8 H ω Q a]
 rw[eb]at o;refine⟨B,o.var.ah rfl,?_⟩;dsimp only;rw[<-X,l2,wrap_i64 (n:=(n:Int)-1) ω ω]
 refine⟨λσ c=>-1<=σ/\σ<n/\∃d:Nat->Int,WP c w tb O S B G os (gO n s) (gO n λk=>nk (iL n (bQ L) s (c7 L) k)) (gO n d)/\(∀k:Nat,k<n->if σ<(k:Int)then d k=uq n (bQ L) s (c7 L) k else d k=k)/\ag (λi=>In B i\/In G i) h c,
  λσ _=>(σ+1).toNat,⟨ω,ω,_,o,λk a=>by rw[if_neg ω],f2⟩,?_⟩
 rintro q I ⟨c0,c1,d,j,M,f3⟩;refine ID (λP=>?_) λad=>?_
 ·refine⟨B,j.var.ah rfl,ic j.b P (iO _ ω) ?_⟩;have ar:q.toNat<n:=ω;have N:=MA up H (s:=s) ar;rw[wrap_i64 (n:=q-1) ω ω];cases m:iL n (bQ L) s (c7 L) q.toNat with
  |none=>
   rw[m]at N;refine ID (λc=>absurd c δ) λ_=>?_;refine⟨⟨ω,ω,d,j,λk a=>?_,f3⟩,by dsimp only;omega⟩;have:=M k a;by_cases E:q<(k:Int)
   ·rw[if_pos E]at this;rw[if_pos ω];exact this
   ·rw[if_neg E]at this;by_cases F:k=q.toNat
    ·rw[if_pos ω,this,F,N]
    ·rw[if_neg ω];exact this
  |some b=>
   rw[m]at N;have ab:=mK up H m;refine ID (λ_=>?_) λc=>absurd (by simp only[nk];omega) c;have tk:(nk (some b)).toNat=b:=rfl;refine⟨G,j.var.ah rfl,G,j.var.ah rfl,ic j.f (by simp only[nk];omega) (v:=d b) (by rw[tk];exact iO d ab.2.1) (j.afD P ω λh4 p4 f4 s4=>?_)⟩;refine⟨⟨ω,ω,_,p4,λk a=>?_,f3.trans (f4.mono λi l=>.inr l)⟩,by dsimp only;omega⟩;have C:=M b ab.2.1;rw[if_pos ω]at C;have:=M k a;by_cases F:k=q.toNat
   ·rw[if_pos ω,if_pos F,F,N,C]
   ·rw[if_neg F];by_cases E:q<(k:Int)
    ·rw[if_pos E]at this;rw[if_pos ω];exact this
    ·rw[if_neg E]at this;rw[if_neg ω];exact this
 ·rw[show gO n d=gO n λk=>(uq n (bQ L) s (c7 L) k:Int)from gm λk a=>by have:=M k a;rw[if_pos ω]at this;exact this]at j;exact hr I j f3
end
end Gate
namespace Gate
section
variable{n:Nat}{par:Nat->Nat}
def tot(n:Nat)(f:Nat->Int):Int:=((List.range n).map f).sum
theorem jv(n:Nat)(f:Nat->Int):tot (n+1) f=tot n f+f n:=by
 unfold tot;rw[List.range_succ,aic,List.sum_append];simp
theorem abX(f k:Nat):wt n par (λ_=>0) f k=0:=by
 have:∀f k,wt n par (λ_=>0) f k=0:=by
  intro f
  induction f with
  |zero=>intro k;rfl
  |succ f a=>
   intro k;unfold wt;rw[pP λx _=>a x];rfl
 exact this f k
theorem MO(k:Nat):nU n par (λ_=>0) k=0:=abX n k
theorem DW(up:Up n par){own q:Nat->Int}{k:Nat}(A:k<n)(h:∀i,i<n->own i=q i):nU n par own k=nU n par q k:=Jy up n k A h
theorem IL(up:Up n par)(own:Nat->Int){k:Nat}(q:k<n):nU n par own k=tot n λj=>own j*one (bO par k j):=by
 have:∀m,m<=n->nU n par (λj=>if j<m then own j else 0) k=tot m λj=>own j*one (bO par k j):=by
  intro m
  induction m with
  |zero=>intro _;simp only[Nat.not_lt_zero,if_false,MO];rfl
  |succ m c=>
   intro d;rw[jv,<-c ω,<-Qr up _ ω q (own m)];refine DW up q λi a=>?_;by_cases h:i=m
   ·subst h;simp
   ·by_cases b:i<m
    ·rw[if_pos ω,if_neg h,if_pos b]
    ·rw[if_neg ω,if_neg h,if_neg b]
 have h:=this n (ahd _);rw[<-h];exact DW up q λi a=>by rw[if_pos a]
theorem Ov{f g:Nat->Int}(n:Nat)(h:∀i,i<n->f i<=g i):tot n f<=tot n g:=by
 induction n with
 |zero=>exact ahz _
 |succ n a=>
  rw[jv,jv];have:=a λi b=>h i ω;have:=h n ω;omega
theorem IM{f:Nat->Int}(n:Nat)(h:∀i,i<n->0<=f i):0<=tot n f:=by
 have:=Ov (f:=λ_=>0) (g:=f) n h;have e:tot n (λ_=>0)=0:=pP λ_ _=>rfl;omega
theorem abY(n:Nat)(f g:Nat->Int):tot n (λi=>f i+g i)=tot n f+tot n g:=uk _ _ _
theorem Vk(up:Up n par){own:Nat->Int}(q:∀i,i<n->0<=own i){k:Nat}(A:k<n):0<=nU n par own k/\nU n par own k<=tot n own:=by
 rw[IL up own A]
 have e:∀i,i<n->0<=own i*one (bO par k i)/\own i*one (bO par k i)<=own i:=λi a=>by
  have:=q i a;unfold one;split<;>omega
 exact⟨IM n λi a=>(e i a).1,Ov n λi a=>(e i a).2⟩
theorem Wz(up:Up n par){m k:Nat}(q:m<k):∀i,i<n->bO par m i=true->bO par k i=true->bO par m (par k)=true:=by
 intro i
 induction i using ah8 with
 |ind i d=>
  intro c b a;have f:=Bg up i c a;rw[fO up c]at b a;simp only[ahG,decide_eq_true_eq,ahH]at b a;rcases b with b|⟨e,b⟩
  ·omega
  ·rcases a with a|⟨_,a⟩
   ·rw[<-a];exact b
   ·have:=up i e c;exact d (par i) this ω b a
theorem ad6(up:Up n par){k i:Nat}(A:i<n)(B:0<k)(q:bO par k i=true):bO par (par k) i=true:=by
 have:∀i,i<n->bO par k i=true->bO par (par k) i=true:=by
  intro i
  induction i using ah8 with
  |ind i b=>
   intro A q;rw[fO up A]at q;simp only[ahG,decide_eq_true_eq,ahH]at q;rcases q with q|⟨a,q⟩
   ·subst q;rw[fO up A,pO];simp[B]
   ·have c:=up i a A;rw[fO up A,b (par i) c ω q];simp[a]
 exact this i A q
theorem DX{f:Nat->Int}:∀(n:Nat),(∀i,i<n->0<=f i)->∀i,i<n->f i<=tot n f
 |0,_,i,a=>ω
 |n+1,h,i,a=>by
  rw[jv];have d:=IM n λj b=>h j ω;have e:=h n ω;by_cases c:i=n
  ·subst c;omega
  ·have:=DX n (λj b=>h j ω) i ω;omega
def bump(own:Nat->Int)(i:Nat)(d:Int):Nat->Int:=λk=>if k=i then own k+d else own k
end
end Gate
namespace Gate
open Pool (zH)
abbrev Dl:=Bs 32×Int
def z_(x:Dl):TV:=.agg [.bytes 32 x.1,.i x.2]
theorem MP(x:Dl):(z_ x).size=33:=by rfl
theorem Tq(x:Dl):(z_ x).plain=true:=by rfl
def dh(L:List Nd)(own:Nat->Int):Nat->Int:=nU L.length (bQ L) own
def ad7(L:List Nd)(own:Nat->Int)(k:Nat):Int:=nk (iL L.length (bQ L) (dh L own) (c7 L) k)
def Ow(L:List Nd)(own:Nat->Int)(k:Nat):Int:=(uq L.length (bQ L) (dh L own) (c7 L) k:Int)
section
variable{R:Rq}{h h':af}{w tb r:Nat}{O S B G A:Sl}{L:List Nd}{most:Int}{own:Nat->Int}
abbrev WT(h:af)(w tb:Nat)(O S B G:Sl)(L:List Nd)(own:Nat->Int):Prop:=WP h w tb O S B G (gO L.length own) (gO L.length (dh L own)) (gO L.length (ad7 L own)) (gO L.length (Ow L own))
theorem q8{i:Nat}(q:In ahA i):False:=by obtain⟨l,a,_⟩:=q;cases a
theorem Vl(n:Nat)(v:Int):pad [] n v=gO n λ_=>v:=by
 simp[gO,List.length_range,pad,List.map_const']
theorem MQ(t:AP h tb r A L most)(q:∀h' w O S B G,WT h' w tb O S B G L (λ_=>0)->Ext h h'->(∀i,iN w O S B G i->h.size<=i/\i<h'.size)->R (TV.ptr (PT w)).val h'):
 Cl 143 [.ptr (PT tb)] h R:=by
 apply Ih;have x:=t.ok.Gf;refine Bw t ⟨_,rfl,ID (λy=>ω) λ_=>aa λm v1 j z=>?_⟩;have b:∀i,¬In ahA i:=λi a=>q8 a;have n:WP m h.size tb ahA ahA ahA ahA [] [] [] []:=⟨v1,Vc.Own.nil ..,Vc.Own.nil ..,Vc.Own.nil ..,Vc.Own.nil ..,⟨b _,b _,b _,b _⟩,λi a=>(b i a).elim,λi a=>(b i a).elim,λi a=>(b i a).elim,λi a=>(b i a).elim,λi a=>(b i a).elim,λi a=>(b i a).elim⟩
 have g:∀i,iN h.size ahA ahA ahA ahA i->i=h.size:=λi a=>by
  rcases a with a|a|a|a|a<;>simp_all
 have t1:=t.ext j;refine ML n t1 (λi a c=>by have:=g i c;have:=t.lt a;omega) rfl rfl rfl (ah9 _) λo O S B G p d=>⟨rfl,?_⟩;rw[Vl,Vl]at p
 have s:∀i,lH tb r A i->¬iN h.size O S B G i:=λi a c=>by
  have:=t.lt a;rcases d.new i c with f|f<;>grind
 have t2:=t1.only d.only λi a c=>by have:=g i c;have:=t.lt a;omega
 have e:gO L.length (λ_=>0)=gO L.length (dh L λ_=>0):=gm λk _=>(MO k).symm;have u:WP o h.size tb O S B G (gO L.length λ_=>0) (gO L.length (dh L λ_=>0)) (gO L.length λ_=>-1) (gO L.length λ_=>-1):=by grind
 refine MN u t2 s rfl (yq _ _) (yq _ _) λv l f3=>⟨rfl,?_⟩;refine q v h.size O S B G l (aho (S:=λi=>i=h.size\/iN h.size O S B G i) j ((d.only.mono λi a=>.inl (g i a)).trans (f3.mono λi a=>.inr (a.elim (λh=>.inr (.inr (.inr (.inl h)))) λh=>.inr (.inr (.inr (.inr h)))))) λi a=>?_) λi a=>⟨?_,l.lt a⟩
 ·rcases a with rfl|a
  ·omega
  ·rcases d.new i a with f|f<;>grind
 ·rcases d.new i a with f|f<;>grind
def Gr(L:List Nd):List Dl->(Nat->Int)->Prop
 |[],own=>(∀i,i<L.length->0<=own i)/\tot L.length own<4611686018427387904
 |x::a,own=>0<=place x.1 L/\-4611686018427387904<x.2/\x.2<4611686018427387904/\0<=own (place x.1 L).toNat+x.2/\own (place x.1 L).toNat+x.2<4611686018427387904/\Gr L a (bump own (place x.1 L).toNat x.2)
def laid(L:List Nd)(q:List Dl)(own:Nat->Int):Nat->Int:=q.foldl (λo x=>bump o (place x.1 L).toNat x.2) own
theorem QY(n i:Nat)(own:Nat->Int)(d:Int):(gO n λk=>if k=i then own i+d else own k)=gO n (bump own i d):=gm λk _=>by
 unfold bump;by_cases h:k=i
 ·subst h;rfl
 ·rw[if_neg h,if_neg h]
theorem WA{D:Sl}{q:List Dl}{ss bs fs:List Int}(p:WP h w tb O S B G (gO L.length own) ss bs fs)(t:AP h tb r A L most)(e:aj 33 h D (q.map z_))(aw:q.length<1000)(ok:Gr L q own)
 (M:∀h' s,Ext h h'->Vc.Own 3 1 h' s (eA (gO L.length (laid L q own)))->(∀i,In s i->h.size<=i)->R (ahV [.slice s,.i 0]).val h'):
 Cl 281 [.ptr (PT w),.slice D] h R:=by
 apply uV;delta zP js JN iA dD d_ kT gY bJ bK bA fD;have aE:=t.ok.len;have a0:=t.ok.most;have v:=ahO h (row (agD []) 3);have y:=p.ext v;have lo:=y.lo;rw[yq]at lo;have o0:=Vc.Own.new (T:=3) (sz:=1) h [] (by simp);refine⟨O,y.var.ah rfl,oW (by rfl) (by rfl) δ δ (by show(0+O.len)*8<=_;omega) o0 y.o.elems (Gm _) (λt ht=>by obtain⟨x,_,rfl⟩:=ahI.1 ht;rfl) λs h2 z xe f2 n2=>?_⟩;have x2:=v.trans (xe rfl);have z1:=v.size
 have fresh:∀i,In s i->h.size<=i:=λi⟨l,hl,f⟩=>by
  grind
 simp only[List.nil_append]at z;have ac:=z.len;rw[ahp,yq]at ac;have ad:=e.len;rw[ahp]at ad
 refine⟨λσ b=>0<=σ.2.2/\σ.2.2<=q.length/\Ext h b/\∃done c a,q=done++c/\σ.2.2=done.length/\Gr L c a/\laid L c a=laid L q own/\Vc.Own 3 1 b s (eA (gO L.length a)),
  λσ _=>(q.length-σ.2.2).toNat,⟨ahz 0,by simp_all,x2,[],q,own,rfl,rfl,ok,rfl,z⟩,?_⟩
 rintro⟨q1,q2,i⟩ h3 ⟨K,i1,C,done,c,a,N,ae,P,g,Q⟩;dsimp only at K i1 ae⊢;refine ID (λf=>?_) λf=>?_
 ·have E:c≠[]:=by
   grind
  obtain⟨x,al,rfl⟩:=List.exists_cons_of_ne_nil E;obtain⟨d,U,k2,k3,k4,am⟩:=P
  have cm:q[i.toNat]? =some x:=by
   simp_all
  refine(e.ext C).read K ω λl u _ V ao=>?_;rw[ahN,cm]at V;cases V;refine⟨x.1,x.2,ao,aa λW v4 j s4=>aH v4 rfl λh5 X f5 s5=>?_⟩;have Y:=aho j f5 λi f=>ω;have F:=C.trans Y;refine⟨some ⟨tb,0⟩,(p.var.ext F).ah rfl,x.1,X.at.1,dM (t.ext F) λh6 H=>⟨_,rfl,?_⟩⟩;intro J HJ;have v6:=Var.ext X H;have ap:=F.trans H;have Z:=(Q.ext Y).ext H;refine ID (λb=>ω) λ_=>⟨x.2,v6.at.2,ID (λb=>ω) λ_=>⟨x.2,v6.at.2,ID (λb=>ω) λ_=>?_⟩⟩;refine HJ _ h6 ?_;have pl:=pQ x.1 L;have I:(place x.1 L).toNat<L.length:=ω;refine ic Z d (iO a I) ⟨x.2,v6.at.2,?_⟩;dsimp only;rw[wrap_i64 ω ω];refine Z.aH d (by grind) rfl rfl λh7 o f7 s7=>?_
  have e7:(eA (gO L.length a)).set (place x.1 L).toNat (.i (a (place x.1 L).toNat+x.2))=eA (gO L.length (bump a (place x.1 L).toNat x.2)):=by
   rw[<-QY,<-E3];simp[eA,aif]
  rw[e7]at o;have ar:Ext h h7:=aho ap f7 λi f=>fresh i f;have hb:bump a (place x.1 L).toNat x.2 (place x.1 L).toNat=a (place x.1 L).toNat+x.2:=by unfold bump;rw[if_pos rfl]
  refine ic o d (iO _ I) (ID (λb=>ω) λ_=>ic o d (iO _ I) (ID (λb=>ω) λ_=>?_));rw[wrap_i64 (n:=i+1) ω ω];exact⟨⟨by(try dsimp only);omega,by(try dsimp only);omega,ar,done++[x],al,_,by rw[N];simp,by(try dsimp only);simp;omega,am,g,o⟩,by(try dsimp only);omega⟩
 ·have E:c=[]:=by
   have:c.length=0:=by
    have:=congrArg List.length N;simp at this;omega
   exact List.eq_nil_of_length_eq_zero this
  subst E;have g:a=laid L q own:=g;rw[<-g]at M;obtain⟨pos,lim⟩:=P
  refine⟨λσ b=>0<=σ.2.2.2/\σ.2.2.2<=L.length/\Ext h b/\Vc.Own 3 1 b s (eA (gO L.length a))/\σ.2.2.1=4611686018427387903-tot σ.2.2.2.toNat a,
   λσ _=>((L.length:Int)-σ.2.2.2).toNat,⟨ahz 0,by(try dsimp only);omega,C,Q,rfl⟩,?_⟩
  rintro⟨q1,q2,left,k⟩ W ⟨d,U,j,o4,ab⟩;dsimp only at d U ab⊢;refine ID (λhk=>?_) λhk=>M W s j o4 fresh;have kn:k.toNat<L.length:=ω;refine ic o4 d (iO a kn) ?_;have hs:tot (k.toNat+1) a=tot k.toNat a+a k.toNat:=jv _ _;have a1:=pos _ kn;have a2:0<=tot k.toNat a:=IM _ λi f=>pos i ω
  have a3:tot (k.toNat+1) a<=tot L.length a:=by
   have:∀m,k.toNat+1<=m->m<=L.length->tot (k.toNat+1) a<=tot m a:=by
    intro m
    induction m with
    |zero=>intro h;omega
    |succ m ih=>
     intro h1 h2;by_cases h9:k.toNat+1=m+1
     ·rw[h9];exact ahz _
     ·rw[jv m a];have:=ih ω ω;have:=pos m ω;omega
   exact this _ ω (ahd _)
  rw[wrap_i64 (n:=left-a k.toNat) ω ω,wrap_i64 (n:=k+1) ω ω];refine ID (λb=>ω) λ_=>⟨⟨by(try dsimp only);omega,by(try dsimp only);omega,j,o4,?_⟩,by(try dsimp only);omega⟩;rw[show(k+1).toNat=k.toNat+1 by omega,hs,ab];omega
end
end Gate
namespace Gate
open Pool (zH)
section
variable{R:Rq}{h h':af}{w tb r:Nat}{O S B G A D:Sl}{L:List Nd}{most:Int}{own:Nat->Int}{n:Nat}{par:Nat->Nat}
def mix(own out:Nat->Int)(i:Int)(k:Nat):Int:=if i<(k:Int)then out k else own k
theorem Zy(own out:Nat->Int)(i:Nat):mix own out ((i:Int)-1)=bump (mix own out i) i (out i-own i):=by
 funext k;simp only[mix,bump]
 grind
theorem QZ(up:Up n par)(own:Nat->Int){i k:Nat}(q:i<n)(E:k<n)(d:Int):nU n par (bump own i d) k=nU n par own k+if bO par k i=true then d else 0:=by
 have:=Qr up own q E d;unfold bump
 grind [one]
theorem Gr.pos{q:List Dl}:∀{own:Nat->Int},Gr L q own->(∀i,i<L.length->0<=laid L q own i)/\tot L.length (laid L q own)<4611686018427387904:=by
 induction q with
 |nil=>intro own ok;exact ok
 |cons x q a=>intro own ok;exact a ok.2.2.2.2.2
theorem JZ{I:List Dl}{J M U W:Sl}{E ss bs H:List Int}(p0:WP h w tb J M U W E ss bs H)(t0:AP h tb r A L most)(ae:∀i,lH tb r A i->¬iN w J M U W i)
 (q1:ss.length=E.length)(q2:bs.length=E.length)(q3:H.length=E.length)(q4:E.length<=L.length)
 (g1:pad E L.length 0=gO L.length own)(g2:pad ss L.length 0=gO L.length (dh L own))(pos:∀i,i<L.length->0<=own i)(a6:tot L.length own<4611686018427387904)
 (e:aj 33 h D (I.map z_))(hD:∀i,In D i->¬iN w J M U W i)(ap:I.length<1000)(ok:Gr L I own)
 (hr:∀h' O S B G,WT h' w tb O S B G L (laid L I own)->Step (iN w J M U W) h (iN w O S B G) h'->R (TV.i 0).val h'):
 Cl 236 [.ptr (PT w),.slice D] h R:=by
 apply tO;delta wE zO jt aD Dp cu dJ dX aN bK aT bA;have up:=t0.ok.tree;have a7:=t0.ok.len;have a8:=t0.ok.most;obtain⟨ab,ar⟩:=ok.pos;obtain⟨out,al⟩:∃out,out=laid L I own:=⟨_,rfl⟩;refine If.no (ML p0 t0 ae q1 q2 q3 q4 λh1 O S B G F K=>⟨rfl,?_⟩);rw[g1,g2]at F;have aw:(pad bs L.length (-1)).length=L.length:=by simp_all [pad]
 have aE:(pad H L.length (-1)).length=L.length:=by simp_all [pad]
 have t1:=t0.only K.only ae;have e1:=e.only K.only λl hl=>hD l.b ⟨l,hl,rfl⟩
 have N:∀i,lH tb r A i->¬iN w O S B G i:=λi c d=>by
  rcases K.new i d with h9|h9
  ·simp_all
  ·have:=t0.lt c;omega
 refine WA F t1 e1 ap ok λh2 s x2 o2 fr=>⟨_,_,rfl,If.no ?_⟩;rw[<-al]at o2 ab ar;have p2:=F.ext x2;have t2:=t1.ext x2;have a0:=o2.len;rw[ahp,yq]at a0;rw[wrap_i64 ω ω];have nS:∀i,In s i->¬iN w O S B G i:=λi c d=>by have:=fr i c;have:=F.lt d;omega
 have both:∀i k,0<=mix own out i k\/L.length<=k:=λi k=>by
  grind [mix]
 have bnd:∀(i:Int) k,k<L.length->0<=dh L (mix own out i) k/\dh L (mix own out i) k<9223372036854775808:=λi k u=>by
  have h0:∀j,j<L.length->0<=mix own out i j:=λj y=>(both i j).resolve_right ω;obtain⟨a,b⟩:=Vk up h0 u
  have:tot L.length (mix own out i)<=tot L.length (λj=>own j+out j):=Ov _ λj y=>by
   grind [mix]
  rw[abY]at this;unfold dh;omega
 refine⟨λσ f=>-1<=σ/\σ<L.length/\WP f w tb O S B G (gO L.length own) (gO L.length (dh L (mix own out σ))) (pad bs L.length (-1)) (pad H L.length (-1))/\Vc.Own 3 1 f s (eA (gO L.length out))/\AP f tb r A L most/\ag (In S) h2 f,
  λσ _=>(σ+1).toNat,⟨ω,ω,?_,o2,t2,ahP _ _⟩,?_⟩
 ·rw[show gO L.length (dh L (mix own out (s.len-1)))=gO L.length (dh L own)from gm λk u=>DW up u λj y=>by unfold mix;omega];exact p2
 rintro i h3 ⟨i0,i1,g,P,t3,f3⟩;refine ID (λam=>?_) λac=>?_
 ·have p:i.toNat<L.length:=ω;refine ic P am (iO out p) ⟨O,g.var.ah rfl,ic g.o am (iO own p) ?_⟩;have a1:=pos _ p;have a2:=ab _ p;have a3:=DX _ pos _ p;have a4:=DX _ ab _ p;dsimp only;rw[wrap_i64 ω ω,wrap_i64 ω ω];have ei:i=(i.toNat:Nat):=ω;have Q:=Zy own out i.toNat;rw[<-ei]at Q;refine ID (λhz=>?_) λhz=>?_
  ·refine⟨⟨ω,ω,?_,P,t3,f3⟩,by(try dsimp only);omega⟩;rw[Q,show bump (mix own out i) i.toNat (out i.toNat-own i.toNat)=mix own out i from funext λk=>by unfold bump;split<;>omega];exact g
  ·refine⟨λκ f=>-1<=κ/\κ<L.length/\(0<=κ->bO (bQ L) κ.toNat i.toNat=true)/\WP f w tb O S B G (gO L.length own) (gO L.length λm=>dh L (mix own out i) m+if κ<(m:Int)/\bO (bQ L) m i.toNat=true then out i.toNat-own i.toNat else 0) (pad bs L.length (-1)) (pad H L.length (-1))/\
    Vc.Own 3 1 f s (eA (gO L.length out))/\AP f tb r A L most/\ag (In S) h2 f,
    λκ _=>(κ+1).toNat,⟨ω,ω,λ_=>pO _,?_,P,t3,f3⟩,?_⟩
   ·rw[show(gO L.length λm=>dh L (mix own out i) m+if i<(m:Int)/\bO (bQ L) m i.toNat=true then out i.toNat-own i.toNat else 0)=gO L.length (dh L (mix own out i))from gm λm hm=>?_]
    ·exact g
    ·rw[if_neg (λd=>by have:=Bg up _ p d.2;omega),Int.add_zero]
   rintro κ h4 ⟨k0,k1,kanc,z,o4,t4,f4⟩;refine ID (λu=>?_) λu=>?_
   ·have C:κ.toNat<L.length:=ω;have T:=kanc u;refine⟨S,z.var.ah rfl,ic z.s u (iO _ C) ?_⟩
    have val:agk .i64 ((dh L (mix own out i) κ.toNat+if κ<((κ.toNat:Nat):Int)/\bO (bQ L) κ.toNat i.toNat=true then out i.toNat-own i.toNat else 0)+(out i.toNat-own i.toNat))=dh L (mix own out i) κ.toNat+(out i.toNat-own i.toNat):=by
     rw[if_neg ω,Int.add_zero];have b1:=bnd (i-1) κ.toNat C;unfold dh at b1⊢;rw[Q,QZ up _ p C,if_pos T]at b1;exact wrap_i64 ω ω
    rw[val];refine z.cV u ω λh5 V f5 s5=>?_;have o5:=o4.keep f5 λj y d=>nS j y (.inr (.inr (.inl d)));have t5:=t4.only f5 λj y d=>N j y (.inr (.inr (.inl d)));have d:L[κ.toNat]? =some L[κ.toNat]:=ahq C;obtain⟨x,hxe⟩:∃x,x=L[κ.toNat]:=⟨_,rfl⟩;rw[<-hxe]at d;refine⟨some ⟨tb,0⟩,V.var.ah rfl,dg t5 λh6 x6=>⟨_,_,_,_,rfl,?_⟩⟩;rw[ig u d];refine aa λh7 v7 x7 s7=>aH v7 (t:=x.tv) rfl λh8 v8 f8 s8=>⟨x.par,v8.at.2.2,?_⟩;have Y:Ext h5 h8:=x6.trans (aho x7 f8 λi c=>ω)
    have Z:-1<=x.par/\x.par<κ/\(0<κ->x.par=((bQ L κ.toNat:Nat):Int))/\(κ=0->x.par=-1):=by
     by_cases ao:0<κ
     ·have:=t0.ok.up _ x d ω;have:=yf d;exact⟨ω,ω,λ_=>ω,λ_=>ω⟩
     ·have hz0:κ.toNat=0:=ω;rw[hz0]at d;have:=t0.ok.first x d;exact⟨ω,ω,λ_=>ω,λ_=>this⟩
    refine⟨⟨Z.1,ω,λh0=>?_,?_,o5.ext Y,t5.ext Y,(f4.trans f5).trans (.an Y)⟩,by(try dsimp only);omega⟩
    ·by_cases ao:0<κ
     ·rw[Z.2.2.1 ao];exact ad6 up p ω T
     ·have:=Z.2.2.2 ω;omega
    ·rw[show(gO L.length λm=>dh L (mix own out i) m+if x.par<(m:Int)/\bO (bQ L) m i.toNat=true then out i.toNat-own i.toNat else 0)=gO L.length λm=>if m=κ.toNat then dh L (mix own out i) κ.toNat+(out i.toNat-own i.toNat)else dh L (mix own out i) m+if κ<(m:Int)/\bO (bQ L) m i.toNat=true then out i.toNat-own i.toNat else 0 from gm λm hm=>?_]
     ·exact V.ext Y
     ·by_cases ad:m=κ.toNat
      ·rw[if_pos ad,ad,if_pos ⟨ω,T⟩]
      ·rw[if_neg ad];congr 1;by_cases q:bO (bQ L) m i.toNat=true
       ·by_cases ac:κ<(m:Int)
        ·rw[if_pos ⟨ω,q⟩,if_pos ⟨ac,q⟩]
        ·rw[if_neg (λf=>?_),if_neg (λf=>ac f.1)];have h1:=Wz up (m:=m) (k:=κ.toNat) ω _ p q T;have h2:=Bg up _ (by have:=up κ.toNat ω C;omega) h1;have:=Z.2.2.1 ω;omega
       ·rw[if_neg (λf=>q f.2),if_neg (λf=>q f.2)]
   ·refine⟨⟨ω,ω,?_,o4,t4,f4⟩,by(try dsimp only);omega⟩;rw[show gO L.length (dh L (mix own out (i-1)))=gO L.length λm=>dh L (mix own out i) m+if κ<(m:Int)/\bO (bQ L) m i.toNat=true then out i.toNat-own i.toNat else 0 from gm λm hm=>?_]
    ·exact z
    ·unfold dh;rw[Q,QZ up _ p hm];congr 1;by_cases q:bO (bQ L) m i.toNat=true
     ·rw[if_pos q,if_pos ⟨ω,q⟩]
     ·rw[if_neg q,if_neg (λf=>q f.2)]
 ·have c:i=-1:=ω;subst c;have em:dh L (mix own out (-1))=dh L out:=congrArg _ (funext λk=>by unfold mix;rw[if_pos ω]);rw[em]at g;have v3:=g.var;refine⟨v3.gT (o:=1) (n:=1) (by simp[ahf,ahJ]),?_⟩;refine(aI v3 (i:=1) (t:=.slice s) rfl rfl rfl rfl λh4 v4 f4 s4=>?_).2;have nw:¬In s w:=λc=>nS w c (.inl rfl);have dS:∀{X:Sl},(∀i,In X i->iN w O S B G i)->∀i,In s i->¬In X i:=λhX i c d=>nS i c (hX i d)
  have z:WP h4 w tb s S B G (gO L.length out) (gO L.length (dh L out)) (pad bs L.length (-1)) (pad H L.length (-1)):=
   ⟨v4,P.keep f4 λi c v=>nw (v▸c),g.s.keep f4 λi c v=>g.now.2.1 (v▸c),g.b.keep f4 λi c v=>g.now.2.2.1 (v▸c),g.f.keep f4 λi c v=>g.now.2.2.2 (v▸c),⟨nw,g.now.2⟩,
    dS λi c=>.inr (.inr (.inl c)),dS λi c=>.inr (.inr (.inr (.inl c))),dS λi c=>.inr (.inr (.inr (.inr c))),g.sb,g.sf,g.bf⟩
  have t4:=t3.only f4 λi c v=>N i c (.inl v)
  have a5:∀i,lH tb r A i->¬iN w s S B G i:=λi c d=>by
   rcases d with d|d|d
   ·exact N i c (.inl d)
   ·have:=fr i d;have:=t1.lt c;omega
   ·exact N i c (.inr (.inr d))
  refine MN z t4 a5 rfl aw aE λh5 V f5=>⟨rfl,?_⟩;rw[<-al]at hr;refine hr h5 s S B G V (K.trans (M'':=iN w s S B G) ⟨((ahW x2).trans (f3.mono λi c=>.inr (.inr (.inl c)))).trans ((f4.mono λi c=>.inl c).trans (f5.mono λi c=>c.elim (λh=>.inr (.inr (.inr (.inl h)))) λh=>.inr (.inr (.inr (.inr h))))),λi c=>?_⟩);rcases c with c|c|c
  ·exact .inl (.inl c)
  ·exact .inr (fr i c)
  ·exact .inl (.inr (.inr c))
end
end Gate
namespace Board
theorem iY:∀a:LU,agU a a=false
 |[]=>rfl
 |x::q=>by simp[agU,iY q,UInt8.lt_irrefl]
theorem DQ:∀a b:LU,agU a b=true->agU b a=false
 |[],[],h=>by cases h
 |[],y::c,_=>rfl
 |x::d,[],h=>by cases h
 |x::d,y::c,h=>by
  simp only[agU,ahG,ahH,decide_eq_true_eq,beq_iff_eq]at h;simp only[agU,Bool.or_eq_false_iff,Bool.and_eq_false_iff,decide_eq_false_iff_not,beq_eq_false_iff_ne];rw[ahE]at h;rw[ahE];rcases h with h|⟨h,q⟩
  ·refine⟨ω,.inl ?_⟩;rintro rfl;omega
  ·subst h;exact⟨ω,.inr (DQ d c q)⟩
theorem lE:∀a b c:LU,agU a b=true->agU b c=true->agU a c=true
 |[],[],_,h,_=>by cases h
 |_::_,[],_,h,_=>by cases h
 |_,_::_,[],_,k=>by cases k
 |[],_::_,_::_,_,_=>rfl
 |x::A,y::B,z::E,h,k=>by
  simp only[agU,ahG,ahH,decide_eq_true_eq,beq_iff_eq]at h k⊢;rw[ahE]at h k⊢;rcases h with h|⟨h,G⟩
  ·rcases k with k|⟨k,q⟩
   ·left;omega
   ·left;rw[<-k];exact h
  ·rcases k with k|⟨k,q⟩
   ·left;rw[h];exact k
   ·right;exact⟨h.trans k,lE A B E G q⟩
theorem jf:∀a b:LU,a≠b->agU a b=true\/agU b a=true
 |[],[],h=>absurd rfl h
 |[],y::d,_=>.inl rfl
 |x::f,[],_=>.inr rfl
 |x::f,y::d,h=>by
  simp only[agU,ahG,ahH,decide_eq_true_eq,beq_iff_eq];rw[ahE,ahE];by_cases e:x=y
  ·subst e;rcases jf f d (λq=>h (by rw[q]))with c|c
   ·exact .inl (.inr ⟨rfl,c⟩)
   ·exact .inr (.inr ⟨rfl,c⟩)
  ·have:x.toNat≠y.toNat:=λq=>e (UInt8.toNat_inj.1 q);rcases Nat.lt_or_ge x.toNat y.toNat with c|c
   ·exact .inl (.inl c)
   ·exact .inr (.inl ω)
section
variable{R:Rq}{h:af}
abbrev ints(l:List Int):List TV:=l.map (TV.i)
theorem sG:(ctx.ti 3).bytes=8:=κ
theorem MR:(ctx.ti 3).size=1:=κ
theorem Gs:(ctx.ti 3).z.size=1:=κ
end
end Board
namespace Board
abbrev aY(l:List Bool):List TV:=l.map ah3
section
variable{R:Rq}{h:af}
theorem gB{s:Sl}{l:List Int}{i:Int}(e:aj 1 h s (ints l))(q:0<=i)(B:i<l.length){K:Int->Prop}(A:∀x,l[i.toNat]? =some x->K x):
 0<=i/\i<(s.len:Int)/\Nn s.a λ(p:Vc.Loc)=>∃(n:Int),ah h p.b (p.o+i.toNat*1) (.i n)/\K n:=by
 have b:=e.len;rw[ahp]at b;refine e.read q ω λp t f a c=>?_;rw[ahN]at a;obtain⟨x,d,rfl⟩:=aid.1 a;exact⟨x,c,A x d⟩
theorem kD{s:Sl}{l:List Bool}{i:Int}(e:aj 1 h s (aY l))(q:0<=i)(B:i<l.length){K:Bool->Prop}(A:∀x,l[i.toNat]? =some x->K x):
 0<=i/\i<(s.len:Int)/\Nn s.a λ(p:Vc.Loc)=>∃(n:Bool),ah h p.b (p.o+i.toNat*1) (.bool n)/\K n:=by
 have b:=e.len;rw[ahp]at b;refine e.read q ω λp t f a c=>?_;rw[ahN]at a;obtain⟨x,d,rfl⟩:=aid.1 a;exact⟨x,c,A x d⟩
theorem iP{s:Sl}{l:List Int}(e:aj 1 h s (ints l)):l.length=s.len:=by have:=e.len;rwa [ahp]at this
theorem BD{α:Type}{l:List α}{i:Nat}{x:α}(h:l[i]? =some x):l.drop i=x::l.drop (i+1):=by
 obtain⟨a,rfl⟩:=ah0.1 h;exact List.drop_eq_getElem_cons a
end
end Board
namespace Board
theorem wrap_u32(n:Int):agk .u32 n=n%4294967296:=by
 unfold agk;show(if(false&&_)=true then _ else n%2^32)=n%4294967296;simp
def oa(x n:Int):Int:=agk .u32 (↑(agO (agu (agl .u32) (ahr x ((2:Int)^min (aha (agk .u64 n)) (agl .u32)))|||agu (agl .u32) (agk .u32 (x*(2:Int)^min (aha (agk .u64 (agk .i64 ((32:Int)-n)))) (agl .u32))))):Int)
theorem oZ(x:Int)(n:Int)(a b:Nat)
 (q:oa x n=agk .u32 (↑(agO (agu 32 (ahr x ((2:Int)^a))|||agu 32 (agk .u32 (x*(2:Int)^b)))):Int))
 (A:fm x n=agk .u32 (↑(agO (agu 32 (agk .u32 (x*(2:Int)^b))|||agu 32 (ahr x ((2:Int)^a)))):Int)):oa x n=fm x n:=by
 rw[q,A,BitVec.or_comm]
theorem ad8(x:Int):oa x 2=fm x 2:=oZ x 2 2 30 κ κ
theorem Zz(x:Int):oa x 6=fm x 6:=oZ x 6 6 26 κ κ
theorem ad9(x:Int):oa x 7=fm x 7:=oZ x 7 7 25 κ κ
theorem Vm(x:Int):oa x 11=fm x 11:=oZ x 11 11 21 κ κ
theorem abZ(x:Int):oa x 13=fm x 13:=oZ x 13 13 19 κ κ
theorem ab0(x:Int):oa x 17=fm x 17:=oZ x 17 17 15 κ κ
theorem ab1(x:Int):oa x 18=fm x 18:=oZ x 18 18 14 κ κ
theorem ab2(x:Int):oa x 19=fm x 19:=oZ x 19 19 13 κ κ
theorem ab3(x:Int):oa x 22=fm x 22:=oZ x 22 22 10 κ κ
theorem Vn(x:Int):oa x 25=fm x 25:=oZ x 25 25 7 κ κ
theorem J4(A B k:Nat)(q:B<2^k)(E:A*2^k+B<4294967296):((agO (agu 32 ((A*2^k:Nat):Int)|||agu 32 (B:Int)):Nat):Int)=((A*2^k+B:Nat):Int):=by
 rw[BitVec.ofInt_natCast,BitVec.ofInt_natCast,BitVec.toNat_or,BitVec.toNat_ofNat,BitVec.toNat_ofNat,Nat.mod_eq_of_lt ω,Nat.mod_eq_of_lt ω];have:=Nat.shiftLeft_add_eq_or_of_lt q A;rw[Nat.shiftLeft_eq]at this;rw[this]
theorem E4(n:Nat)(h:n<4294967296):agk .u32 (n:Int)=(n:Int):=by
 rw[wrap_u32];omega
theorem ZA(a b c d:Nat)(q:a<256)(A:b<256)(B:c<256)(E:d<256):be a b c d=(((a*256+b)*256+c)*256+d:Nat):=by
 have e:be a b c d=agk .u32 (↑(agO (agu 32 (agk .u32 (↑(agO (agu 32 (agk .u32 (↑(agO (agu 32 (agk .u32 (agk .u32 (a:Int)*2^24))|||agu 32 (agk .u32 (agk .u32 (b:Int)*2^16)))):Int))|||
  agu 32 (agk .u32 (agk .u32 (c:Int)*2^8)))):Int))|||agu 32 (agk .u32 (d:Int)))):Int):=by
  unfold be;kernel_rfl
 have f:agk .u32 (agk .u32 (a:Int)*2^24)=((a*2^24:Nat):Int):=by rw[wrap_u32,wrap_u32];omega
 have g:agk .u32 (agk .u32 (b:Int)*2^16)=((b*2^16:Nat):Int):=by rw[wrap_u32,wrap_u32];omega
 have h:agk .u32 (agk .u32 (c:Int)*2^8)=((c*2^8:Nat):Int):=by rw[wrap_u32,wrap_u32];omega
 rw[e,f,g,h,E4 d ω,J4 a (b*2^16) 24 ω ω,E4 (a*2^24+b*2^16) ω];rw[show a*2^24+b*2^16=(a*256+b)*2^16 by omega,J4 (a*256+b) (c*2^8) 16 ω ω,E4 ((a*256+b)*2^16+c*2^8) ω];rw[show(a*256+b)*2^16+c*2^8=((a*256+b)*256+c)*2^8 by omega,J4 ((a*256+b)*256+c) d 8 ω ω,E4 _ ω]
def grow(n:Int)(b:UInt8):Int:=agk .u32 (agk .u32 (n*256)+agk .u32 (b.toNat:Int))
theorem afE(a b c d:UInt8):grow (grow (grow (grow 0 a) b) c) d=be (a.toNat:Int) (b.toNat:Int) (c.toNat:Int) (d.toNat:Int):=by
 have e:=a.toNat_lt;have f:=b.toNat_lt;have g:=c.toNat_lt;have h:=d.toNat_lt;rw[ZA _ _ _ _ e f g h];unfold grow;simp only[wrap_u32];omega
theorem WB(n q A B E G H I J M:Int)(O:J=agk .u32 (↑(agO (agu (agl agi) (agk agi (↑(agO (agu (agl agi) E^^^agu (agl agi) G)):Int))^^^agu (agl agi) (ahr n ((2:Int)^min (aha (3:Int)) (agl agi))))):Int))
 (R:M=agk .u32 (↑(agO (agu (agl agi) (agk agi (↑(agO (agu (agl agi) H^^^agu (agl agi) I)):Int))^^^agu (agl agi) (ahr q ((2:Int)^min (aha (10:Int)) (agl agi))))):Int)):
 agk .u32 (agk .u32 (agk .u32 (A+B)+J)+M)=ex n q A B E G H I:=by
 unfold ex;rw[<-O,<-R];simp only[wrap_u32];omega
theorem oc{n:Nat}(w:Ws n)(i j:Nat)(c:Int):wd (w.set i c) j=if i=j/\i<n then c else wd w j:=by
 unfold wd agn;simp only[ahL,List.getElem?_set];by_cases h:i=j
 ·subst h;rw[if_pos rfl];by_cases a:i<n
  ·rw[if_pos (by rw[w.h];exact a),if_pos ⟨rfl,a⟩];rfl
  ·rw[if_neg (by rw[w.h];exact a),if_neg (λb=>a b.2),List.getElem?_eq_none (by rw[w.h];omega)]
 ·rw[if_neg h,if_neg (λb=>h b.1)]
theorem sH(v:Ws 8)(j:Nat)(q:0<j)(A:j<8):wd (shift v) j=wd v (j-1):=by
 obtain⟨l,h⟩:=v
 match l,h with
 |[a,b,c,d,e,f,g,k],_=>
  have:j=1\/j=2\/j=3\/j=4\/j=5\/j=6\/j=7:=ω;rcases this with rfl|rfl|rfl|rfl|rfl|rfl|rfl<;>rfl
theorem afF{n:Nat}{a b:Ws n}(h:∀j,j<n->wd a j=wd b j):a=b:=by
 apply Ws.ext';apply List.ext_getElem (by rw[a.h,b.h]);intro j c d;have:=h j (by rw[<-a.h];exact c);unfold wd at this;simpa[ahL,c,d]using this
theorem Tr(w v:Ws 8):∀i j,i<=8->wd (nU w v i) j=if j<i then agk .u32 (wd w j+wd v j)else wd w j
 |0,j,_=>by simp[nU]
 |i+1,j,h=>by
  rw[nU,oc,Tr w v i i ω,Tr w v i j ω,if_neg (Nat.lt_irrefl i)];by_cases a:i=j
  ·subst a;rw[if_pos ⟨rfl,ω⟩,if_pos (Nat.lt_succ_self i)]
  ·rw[if_neg (λb=>a b.1)];by_cases q:j<i
   ·rw[if_pos q,if_pos ω]
   ·rw[if_neg q,if_neg ω]
theorem Ox(w:Ws 64):∀i j,i<=48->j<16+i->∀k,i<=k->k<=48->wd (Ig w k) j=wd (Ig w i) j
 |i,j,_,b,k,c,d=>by
  induction k with
  |zero=>have:i=0:=ω
         subst this;rfl
  |succ k a=>
   by_cases h:i=k+1
   ·subst h;rfl
   ·rw[Ig,oc,if_neg ω];exact a ω ω
theorem ab4(bs:LU)(i j:Nat)(A:j<i)(q:i<=16):wd (DV bs i) j=wd (DV bs 16) j:=by
 have:∀k,i<=k->k<=16->wd (DV bs k) j=wd (DV bs i) j:=by
  intro k
  induction k with
  |zero=>intro a _;have:i=0:=ω
         omega
  |succ k b=>
   intro a c;by_cases h:i=k+1
   ·subst h;rfl
   ·rw[DV,oc,if_neg ω];exact b ω ω
 exact(this 16 q (ahd _)).symm
end Board
namespace Board
section
variable{R:Rq}{h:af}
theorem iB{x n:Int}(q:R (ahy .u32 (oa x n)).val h):Cl 276 [.int .u32 x,.i n] h R:=by
 apply wJ;exact⟨wrap_u64_nonneg _,wrap_u64_nonneg _,q⟩
def adx(bs:LU)(i:Nat):Nat->Int
 |0=>0
 |k+1=>grow (adx bs i k) (bs.getD (4*i+k) 0)
def Part(w:Ws 64)(bs:LU)(i:Nat):Prop:=(∀j,j<i->wd w j=wd (Bx bs) j)/\∀j,i<=j->wd w j=0
theorem ab5(bs:LU)(j:Nat)(q:j<16):wd (Bx bs) j=be (Ie bs (4*j)) (Ie bs (4*j+1)) (Ie bs (4*j+2)) (Ie bs (4*j+3)):=by
 unfold Bx;rw[Ox (DV bs 16) 0 j (ah9 _) ω 48 (ah9 _) (ahd _),Ig,<-ab4 bs (j+1) j (Nat.lt_succ_self j) ω,DV,oc,if_pos ⟨rfl,ω⟩]
theorem ZB(bs:LU)(j:Nat)(A:16<=j)(q:j<64):wd (Bx bs) j=Zt (Bx bs) j:=by
 unfold Bx;obtain⟨i,rfl⟩:∃i,j=16+i:=⟨j-16,ω⟩;have e:=λk a=>Ox (DV bs 16) i k ω a 48 ω (ahd _);rw[Ox (DV bs 16) (i+1) (16+i) ω ω 48 ω (ahd _),Ig,oc,if_pos ⟨rfl,q⟩]
 grind [Zt]
theorem eight(X:Ws 8):agn (agn (agn (agn (agn (agn (agn (agn (ahQ 8) 0 (wd X 0)) 1 (wd X 1)) 2 (wd X 2)) 3 (wd X 3)) 4 (wd X 4)) 5 (wd X 5)) 6 (wd X 6)) 7 (wd X 7)=X:=by
 obtain⟨l,h⟩:=X
 match l,h with
 |[a,b,c,d,e,f,g,k],_=>rfl
theorem ZC(w k:Ws 64)(i:Nat)(v:Ws 8):
 wd (sF w k i v) 0=t0 (wd v 7) (fm (wd v 4) 6) (fm (wd v 4) 11) (fm (wd v 4) 25) (wd v 4) (wd v 5) (wd v 6) (wd k i) (wd w i) (fm (wd v 0) 2) (fm (wd v 0) 13) (fm (wd v 0) 22) (wd v 0) (wd v 1) (wd v 2) (wd v 1) (wd v 2)/\
 wd (sF w k i v) 1=wd v 0/\wd (sF w k i v) 2=wd v 1/\wd (sF w k i v) 3=wd v 2/\
 wd (sF w k i v) 4=t4 (wd v 3) (wd v 7) (fm (wd v 4) 6) (fm (wd v 4) 11) (fm (wd v 4) 25) (wd v 4) (wd v 5) (wd v 6) (wd k i) (wd w i)/\
 wd (sF w k i v) 5=wd v 4/\wd (sF w k i v) 6=wd v 5/\wd (sF w k i v) 7=wd v 6:=by
 unfold sF;refine⟨?_,?_,?_,?_,?_,?_,?_,?_⟩<;>rw[oc,oc]
 ·rfl
 ·rw[if_neg δ,if_neg δ,sH _ _ δ δ]
 ·rw[if_neg δ,if_neg δ,sH _ _ δ δ]
 ·rw[if_neg δ,if_neg δ,sH _ _ δ δ]
 ·rw[if_neg δ,if_pos ⟨rfl,δ⟩,sH _ _ δ δ]
 ·rw[if_neg δ,if_neg δ,sH _ _ δ δ]
 ·rw[if_neg δ,if_neg δ,sH _ _ δ δ]
 ·rw[if_neg δ,if_neg δ,sH _ _ δ δ]
set_option maxHeartbeats 1000000 in
theorem sI{w0:Ws 8}{bs:LU}(hl:bs.length=64)(W:∀J,Ext h J->R (ahD .u32 8 (Bz w0 bs)).val J):Cl 221 [.words .u32 8 w0,.words .u32 64 uw,.str bs] h R:=by
 apply wK;delta Dt Hu dQ aF zL EX cE Wt LO dz Bn Wr ad4 bA;refine aa λh1 v1 Y s1=>aa λC Z K s2=>aa λq v3 D s3=>aa λx v4 y s4=>?_;have va:=((v1.ext K).ext D).ext y;have vb:=(Z.ext D).ext y;have vc:=v3.ext y;have ab:=((Y.trans K).trans D).trans y;refine⟨λi l=>0<=i/\i<=64/\ag (·=q.size) x l/\∃w:Ws 64,Var 293 l q.size (.words .u32 64 w)/\Part w bs i.toNat,λi _=>(64-i).toNat,⟨ahz 0,δ,ahP _ _,ahQ 64,v4,(λj o=>absurd o (by simp)),λj _=>?_⟩,?_⟩
 ·unfold wd ahQ;simp only[ahL,List.getElem?_replicate];split<;>rfl
 rintro i z ⟨E,i1,s,w,r,p1,p2⟩;refine ID (λF=>?_) λF=>?_
 ·have next:∀(l:af)(p:Ws 64),ag (·=q.size) x l->Var 293 l q.size (.words .u32 64 p)->(∀j,j≠i.toNat->wd p j=wd w j)->wd p i.toNat=wd (Bx bs) i.toNat->
   ((0<=i+1/\i+1<=64/\ag (·=q.size) x l/\∃w:Ws 64,Var 293 l q.size (.words .u32 64 w)/\Part w bs (i+1).toNat)/\(64-(i+1)).toNat<(64-i).toNat):=by
   intro l p oh vh hn L;refine⟨⟨ω,ω,oh,p,vh,λj o=>?_,λj o=>?_⟩,ω⟩
   ·grind
   grind
  rw[wrap_i64 (n:=i+1) ω ω];refine ID (λac=>?_) λac=>?_
  ·
   refine⟨λk l=>0<=k/\k<=4/\ag (·=q.size) x l/\∃p:Ws 64,Var 293 l q.size (.words .u32 64 p)/\(∀j,j≠i.toNat->wd p j=wd w j)/\wd p i.toNat=adx bs i.toNat k.toNat,λk _=>(4-k).toNat,
    ⟨ahz 0,δ,s,w,r,(λj _=>rfl),p2 _ (ahd _)⟩,?_⟩
   rintro k v ⟨k0,k1,u,p,v6,q1,G⟩;refine ID (λA=>?_) λA=>?_
   ·rw[wrap_i64 (n:=4*i) ω ω,wrap_i64 ω ω,wrap_i64 ω ω];refine⟨E,ω,_,bF v6 ω,ω,ω,E,ω,pS v6 (i:=i.toNat) ω ω λh7 v7 o7 s7=>?_⟩;refine⟨⟨ω,ω,u.trans o7,_,v7,λj o=>?_,?_⟩,by grind⟩
    ·rw[oc,if_neg (λH=>o H.1.symm)];simp_all
    ·rw[oc,if_pos ⟨rfl,ω⟩,G];have ad:(4*i+k).toNat=4*i.toNat+k.toNat:=ω;have ae:(k+1).toNat=k.toNat+1:=ω;rw[ad,ae];rfl
   ·have al:k.toNat=4:=ω;rw[al]at G;refine next v p u v6 q1 ?_
    rw[G,ab5 bs i.toNat ω];exact afE _ _ _ _
  ·rw[wrap_i64 ω ω,wrap_i64 ω ω,wrap_i64 ω ω,wrap_i64 ω ω];have am:(i-15).toNat=i.toNat-15:=ω;have e2:(i-2).toNat=i.toNat-2:=ω;have ao:(i-16).toNat=i.toNat-16:=ω;have e7:(i-7).toNat=i.toNat-7:=ω;rw[am,e2,ao,e7];refine⟨ω,ω,_,bF r ω,ω,ω,_,bF r ω,ω,ω,_,bF r ω,ω,ω,_,bF r ω,δ,δ,?_⟩;refine iB ⟨_,rfl,ahe _,iB ⟨_,rfl,ahe _,iB ⟨_,rfl,ahe _,iB ⟨_,rfl,ahe _,?_⟩⟩⟩⟩;refine⟨E,ω,pS r (i:=i.toNat) ω ω λv v6 u s6=>?_⟩;refine next v _ (s.trans u) v6 (λj o=>by rw[oc,if_neg (λH=>o H.1.symm)]) ?_
   rw[oc,if_pos ⟨rfl,ω⟩,ZB bs i.toNat ω ω,WB _ _ _ _ _ _ _ _ _ _ rfl rfl]
   grind [ab0,ab2,ad9,ab1,Zt]
 ·have L:=afF λj o=>p1 j ω;subst L;have m:=va.only s ω;have ap:=vb.only s ω;have ar:=vc.only s ω
  refine⟨δ,δ,_,bF m δ,δ,δ,_,bF m δ,δ,δ,_,bF m δ,δ,δ,_,bF m δ,δ,δ,_,bF m δ,
   δ,δ,_,bF m δ,δ,δ,_,bF m δ,δ,δ,_,bF m δ,?_⟩
  refine⟨λσ l=>l=z/\0<=σ.2.2.2.2.2.2.2.2/\σ.2.2.2.2.2.2.2.2<=64/\∃V:Ws 8,V=CC (Bx bs) uw w0 σ.2.2.2.2.2.2.2.2.toNat/\σ.1=wd V 0/\σ.2.1=wd V 1/\σ.2.2.1=wd V 2/\σ.2.2.2.1=wd V 3/\σ.2.2.2.2.1=wd V 4/\σ.2.2.2.2.2.1=wd V 5/\σ.2.2.2.2.2.2.1=wd V 6/\σ.2.2.2.2.2.2.2.1=wd V 7,
   λσ _=>(64-σ.2.2.2.2.2.2.2.2).toNat,⟨rfl,ahz 0,(by decide:(0:Int)<=64),w0,rfl,rfl,rfl,rfl,rfl,rfl,rfl,rfl,rfl⟩,?_⟩
  rintro⟨a,b,c,d,e,f,g,k,j⟩ l ⟨aw,I,j1,V,B,M,N,O,P,Q,S,T,A⟩;obtain rfl:=aw.symm;dsimp only at I j1 B M N O P Q S T A⊢;subst M N O P Q S T A;refine ID (λo=>?_) λo=>?_
  ·rw[wrap_i64 ω ω];refine⟨I,ω,_,bF ap ω,I,ω,_,bF r ω,?_⟩;refine iB ⟨_,rfl,ahe _,iB ⟨_,rfl,ahe _,iB ⟨_,rfl,ahe _,iB ⟨_,rfl,iB ⟨_,rfl,iB ⟨_,rfl,?_⟩⟩⟩⟩⟩⟩;have aE:(j+1).toNat=j.toNat+1:=ω;obtain⟨r0,r1,r2,r3,r4,r5,r6,r7⟩:=ZC (Bx bs) uw j.toNat V;refine⟨⟨by trivial,Ω,Ω,sF (Bx bs) uw j.toNat V,?_,?_,?_,?_,?_,?_,?_,?_,?_⟩,Ω⟩
   ·rw[aE,CC,<-B]
   ·rw[r0,<-Zz,<-Vm,<-Vn,<-ad8,<-abZ,<-ab3];rfl
   ·exact r1.symm
   ·exact r2.symm
   ·exact r3.symm
   ·rw[r4,<-Zz,<-Vm,<-Vn];rfl
   ·exact r5.symm
   ·exact r6.symm
   ·exact r7.symm
  ·have a0:j.toNat=64:=ω;rw[a0]at B
   refine⟨δ,δ,_,bF m δ,δ,δ,_,bF m δ,δ,δ,_,bF m δ,δ,δ,_,bF m δ,δ,δ,_,bF m δ,
    δ,δ,_,bF m δ,δ,δ,_,bF m δ,δ,δ,_,bF m δ,?_⟩
   have U:=eight (Bz w0 bs)
   have sw:∀j,j<8->wd (Bz w0 bs) j=agk .u32 (wd w0 j+wd V j):=λj o=>by
    unfold Bz;rw[Tr _ _ 8 j (ahd _),if_pos o,B]
   rw[sw 0 δ,sw 1 δ,sw 2 δ,sw 3 δ,sw 4 δ,sw 5 δ,sw 6 δ,sw 7 δ]at U;have a1:Ext h z:=aho ab s λi F=>ω
   have a2:∀X:Ws 8,X=Bz w0 bs->gT z C.size 0 8/\Bind (TV.put z C.size 0 (ahD .u32 8 X)) λl=>∃w:Ws 8,jH l C.size 0 .u32 8 w/\R (ahD .u32 8 w).val l:=by
    intro X hX;subst hX;exact aH ar (t:=.words .u32 8 (Bz w0 bs)) bV λv v6 u s6=>⟨_,v6.at,W v (aho a1 u λi F=>ω)⟩
   exact a2 _ U
end
end Board
end Go.Proofs.YtennbinbffdimaaGreat

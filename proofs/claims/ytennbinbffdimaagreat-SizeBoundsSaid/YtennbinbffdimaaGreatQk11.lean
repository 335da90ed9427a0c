/- Texts that the proof needs, joined. -/
import Derived.Test.YtennbinbffdimaaGreatQk10
set_option maxRecDepth 100000
open Go.Vc.Bs renaming zero->alR,set->amJ
open Go.Vc.Sl renaming nil->alS,mk->amo
open List renaming length_map->alT,getElem?_eq_getElem->alW,getElem?_eq_some_iff->al1,length_append->al2,length_take->al4,mem_map->al5,mem_of_getElem?->al8,map_append->al9,getElem?_map->ama,getD_eq_getElem?_getD->amr,take_length->amt,replicate->amu,range->amv,map_cons->amx,take_of_length_le->amA,length_range->amB,length_drop->amC,getElem?_take->amD,map_set->amE,append_assoc->amF,append_nil->amH,map_nil->amI
open Go.Vc.ag renaming cut->alU,an->amm,refl->amw
open Int renaming le_refl->alV,toNat_natCast->amb,toNat->amn
open Go.Vc.ak renaming cells->alX,vals->amp
open Go.IntKind renaming wrap->alY,bits->amj,i64->amG
open Go.Vc.TV renaming bg->alZ,bytes->ame,slice->amh,ptr->amq,bool->ams,size->amy,put->amz
open Go.Vc.Ext renaming refl->al0,push->amd
open Go.Vc.If renaming split->al3,no->amk,yes->aml
open Nat renaming le_trans->al6,le_refl->al7,le_of_eq->amf
open BitVec renaming ofInt->amc
open Array renaming push->amg
open Eq renaming symm->ami
namespace Go.Proofs.YtennbinbffdimaaGreat
open Go Go.Vc
namespace Peers
def vals(L:List (Int×Int)):List Int:=L.map (·.2)
structure Rf(h:af)(b:Nat)(A B:Sl)(L:List (Int×Int))(most bH decay gone:Int):Prop where
 var:Var 189 h b (.agg [.slice A,.slice B,.i most,.i bH,.i decay,.i gone])
 a:Vc.Own 3 1 h A ((keys L).map dL)
 b:Vc.Own 3 1 h B ((vals L).map dL)
 uT:∀i,In A i->¬In B i
def dV(b:Nat)(A B:Sl)(i:Nat):Prop:=i=b\/In A i\/In B i
section
variable{R:Rq}{h h':af}{b:Nat}{A B:Sl}{L:List (Int×Int)}{most bH decay gone:Int}
theorem Rf.only{S:Nat->Prop}(p:Rf h b A B L most bH decay gone)(o:ag S h h')(q:∀i,dV b A B i->¬S i):Rf h' b A B L most bH decay gone:=
 ⟨p.var.only o (q b (.inl rfl)),p.a.only o (λl a=>q _ (.inr (.inl ⟨l,a,rfl⟩))),p.b.only o (λl a=>q _ (.inr (.inr ⟨l,a,rfl⟩))),p.uT⟩
theorem Rf.ext(p:Rf h b A B L most bH decay gone)(e:Ext h h'):Rf h' b A B L most bH decay gone:=p.only (S:=λ_=>False) (amm e) (λ_ _ a=>a)
theorem R4{T:TypeId}{sz:Nat}{s:Sl}{ts:List TV}(o:Vc.Own T sz h s ts){i:Nat}(q:In s i):∃E,h[i]? =some (row E T):=by
 obtain⟨l,a,rfl⟩:=q;rcases o.row with rfl|⟨b,c,d,e,_⟩
 ·cases a
 grind
theorem R5{G H:List Value}{T q:TypeId}(I:h[b]? =some (row G T))(E:h[b]? =some (row H q)):T=q:=by
 rw[I]at E;have:=congrArg (λo=>match o with|some (Obj.cells _ t _)=>t|_=>0) E;simpa[row]using this
theorem Rf.acC(p:Rf h b A B L most bH decay gone):¬In A b:=λa=>by
 obtain⟨d,c⟩:=R4 p.a a;have:=R5 c p.var
 grind
theorem Rf.Uj(p:Rf h b A B L most bH decay gone):¬In B b:=λa=>by
 obtain⟨d,c⟩:=R4 p.b a;have:=R5 c p.var
 grind
theorem Rf.lt(p:Rf h b A B L most bH decay gone){i:Nat}(q:dV b A B i):i<h.size:=by
 rcases q with rfl|⟨l,a,rfl⟩|⟨l,a,rfl⟩
 ·exact p.var.lt
 ·exact p.a.lt l a
 ·exact p.b.lt l a
theorem xH:(vals L).length=L.length:=by simp[vals]
theorem xI:(keys L).length=L.length:=by simp[keys]
theorem Rf.aaL(p:Rf h b A B L most bH decay gone):A.len=L.length:=by have:=p.a.len;simp_all [xI,alT]
theorem Rf.Oo(p:Rf h b A B L most bH decay gone):B.len=L.length:=by have:=p.b.len;simp_all [xH,alT]
def K6(L:List (Int×Int))(k:Int):Int:=match L.findIdx? (λe=>decide (e.1=k))with
 |some i=>i
 |none=>-1
theorem GJ(q:∀h' ok,Ext h h'->Rf h' h.size alS alS [] most bH decay 0->h'.size=h.size+1->(ok=true↔Valid most bH decay)->R (alZ [.ptr (PT h.size),.bool ok]).val h'):
 Cl 94 [.i most,.i bH,.i decay] h R:=by
 apply AJ;obtain⟨b,d,v1,e,f⟩:=DN h (.agg [.slice alS,.slice alS,.i most,.i bH,.i decay,.i 0]) 189;unfold cL;rw[d];have c:=λok=>q b ok e ⟨v1,Vc.Own.nil _ _ _,Vc.Own.nil _ _ _,λi g=>by obtain⟨l,j,_⟩:=g;cases j⟩ f;have no:¬Valid most bH decay->R (alZ [.ptr (PT h.size),.bool false]).val b:=λk=>c false (by grind);unfold Valid at no;refine ID (λm=>ID (λn=>ID (λo=>ID (λp=>ID (λr=>?_) λa=>no ω) λa=>no ω) λa=>no ω) λa=>no ω) λa=>no ω;refine c _ ?_;simp_all [Valid,decide_eq_true_eq]
theorem Pk(p:Rf h b A B L most bH decay gone)(E:L.length<1000000){k:Int}(q:R (TV.i (K6 L k)).val h):Cl 130 [.ptr (PT b),.i k] h R:=by
 apply tq;delta aJ U8 iZ nj gI bK;have x:=p.aaL;refine⟨A,p.var.ah rfl,?_⟩;refine⟨λs m=>0<=s.2/\s.2<=L.length/\m=h/\∀(j:Nat)(e:Int×Int),j<s.2->L[j]? =some e->e.1≠k,λs _=>(L.length-s.2).toNat,⟨by simp,by simp,rfl,λj e c=>ω⟩,?_⟩;rintro⟨u,i⟩ _ ⟨g,n,rfl,d⟩;simp only at g n d⊢;refine ID (λo=>?_) λo=>?_
 ·refine ints_at p.a.elems g (by rw[xI];omega) λl y f r=>⟨y,r,?_⟩;obtain⟨e,a⟩:∃e,L[i.toNat]? =some e:=⟨_,alW ω⟩
  have z:y=e.1:=by
   unfold keys at f;rw[ama,a]at f;exact(Option.some.inj f).symm
  refine ID (λt=>?_) λt=>?_
  ·have:K6 L k=i:=by
    have v:L.findIdx? (λe=>decide (e.1=k))=some i.toNat:=by
     rw[List.findIdx?_eq_some_iff_getElem];obtain⟨w,C⟩:=al1.1 a;refine⟨w,?_,λj c=>?_⟩
     ·simp_all
     ·simp only[decide_eq_true_eq];exact d j _ ω (alW ω)
    grind [K6]
   rw[this]at q;exact q
  grind [wrap_i64]
 ·have:K6 L k=-1:=by
   have v:L.findIdx? (λe=>decide (e.1=k))=none:=by
    rw[List.findIdx?_eq_none_iff];intro e a;obtain⟨j,c,rfl⟩:=List.getElem_of_mem a;simp only[decide_eq_false_iff_not];exact d j _ ω (alW c)
   grind [K6]
  rw[this]at q;exact q
theorem Cg:∀(L:List (Int×Int))(k:Int),(K6 L k<0/\get k L=none)\/(0<=K6 L k/\∃v,L[(K6 L k).toNat]? =some (k,v)/\get k L=some v)
 |[],k=>.inl ⟨by simp[K6],rfl⟩
 |e::L,k=>by
  have a:=Cg L k;unfold K6 at a⊢;rw[List.findIdx?_cons];unfold get
  grind
theorem HO(p:Rf h b A B L most bH decay gone)(E:L.length<1000000){k:Int}(q:R (TV.i (score L k)).val h):Cl 129 [.ptr (PT b),.i k] h R:=by
 apply qp;refine Pk p E ⟨_,rfl,?_⟩;unfold score at q;rcases Cg L k with⟨d,a⟩|⟨d,v,a,e⟩
 ·refine ID (λf=>ω) λ_=>?_;simp_all
 ·refine ID (λ_=>?_) λf=>ω;have j:=(al1.1 a).1;refine⟨B,p.var.ah rfl,?_⟩;refine ints_at p.b.elems d (by rw[xH];omega) λl y c g=>⟨y,g,?_⟩;unfold vals at c;rw[ama,a]at c;cases c;rw[e]at q;exact q
theorem Pm(p:Rf h b A B L most bH decay gone)(q:L.length<1000000)(E:∀k,-1048576<=score L k/\score L k<=0){k:Int}(G:R (ams (decide (bH<=-score L k))).val h):Cl 182 [.ptr (PT b),.i k] h R:=by
 apply oR;refine⟨bH,p.var.ah rfl,HO p q ⟨_,rfl,al0 _,?_⟩⟩;have:=E k;rw[wrap_i64 ω ω];have:0-score L k=-score L k:=ω;rw[this];exact G
def ins(x:Int)(l:List Int):List Int:=l.takeWhile (λy=>decide (y<x))++x::l.dropWhile (λy=>decide (y<x))
theorem wH{s:Sl}{ts:List TV}{i j:Nat}(e:aj 1 h s ts)(q:i<=j)(E:j<=s.len)(G:s.len<=s.cap):aj 1 h (ay s i j 1) ((ts.drop i).take (j-i)):=by
 have g:=e.len;refine⟨by grind [ay,amC,al4],λd=>?_,λl a k t b=>?_⟩
 ·unfold ay at d
  have:ts=[]\/i=j:=by
   split at d
   ·omega
   ·left;cases c:s.a with
    |none=>exact e.nil c
    |some l=>simp_all
  rcases this with rfl|rfl<;>simp_all
 ·unfold ay at a;rw[amD]at b;split at b
  ·rw[List.getElem?_drop]at b;split at a
   ·omega
   ·cases c:s.a with
    |none=>simp_all
    |some f=>
     rw[c]at a;simp only[Option.map_some,Option.some.injEq]at a;subst a;have:=e.get f c (i+k) t b
     grind
  grind
end
end Peers
namespace Peers
section
variable{R:Rq}{h h':af}{b:Nat}{A B:Sl}{L:List (Int×Int)}{most bH decay gone:Int}
theorem uF{C:Ctx}{T:TypeId}{sz:Nat}{t s:Sl}{ts us:List TV}{K:Sl->af->Prop}(H:(C.ti T).size=sz)(Z:(C.ti T).z.size=sz)(I:0<(C.ti T).bytes)(q:0<sz)
 (J:(t.len+s.len)*(C.ti T).bytes<=70368744177664)(ab:t.len=t.cap)(ac:0<s.len)(E:aj sz h t ts)(G:aj sz h s us)(M:∀u∈ts,u.size=sz)(O:∀u∈us,u.size=sz)(U:∀u∈us,u.plain=true)
 (W:∀t' h',Vc.Own T sz h' t' (ts++us)->Ext h h'->(∀l,t'.a=some l->h.size<=l.b)->K t' h'):
 ∃new,cn h s sz new/\(∀v∈new,bU v=true)/\au C T t s.len new h K:=by
 refine⟨alX us,G.cells O q,ak.mJ U,alX ts,?_,J,I,λa=>ω,λa=>ω,λ_ c b=>?_⟩
 ·rw[H];exact E.cells M q
 have d:=E.len;have l2:=G.len;refine W _ _ ⟨λu e=>?_,by simp_all,b,.inr ⟨_,cq (C.ti T).z (c-(t.len+s.len)),rfl,?_,?_⟩⟩ (amd _ _) (λl f=>by grind)
 ·grind
 ·rw[cO,ak.fT]
 grind [je]
theorem zk{l:List Int}:∀u∈l.map dL,u.size=1:=λu a=>by
 obtain⟨x,_,rfl⟩:=al5.1 a;rfl
theorem uK{l:List Int}:∀u∈l.map dL,u.plain=true:=λu a=>by
 obtain⟨x,_,rfl⟩:=al5.1 a;rfl
end
end Peers
namespace Peers
theorem Nn.of{α:Type}{p:Option α}{x:α}(h:p=some x){K:α->Prop}(q:K x):Nn p K:=by rw[h];exact q
section
variable{R:Rq}{h h':af}{b:Nat}{A B:Sl}{L:List (Int×Int)}{most bH decay gone:Int}
def Grown(b:Nat)(A B:Sl)(h:af)(A' B':Sl)(h':af):Prop:=ag (dV b A B) h h'/\∀i,dV b A' B' i->dV b A B i\/h.size<=i
theorem Grown.refl(b:Nat)(A B:Sl)(h:af):Grown b A B h A B h:=⟨amw _ _,λ_ a=>.inl a⟩
theorem Grown.trans{A' B' E G:Sl}{h h' H:af}(g:Grown b A B h A' B' h')(q:Grown b A' B' h' E G H):Grown b A B h E G H:=by
 refine⟨⟨al6 g.1.size q.1.size,λi a d=>?_⟩,λi a=>?_⟩
 ·rw[q.1.same i (Nat.lt_of_lt_of_le a g.1.size) (λe=>by
   rcases g.2 i e with c|c<;>grind),g.1.same i a d]
 ·rcases q.2 i a with c|c
  ·exact g.2 i c
  ·have:=g.1.size;omega
theorem Ch{i:Nat}{e:Int×Int}(h:L[i]? =some e):(keys L)[i]? =some e.1/\(vals L)[i]? =some e.2:=by
 unfold keys vals;simp_all
theorem aaN{i:Nat}{k n m:Int}(h:L[i]? =some (k,n)):keys (L.set i (k,m))=keys L:=by
 unfold keys;rw[amE];apply List.ext_getElem?
 grind
theorem aaO{i:Nat}{k m:Int}:vals (L.set i (k,m))=(vals L).set i m:=by
 simp[vals,amE]
theorem Rf.set(p:Rf h b A B L most bH decay gone){i:Nat}{k n:Int}(q:L[i]? =some (k,n))(m:Int):
 ∃l,B.a=some l/\gT h l.b (l.o+i*1) 1/\∃a,(TV.i m).put h l.b (l.o+i*1)=a/\Rf a b A B (L.set i (k,m)) most bH decay gone/\Grown b A B h A B a:=by
 have e:=(al1.1 q).1;obtain⟨l,f,w,a,g,o,c,v⟩:=Vc.Own.set p.b (t:=.i m) (by rw[alT,xH];exact e) rfl;refine⟨l,f,w,a,g,⟨p.var.only c p.Uj,?_,?_,p.uT⟩,c.mono λj r=>.inr (.inr r),λ_ d=>.inl d⟩
 ·rw[aaN q];exact p.a.only c (λs u d=>p.uT _ ⟨s,u,rfl⟩ d)
 ·rw[aaO,amE];exact o
def Uk:Prop:=∀(R:Rq)(h:af)(b:Nat)(A B:Sl)(L:List (Int×Int))(most bH decay gone:Int)(i:Nat),Rf h b A B L most bH decay gone->L.length<1000->i<L.length->
 (∀h' A' B',Rf h' b A' B' (L.eraseIdx i) most bH decay gone->Grown b A B h A' B' h'->R (alZ []).val h')->Cl 131 [.ptr (PT b),.i (i:Int)] h R
theorem Ul(E:Uk)(p:Rf h b A B L most bH decay gone)(Z:L.length<1000)(G:∀e∈L,-1048576<=e.2/\e.2<0)(ab:1<=decay/\decay<=1048576)
 (H:∀h' A' B',Rf h' b A' B' (tick decay L) most bH decay gone->Grown b A B h A' B' h'->R (alZ []).val h'):Cl 109 [.ptr (PT b)] h R:=by
 apply qS;delta zP wE zO q7 aJ jt cu fP bK aT;have lA:=p.aaL;refine⟨A,p.var.ah rfl,?_⟩;dsimp only;rw[wrap_i64 ω ω];refine⟨λi m=>-1<=i/\i<L.length/\∃A' B',Rf m b A' B' (L.take (i+1).toNat++tick decay (L.drop (i+1).toNat)) most bH decay gone/\Grown b A B h A' B' m,λi _=>(i+1).toNat,⟨ω,ω,A,B,?_,Grown.refl _ _ _ _⟩,?_⟩
 ·simp_all [List.drop_length,amt,tick]
 rintro i m ⟨i0,i1,r,c,a,s⟩;refine ID (λg=>?_) λg=>?_
 ·obtain⟨⟨k,n⟩,D⟩:∃e,L[i.toNat]? =some e:=⟨_,alW ω⟩;have ac:(i+1).toNat=i.toNat+1:=ω
  have j:(L.take (i+1).toNat++tick decay (L.drop (i+1).toNat))[i.toNat]? =some (k,n):=by
   grind
  have F:L.take (i+1).toNat=L.take i.toNat++[(k,n)]:=by grind [List.take_add_one]
  have t:L.drop i.toNat=(k,n)::L.drop (i+1).toNat:=by
   simp_all [List.drop_eq_getElem_cons,al1]
  have ad:=G (k,n) (al8 D);generalize I:L.take (i+1).toNat++tick decay (L.drop (i+1).toNat)=C at a j
  have ae:C.length<=L.length:=by
   grind [amC,BZ,al4,al2]
  have J:=(al1.1 j).1;obtain⟨al,K⟩:=Ch j;have lB:=a.Oo;refine⟨c,a.var.ah rfl,c,a.var.ah rfl,?_⟩;refine ints_at a.b.elems g (by grind) λl y d M=>⟨y,M,?_⟩;rw[K]at d;cases d;rw[wrap_i64 ω ω];obtain⟨l2,N,O,P,Q,f,S⟩:=a.set j (n+decay);refine⟨decay,a.var.ah rfl,g,ω,Nn.of N ⟨O,?_⟩⟩;dsimp only[Nat.add_zero];rw[wrap_i64 ω ω,Q];have T:(C.set i.toNat (k,n+decay))[i.toNat]? =some (k,n+decay):=by simp_all
  obtain⟨_,U⟩:=Ch T;refine⟨c,f.var.ah rfl,?_⟩;refine ints_at f.b.elems g (by grind) λl3 y d V=>⟨y,V,?_⟩;rw[U]at d;cases d;have u:=s.trans S
  have v:C.set i.toNat (k,n+decay)=L.take i.toNat++(k,n+decay)::tick decay (L.drop (i+1).toNat):=by
   rw[<-I,F,amF];have o:(L.take i.toNat).length=i.toNat:=by grind
   rw[List.set_append_right _ _ ω,o,Nat.sub_self];rfl
  have w:(i-1+1).toNat=i.toNat:=ω;refine ID (λq=>?_) λq=>?_
  ·have x:i=(i.toNat:Nat):=ω;rw[x];refine E _ P b r c _ most bH decay gone i.toNat f (by rw[List.length_set];omega) (by rw[List.length_set];exact J) λh3 W X z Y=>⟨rfl,?_⟩;rw[<-x];refine⟨⟨ω,ω,W,X,?_,u.trans Y⟩,Ω⟩;rw[w]
   have:(C.set i.toNat (k,n+decay)).eraseIdx i.toNat=L.take i.toNat++tick decay (L.drop i.toNat):=by
    rw[v,t];have o:(L.take i.toNat).length=i.toNat:=by simp only[al4];omega
    rw[List.eraseIdx_append_of_length_le ω,o,Nat.sub_self,List.eraseIdx_cons_zero];congr 1;unfold tick yW;rw[List.filterMap_cons,if_pos (by simpa using q)]
   rw[this]at z;exact z
  ·refine⟨⟨ω,ω,r,c,?_,u⟩,Ω⟩;rw[w]
   have:C.set i.toNat (k,n+decay)=L.take i.toNat++tick decay (L.drop i.toNat):=by
    rw[v,t];congr 1;unfold tick yW;rw[List.filterMap_cons,if_neg (by simpa using q)]
   rw[this]at f;exact f
 ·have:(i+1).toNat=0:=ω;rw[this]at a;simp only[List.take_zero,List.nil_append,List.drop_zero]at a;exact H _ _ _ a s
theorem VQ:∀{L:List (Int×Int)}{i:Nat}{k v w:Int},L[i]? =some (k,v)->(keys L).Nodup->put k w L=L.set i (k,w)
 |[],i,k,v,w,h,_=>by grind
 |e::L,0,k,v,w,h,_=>by
  simp only[List.getElem?_cons_zero,Option.some.injEq]at h;subst h;simp[put]
 |e::L,i+1,k,v,w,h,b=>by
  have a:e.1∉keys L/\(keys L).Nodup:=by simp_all [keys]
  simp only[List.getElem?_cons_succ]at h;have c:k∈keys L:=al5.2 ⟨_,al8 h,rfl⟩;unfold put;rw[if_neg (λd=>a.1 (by simp_all)),VQ h a.2];rfl
theorem VR:∀{L:List (Int×Int)}{k w:Int},k∉keys L->put k w L=L++[(k,w)]
 |[],k,w,_=>rfl
 |e::L,k,w,h=>by
  simp only[keys,amx,List.mem_cons,not_or]at h;unfold put;rw[if_neg h.1,VR h.2];rfl
theorem Ns:∀{L:List (Int×Int)}{k v w:Int},put k w (put k v L)=put k w L
 |[],k,v,w=>by simp[put]
 |e::L,k,v,w=>by
  have a:=Ns (L:=L) (k:=k) (v:=v) (w:=w);simp only[put];by_cases h:k=e.1
  ·rw[if_pos h,if_pos h];simp[put,h]
  ·rw[if_neg h,if_neg h];simp only[put,if_neg h,a]
theorem Ld:∀{L:List (Int×Int)}{i:Nat}{k v:Int},L[i]? =some (k,v)->(keys L).Nodup->drop k L=L.eraseIdx i
 |[],i,k,v,h,_=>by rfl
 |e::L,0,k,v,h,_=>by
  simp only[List.getElem?_cons_zero,Option.some.injEq]at h;subst h;simp[drop]
 |e::L,i+1,k,v,h,b=>by
  have a:e.1∉keys L/\(keys L).Nodup:=by simp_all [keys]
  simp only[List.getElem?_cons_succ]at h;have c:k∈keys L:=al5.2 ⟨_,al8 h,rfl⟩;unfold drop;rw[if_neg (λd=>a.1 (by simp_all)),Ld h a.2];rfl
theorem Nt{A A':Sl}{h:af}(q:∀l,A'.a=some l->(∃a,A.a=some a/\a.b=l.b)\/h.size<=l.b){i:Nat}(E:In A' i):In A i\/h.size<=i:=by
 obtain⟨l,b,rfl⟩:=E;rcases q l b with⟨a,c,d⟩|e
 ·exact .inl ⟨a,c,d⟩
 omega
theorem Le(hd:Uk)(p:Rf h b A B L most bH decay gone)(q:L.length<900)(hG:Good L){k pts:Int}(_hk:(Lit.int .i64 k).wf=true)(b8:0<=gone/\gone<1000000)(hm:1<=most)
 (hr:∀h' A' B' L' g,lN most L k pts L' g->Rf h' b A' B' L' most bH decay (gone+g)->Grown b A B h A' B' h'->R (alZ []).val h'):Cl 55 [.ptr (PT b),.i k,.i pts] h R:=by
 apply qT;delta q7 aJ wv iZ cu jX fP cE gI bK aT bA;refine ID (λhp=>hr h A B L 0 (.inl ⟨hp,rfl,rfl⟩) (by simp_all) (Grown.refl _ _ _ _)) λhp=>?_;intro J hJ
 have last:∀(r:af)(D u:Sl)(M:List (Int×Int))(g:Int),Rf r b D u M most bH decay (gone+g)->Grown b A B h D u r->M.length<1000->(keys M).Nodup->k∈keys M->(-1048576<=score M k/\score M k<=0)->
  lN most L k pts (put k (lower (score M k) pts) M) g->J PUnit.unit r:=by
  intro r D u M g d g1 bd ac ao bi z;refine hJ _ _ ?_;refine Pk d ω ⟨_,rfl,?_⟩;rcases Cg M k with⟨_,a⟩|⟨n0,v,V,b9⟩
  ·exact absurd ao (get_none.1 a)
  have bj:score M k=v:=by simp_all [score]
  rw[bj]at bi z;generalize K6 M k=n at*;have bk:=(al1.1 V).1;obtain⟨_,a3⟩:=Ch V;have lB:=d.Oo;refine⟨u,d.var.ah rfl,?_⟩;refine ints_at d.b.elems n0 (by grind) λl y E F=>⟨y,F,?_⟩;rw[a3]at E;cases E;rw[wrap_i64 ω ω]
  have done:∀m,m=lower v pts->∃l,u.a=some l/\gT r l.b (l.o+n.toNat*1) 1/\R (alZ []).val ((TV.i m).put r l.b (l.o+n.toNat*1)):=by
   rintro m rfl;obtain⟨l2,X,G,N,e2,p2,g2⟩:=d.set V (lower v pts);refine⟨l2,X,G,?_⟩;rw[e2];rw[VQ V ac]at z;exact hr N D u _ g z p2 (g1.trans g2)
  refine ID (λca=>?_) λcd=>?_
  ·obtain⟨l2,X,G,hR⟩:=done (-1048576) (by grind [mn,lower,mx]);exact⟨u,d.var.ah rfl,n0,ω,Nn.of X ⟨G,hR⟩⟩
  ·obtain⟨l2,X,G,hR⟩:=done (v-pts) (by grind [mn,lower,mx]);refine⟨u,d.var.ah rfl,u,d.var.ah rfl,?_⟩;refine ints_at d.b.elems n0 (by grind) λl3 y E bl=>⟨y,bl,?_⟩;rw[a3]at E;cases E;rw[wrap_i64 ω ω];exact⟨n0,ω,Nn.of X ⟨G,hR⟩⟩
 refine Pk p ω ⟨_,rfl,?_⟩;refine ID (λce=>?_) λcf=>?_
 ·have ad:k∉keys L:=by
   grind [get_none,Cg]
  intro J2 bm;have lA:=p.aaL
  have more:∀(r:af)(D u:Sl)(M:List (Int×Int))(g:Int),Rf r b D u M most bH decay (gone+g)->Grown b A B h D u r->M.length<900->(keys M).Nodup->k∉keys M->lN most L k pts (put k (lower 0 pts) M) g->J2 PUnit.unit r:=by
   intro r D u M g d g1 bd ac ao z;refine bm _ _ ?_;have ch:=d.aaL;have ci:=d.Oo;refine⟨D,d.var.ah rfl,?_⟩;refine cD rfl rfl δ (by show(D.len+1)*8<=_;omega) d.a rfl rfl λO N o2 G b2=>?_;have v2:=d.var.only G d.acC;have bo:=d.b.only G (λl q a=>d.uT _ a ⟨l,q,rfl⟩);have cj:=d.var.lt;obtain⟨w3,P,e3,v3,o3,s3⟩:=Cy (i:=0) v2 (by simp[amy]) (by simp) (t:=.slice O) rfl;refine⟨w3,?_⟩;rw[e3];have ap:∀i,In O i->In D i\/r.size<=i:=λi c=>Nt b2 c
   have a4:¬In O b:=λa=>by
    rcases ap _ a with o|o
    ·exact d.acC o
    ·omega
   have a5:=o2.only o3 (λl q a=>a4 ⟨l,q,a⟩);have bp:=bo.only o3 (λl q a=>d.Uj ⟨l,q,a⟩);refine⟨u,v3.ah rfl,?_⟩;refine cD (C:=ctx) (T:=3) (x:=.i 0) rfl rfl δ (by show(u.len+1)*8<=_;omega) bp rfl rfl λW h4 Y Z b4=>?_;have v4:=v3.only Z d.Uj;have cl:=G.size;have ar:∀i,In W i->In u i\/P.size<=i:=λi c=>Nt b4 c
   have a6:∀i,In O i->¬In u i:=λi c a=>by
    rcases ap i c with o|o
    ·exact d.uT i o a
    ·have:=d.lt (.inr (.inr a));omega
   have br:=a5.only Z (λl q a=>a6 _ ⟨l,q,rfl⟩ a);obtain⟨w5,h5,e5,v5,o5,s5⟩:=Cy (i:=1) v4 (by simp[amy]) (by simp) (t:=.slice W) rfl;refine⟨w5,?_⟩;rw[e5]
   have bt:¬In W b:=λa=>by
    rcases ar _ a with o|o
    ·exact d.Uj o
    ·omega
   have bx:∀i,In O i->i<P.size:=λi c=>by
    obtain⟨l,q,rfl⟩:=c;exact a5.lt l q
   have p5:Rf h5 b O W (M++[(k,0)]) most bH decay (gone+g):=by
    refine⟨v5,?_,?_,λi c a=>?_⟩
    ·have:(keys (M++[(k,0)])).map dL=(keys M).map dL++[.i k]:=by simp[keys,dL]
     rw[this];exact br.only o5 (λl q a=>a4 ⟨l,q,a⟩)
    ·have:(vals (M++[(k,0)])).map dL=(vals M).map dL++[.i 0]:=by simp[vals,dL]
     rw[this];exact Y.only o5 (λl q a=>bt ⟨l,q,a⟩)
    ·rcases ar i a with o|o
     ·exact a6 i c o
     ·have:=bx i c;omega
   have gg:Grown b D u r O W h5:=by
    refine⟨((G.mono λi c=>.inr (.inl c)).trans ((o3.mono λi c=>.inl c).trans ((Z.mono λi c=>.inr (.inr c)).trans (o5.mono λi c=>.inl c)))),λi c=>?_⟩;rcases c with rfl|c|c
    ·exact .inl (.inl rfl)
    ·rcases ap i c with o|o
     ·exact .inl (.inr (.inl o))
     ·exact .inr o
    ·rcases ar i c with o|o
     ·exact .inl (.inr (.inr o))
     ·right;omega
   have aw:=VR (w:=(0:Int)) ao;have a7:=Kw ac k 0;rw[aw]at a7
   have ae:score (M++[(k,0)]) k=0:=by
    rw[<-aw];unfold score;rw[acs ac,if_pos rfl];rfl
   refine last h5 O W _ g p5 (g1.trans gg) (by simp;omega) a7 (by simp[keys]) (by rw[ae];omega) ?_;rw[ae,<-aw,Ns];exact z
  refine⟨A,p.var.ah rfl,most,p.var.ah rfl,?_⟩;refine ID (λcp=>?_) λcs=>?_
  ·refine⟨A,p.var.ah rfl,?_⟩;have lB:=p.Oo;have ct:0<L.length:=ω
   refine⟨λs hh=>0<=s.2/\s.2<=L.length/\hh=h/\0<=s.1/\s.1<max s.2 1/\(∀(e f:Int×Int)(j:Nat),L[s.1.toNat]? =some e->(j:Int)<s.2->L[j]? =some f->e.2<f.2\/e.2=f.2/\e.1<=f.1),
    λs _=>((L.length:Int)-s.2).toNat,⟨alV _,Int.natCast_nonneg _,rfl,alV _,δ,λe f j _ hj _=>by have:(j:Int)<0:=hj;omega⟩,?_⟩
   rintro⟨w,i⟩ h0 ⟨i0,i1,rfl,w0,w1,al⟩;simp only at i0 i1 w0 w1 al⊢;refine ID (λc=>?_) λc=>?_
   ·obtain⟨⟨ki,vi⟩,am⟩:∃e,L[i.toNat]? =some e:=⟨_,alW ω⟩;obtain⟨⟨H,I⟩,Q⟩:∃e,L[w.toNat]? =some e:=⟨_,alW ω⟩;obtain⟨a8,aE⟩:=Ch am;obtain⟨a9,a0⟩:=Ch Q;dsimp only at a8 aE a9 a0
    have rv:∀{i:Int}{v:Int}{K:Go.Vc.Loc->Prop},0<=i->i<L.length->(vals L)[i.toNat]? =some v->(∀l,ah h0 l.b (l.o+i.toNat*1) (.i v)->K l)->0<=i/\i<(B.len:Int)/\Nn B.a K:=λr N P hK=>
     ints_at p.b.elems r (by rw[xH];exact N) λl y E F=>by rw[P]at E;cases E;exact hK l F
    have rk:∀{i:Int}{v:Int}{K:Go.Vc.Loc->Prop},0<=i->i<L.length->(keys L)[i.toNat]? =some v->(∀l,ah h0 l.b (l.o+i.toNat*1) (.i v)->K l)->0<=i/\i<(A.len:Int)/\Nn A.a K:=λr N P hK=>
     ints_at p.a.elems r (by rw[xI];exact N) λl y E F=>by rw[P]at E;cases E;exact hK l F
    have a1:w<L.length:=ω;have a2:i<L.length:=ω
    have a':vi<I\/(vi=I/\ki<H)->((0<=i+1/\i+1<=(L.length:Int)/\True/\0<=i/\i<max (i+1) 1/\(∀(e f:Int×Int)(j:Nat),L[i.toNat]? =some e->(j:Int)<i+1->L[j]? =some f->e.2<f.2\/e.2=f.2/\e.1<=f.1))/\((L.length:Int)-(i+1)).toNat<((L.length:Int)-i).toNat):=by
     intro hb;refine⟨⟨ω,ω,trivial,i0,ω,λe f j S hj z=>?_⟩,ω⟩;rw[am]at S;cases S;by_cases b0:(j:Int)=i
     ·have:j=i.toNat:=ω;rw[this,am]at z;cases z;exact .inr ⟨rfl,alV _⟩
     ·have:=al (H,I) f j Q ω z;simp only at this⊢;omega
    have ba:¬(vi<I\/(vi=I/\ki<H))->((0<=i+1/\i+1<=(L.length:Int)/\True/\0<=w/\w<max (i+1) 1/\(∀(e f:Int×Int)(j:Nat),L[w.toNat]? =some e->(j:Int)<i+1->L[j]? =some f->e.2<f.2\/e.2=f.2/\e.1<=f.1))/\((L.length:Int)-(i+1)).toNat<((L.length:Int)-i).toNat):=by
     intro hb;refine⟨⟨ω,ω,trivial,w0,ω,λe f j S hj z=>?_⟩,ω⟩;by_cases b0:(j:Int)=i
     ·have:j=i.toNat:=ω;rw[this,am]at z;cases z;rw[Q]at S;cases S;simp only;omega
     ·exact al e f j S ω z
    rw[wrap_i64 (n:=i+1) ω ω];refine⟨B,p.var.ah rfl,rv i0 a2 aE λl F=>⟨vi,F,B,p.var.ah rfl,rv w0 a1 a0 λl2 ab=>⟨I,ab,?_⟩⟩⟩;refine ID (λb1=>a' (.inl b1)) λbk=>?_;refine⟨B,p.var.ah rfl,rv i0 a2 aE λl F=>⟨vi,F,B,p.var.ah rfl,rv w0 a1 a0 λl2 ab=>⟨I,ab,?_⟩⟩⟩;refine ID (λheq=>?_) λcw=>ba ω;refine⟨A,p.var.ah rfl,rk i0 a2 a8 λl F=>⟨ki,F,A,p.var.ah rfl,rk w0 a1 a9 λl2 ab=>⟨H,ab,?_⟩⟩⟩;exact ID (λhkl=>a' (.inr ⟨heq,hkl⟩)) λcx=>ba ω
   ·obtain⟨⟨H,I⟩,Q⟩:∃e,L[w.toNat]? =some e:=⟨_,alW ω⟩;have b3:w=((w.toNat:Nat):Int):=ω
    have bb:rI L H:=by
     refine⟨al5.2 ⟨_,al8 Q,rfl⟩,λx a=>?_⟩;obtain⟨⟨x1,x2⟩,hm,rfl⟩:=al5.1 a;obtain⟨j,hj,b5⟩:=List.getElem_of_mem hm;have o:=al (H,I) (x1,x2) j Q ω (by rw[alW hj,b5]);have s1:score L H=I:=by unfold score;rw[(get_mem hG.one).2 (al8 Q)];rfl
     have s2:score L x1=x2:=by unfold score;rw[(get_mem hG.one).2 hm];rfl
     rw[s1,s2];exact o
    rw[b3];refine hd _ h0 b A B L most bH decay gone w.toNat p ω ω λP A3 B3 U g3=>⟨rfl,gone,U.var.ah rfl,?_⟩;obtain⟨Z,h4,e4,v4,Y,s4⟩:=Cy (i:=5) (t:=.i (gone+1)) U.var (by simp[amy]) (by simp) rfl;refine⟨Z,?_⟩;rw[wrap_i64 (n:=gone+1) ω ω];have b6:(TV.i (gone+1)).put P b (0+5)=h4:=e4;rw[b6];have b7:=Ld Q hG.one;rw[<-b7]at U
    have p4:Rf h4 b A3 B3 (drop H L) most bH decay (gone+1):=
     ⟨v4,U.a.only Y (λl q a=>U.acC ⟨l,q,a⟩),U.b.only Y (λl q a=>U.Uj ⟨l,q,a⟩),U.uT⟩
    have cy:=drop_length bb.1
    refine more h4 A3 B3 _ 1 p4 (g3.trans ⟨Y.mono λi c=>.inl c,λ_ c=>.inl c⟩) ω (r_ hG.one _) (λa=>ad (by
     obtain⟨e,S,N⟩:=al5.1 a;exact al5.2 ⟨e,((kZ hG.one).1 S).1,N⟩)) (.inr (.inr ⟨ω,ad,ω,rfl,H,bb,rfl⟩))
  ·have ae:score L k=0:=by unfold score;rw[get_none.2 ad];rfl
   refine more h A B L 0 (by simpa using p) (Grown.refl _ _ _ _) q hG.one ad (.inr (.inl ⟨ω,.inr ω,rfl,?_⟩));rw[ae]
 ·have bc:k∈keys L:=by
   rcases Cg L k with⟨r,_⟩|⟨_,v,V,_⟩
   ·omega
   ·exact al5.2 ⟨_,al8 V,rfl⟩
  exact last h A B L 0 (by simpa using p) (Grown.refl _ _ _ _) ω hG.one bc (CN hG k) (.inr (.inl ⟨ω,.inl bc,rfl,rfl⟩))
end
end Peers
section
set_option linter.unusedVariables false
def Pn(p:OL)(i:Int)(off:Nat)(h:af)(K:af->Prop):Prop:=
 Nn p λ(l:Go.Vc.Loc)=>
 ∃(s:Sl),ah h l.b (l.o+off) (bu s)/\0<=i/\i<=(s.cap:Int)/\
 Nn p λ(l:Go.Vc.Loc)=>
 ∃(a:Sl),ah h l.b (l.o+off) (bu a)/\0<=alY amG (i+1)/\alY amG (i+1)<=(a.len:Int)/\
 Ext h (amg h (row (alX []) 3))/\
 ∃(new:List Value),cn (amg h (row (alX []) 3)) (ay s 0 (amn i) 1) 1 new/\(∀(v:Value),v∈new->bU v=true)/\
 au ctx 3 (amo (some (Loc.mk (Array.size h) 0)) 0 0) (ay s 0 (amn i) 1).len new (amg h (row (alX []) 3)) λ(d:Sl)(b:af)=>
 Ext (amg h (row (alX []) 3)) b/\
 ∃(new:List Value),cn b (ay a (amn (alY amG (i+1))) a.len 1) 1 new/\(∀(v:Value),v∈new->bU v=true)/\
 au ctx 3 d (ay a (amn (alY amG (i+1))) a.len 1).len new b λ(e:Sl)(c:af)=>
 Nn p λ(l:Go.Vc.Loc)=>gT c l.b (l.o+off) 1/\K (amz c l.b (l.o+off) (amh e))
def gP(p:OL)(i:Int)(h:af)(q:Rq):Prop:=
 Pn p i 0 h λh=>Pn p i 1 h λh=>q (TV.val (alZ [])) h
theorem qU(p:OL)(i:Int)(h:af)(q:Rq)(H:gP p i h q):bC Tryz.prog 131 (amp [amq p,TV.i i]) h q:=
 DM (C:=ctx) bP (fn:=Tryz.f131) Tryz.func131 ((by kernel_rfl:gP p i h q=Qm ctx Tryz.f131 [amq p,TV.i i] h q)▸H)
end
namespace Peers
section
variable{R:Rq}{h h':af}{b r:Nat}{A B:Sl}{L:List (Int×Int)}{most bH decay gone:Int}
theorem HP{off i:Nat}{l:List Int}{ts:List TV}{K:af->Prop}(v:Var 189 h b (.agg ts))(E:∀t∈ts,t.size=1)(G:ts[off]? =some (.slice A))(o:Vc.Own 3 1 h A (l.map dL))(_hnb:¬In A b)(hi:i<l.length)(hl:l.length<1000000)
 (M:∀h' A',Var 189 h' b (.agg (ts.set off (.slice A')))->Vc.Own 3 1 h' A' ((l.eraseIdx i).map dL)->ag (·=b) h h'->(∀j,In A' j->h.size<=j)->K h'):Pn (PT b) (i:Int) off h K:=by
 have p:ah h b (0+off) (bu A):=by
  rw[Nat.zero_add];refine v.ah ?_;have:=ak.rU (sz:=1) ts off 0 (.slice A) E G δ;simpa[TV.cells]using this
 have L:=o.len;rw[alT]at L;have r:=o.cap;have c:=amd h (row (alX []) 3);have N:=Vc.Own.new (T:=3) (sz:=1) h [] (by simp);have s:=o.ext c;unfold Pn;rw[wrap_i64 (n:=(i:Int)+1) ω ω];have O:((i:Int)+1).toNat=i+1:=ω;have P:((i:Int)).toNat=i:=rfl;rw[O,P];refine⟨A,p,ω,ω,A,p,ω,ω,c,?_⟩;have u:=wH (i:=0) (j:=i) s.elems ω ω r;have Q:((l.map dL).drop 0).take (i-0)=(l.take i).map dL:=by simp[List.map_take]
 rw[Q]at u;refine oW (C:=ctx) (T:=3) (t:=amo (some (Loc.mk h.size 0)) 0 0) rfl rfl δ δ (by show(0+(ay A 0 i 1).len)*8<=_;simp only[ay];omega) N u zk uK λw h2 x R _ S=>?_;have d:=R rfl;refine⟨d,?_⟩;have y:=wH (i:=i+1) (j:=A.len) (s.ext d).elems ω (al7 _) r
 have U:((l.map dL).drop (i+1)).take (A.len-(i+1))=(l.drop (i+1)).map dL:=by
  rw[amA (by simp only[amC,alT];omega),List.map_drop]
 rw[U]at y;have l2:=x.len;simp only[List.nil_append,alT,al4]at l2;refine oW (C:=ctx) (T:=3) rfl rfl δ δ (by show(w.len+(ay A (i+1) A.len 1).len)*8<=_;simp only[ay];omega) x y zk uK λe f V _ W X=>?_
 have z:∀j,In w j->h.size<=j:=λj g=>by
  obtain⟨q,a,rfl⟩:=g;rcases S q a with⟨B,k,m⟩|D
  ·cases k;rw[<-m];exact al7 _
  ·have:=c.size;omega
 have F:Ext h f:=alU (c.trans d) W (by rintro j ⟨q,a,rfl⟩;exact z _ ⟨q,a,rfl⟩);have ad:=v.lt;obtain⟨Y,H,Z,v4,I,s4⟩:=Cy (i:=off) (v.ext F) E (al1.1 G).1 (t:=.slice e) rfl
 have J:∀j,In e j->h.size<=j:=λj g=>by
  obtain⟨q,a,rfl⟩:=g;rcases X q a with⟨B,k,m⟩|D
  ·rw[<-m];exact z _ ⟨B,k,rfl⟩
  ·have:=(c.trans d).size;omega
 have ab:(amh e).put f b (0+off)=H:=by rw[Nat.zero_add];exact Z
 have ac:gT f b (0+off) 1:=by rw[Nat.zero_add];exact Y
 refine⟨ac,?_⟩;rw[ab];refine M H e v4 ?_ ((amm F).trans I) J
 have:(l.eraseIdx i).map dL=[]++(l.take i).map dL++(l.drop (i+1)).map dL:=by
  rw[List.eraseIdx_eq_take_drop_succ,al9,List.nil_append]
 rw[this];exact V.only I (λq a D=>by have:=J _ ⟨q,a,rfl⟩;omega)
theorem Um(i:Nat):keys (L.eraseIdx i)=(keys L).eraseIdx i:=by
 unfold keys;rw[ChangeMaps.map_eraseIdx]
theorem Un(i:Nat):vals (L.eraseIdx i)=(vals L).eraseIdx i:=by
 unfold vals;rw[ChangeMaps.map_eraseIdx]
theorem Po:Uk:=by
 intro R h b A B L most bH decay gone i p D g s;apply qU;unfold gP;refine HP (off:=0) (l:=keys L) p.var (by simp[amy]) rfl p.a p.acC (by rw[xI];exact g) (by rw[xI];omega) λe k t m f n=>?_;have E:=p.var.lt;have u:=p.b.only f (λq c d=>p.Uj ⟨q,c,d⟩);refine HP (off:=1) (l:=vals L) t (by simp[amy]) rfl u p.Uj (by rw[xH];exact g) (by rw[xH];omega) λv w x y o r=>?_
 have z:∀j,In k j->j<e.size:=λj a=>by
  obtain⟨q,c,rfl⟩:=a;exact m.lt q c
 refine s v k w ⟨x,?_,?_,λj a d=>?_⟩ ⟨(f.mono λj a=>.inl a).trans (o.mono λj a=>.inl a),λj a=>?_⟩
 ·rw[Um];exact m.only o (λq c d=>by have:=n _ ⟨q,c,rfl⟩;omega)
 ·rw[Un];exact y
 ·have C:=z j a;have e:=r j d;omega
 ·rcases a with rfl|a|a
  ·exact .inl (.inl rfl)
  ·exact .inr (n j a)
  ·right;have C:=r j a;have e:=f.size;omega
theorem Ci{G L' H:List (Int×Int)}{k pts g I:Int}(q:L.Perm G)(E:(keys L).Nodup)(f:lN most L k pts L' g)(f2:lN most G k pts H I):L'.Perm H/\g=I:=by
 have h:k∈keys L↔k∈keys G:=(q.map (·.1)).mem_iff;have l:=q.length_eq;rcases f with⟨a,rfl,rfl⟩|⟨a,b,rfl,rfl⟩|⟨a,b,c,rfl,w,i,rfl⟩
 ·rcases f2 with⟨_,rfl,rfl⟩|⟨e,_⟩|⟨e,_⟩
  ·exact⟨q,rfl⟩
  ·omega
  ·omega
 ·rcases f2 with⟨e,_⟩|⟨_,_,rfl,rfl⟩|⟨_,d,m,_⟩
  ·omega
  ·rw[<-oL q E];exact⟨RC q E _ _,rfl⟩
  ·rcases b with b|b
   ·exact absurd (h.1 b) d
   ·omega
 ·rcases f2 with⟨e,_⟩|⟨_,d,_⟩|⟨_,_,_,rfl,n,j,rfl⟩
  ·omega
  ·rcases d with d|d
   ·exact absurd (h.2 d) b
   ·omega
  ·have:=(i.perm q E).unique j;subst this;exact⟨RC (Nf q E _) (r_ E _) _ _,rfl⟩
theorem Good.perm{E:List (Int×Int)}(g:Good L)(q:L.Perm E):Good E:=
 ⟨(q.map _).nodup_iff.1 g.one,λk a=>g.fit k ((q.map (·.1)).mem_iff.2 a),λe b=>g.low e (q.mem_iff.2 b)⟩
end
end Peers
namespace Gate
open Board (Vd Cf jx)
open Pool (It RL fq)
open Peers (Rf)
section
variable{h h':af}{b m n:Nat}{N:List Nd}{most quota bH decay gone:Int}{t:Tb}{M:List It}{P:List (Int×Int)}{S Q:Nat->Prop}
def zl(h:af)(m:Nat)(N:List Nd)(most:Int)(S:Nat->Prop):Prop:=∃A B D,RT h m A B D N most/\S=Dx m A B D
def HQ(h:af)(b:Nat)(t:Tb)(n:Nat)(S:Nat->Prop):Prop:=∃a c Ha d,Lx h b a c Ha d t n/\S=jP b a c Ha d
def zm(h:af)(m:Nat)(M:List It)(most quota:Int)(S:Nat->Prop):Prop:=∃A,RL h m A M most quota/\S=λi=>i=m\/In A i
def Uo(h:af)(b:Nat)(P:List (Int×Int))(most bH decay gone:Int)(S:Nat->Prop):Prop:=∃A B,Rf h b A B P most bH decay gone/\S=Peers.dV b A B
theorem zl.only(p:zl h m N most S)(f:ag Q h h')(q:∀i,S i->¬Q i):zl h' m N most S:=by
 obtain⟨A,B,D,p,rfl⟩:=p;exact⟨A,B,D,p.only f q,rfl⟩
theorem HQ.only(p:HQ h b t n S)(f:ag Q h h')(q:∀i,S i->¬Q i):HQ h' b t n S:=by
 obtain⟨a,c,Ha,d,p,rfl⟩:=p;exact⟨a,c,Ha,d,p.only f q,rfl⟩
theorem zm.only(p:zm h m M most quota S)(f:ag Q h h')(q:∀i,S i->¬Q i):zm h' m M most quota S:=by
 obtain⟨A,p,rfl⟩:=p;exact⟨A,p.only f (q m (.inl rfl)) λl a=>q l.b (.inr ⟨l,a,rfl⟩),rfl⟩
theorem Uo.only(p:Uo h b P most bH decay gone S)(f:ag Q h h')(q:∀i,S i->¬Q i):Uo h' b P most bH decay gone S:=by
 obtain⟨A,B,p,rfl⟩:=p;exact⟨A,B,p.only f q,rfl⟩
theorem zl.lt(p:zl h m N most S):∀i,S i->i<h.size:=by
 obtain⟨A,B,D,p,rfl⟩:=p;exact λi a=>p.lt a
theorem HQ.lt(p:HQ h b t n S):∀i,S i->i<h.size:=by
 obtain⟨c,d,Ha,e,p,rfl⟩:=p;exact λi a=>p.lt a
theorem zm.lt(p:zm h m M most quota S):∀i,S i->i<h.size:=by
 obtain⟨A,p,rfl⟩:=p;rintro i (rfl|⟨l,a,rfl⟩)
 ·exact p.var.lt
 ·exact p.low l a
theorem Uo.lt(p:Uo h b P most bH decay gone S):∀i,S i->i<h.size:=by
 obtain⟨A,B,p,rfl⟩:=p;exact λi a=>p.lt a
theorem xJ{A A':Sl}(g:fq m A h A' h'):Step (λi=>i=m\/In A i) h (λi=>i=m\/In A' i) h':=
 ⟨g.only.mono λi a=>.inl a,λi a=>by
  rcases a with rfl|⟨l,c,rfl⟩
  ·omega
  ·rcases g.new l c with⟨d,b,e⟩|b
   ·exact .inl (.inr ⟨d,b,e⟩)
   omega⟩
end
structure RAd where
 tr:Nat
 ta:Nat
 bk:Nat
 kd:Nat
 wt:Nat
 wh:Nat
 kz:Nat
def zn(c:Cf)(a:RAd)(left:Int)(tight q:Bool):TV:=
 .agg [c.tv,.ptr (PT a.kz),.ptr (PT a.bk),.ptr (PT a.kd),.ptr (PT a.wt),.ptr (PT a.wh),.i left,.bool tight,.bool q]
structure aZ(h:af)(g:Nat)(a:RAd)(c:Cf)(V:List Vd)(s:St)(Fp:Nat->Nat->Prop):Prop where
 sep:Sep h Fp
 tree:zl h a.tr s.N c.no (Fp 0)
 gH:HQ h a.ta s.tb V.length (Fp 1)
 bk:Var 134 h a.bk (Nr c a.tr a.ta)
 f2:Fp 2=(·=a.bk)
 kids:zm h a.kd s.kids c.eV c.quo (Fp 3)
 wait:zm h a.wt s.wait c.eH c.quo (Fp 4)
 who:Uo h a.wh s.sc c.pe c.bH c.dec s.gone (Fp 5)
 good:Peers.Good s.sc/\(s.sc.length:Int)<=c.pe
 kz:Clock.CI 183 h a.kz s.now (Clock.fB c.win)
 f6:Fp 6=(·=a.kz)
 var:∃tight bans,Var 80 h g (zn c a s.left tight bans)
 f7:Fp 7=(·=g)
 vals:aj 2 h c.vals (jx V)
 off:∀k i,Fp k i->¬In c.vals i
 can:Can c V
section
variable{h h':af}{g:Nat}{a:RAd}{c:Cf}{V:List Vd}{s:St}{Fp:Nat->Nat->Prop}{S':Nat->Prop}
theorem qs{Q:Nat->Prop}{left:Int}(p:∃tight q,Var 80 h g (zn c a left tight q))(f:ag Q h h')(A:¬Q g):∃tight q,Var 80 h' g (zn c a left tight q):=by
 obtain⟨t,b,v⟩:=p;exact⟨t,b,v.only f A⟩
theorem aZ.SF(p:aZ h g a c V s Fp):∀i,In c.vals i->i<h.size:=λi⟨l,b,f⟩=>by
 have k:=p.can.len;obtain⟨v,j⟩:∃v,V[0]? =some v:=⟨_,alW ω⟩;have d:=p.vals.get l b 0 v.tv (by simp_all);have e:=d.1;have:=xY e;omega
theorem aZ.DB(p:aZ h g a c V s Fp){j:Nat}(st:Step (Fp j) h S' h'):∀k i,nT Fp j S' k i->¬In c.vals i:=I2 p.off p.SF st
theorem aZ.only{Q:Nat->Prop}(p:aZ h g a c V s Fp)(f:ag Q h h')(q:∀k i,Fp k i->¬Q i)(A:∀i,In c.vals i->¬Q i):aZ h' g a c V s Fp:=
 ⟨⟨p.sep.qx,λj i b=>by have:=p.sep.lt j i b;have:=f.size;omega⟩,p.tree.only f (q 0),p.gH.only f (q 1),p.bk.only f (q 2 _ (by rw[p.f2])),p.f2,p.kids.only f (q 3),p.wait.only f (q 4),p.who.only f (q 5),p.good,
   p.kz.only f (q 6 _ (by rw[p.f6])),p.f6,qs p.var f (q 7 _ (by rw[p.f7])),p.f7,TV.ck f p.vals A,p.off,p.can⟩
theorem aZ.ext(p:aZ h g a c V s Fp)(x:Ext h h'):aZ h' g a c V s Fp:=p.only (Q:=λ_=>False) (.an x) (λ_ _ _ b=>b) λ_ _ b=>b
theorem aZ.KN(p:aZ h g a c V s Fp){N':List Nd}(q:zl h' a.tr N' c.no S')(st:Step (Fp 0) h S' h'):aZ h' g a c V {s with N:=N'} (nT Fp 0 S'):=by
 have o:∀k,k≠0->∀i,Fp k i->¬Fp 0 i:=λk b=>p.sep.off b;refine⟨p.sep.step st q.lt,?_,?_,?_,?_,?_,?_,?_,?_,?_,?_,?_,?_,?_,p.DB st,p.can⟩
 ·simp_all [bY]
 ·exact p.gH.only st.only (o 1 δ)
 ·exact p.bk.only st.only (o 2 δ _ (by rw[p.f2]))
 ·exact p.f2
 ·exact p.kids.only st.only (o 3 δ)
 ·exact p.wait.only st.only (o 4 δ)
 ·exact p.who.only st.only (o 5 δ)
 ·exact p.good
 ·exact p.kz.only st.only (o 6 δ _ (by rw[p.f6]))
 ·exact p.f6
 ·exact qs p.var st.only (o 7 δ _ (by rw[p.f7]))
 ·exact p.f7
 ·exact TV.ck st.only p.vals λi d e=>p.off 0 i e d
theorem aZ.FD(p:aZ h g a c V s Fp){t':Tb}(q:HQ h' a.ta t' V.length S')(st:Step (Fp 1) h S' h'):aZ h' g a c V {s with tb:=t'} (nT Fp 1 S'):=by
 have o:∀k,k≠1->∀i,Fp k i->¬Fp 1 i:=λk b=>p.sep.off b;refine⟨p.sep.step st q.lt,?_,?_,?_,?_,?_,?_,?_,?_,?_,?_,?_,?_,?_,p.DB st,p.can⟩
 ·exact p.tree.only st.only (o 0 δ)
 ·simp_all [bY]
 ·exact p.bk.only st.only (o 2 δ _ (by rw[p.f2]))
 ·exact p.f2
 ·exact p.kids.only st.only (o 3 δ)
 ·exact p.wait.only st.only (o 4 δ)
 ·exact p.who.only st.only (o 5 δ)
 ·exact p.good
 ·exact p.kz.only st.only (o 6 δ _ (by rw[p.f6]))
 ·exact p.f6
 ·exact qs p.var st.only (o 7 δ _ (by rw[p.f7]))
 ·exact p.f7
 ·exact TV.ck st.only p.vals λi d e=>p.off 1 i e d
theorem aZ.tj(p:aZ h g a c V s Fp){q:List It}(A:zm h' a.kd q c.eV c.quo S')(st:Step (Fp 3) h S' h'):aZ h' g a c V {s with kids:=q} (nT Fp 3 S'):=by
 have o:∀k,k≠3->∀i,Fp k i->¬Fp 3 i:=λk b=>p.sep.off b;refine⟨p.sep.step st A.lt,?_,?_,?_,?_,?_,?_,?_,?_,?_,?_,?_,?_,?_,p.DB st,p.can⟩
 ·exact p.tree.only st.only (o 0 δ)
 ·exact p.gH.only st.only (o 1 δ)
 ·exact p.bk.only st.only (o 2 δ _ (by rw[p.f2]))
 ·exact p.f2
 ·simp_all [bY]
 ·exact p.wait.only st.only (o 4 δ)
 ·exact p.who.only st.only (o 5 δ)
 ·exact p.good
 ·exact p.kz.only st.only (o 6 δ _ (by rw[p.f6]))
 ·exact p.f6
 ·exact qs p.var st.only (o 7 δ _ (by rw[p.f7]))
 ·exact p.f7
 ·exact TV.ck st.only p.vals λi d e=>p.off 3 i e d
theorem aZ.B_(p:aZ h g a c V s Fp){q:List It}(A:zm h' a.wt q c.eH c.quo S')(st:Step (Fp 4) h S' h'):aZ h' g a c V {s with wait:=q} (nT Fp 4 S'):=by
 have o:∀k,k≠4->∀i,Fp k i->¬Fp 4 i:=λk b=>p.sep.off b;refine⟨p.sep.step st A.lt,?_,?_,?_,?_,?_,?_,?_,?_,?_,?_,?_,?_,?_,p.DB st,p.can⟩
 ·exact p.tree.only st.only (o 0 δ)
 ·exact p.gH.only st.only (o 1 δ)
 ·exact p.bk.only st.only (o 2 δ _ (by rw[p.f2]))
 ·exact p.f2
 ·exact p.kids.only st.only (o 3 δ)
 ·simp_all [bY]
 ·exact p.who.only st.only (o 5 δ)
 ·exact p.good
 ·exact p.kz.only st.only (o 6 δ _ (by rw[p.f6]))
 ·exact p.f6
 ·exact qs p.var st.only (o 7 δ _ (by rw[p.f7]))
 ·exact p.f7
 ·exact TV.ck st.only p.vals λi d e=>p.off 4 i e d
theorem aZ.CR(p:aZ h g a c V s Fp){P:List (Int×Int)}{gone:Int}(q:Uo h' a.wh P c.pe c.bH c.dec gone S')(A:Peers.Good P/\(P.length:Int)<=c.pe)(st:Step (Fp 5) h S' h'):aZ h' g a c V {s with sc:=P,gone:=gone} (nT Fp 5 S'):=by
 have o:∀k,k≠5->∀i,Fp k i->¬Fp 5 i:=λk b=>p.sep.off b;refine⟨p.sep.step st q.lt,?_,?_,?_,?_,?_,?_,?_,?_,?_,?_,?_,?_,?_,p.DB st,p.can⟩
 ·exact p.tree.only st.only (o 0 δ)
 ·exact p.gH.only st.only (o 1 δ)
 ·exact p.bk.only st.only (o 2 δ _ (by rw[p.f2]))
 ·exact p.f2
 ·exact p.kids.only st.only (o 3 δ)
 ·exact p.wait.only st.only (o 4 δ)
 ·simp_all [bY]
 ·exact A
 ·exact p.kz.only st.only (o 6 δ _ (by rw[p.f6]))
 ·exact p.f6
 ·exact qs p.var st.only (o 7 δ _ (by rw[p.f7]))
 ·exact p.f7
 ·exact TV.ck st.only p.vals λi d e=>p.off 5 i e d
theorem aZ.Pd(p:aZ h g a c V s Fp){n:Int}(q:Clock.CI 183 h' a.kz n (Clock.fB c.win))(f:ag (·=a.kz) h h'):aZ h' g a c V {s with now:=n} Fp/\Step (dm Fp) h (dm Fp) h':=by
 have d:Fp 6 a.kz:=by rw[p.f6]
 have o:∀k,k≠6->∀i,Fp k i->¬i=a.kz:=λk l i b e=>p.sep.off l i b (e▸d);refine⟨⟨⟨p.sep.qx,λj i b=>by have:=p.sep.lt j i b;have:=f.size;omega⟩,?_,?_,?_,p.f2,?_,?_,?_,p.good,?_,p.f6,?_,p.f7,?_,p.off,p.can⟩,⟨f.mono λi e=>⟨6,by rw[p.f6];exact e⟩,λi b=>.inl b⟩⟩
 ·exact p.tree.only f (o 0 δ)
 ·exact p.gH.only f (o 1 δ)
 ·exact p.bk.only f (o 2 δ _ (by rw[p.f2]))
 ·exact p.kids.only f (o 3 δ)
 ·exact p.wait.only f (o 4 δ)
 ·exact p.who.only f (o 5 δ)
 ·exact q
 ·exact qs p.var f (o 7 δ _ (by rw[p.f7]))
 ·exact TV.ck f p.vals λi b e=>p.off 6 i (by rw[p.f6];exact e) b
theorem aZ.VS(p:aZ h g a c V s Fp){n:Int}(q:∃tight d,Var 80 h' g (zn c a n tight d))(f:ag (·=g) h h'):aZ h' g a c V {s with left:=n} Fp/\Step (dm Fp) h (dm Fp) h':=by
 have l:Fp 7 g:=by rw[p.f7]
 have o:∀k,k≠7->∀i,Fp k i->¬i=g:=λk m i b e=>p.sep.off m i b (e▸l);refine⟨⟨⟨p.sep.qx,λj i b=>by have:=p.sep.lt j i b;have:=f.size;omega⟩,?_,?_,?_,p.f2,?_,?_,?_,p.good,?_,p.f6,?_,p.f7,?_,p.off,p.can⟩,⟨f.mono λi e=>⟨7,by rw[p.f7];exact e⟩,λi b=>.inl b⟩⟩
 ·exact p.tree.only f (o 0 δ)
 ·exact p.gH.only f (o 1 δ)
 ·exact p.bk.only f (o 2 δ _ (by rw[p.f2]))
 ·exact p.kids.only f (o 3 δ)
 ·exact p.wait.only f (o 4 δ)
 ·exact p.who.only f (o 5 δ)
 ·exact p.kz.only f (o 6 δ _ (by rw[p.f6]))
 ·exact q
 ·exact TV.ck f p.vals λi b e=>p.off 7 i (by rw[p.f7];exact e) b
end
end Gate
namespace Gate
open Board (Vd Cf aq)
open Pool (It qw RL fq eM Dw rts)
section
variable{R:Rq}{h h':af}{g:Nat}{a:RAd}{c:Cf}{V:List Vd}{s:St}{Fp:Nat->Nat->Prop}
theorem Nu(p:aZ h g a c V s Fp){root parent:Bs 32}{slot:Int}
 (q:∀h' S',aZ h' g a c V {s with N:=gw s.N c.no root parent slot} (nT Fp 0 S')->Step (Fp 0) h S' h'->R (TV.i (nV s.N c.no root parent slot)).val h'):
 Cl 249 [.ptr (PT a.tr),.bytes 32 root,.bytes 32 parent,.i slot] h R:=by
 obtain⟨A,B,D,b,d⟩:=p.tree;refine Xl b λe A' B' D' f st=>?_;rw[<-d]at st;exact q e _ (p.KN ⟨A',B',D',f,rfl⟩ st) st
theorem R9(p:aZ h g a c V s Fp){root parent:Bs 32}{slot:Int}(cy:s.kids.length<1000)(A:0<=s.left/\s.left<1000000000)
 (hr:∀h' bb,aZ h' g a c V (lQ c.no root parent slot s) bb->Step (dm Fp) h (dm bb) h'->R (alZ []).val h'):
 Cl 189 [.ptr (PT g),.bytes 32 root,.bytes 32 parent,.i slot] h R:=by
 apply qV;delta j3 mu C2 jr fP cr cE d_ eW bz bJ bK aT fD;refine aa λo v1 x1 s1=>aa λY v2 x2 s2=>?_;have bc:=x1.trans x2;have p2:=p.ext bc;obtain⟨O,ba,u⟩:=p2.var;refine⟨_,u.ah rfl,_,p2.bk.ah rfl,root,(v1.ext x2).bytes,parent,v2.bytes,Nu p2 λD S3 p3 bo=>⟨_,rfl,?_⟩⟩;clear u O ba;have al:=Step.all bo;obtain⟨F3,bp⟩:∃F3,F3=nT Fp 0 S3:=⟨_,rfl⟩;rw[<-bp]at p3 al;have br:∀i,h.size<=i->¬dm Fp i:=λi b⟨k,q⟩=>by have:=p.sep.lt k i q;omega
 have w1:Var 52 D h.size (.bytes 32 root):=(v1.ext x2).only al.only (br _ (al7 _));refine⟨root,w1.bytes,?_⟩;have bd:=amd D (row (alX [ame 32 root]) 52);have oq:=Vc.Own.new (T:=52) (sz:=32) D (rts [root]) λt S=>by simp[rts]at S;rw[S];exact eM
 have bt:Step (dm Fp) h (dm F3) D:=.cut bc al;have z3:=al.only.size;obtain⟨goal,bi⟩:∃goal,goal=lQ c.no root parent slot s:=⟨_,rfl⟩;rw[<-bi]at hr
 refine Loop.less (λn σ y=>∃(l:List (Bs 32))(i:Nat)(m:St)(F':Nat->Nat->Prop),σ.2=i/\i<=l.length/\Vc.Own 52 32 y σ.1 (rts l)/\aZ y g a c V m F'/\Step (dm Fp) h (dm F') y/\(∀i,In σ.1 i->h.size<=i/\¬dm F' i)/\
  (∃f,(l.drop i).length+m.kids.length<=f/\fZ c.no f (l.drop i) m=goal)/\0<=m.left/\m.left+(m.kids.length:Int)<=s.left+s.kids.length/\l.length+m.kids.length<=1+s.kids.length/\n=(l.drop i).length+m.kids.length) (n0:=1+s.kids.length)
  ⟨[root],0,{s with N:=gw s.N c.no root parent slot},F3,rfl,by simp,oq,p3.ext bd,bt.trans (.an bd),λi⟨l,A,b⟩=>?_,⟨1+s.kids.length,al7 _,bi.symm⟩,A.1,alV _,al7 _,rfl⟩ ?_
 ·cases A;simp only at b;exact⟨ω,λ⟨k,q⟩=>by have:=p3.sep.lt k i q;omega⟩
 rintro n ⟨σ,ii⟩ y G ⟨l,i,m,F',b,cA,Z,M,aw,aE,⟨f,hf,hq⟩,l0,l1,kq,rfl⟩ go;dsimp only at b Z aE⊢;subst b;have bx:=Z.len;rw[pE]at bx;refine ID (λcB=>?_) λcC=>?_
 case refine_2=>
  have:l.drop i=[]:=List.drop_eq_nil_of_le ω;rw[this]at hq;have e:fZ c.no f [] m=m:=by cases f<;>rfl
  rw[e]at hq;subst hq;exact hr y F' M aw
 have am:i<l.length:=ω;obtain⟨r,a0⟩:∃r,l[i]? =some r:=⟨_,alW am⟩
 have b0:l.drop i=r::l.drop (i+1):=by
  rw[List.drop_eq_getElem_cons am];have:=alW am;rw[a0]at this;rw[Option.some.inj this]
 obtain⟨E,a1⟩:∃E,E=l.drop (i+1):=⟨_,rfl⟩;rw[b0,<-a1]at hq hf go;obtain⟨f',rfl⟩:∃f',f=f'+1:=⟨f-1,by simp only[List.length_cons]at hf;omega⟩;simp only[List.length_cons]at hf go;obtain⟨O,ba,u⟩:=M.var;refine⟨_,u.ah rfl,lM Z.elems ω (x:=r) (by rw[amb];exact a0) ?_⟩;clear u O ba;obtain⟨kA,kp,hK⟩:=M.kids;refine Pool.lI kp λh6 A6 t w6 g6 o6 b1=>⟨_,rfl,?_⟩
 have a2:Step (F' 3) y (λi=>i=a.kd\/In A6 i) h6:=by
  rw[hK];exact xJ g6
 have p6:=M.tj ⟨A6,w6,rfl⟩ a2;have t6:=Step.all a2;obtain⟨F,bj⟩:∃F,F=nT F' 3 (λi=>i=a.kd\/In A6 i):=⟨_,rfl⟩;rw[<-bj]at p6 t6;have z6:=a2.only.size;have zh:=aw.only.size;obtain⟨L,hL⟩:∃L,L=m.kids.filter λx=>decide (x.fr=r):=⟨_,rfl⟩;obtain⟨K,a3⟩:∃K,K=m.kids.filter λx=>!decide (x.fr=r):=⟨_,rfl⟩;have cI:L.length+K.length=m.kids.length:=by rw[hL,a3];exact zi _ _
 rw[<-a3]at p6;rw[<-hL]at o6;have lt:=o6.elems.len;unfold qw at lt;rw[alT]at lt;have b2:=o6.lt
 have ab:∀i,In t i->y.size<=i/\i<h6.size/\¬F 0 i:=λi⟨l,A,b⟩=>by
  have o:=b1 l A;have Y:=b2 l A;refine⟨ω,ω,λd=>?_⟩;rw[bj,aB δ]at d;have:=M.sep.lt 0 i d;omega
 have b3:∀i,In σ i->h.size<=i/\i<y.size/\¬dm F i:=λi b=>by
  have o:=aE i b
  have Y:i<y.size:=by
   obtain⟨l,A,e⟩:=b;have:=Z.lt l A;omega
  refine⟨o.1,Y,λd=>?_⟩;rcases t6.new i d with D|D
  ·exact o.2 D
  ·omega
 have oC:Vc.Own 52 32 h6 σ (rts l):=Z.keep t6.only λi b=>(aE i b).2;obtain⟨P,hP⟩:∃P:Nat->St×List (Bs 32),P=λj=>(L.take j).foldl (aW c.no r) ({m with kids:=K},E):=⟨_,rfl⟩;have P0:P 0=({m with kids:=K},E):=by rw[hP];rfl
 have PS:∀j x,L[j]? =some x->P (j+1)=aW c.no r (P j) x:=λj x d=>by
  rw[hP];simp only;rw[List.take_add_one,d,List.foldl_append];rfl
 have b5:∀j,vv j {m with kids:=K} (P j).1/\(P j).1.kids=K/\(P j).2.length<=E.length+j:=λj=>by
  obtain⟨o,Y,D⟩:=mY (no:=c.no) (r:=r) (L.take j) ({m with kids:=K},E);have hj:(L.take j).length<=j:=List.length_take_le ..;rw[hP];exact⟨o.mono hj,Y,by simp only at D⊢;omega⟩
 have b6:Step (dm Fp) h (dm F) h6:=aw.trans t6;have g7:∀i,i=g↔F 7 i:=λi=>by rw[p6.f7]
 have cJ:=p6.sep.lt 7 g ((g7 g).1 rfl);have cK:g<y.size:=M.sep.lt 7 g (by rw[M.f7]);have cM:E.length+(i+1)=l.length:=by rw[a1,amC];omega
 refine⟨λac v=>∃j:Nat,ac.2=j/\j<=L.length/\∃(w:List (Bs 32))(z:Nat->Nat->Prop),(P j).2=E++w/\Vc.Own 52 32 v ac.1 (rts (l++w))/\aZ v g a c V (P j).1 z/\Step (dm Fp) h (dm z) v/\h6.size<=v.size/\(∀k,k≠0->z k=F k)/\(∀i,In ac.1 i->h.size<=i/\¬dm z i/\¬In t i)/\
  (∀i,In t i->¬z 0 i)/\aj 67 v t (qw L),λac _=>(L.length-ac.2).toNat,
  ⟨0,rfl,Nat.zero_le _,[],F,by rw[P0,amH],by rw[amH];exact oC,by rw[P0];exact p6,b6,al7 _,λ_ _=>rfl,λi b=>by
    obtain⟨q1,q2,q3⟩:=b3 i b;exact⟨q1,q3,λS=>by have:=(ab i S).1;omega⟩,λi b=>(ab i b).2.2,o6.elems⟩,?_⟩
 rintro⟨Q,jj⟩ v ⟨j,hj,bk,w,z,ad,ae,p7,bl,z7,k7,a7,t7,e7⟩;dsimp only at hj ae a7⊢;subst hj;obtain⟨b7,ao,b8⟩:=b5 j;have b9:=b7.left;dsimp only at b9;have nl:w.length<=j:=by rw[ad,al2]at b8;omega
 have cP:∀i,z 7 i->i=g:=λi b=>by rw[k7 7 δ]at b;exact(g7 i).2 b
 refine ID (λca=>?_) λca=>?_
 ·have a4:j<L.length:=ω;have ap:=λx d=>PS j x d;refine Pool.gE e7 ω ω λl1 x _ d=>?_;rw[amb]at d;have ap:=PS j x d;refine aa λh8 v8 x8 s8=>aH v8 (t:=x.tv) rfl λh9 v9 f9 s9=>?_;have U:Ext v h9:=alU x8 f9 λi b=>amf (ami b);have z9:=U.size;have p9:=p7.ext U;obtain⟨O,ba,u⟩:=p9.var;have cm:(l++w)[(i:Int).toNat]? =some r:=by rw[amb,List.getElem?_append_left am];exact a0
  refine⟨_,u.ah rfl,_,p9.bk.ah rfl,x.root,Pool.jF v9,lM (ae.ext U).elems ω cm ⟨x.slot,Pool.oz v9,Nu p9 λW cd H a5=>⟨_,rfl,?_⟩⟩⟩;clear u O ba;have X:=Step.all a5;obtain⟨B,a6⟩:∃B,B=nT z 0 cd:=⟨_,rfl⟩;rw[<-a6]at H X;have cR:=X.only.size;have k10:∀k,k≠0->B k=F k:=λk q=>by rw[a6,aB q,k7 k q]
  have ce:∀i,dm z i->i<v.size:=λi⟨k,q⟩=>p7.sep.lt k i q;have cf:∀i,In Q i->i<v.size:=λi⟨l,A,b⟩=>by have:=ae.lt l A;omega
  have v10:Var 82 W v.size x.tv:=v9.only X.only λd=>by have:=ce _ d;omega
  have a8:aj 67 W t (qw L):=TV.ck a5.only (e7.ext U) t7;have a9:Vc.Own 52 32 W Q (rts (l++w)):=(ae.ext U).keep X.only λi b=>(a7 i b).2.1;have a':Step (dm Fp) h (dm B) W:=(bl.trans (.an U)).trans X
  have I:∀i,In Q i->h.size<=i/\¬dm B i/\¬In t i:=λi b=>by
   obtain⟨q1,q2,q3⟩:=a7 i b;refine⟨q1,λd=>?_,q3⟩;rcases X.new i d with o|o
   ·exact q2 o
   ·have:=cf i b;omega
  have t10:∀i,In t i->¬B 0 i:=λi b d=>by
   rw[a6,bY]at d;rcases a5.new i d with o|o
   ·exact t7 i b o
   ·have:=(ab i b).2.1;omega
  have wj:alY .i64 ((j:Int)+1)=((j+1:Nat):Int):=by rw[wrap_i64 ω ω];omega
  intro J HJ;refine ID (λh0=>?_) λh0=>HJ _ W ?_
  ·have C:P (j+1)=({(P j).1 with N:=gw (P j).1.N c.no x.root r x.slot},(P j).2++[x.root]):=by rw[ap];unfold aW;rw[if_pos h0]
   refine⟨x.root,Pool.jF v10,TR a9 (by rw[al2];omega) λQ' bm ch f11 ci=>HJ _ bm (ID (λar=>ω) λ_=>?_)⟩;rw[wj];refine⟨⟨j+1,rfl,a4,w++[x.root],B,by rw[C];simp only[ad,amF],by rw[<-amF];exact ch,?_,Step.tail a' f11 λi b=>(I i b).1,by have:=f11.size;omega,k10,λi b=>?_,t10,?_⟩,ω⟩
   ·rw[C];exact H.only f11 (λk i q d=>(I i d).2.1 ⟨k,q⟩) λi hv d=>by have:=p.SF i hv;have:=(I i d).1;omega
   ·rcases ci i b with o|o
    ·exact I i o
    ·exact⟨ω,λ⟨k,q⟩=>by have:=H.sep.lt k i q;omega,λS=>by have:=(ab i S).2.1;omega⟩
   ·exact TV.ck f11 a8 λi b d=>(I i d).2.2 b
  ·have cj:gw (P j).1.N c.no x.root r x.slot=(P j).1.N:=by unfold gw;rw[if_neg h0]
   rw[cj]at H;refine ID (λar=>?_) λar=>?_
   ·have C:P (j+1)=({(P j).1 with left:=(P j).1.left+1},(P j).2):=by rw[ap];unfold aW;rw[if_neg h0,if_pos ar]
    obtain⟨O,ba,u⟩:=H.var;refine⟨_,u.ah rfl,?_⟩;dsimp only;rw[wj,wrap_i64 (n:=(P j).1.left+1) ω ω];refine aI u (i:=6) (t:=.i ((P j).1.left+1)) rfl rfl rfl rfl λbm v11 f11 cS=>aI v11 (i:=7) (t:=.bool true) rfl rfl rfl rfl λcl cp f12 cT=>?_;have f112:ag (·=g) W cl:=f11.trans f12;obtain⟨cs,ct⟩:=H.VS ⟨true,ba,cp⟩ f112;have cw:∀i,i=g->dm B i:=λi e=>⟨7,by rw[H.f7];exact e⟩;refine⟨⟨j+1,rfl,a4,w,B,by rw[C];exact ad,a9.keep f112 λi b e=>(I i b).2.1 (cw i e),by rw[C];exact cs,a'.trans ct,ω,k10,I,t10,?_⟩,ω⟩;exact TV.ck f112 a8 λi b e=>by have:=(ab i b).1;have e:i=g:=e;omega
   ·have C:P (j+1)=P j:=by rw[ap];unfold aW;rw[if_neg h0,if_neg ar]
    rw[wj];exact⟨⟨j+1,rfl,a4,w,B,by rw[C];exact ad,a9,by rw[C];exact H,a',ω,k10,I,t10,a8⟩,ω⟩
 ·have bk:j=L.length:=ω;have C:P j=L.foldl (aW c.no r) ({m with kids:=K},E):=by rw[hP,bk];simp only;rw[amt]
  have cx:fZ c.no f' (P j).2 (P j).1=goal:=by rw[C,<-hq,hL,a3];rfl
  have ba:(l++w).drop (i+1)=(P j).2:=by rw[ad,a1,List.drop_append_of_le_length ω]
  rw[show alY .i64 ((i:Int)+1)=((i+1:Nat):Int) by rw[wrap_i64 ω ω];omega];refine go ((P j).2.length+(P j).1.kids.length) (Q,((i+1:Nat):Int)) v (by rw[ao];omega) ⟨l++w,i+1,(P j).1,z,rfl,by rw[al2];omega,ae,p7,bl,λi b=>⟨(a7 i b).1,(a7 i b).2.1⟩,⟨f',by rw[ba,ao];omega,by rw[ba];exact cx⟩,ω,by rw[ao];omega,by rw[ao,al2];omega,by rw[ba]⟩
end
end Gate
namespace Board
section
variable{R:Rq}{h:af}{c:Cf}
end
end Board
namespace Board
theorem aaQ(c d:UInt8):xb c (d.toNat:Int)=c^^^d:=by
 unfold xb xv;apply UInt8.toNat_inj.1;rw[UInt8.toNat_ofNat',wrap_u8]
 have a:amc (amj .u8) (c.toNat:Int)=c.toBitVec:=by
  apply BitVec.eq_of_toNat_eq;show(amc 8 (c.toNat:Int)).toNat=c.toNat;rw[BitVec.ofInt_natCast,BitVec.toNat_ofNat];exact Nat.mod_eq_of_lt c.toNat_lt
 have b:amc (amj .u8) (d.toNat:Int)=d.toBitVec:=by
  apply BitVec.eq_of_toNat_eq;show(amc 8 (d.toNat:Int)).toNat=d.toNat;rw[BitVec.ofInt_natCast,BitVec.toNat_ofNat];exact Nat.mod_eq_of_lt d.toNat_lt
 rw[a,b];have:(c.toBitVec^^^d.toBitVec).toNat=(c^^^d).toNat:=rfl;have e:=(c^^^d).toNat_lt;show(((c.toBitVec^^^d.toBitVec).toNat:Int)%256).toNat%2^8=_;rw[this];omega
theorem VT(a t:Bs 16)(j:Nat)(q:j<16):fc (IJ a t) j=fc a j^^^fc t j:=by
 unfold IJ;rw[lX _ _ _ _ (al7 _),if_pos q,aaQ]
theorem aaR(t:Bs 16):IJ (alR 16) t=t:=by
 apply Bs.OH;intro j a;rw[VT _ _ _ a]
 have:fc (alR 16) j=0:=by
  unfold fc alR;rw[amr,List.getElem?_replicate,if_pos a];rfl
 rw[this,UInt8.zero_xor]
def om(m:Ms)(who:Int):Ms:=⟨2,m.slot,m.target,who,0,alS,alR 16⟩
theorem XT{m:Ms}{row:List Bool}(q:dU m row=true):0<=m.slot/\m.slot<=1073741824:=by
 unfold dU at q;simp only[Bool.and_eq_true,Bool.not_eq_true',Bool.or_eq_false_iff,decide_eq_false_iff_not]at q;obtain⟨⟨⟨⟨⟨a,b⟩,_⟩,_⟩,_⟩,_⟩:=q;omega
theorem Lf{n:Nat}{aQ:Int}{m:Ms}{row:List Bool}(h:(a_ n aQ m row).2=true):dU m row=true:=by
 cases a:dU m row with
 |true=>rfl
 |false=>unfold a_ at h;rw[if_pos a]at h;cases h
section
variable{R:Rq}{h:af}{c:Cf}
end
end Board
namespace Board
section
variable{R:Rq}{h:af}
theorem Pp{r:Bs 32}(q:∀b,Ext h b->R (TV.str r.l).val b):Cl 274 [.bytes 32 r] h R:=by
 apply zo;delta Dj iA cr d_ kT gY gj bJ fD;refine aa λa v1 e m=>?_;have d:=amd a (Vc.row (alX []) 5);have n:ay (amo (some (Vc.Loc.mk h.size 0)) 32 32) 0 32 1=⟨some ⟨h.size,0⟩,32,32⟩:=rfl;refine⟨r.l.map λc=>Value.int .u8 c.toNat,by rw[<-rW];exact(uD (v1.ext d).bytes).cells (By _) δ,sJ r.l,?_⟩
 have r1:Row (λi=>h.size<i) (a.push (Vc.row (alX []) 5)) ⟨some ⟨a.size,0⟩,0,0⟩ []:=by
  refine⟨Vc.Own.new a [] (λt f=>by cases f),λl o=>?_,λi g=>?_⟩
  ·grind
  grind
 refine yG r.h.symm r1 (by rw[r.h];decide) λp j k f2 s=>⟨_,k.str,?_⟩;exact q j (e.trans (alU d (r1.cut f2) λi g=>ω))
theorem aey{key:LU}(q:key.length<=64):(Iw key).l=key++amu (64-key.length) 0:=by
 show(key++amu 64 0).take 64=_;rw[List.take_append,amA q,List.take_replicate,Nat.min_eq_left ω]
theorem R_(c:UInt8)(x:Int):UInt8.ofNat (alY .u8 ((amc (amj .u8) (c.toNat:Int)^^^amc (amj .u8) x).toNat:Int)).toNat=xb c x:=rfl
theorem Lg{α:Type}(f:Nat->α)(n:Nat):(amv (n+1)).map f=(amv n).map f++[f n]:=by
 rw[List.range_succ,al9,amx,amI]
theorem HR{key s:LU}(G:key.length<=64)(hl:s.length<10000)(H:∀u,Ext h u->R (ame 16 (GO key s)).val u):Cl 217 [.str key,.str s] h R:=by
 apply Cj;delta aF gZ QH i_ QD rD cE dz Te eU bJ;refine aa λm v1 F s1=>?_;intro J I;refine ID (λad=>ω) λ_=>I key m ?_;refine⟨λσ a=>m=a/\σ.length<=64/\∃k,σ=key++amu k 0,λσ _=>64-σ.length,⟨rfl,G,0,by simp⟩,?_⟩;rintro f a ⟨rfl,ae,k,al⟩;refine ID (λhlt=>⟨by grind,⟨rfl,by grind,k+1,?_⟩,?_⟩) λam=>?_
 ·simp_all [amF,List.replicate_succ']
 ·grind
 have K:f=(Iw key).l:=by
  grind [List.length_replicate,aey,al2]
 have cm:∀i,f.getD i 0=fc (Iw key) i:=λi=>by rw[K];rfl
 refine⟨λσ a=>0<=σ.2.2/\σ.2.2<=64/\Ext m a/\σ.1=(amv σ.2.2.toNat).map (λi=>xb (fc (Iw key) i) 54)/\σ.2.1=(amv σ.2.2.toNat).map (λi=>xb (fc (Iw key) i) 92),λσ _=>(64-σ.2.2).toNat,
  ⟨alV 0,δ,al0 _,rfl,rfl⟩,?_⟩
 rintro⟨v,out,i⟩ h2 ⟨b,w,p,c,d⟩;dsimp only at b w p c d⊢;have x:v.length=i.toNat:=by simp_all
 have l2:out.length=i.toNat:=by simp_all
 refine ID (λe=>?_) λe=>?_
 ·have y:=aS (amc (amj .u8) ((f.getD i.toNat 0).toNat:Int)^^^amc (amj .u8) 54).toNat;have z:=aS (amc (amj .u8) ((f.getD i.toNat 0).toNat:Int)^^^amc (amj .u8) 92).toNat;refine⟨b,ω,_,str1 y.1 y.2,by grind,b,ω,_,str1 z.1 z.2,by grind,?_⟩;rw[wrap_i64 ω ω];refine⟨⟨ω,ω,(p.trans (amd _ _)).trans (amd _ _),?_,?_⟩,ω⟩
  ·rw[R_,cm,c,show(i+1).toNat=i.toNat+1 by omega,Lg]
  ·rw[R_,cm,d,show(i+1).toNat=i.toNat+1 by omega,Lg]
 have L:i.toNat=64:=ω;rw[L]at c d x l2;have c:v=iR key 54:=c;have d:out=iR key 92:=d;subst c;subst d;refine⟨ω,lI (by rw[al2,x];omega) λh3 M=>⟨_,rfl,Pp λh4 N=>⟨_,rfl,by rw[l2,Bs.h];decide,?_⟩⟩⟩;refine lI (by rw[al2,l2,Bs.h];decide) λq O=>⟨_,rfl,?_⟩;refine aa λh6 v6 P s6=>aq v6 (t:=.bytes 32 (mz (iR key 92++(mz (iR key 54++s)).l))) rfl wI λr Q f7 s7=>?_;have S:Ext q r:=alU P f7 λi e=>ω;refine aa λT U A s8=>?_;have V:=Q.ext A;refine⟨λi a=>0<=i/\i<=16/\ag (·=r.size) T a/\Var 56 a r.size (.bytes 16 (kX (fc (mz (iR key 92++(mz (iR key 54++s)).l))) (alR 16) i.toNat)),λi _=>((16:Int)-i).toNat,⟨alV 0,δ,amw _ _,U⟩,?_⟩;rintro i B ⟨b,w,f9,g⟩;have W:Var 52 B q.size (.bytes 32 (mz (iR key 92++(mz (iR key 54++s)).l))):=V.only f9 ω;refine ID (λe=>?_) λe=>?_
 ·have X:=iI W (i:=i.toNat) ω;have hlt:=(fc (mz (iR key 92++(mz (iR key 54++s)).l)) i.toNat).toNat_lt;refine⟨b,ω,_,X,b,ω,?_⟩;refine kV g (i:=i.toNat) (o:=0+i.toNat*1) ω ω ω ω λC v10 f10 Y=>?_;rw[wrap_i64 (n:=i+1) ω ω];refine⟨⟨ω,ω,f9.trans f10,?_⟩,Ω⟩;rw[show(i+1).toNat=i.toNat+1 by omega];rw[amb,UInt8.ofNat_toNat]at v10;exact v10
 ·have Z:i.toNat=16:=ω;rw[Z]at g
  have ab:kX (fc (mz (iR key 92++(mz (iR key 54++s)).l))) (alR 16) 16=GO key s:=by
   apply Bs.OH;intro j D;rw[lX _ _ _ _ (al7 _),if_pos D];unfold GO qO No fc;rw[amr,amr,amD,if_pos D]
  rw[ab]at g;have ac:Ext q B:=S.trans (alU A f9 λi e=>ω);have E:=(((p.trans M).trans N).trans O).trans ac;refine⟨_,g.bytes,aq (v1.ext E) (t:=.bytes 16 (GO key s)) rfl wI λC v10 f10 Y=>⟨_,v10.bytes,?_⟩⟩;exact H C (alU (F.trans E) f10 λi e=>ω)
theorem Pq{n:Nat}(b:Bs n)(i:Nat)(x y:UInt8):(b.set i x).set i y=b.set i y:=by
 apply Bs.ext';simp[amJ]
theorem aaS{n:Nat}(b:Bs n)(i:Nat):b.set i (fc b i)=b:=by
 apply Bs.ext';unfold amJ fc;by_cases a:i<b.l.length
 ·rw[amr,alW a];simp
 ·simp only;rw[List.set_eq_of_length_le ω]
theorem aaT{n:Nat}(b:Bs n){i:Nat}(x:UInt8)(q:i<n):fc (b.set i x) i=x:=by
 unfold fc amJ;rw[amr,List.getElem?_set_self (by rw[b.h];exact q)];rfl
theorem Pu{s:Sl}{ts:List (Bs 16)}(e:aj 16 h s (tags ts))(U:ts.length<1000000)(E:∀o,Ext h o->R (ame 16 (fI ts (alR 16))).val o):Cl 218 [.slice s] h R:=by
 apply zq;delta aF gL QD rD Th cE bK;have C:=e.len;rw[alT]at C;refine aa λd v1 p T=>aa λq D g V=>?_;refine⟨λi c=>0<=i/\i<=16/\ag (·=d.size) q c/\Var 56 c d.size (.bytes 16 (kX (fc (fI ts (alR 16))) (alR 16) i.toNat)),λi _=>(16-i).toNat,⟨alV 0,δ,amw _ _,D⟩,?_⟩;rintro i F ⟨k,W,f3,f⟩;refine ID (λa=>?_) λa=>?_
 ·have X:fc (kX (fc (fI ts (alR 16))) (alR 16) i.toNat) i.toNat=fc (alR 16) i.toNat:=by rw[lX _ _ _ _ ω,if_neg ω]
  have G:kX (fc (fI ts (alR 16))) (alR 16) i.toNat=(kX (fc (fI ts (alR 16))) (alR 16) i.toNat).set i.toNat (fc (fI (ts.take 0) (alR 16)) i.toNat):=by
   show _=amJ _ _ (fc (alR 16) i.toNat)
   grind [aaS]
  have r:kX (fc (fI ts (alR 16))) (alR 16) (i.toNat+1)=(kX (fc (fI ts (alR 16))) (alR 16) i.toNat).set i.toNat (fc (fI ts (alR 16)) i.toNat):=rfl;generalize kX (fc (fI ts (alR 16))) (alR 16) i.toNat=B at f G r;refine⟨λj c=>0<=j/\j<=ts.length/\ag (λb=>b=d.size) q c/\Var 56 c d.size (.bytes 16 (B.set i.toNat (fc (fI (ts.take j.toNat) (alR 16)) i.toNat))),λj _=>(ts.length-j).toNat,⟨alV 0,ω,f3,by grind⟩,?_⟩;rintro j u ⟨H,j1,f4,v4⟩;refine ID (λm=>?_) λm=>?_
  ·have I:=e.ext (alU (p.trans g) f4 λi a=>ω);refine I.read H ω λl t Y v J=>?_;rw[ama]at v;obtain⟨t',K,rfl⟩:=Option.map_eq_some_iff.1 v;refine⟨t',J,?_⟩;refine aa λZ L M s5=>aq L rfl rfl λh6 v6 f6 s6=>?_;have w:=alU M f6 λi a=>ω;have x:=v4.ext w;have y:=iI x (i:=i.toNat) ω;rw[aaT _ _ ω]at y;have N:=iI v6 (i:=i.toNat) ω;have z:0<=xv (fc (fI (ts.take j.toNat) (alR 16)) i.toNat).toNat (fc t' i.toNat).toNat/\xv (fc (fI (ts.take j.toNat) (alR 16)) i.toNat).toNat (fc t' i.toNat).toNat<256:=aS _;refine⟨k,a,_,y,k,a,_,N,k,a,?_⟩;refine kV x (i:=i.toNat) ω ω z.1 z.2 λh7 A f7 s7=>?_;rw[wrap_i64 (n:=j+1) ω ω];refine⟨⟨ω,ω,(f4.trans ((amm w).mono λ_ h=>h)).trans f7,?_⟩,Ω⟩;rw[Pq]at A;rw[show(j+1).toNat=j.toNat+1 by omega,aU K,Eg,VT _ _ _ ω,<-aaQ];exact A
  ·have O:ts.take j.toNat=ts:=amA ω;rw[O]at v4;rw[wrap_i64 (n:=i+1) ω ω];refine⟨⟨ω,ω,f4,?_⟩,Ω⟩;rw[show(i+1).toNat=i.toNat+1 by omega,r];exact v4
 ·have P:i.toNat=16:=ω;rw[P]at f
  have Q:kX (fc (fI ts (alR 16))) (alR 16) 16=fI ts (alR 16):=by
   apply Bs.OH;intro j m;rw[lX _ _ _ _ (al7 _),if_pos m]
  rw[Q]at f;have S:Var 56 F h.size (.bytes 16 (alR 16)):=(v1.ext g).only f3 ω;refine⟨_,f.bytes,aq S (t:=.bytes 16 (fI ts (alR 16))) rfl wI λu v4 f4 s4=>⟨_,v4.bytes,?_⟩⟩;exact E u (alU (alU (p.trans g) f3 λi a=>ω) f4 λi a=>ω)
end
end Board
namespace Board
section
variable{R:Rq}{h:af}{c:Cf}
theorem Pv:zR.length=5:=δ
theorem acD(slot who:Int):mz ((zR++MV (alY .u64 slot) 4)++MV (alY .u64 who) 2)=tR slot who:=by
 have a:=gC slot;have b:=gC who;rw[BF 4 _ a.1 a.2,BF 2 _ b.1 b.2];rfl
end
def zu(slot:Int)(j:Nat):ij:=⟨tR slot (j:Int),(j:Int)⟩
theorem mem_sorted{slot:Int}{n:Nat}{x:ij}(h:x∈sorted slot n):∃j,j<n/\x=zu slot j:=by
 have:=(sorted_perm slot n).mem_iff.1 h;unfold Tu at this;obtain⟨j,a,rfl⟩:=al5.1 this;exact⟨j,List.mem_range.1 a,rfl⟩
theorem acE{slot:Int}{n j:Nat}(h:j<n):zu slot j∈sorted slot n:=by
 refine(sorted_perm slot n).mem_iff.2 ?_;unfold Tu;exact al5.2 ⟨j,List.mem_range.2 h,rfl⟩
def Ck(slot:Int)(un:Nat->Bool)(i:Nat)(q:Int):Prop:=
 (q=-1/\∀j,j<i->un j=false)\/∃b:Nat,q=(b:Int)/\b<i/\un b=true/\∀j,j<i->un j=true->j≠b->sb (zu slot b) (zu slot j)
theorem Ck.skip{slot:Int}{un:Nat->Bool}{i:Nat}{q:Int}(B:Ck slot un i q)(A:un i=false):Ck slot un (i+1) q:=by
 rcases B with⟨a,c⟩|⟨b,a,k,f,c⟩
 ·refine .inl ⟨a,λj g=>?_⟩;by_cases d:j=i
  ·rw[d];exact A
  ·exact c j ω
 ·refine .inr ⟨b,a,ω,f,λj g e h=>?_⟩;by_cases d:j=i
  ·rw[d,A]at e;cases e
  ·exact c j ω e h
theorem Ck.first{slot:Int}{un:Nat->Bool}{i:Nat}{q:Int}(B:Ck slot un i q)(E:q<0)(A:un i=true):Ck slot un (i+1) (i:Int):=by
 rcases B with⟨_,c⟩|⟨b,d,_⟩
 ·refine .inr ⟨i,rfl,ω,A,λj e a f=>?_⟩;rw[c j ω]at a;cases a
 ·omega
theorem Ck.less{slot:Int}{un:Nat->Bool}{i b:Nat}(B:Ck slot un i (b:Int))(q:un i=true)(A:Op.bytesLess (tR slot (i:Int)).l (tR slot (b:Int)).l=true):Ck slot un (i+1) (i:Int):=by
 rcases B with⟨d,_⟩|⟨b',d,g,h,e⟩
 ·omega
 ·have:b'=b:=ω;subst this;have a:sb (zu slot i) (zu slot b'):=.inl A;refine .inr ⟨i,rfl,ω,q,λj k f m=>?_⟩;by_cases c:j=b'
  ·rw[c];exact a
  ·exact E7 a (e j ω f c)
theorem Ck.keep{slot:Int}{un:Nat->Bool}{i b:Nat}(B:Ck slot un i (b:Int))(q:Op.bytesLess (tR slot (i:Int)).l (tR slot (b:Int)).l=false):Ck slot un (i+1) (b:Int):=by
 rcases B with⟨c,_⟩|⟨b',c,k,d,e⟩
 ·omega
 ·have:b'=b:=ω;subst this;refine .inr ⟨b',rfl,ω,d,λj m f g=>?_⟩;by_cases h:j=i
  ·subst h;rcases Q4 (x:=zu slot b') (y:=zu slot j) (by show(b':Int)≠j;omega)with a|a
   ·exact a
   ·rcases a with a|⟨_,a⟩
    ·have:Op.bytesLess (tR slot (j:Int)).l (tR slot (b':Int)).l=true:=a;rw[q]at this;cases this
    ·have:(j:Int)<(b':Int):=a;omega
  ·exact e j ω f g
noncomputable def left(slot:Int)(n k:Nat)(j:Nat):Bool:=!decide ((j:Int)∈(Ay slot n).take k)
theorem aaU{slot:Int}{n k:Nat}(q:k<n):∃j:Nat,j<n/\(sorted slot n)[k]? =some (zu slot j)/\(Ay slot n)[k]? =some (j:Int):=by
 have c:=o_ slot n;have a:(sorted slot n)[k]? =some (sorted slot n)[k]:=alW ω;obtain⟨j,b,e⟩:=mem_sorted (List.getElem_mem (by omega:k<(sorted slot n).length));refine⟨j,b,by rw[a,e],?_⟩;unfold Ay;rw[ama,a,e];rfl
theorem aaV{l:List Int}{k:Nat}{x:Int}(A:l.Nodup)(q:l[k]? =some x):x∉l.take k:=by
 intro h;obtain⟨i,a⟩:=List.getElem?_of_mem h;rw[amD]at a;split at a
 ·rename_i b;have c:=(al1.1 q).1;have:=(List.getElem?_inj ω A).1 (a.trans q.symm);omega
 ·cases a
theorem Ck.done{slot:Int}{n k:Nat}{q:Int}(A:k<n)(B:Ck slot (left slot n k) n q):∃b:Nat,b<n/\q=(b:Int)/\(Ay slot n)[k]? =some (b:Int):=by
 obtain⟨c,j,l,e⟩:=aaU (slot:=slot) A;have s:=T5 slot n
 have f:left slot n k c=true:=by
  unfold left;rw[decide_eq_false (aaV s e)];rfl
 rcases B with⟨_,g⟩|⟨b,t,m,o,g⟩
 ·rw[g c j]at f;cases f
 ·refine⟨b,m,t,?_⟩;by_cases p:c=b
  ·rw[<-p];exact e
  ·exfalso;have u:=g c j f p
   have v:(b:Int)∉(Ay slot n).take k:=by
    unfold left at o;simpa using o
   obtain⟨i,h⟩:=List.getElem?_of_mem (acE (slot:=slot) m)
   have d:(Ay slot n)[i]? =some (b:Int):=by
    unfold Ay;rw[ama,h];rfl
   have w:k<i:=by
    rcases Nat.lt_trichotomy i k with a|a|a
    ·refine absurd (al8 (i:=i) ?_) v;rw[amD,if_pos a];exact d
    ·rw[a,e]at d;injection d with d;omega
    ·exact a
   have r:=List.pairwise_iff_getElem.1 (Hz slot n) k i (al1.1 l).1 (al1.1 h).1 w;rw[(al1.1 l).2,(al1.1 h).2]at r;exact r u
theorem XU{slot:Int}{n k b:Nat}(q:(Ay slot n)[k]? =some (b:Int))(j:Nat):left slot n (k+1) j=if j=b then false else left slot n k j:=by
 unfold left;rw[aU q];by_cases a:j=b
 ·subst a;rw[if_pos rfl];simp
 ·rw[if_neg a];have:(j:Int)≠(b:Int):=ω;simp[this]
end Board
namespace Board
abbrev aaW(n:Nat):Obj:=row (cq (ams false) n) 4
theorem VU:(ctx.ti 52).bytes=32:=κ
theorem aez:(ctx.ti 52).size=32:=κ
theorem acF:(ctx.ti 52).z.size=32:=κ
abbrev XV(slot:Int)(n:Nat):List TV:=(amv n).map λ(j:Nat)=>ame 32 (tR slot (j:Int))
theorem XW(slot:Int)(n:Nat):XV slot (n+1)=XV slot n++[ame 32 (tR slot (n:Int))]:=by
 simp[List.range_succ,al9,XV]
noncomputable def flags(slot:Int)(n k:Nat):List Bool:=(amv n).map λj=>!left slot n k j
theorem Uq(slot:Int)(n:Nat):flags slot n 0=amu n false:=by
 unfold flags left;apply List.ext_getElem (by simp);simp_all
theorem XX{slot:Int}{n k j:Nat}(q:j<n):(flags slot n k)[j]? =some (!left slot n k j):=by
 unfold flags;rw[ama,List.getElem?_range q];rfl
theorem XY{slot:Int}{n k b:Nat}(q:(Ay slot n)[k]? =some (b:Int)):(flags slot n k).set b true=flags slot n (k+1):=by
 unfold flags;apply List.ext_getElem (by simp);intro j a c;rw[List.getElem_set];simp only[List.getElem_map,List.getElem_range];rw[XU q]
 grind
section
variable{R:Rq}{h:af}{c:Cf}
theorem aaX{s:Sl}{slot:Int}{n m:Nat}{i:Int}(q:m=s.len)(e:aj 32 h s (XV slot n))(A:0<=i)(E:i<n){K:Bs 32->Prop}(B:K (tR slot i)):
 0<=i/\i<(m:Int)/\Nn s.a λ(l:Vc.Loc)=>∃(b:Bs 32),av h l.b (l.o+i.toNat*32) 32 b/\K b:=by
 subst q;have d:=e.len;rw[alT,amB]at d;refine e.read A ω λl t j a f=>?_;rw[ama,List.getElem?_range ω]at a;injection a with a;subst a;have g:((i.toNat:Nat):Int)=i:=ω;have c:TV.at h l.b (l.o+i.toNat*32) (ame 32 (tR slot ((i.toNat:Nat):Int))):=f;rw[g]at c;exact⟨_,c,B⟩
theorem aaY{s:Sl}{l:List Bool}{i:Int}{b:Nat}(o:Vc.Own 4 1 h s (aY l))(q:s.a=some ⟨b,0⟩)(A:0<=i)(B:i<l.length){K:Bool->Prop}(E:∀x,l[i.toNat]? =some x->K x):
 ∃(x:Bool),ah h b (0+i.toNat*1) (.bool x)/\K x:=by
 have c:=o.len;have:=kD o.elems A B E;rw[q]at this;obtain⟨_,_,a⟩:=this;exact a
set_option maxHeartbeats 1000000 in
theorem zV{slot:Int}(f:Gw c)(hr:∀Q S,Vc.Own 3 1 Q S (ints (mem c.vals.len c.aQ slot))->Ext h Q->(∀l,S.a=some l->h.size<=l.b)->R (amh S).val Q):
 Cl 282 [c.tv,.i slot] h R:=by
 apply ue c.vals c.ep c.aQ c.no c.eV c.eH c.quo c.pe c.iy c.win c.bH c.dec slot;delta gz MF dx mu tM pR jr gI dD eW bJ bK bA;refine aa λu v1 x1 s1=>?_;intro J hJ
 have ao:=λI=>by
  refine hr u alS ?_ x1 (λl d=>by cases d);rw[VI I];exact Vc.Own.nil _ _ _
 refine ID (λI=>ao (.inl I)) λI=>If.dec.2 ⟨λap=>ao (.inr ap),λap=>hJ _ _ ?_⟩;have f1:=f.agR;have f2:=f.agS;have f4:=f.len;have a3:∀a,ag (λi=>h.size<i) u a->Ext h a:=λa o=>alU x1 o λi hi=>ω;have var:∀a,ag (λi=>h.size<i) u a->Var 24 a h.size c.tv:=λa o=>v1.only o (Nat.lt_irrefl _);refine⟨c.vals,v1.ah rfl,?_⟩
 refine⟨λσ a=>0<=σ.2/\σ.2<=c.vals.len/\Vc.Own 52 32 a σ.1 (XV slot σ.2.toNat)/\(∀l,σ.1.a=some l->h.size<l.b)/\ag (λi=>h.size<i) u a,λσ _=>(c.vals.len-σ.2).toNat,
  ⟨alV 0,ω,Vc.Own.nil _ _ _,(λl d=>by cases d),amw _ _⟩,?_⟩
 rintro⟨s,i⟩ g ⟨i0,i1,w,U,V⟩;dsimp only at i0 i1 w U⊢;have z2:=V.size;refine ID (λhi=>?_) λhi=>?_
 ·have W:=Pv;have X:=dN 4 (alY .u64 slot);have l2:=dN 2 (alY .u64 i);refine bL 4 _ _ _ δ λq x3=>⟨_,rfl,by show((zR.length+_:Nat):Int)<=_;rw[X,W];decide,bL 2 _ _ _ δ λL p=>⟨_,rfl,?_,?_⟩⟩
  ·show(((zR++_).length+_:Nat):Int)<=_;rw[al2,X,l2,W];decide
  refine lI (s:=(zR++MV (alY .u64 slot) 4)++MV (alY .u64 i) 2) (by rw[al2,al2,X,l2,W];decide) λA M=>⟨_,rfl,?_⟩;have Y:=(x3.trans p).trans M;have D:=w.ext Y;have a4:=D.len;rw[alT,amB]at a4;rw[acD];refine cD (C:=ctx) (T:=52) (sz:=32) (x:=.bytes 32 (tR slot i)) aez acF (by rw[VU];decide) (by rw[VU];omega) D rfl rfl λs6 h6 E f6 Z=>?_;rw[wrap_i64 (n:=i+1) ω ω];have ab:(i+1).toNat=i.toNat+1:=ω;have z5:=Y.size;refine⟨⟨Ω,Ω,?_,λl d=>?_,?_⟩,Ω⟩
  ·rw[ab,XW];have y:((i.toNat:Nat):Int)=i:=ω;rw[y];exact E
  ·rcases Z l d with⟨z,F,ac⟩|F
   ·rw[<-ac];exact U z F
   ·omega
  ·refine V.trans ((amm Y).trans (f6.mono λj⟨l,d,e⟩=>?_));rw[<-e];exact U l d
 have a5:i.toNat=c.vals.len:=ω;rw[a5]at w;have ar:=w.len;rw[alT,amB]at ar;have a6:amn (s.len:Int)=s.len:=amb _;refine⟨ω,alV _,ω,ω,?_⟩;rw[a6,<-ar];have ob:=Vc.Own.new (T:=4) (sz:=1) g (amu c.vals.len (ams false)) (λt ht=>by rw[List.eq_of_mem_replicate ht];rfl);rw[List.length_replicate,<-gR]at ob;have xp:=amd g (aaW c.vals.len);have bp:(amg g (aaW c.vals.len)).size=g.size+1:=by simp
 change Vc.Own 4 1 (amg g (aaW c.vals.len)) _ _ at ob;show Vc.Loop _ (amg g (aaW c.vals.len)) _;generalize amg g (aaW c.vals.len)=N at*;have a7:ag (λi=>h.size<i) u N:=V.trans (amm xp);have a8:∀l,s.a=some l->l.b<g.size:=w.lt;have br:h.size<g.size:=ω;rw[show amu c.vals.len (ams false)=aY (flags slot c.vals.len 0) by rw[Uq];simp[aY]]at ob
 refine⟨λt a=>∃k:Nat,(k:Int)<=c.aQ/\Vc.Own 3 1 a t (ints ((Ay slot c.vals.len).take k))/\(∀l,t.a=some l->g.size<l.b)/\Vc.Own 4 1 a ⟨some ⟨g.size,0⟩,c.vals.len,c.vals.len⟩ (aY (flags slot c.vals.len k))/\ag (λi=>g.size<=i) N a,λt _=>(c.aQ-(t.len:Int)).toNat,
  ⟨0,ω,Vc.Own.nil _ _ _,(λl d=>by cases d),ob,amw _ _⟩,?_⟩
 rintro t q ⟨k,hk,ot,G,aw,O⟩;have aE:ag (λi=>h.size<i) u q:=a7.trans (O.mono λi hi=>ω);have v3:=var q aE;have tl:=ot.len;have a0:((Ay slot c.vals.len).take k).length=k:=by rw[al4,RP];omega
 rw[alT,a0]at tl;have z3:=O.size;have a9:=aas (n:=c.vals.len) (aQ:=c.aQ) (slot:=slot) ω ω
 have a':∀a,Ext q a->(k:Int)=c.aQ->R (amh t).val a:=λa x bt=>by
  refine hr a t ?_ ((a3 q aE).trans x) (λl d=>by have:=G l d;omega);rw[a9,show(min (max c.aQ 0) (c.vals.len:Int)).toNat=k by omega];exact ot.ext x
 refine⟨c.aQ,v3.ah rfl,ID (λbx=>?_) λb0=>a' q (al0 _) ω⟩;have ba:k<c.vals.len:=ω;have bb:Vc.Own 52 32 q s (XV slot c.vals.len):=(w.ext xp).only O (λl d=>by have:=a8 l d;omega);refine⟨λσ a=>0<=σ.2/\σ.2<=c.vals.len/\Ext q a/\Ck slot (left slot c.vals.len k) σ.2.toNat σ.1,λσ _=>((c.vals.len:Int)-σ.2).toNat,⟨alV 0,Ω,al0 _,.inl ⟨rfl,λj hj=>absurd hj (by simp)⟩⟩,?_⟩;rintro⟨ad,m⟩ L ⟨P,j1,p,B⟩;dsimp only at P j1 B⊢;refine ID (λbc=>?_) λbc=>?_
 ·have ab:(m+1).toNat=m.toNat+1:=ω;have y:((m.toNat:Nat):Int)=m:=ω;rw[wrap_i64 (n:=m+1) ω ω];have ae:amn (c.vals.len:Int)=c.vals.len:=amb _;refine⟨P,by first|omega|(rw[ae];omega),aaY (aw.ext p) rfl P (by unfold flags;rw[alT,amB];omega) λx r=>?_⟩;rw[XX ω]at r;injection r with r
  have next:∀(a:af)(b':Int),Ext q a->Ck slot (left slot c.vals.len k) (m.toNat+1) b'->((0<=m+1/\m+1<=c.vals.len/\Ext q a/\Ck slot (left slot c.vals.len k) (m+1).toNat b')/\((c.vals.len:Int)-(m+1)).toNat<((c.vals.len:Int)-m).toNat):=
   λa b' xh Bh=>⟨⟨ω,ω,xh,by rw[ab];exact Bh⟩,ω⟩
  cases H:left slot c.vals.len k m.toNat with
  |false=>
   rw[H]at r;subst r;exact amk (next L ad p (B.skip H))
  |true=>
   rw[H]at r;subst r;refine aml (ID (λa1=>?_) λb1=>?_)
   ·have:=B.first a1 H;rw[y]at this;exact next L m p this
   ·obtain⟨b,al⟩:∃b:Nat,ad=(b:Int):=⟨ad.toNat,ω⟩;subst al
    have bd:b<m.toNat:=by
     rcases B with⟨bi,_⟩|⟨b',bi,b2,_⟩
     ·omega
     ·omega
    have a2:=bb.ext p;refine aaX rfl a2.elems P ω ?_;refine aaX (i:=(b:Int)) rfl a2.elems ω ω ?_;refine OA λA M=>⟨_,rfl,?_⟩;rw[<-y];cases d:Op.bytesLess (tR slot ((m.toNat:Nat):Int)).l (tR slot (b:Int)).l with
    |true=>
     have:=B.less H d;rw[y]at this⊢;exact aml (next A m (p.trans M) this)
    |false=>
     have:=B.keep d;rw[y];exact amk (next A _ (p.trans M) this)
 have bj:m.toNat=c.vals.len:=ω;rw[bj]at B;obtain⟨b,bd,al,hw⟩:=B.done ba;subst al;refine ID (λa1=>ω) λ_=>?_
 have bk:=(aw.ext p).aH (t:=.bool true) (i:=(b:Int)) (n:=1) (K:=λa=>∃new,cn (a.push (row (alX [TV.i (b:Int)]) 3)) (amo (some (Vc.Loc.mk a.size 0)) 1 1) 1 new/\(∀v∈new,bU v=true)/\
  au ctx 3 t 1 new (a.push (row (alX [TV.i (b:Int)]) 3)) λ(s_:Sl)(h_:af)=>(∃k:Nat,(k:Int)<=c.aQ/\Vc.Own 3 1 h_ s_ (ints ((Ay slot c.vals.len).take k))/\(∀l,s_.a=some l->g.size<l.b)/\Vc.Own 4 1 h_ ⟨some ⟨g.size,0⟩,c.vals.len,c.vals.len⟩ (aY (flags slot c.vals.len k))/\ag (λi=>g.size<=i) N h_)/\(c.aQ-(s_.len:Int)).toNat<(c.aQ-(t.len:Int)).toNat)
  ω (by unfold flags;rw[alT,alT,amB];omega) rfl rfl λA D f5 s5=>?_
 ·have ae:amn (c.vals.len:Int)=c.vals.len:=amb _;refine⟨ω,by first|omega|(rw[ae];omega),?_⟩;exact bk.2.2
 ·have am:ag (·=g.size) L A:=f5.mono λi⟨l,d,e⟩=>by cases d;exact e.symm
  have bl:(aY (flags slot c.vals.len k)).set ((b:Int)).toNat (ams true)=aY (flags slot c.vals.len (k+1)):=by
   rw[amb,<-XY hw];unfold aY;rw[amE]
  rw[bl]at D;have bm:=(ot.ext p).only am (λl d=>by have:=G l d;omega);refine cD (C:=ctx) (T:=3) (sz:=1) (x:=.i (b:Int)) MR Gs (by rw[sG];decide) (by rw[sG];omega) bm rfl rfl λs6 h6 E f6 Z=>?_;have z5:=am.size;have z4:=p.size;have b3:g.size<N.size:=ω;have l6:=E.len;rw[al2,alT,a0,List.length_singleton]at l6;refine⟨⟨k+1,ω,?_,λl d=>?_,?_,?_⟩,ω⟩
  ·rw[aU hw];simp only[ints,al9,amx,amI]at E⊢;exact E
  ·rcases Z l d with⟨z,F,ac⟩|F
   ·rw[<-ac];exact G z F
   ·omega
  ·refine D.only f6 λl d r=>?_;obtain⟨z,bo,e⟩:=r;cases d;have:=G z bo;have e':z.b=g.size:=e;omega
  ·refine O.trans ((amm p).trans ((am.mono λi hi=>ω).trans (f6.mono λi⟨l,d,e⟩=>?_)));have:=G l d;omega
theorem L8{slot who:Int}(f:Gw c)(A:∀g,Ext h g->R (TV.i (idx (mem c.vals.len c.aQ slot) who 0)).val g):Cl 242 [c.tv,.i slot,.i who] h R:=by
 apply xK c.vals c.ep c.aQ c.no c.eV c.eH c.quo c.pe c.iy c.win c.bH c.dec slot who;delta U8 iZ nj gI bK aT;have f4:=f.len;refine aa λB v1 r C=>td v1 (zV f λj k m s _=>⟨_,rfl,?_⟩);have b:=A j (r.trans s);have D:=sK c.vals.len c.aQ slot;have el:=iP m.elems;generalize mem c.vals.len c.aQ slot=l at*;refine⟨λσ o=>0<=σ.2/\σ.2<=k.len/\o=j/\idx l who 0=idx (l.drop σ.2.toNat) who σ.2,λσ _=>((k.len:Int)-σ.2).toNat,⟨alV 0,Ω,rfl,rfl⟩,?_⟩;rintro⟨q,i⟩ o ⟨p,t,u,a⟩;obtain rfl:=u.symm;dsimp only at p t a⊢;refine ID (λv=>?_) λv=>?_
 ·refine gB m.elems p ω λx w=>?_;rw[BD w,idx]at a;refine ID (λd=>?_) λd=>?_
  ·rw[if_pos d.symm]at a;rw[a]at b;exact b
  ·rw[if_neg (λe=>d e.symm)]at a;rw[wrap_i64 (n:=i+1) ω ω];have y:(i+1).toNat=i.toNat+1:=ω;refine⟨⟨Ω,Ω,rfl,?_⟩,Ω⟩
   try dsimp only
   rw[y];exact a
 ·have z:l.drop i.toNat=[]:=List.drop_eq_nil_of_le ω;rw[z,idx]at a;rw[a]at b;exact b
theorem Pw{slot:Int}{bits:Sl}{row:List Bool}(f:Gw c)(e:aj 1 h bits (aY row))
 (A:∀g,Ext h g->(mem c.vals.len c.aQ slot=[]\/row.length≠(mem c.vals.len c.aQ slot).length)->R (alZ [.slice alS,.bool false]).val g)
 (I:∀g u,Vc.Own 3 1 g u (ints (pk (mem c.vals.len c.aQ slot) row))->Ext h g->(∀l,u.a=some l->h.size<=l.b)->mem c.vals.len c.aQ slot≠[]->row.length=(mem c.vals.len c.aQ slot).length->R (alZ [.slice u,.bool true]).val g):
 Cl 241 [c.tv,.i slot,.slice bits] h R:=by
 apply zv c.vals c.ep c.aQ c.no c.eV c.eH c.quo c.pe c.iy c.win c.bH c.dec slot bits;delta iA jr dD eW uQ gY bK aT;have f4:=f.len;refine aa λh1 v1 x1 s1=>td v1 (zV f λr s B K _=>⟨_,rfl,?_⟩);have o:=x1.trans K;have el:=iP B.elems;have ml:=sK c.vals.len c.aQ slot;generalize mem c.vals.len c.aQ slot=l at*;have L:row.length=bits.len:=by have:=e.len;rwa [alT]at this
 intro J M;refine al3 (λv=>?_) λv=>ID (λN=>A r o (.inl (List.eq_nil_of_length_eq_zero ω))) λN=>?_
 ·refine A r o (.inr λa=>?_);rw[L,el]at a;simp[a]at v
 ·have ac:bits.len=s.len:=by
   have:((s.len:Nat):Int)=((bits.len:Nat):Int):=by simpa using v
   omega
  refine M _ _ ?_
  refine⟨λσ D=>0<=σ.2/\σ.2<=s.len/\Vc.Own 3 1 D σ.1 (ints (pk (l.take σ.2.toNat) (row.take σ.2.toNat)))/\(∀p,σ.1.a=some p->r.size<=p.b)/\Ext r D/\σ.1.len<=σ.2.toNat,λσ _=>((s.len:Int)-σ.2).toNat,
   ⟨alV 0,Ω,Vc.Own.nil _ _ _,(λp d=>by cases d),al0 _,Nat.zero_le _⟩,?_⟩
  rintro⟨t,i⟩ O ⟨w,P,k,q,m,Q⟩;dsimp only at w P k q Q⊢;refine ID (λS=>?_) λS=>?_
  ·refine kD ((e.ext o).ext m) w ω λb U=>?_;have E:(i+1).toNat=i.toNat+1:=ω;obtain⟨x,a⟩:∃x,l[i.toNat]? =some x:=⟨_,alW ω⟩;have y:=OD (l.take i.toNat) (row.take i.toNat) x b (by rw[al4,al4];omega);rw[<-aU a,<-aU U]at y;rw[wrap_i64 (n:=i+1) ω ω];have z3:=m.size;cases b with
   |false=>
    refine amk ⟨⟨Ω,Ω,?_,q,m,Ω⟩,Ω⟩
    try dsimp only
    rw[E,y];simpa using k
   |true=>
    have V:=k.len;rw[alT]at V;refine aml (gB (B.elems.ext m) w ω λW F=>?_);obtain rfl:x=W:=by rw[a]at F;injection F
    refine cD (C:=ctx) (T:=3) (sz:=1) (x:=.i x) MR Gs (by rw[sG];decide) (by rw[sG];omega) k rfl rfl λs4 h4 z f4 b4=>?_;have X:=z.len;rw[al2,alT,List.length_singleton]at X;refine⟨⟨Ω,Ω,?_,λp d=>?_,?_,Ω⟩,Ω⟩
    ·try dsimp only
     rw[E,y];simp only[ints,if_true,al9,amx,amI]at z⊢;exact z
    ·rcases b4 p d with⟨Y,G,Z⟩|G
     ·rw[<-Z];exact q Y G
     ·omega
    ·refine alU m f4 λj⟨p,d,ej⟩=>?_;rw[<-ej];exact q p d
  ·have ab:i.toNat=l.length:=ω;have H:row.length=l.length:=ω;rw[ab,amt,<-H,amt]at k;exact I O t k (o.trans m) (λp d=>al6 o.size (q p d)) (λa=>by subst a;simp at el;omega) H
end
end Board
namespace Board
section
variable{R:Rq}{h:af}
theorem XZ:∀(l:List Int)(x:Int),(idx l x 0=0↔∃k,l=x::k)
 |[],x=>by simp[idx]
 |y::l,x=>by
  unfold idx;constructor
  ·intro a;split at a
   ·rename_i c;exact⟨l,by rw[c]⟩
   ·exfalso
    have:∀(l:List Int)(k:Int),1<=k->idx l x k≠0:=by
     intro l
     induction l with
     |nil=>intro k _;simp[idx]
     |cons z l d=>
      intro k b;unfold idx;split
      ·omega
      ·exact d (k+1) ω
    exact this l 1 ω a
  ·rintro⟨k,b⟩;injection b with e f;rw[if_pos e.symm]
theorem Nv{n:Nat}{aQ:Int}{m:Ms}{row:List Bool}(q:dU m row=true)(A:m.kind≠3):
 a_ n aQ m row=if idx (mem n aQ m.slot) m.ax 0<0 then([],false)else if m.kind=1/\0<idx (mem n aQ m.slot) m.ax 0 then([],false)else([m.ax],true):=by
 unfold a_;rw[if_neg (by rw[q];decide),if_neg A]
 have i:0<=m.ax:=by
  unfold dU at q;simp only[Bool.and_eq_true,Bool.not_eq_true',Bool.or_eq_false_iff,decide_eq_false_iff_not]at q;obtain⟨⟨⟨⟨_,c⟩,_⟩,_⟩,_⟩:=q;omega
 generalize mem n aQ m.slot=l
 have e:uy l=m.ax↔idx l m.ax 0=0:=by
  rw[XZ];constructor
  ·intro h;cases l with
   |nil=>
    have f:(-1:Int)=m.ax:=h;omega
   |cons x l=>
    have f:x=m.ax:=h;exact⟨l,by rw[f]⟩
  ·rintro⟨k,rfl⟩;rfl
 by_cases c:m.kind=1
 ·by_cases a:idx l m.ax 0<0
  ·have b:m.kind=1/\uy l≠m.ax:=⟨c,λh=>by rw[e]at h;omega⟩;rw[if_pos b,if_pos a]
  ·by_cases g:0<idx l m.ax 0
   ·have b:m.kind=1/\uy l≠m.ax:=⟨c,λh=>by rw[e]at h;omega⟩;have d:m.kind=1/\0<idx l m.ax 0:=⟨c,g⟩;rw[if_pos b,if_neg a,if_pos d]
   ·have b:¬(m.kind=1/\uy l≠m.ax):=λh=>h.2 (e.2 ω);have d:¬(m.kind=1/\0<idx l m.ax 0):=λh=>g h.2;rw[if_neg b,if_neg a,if_neg a,if_neg d]
 ·have b:¬(m.kind=1/\uy l≠m.ax):=λh=>c h.1;have d:¬(m.kind=1/\0<idx l m.ax 0):=λh=>c h.1;rw[if_neg b];by_cases a:idx l m.ax 0<0
  ·rw[if_pos a,if_pos a]
  ·rw[if_neg a,if_neg a,if_neg d]
theorem vC{c:Cf}{m:Ms}{row:List Bool}(f:Gw c)(e:aj 1 h m.bits (aY row))(q:row.length<100000)
 (A:∀a s,aj 1 a s (ints (a_ c.vals.len c.aQ m row).1)->Ext h a->(∀l,s.a=some l->h.size<=l.b)->R (alZ [.slice s,.bool (a_ c.vals.len c.aQ m row).2]).val a):Cl 176 [c.tv,m.tv] h R:=by
 apply tu c.vals c.ep c.aQ c.no c.eV c.eH c.quo c.pe c.iy c.win c.bH c.dec m.kind m.slot m.target m.ax m.body m.bits m.tag;delta dK U7 eY nY Wv d_ uQ aN aT fD;refine aa λI v1 J V=>aa λB o C W=>?_;have v1:Var 24 B h.size c.tv:=Var.ext (t:=c.tv) v1 C;have o:Var 58 B I.size m.tv:=o;have D:=J.trans C;refine bB o (yJ (e.ext D) q λK u=>⟨_,rfl,?_⟩);have g:=D.trans u;have E:=v1.ext u;have L:=o.ext u;have M:=L.at;obtain⟨F,G,X,v,Y,N,Z⟩:=M
 have p:∀a,Ext h a->a_ c.vals.len c.aQ m row=([],false)->R (alZ [.slice alS,.bool false]).val a:=λa x b=>by
  have:=A a alS (by rw[b];exact RR a) x (λl q=>by cases q);rw[b]at this;exact this
 refine al3 (λi=>p K g ?_) λi=>⟨_,F,ID (λr=>?_) λr=>?_⟩
 ·unfold a_;rw[if_pos (by simpa using i)]
 ·have i:¬dU m row=false:=by simpa using i
  refine td E ⟨_,G,_,N,?_⟩;refine Pw (c:=c) f (e.ext g) (λj d O=>⟨_,_,rfl,p j (g.trans d) ?_⟩) λj P Q d S T U=>⟨_,_,rfl,?_⟩
  ·unfold a_;rw[if_neg i,if_pos r,if_pos O]
  ·have b:a_ c.vals.len c.aQ m row=(pk (mem c.vals.len c.aQ m.slot) row,true):=by
    unfold a_;rw[if_neg i,if_pos r,if_neg (λw=>w.elim T (λw=>w U))]
   have:=A j P (by rw[b];exact Q.elems) (g.trans d) (λl q=>al6 g.size (S l q));rw[b]at this;exact this
 ·have i:dU m row=true:=by simpa using i
  have b:=Nv (n:=c.vals.len) (aQ:=c.aQ) i r
  have H:∀a,Ext h a->a_ c.vals.len c.aQ m row=([m.ax],true)->R (alZ [.slice (amo (some (Vc.Loc.mk a.size 0)) 1 1),.bool true]).val (a.push (Vc.row (alX [TV.i m.ax]) 3)):=λa x b=>by
   have:=A _ ⟨some ⟨a.size,0⟩,1,1⟩ (by rw[b];exact RS a m.ax) (x.trans (amd _ _)) (λl q=>by obtain rfl:=Option.some.inj q;exact x.size);rw[b]at this;exact this
  refine td E ⟨_,G,_,v,?_⟩;refine L8 (c:=c) f λj d=>⟨_,rfl,ID (λk=>p j (g.trans d) ?_) λk=>⟨_,mI d F,ID (λy=>ID (λz=>p j (g.trans d) ?_) λz=>⟨_,mI d v,H j (g.trans d) ?_⟩) λy=>⟨_,mI d v,H j (g.trans d) ?_⟩⟩⟩
  ·rw[b,if_pos k]
  ·rw[b,if_neg k,if_pos ⟨y,z⟩]
  ·rw[b,if_neg k,if_neg (λh=>z h.2)]
  ·rw[b,if_neg k,if_neg (λh=>y h.1)]
end
end Board
namespace Board
theorem bpl{n:Nat}{x:Bs n}:(ame n x).plain=true:=by rfl
section
variable{R:Rq}{h:af}
theorem aaZ(L:List Vd){m:Ms}(row:List Bool)(q:m.kind=3)(x:Int):ud L m row x=GO (FB L x) (dA (om m x) []):=by
 unfold ud B8 Eh;rw[if_pos q,if_pos q];rfl
theorem X0{n:Nat}{aQ:Int}{L:List Vd}{m:Ms}{row:List Bool}(A:(a_ n aQ m row).2=true)(q:m.kind≠3):(a_ n aQ m row).1=[m.ax]/\mB n aQ L m row=(GO (FB L m.ax) (dA m row),true):=by
 have b:=Nv (n:=n) (aQ:=aQ) (Lf A) q
 have a:a_ n aQ m row=([m.ax],true):=by
  grind
 refine⟨by rw[a],?_⟩;unfold mB;rw[a,if_pos rfl];show(IJ (alR 16) (ud L m row m.ax),true)=_;rw[aaR];unfold ud B8 Eh;rw[if_neg q,if_neg q]
set_option maxHeartbeats 400000 in
theorem HS{c:Cf}{m:Ms}{row:List Bool}{L:List Vd}(f:Gw c)(U:aj 2 h c.vals (jx L))(W:∀v∈L,v.key.length<=64)(e:aj 1 h m.bits (aY row))(hl:row.length<500)(al:j9 m)
 (Z:∀V,Ext h V->R (alZ [.bytes 16 (mB c.vals.len c.aQ L m row).1,.bool (mB c.vals.len c.aQ L m row).2]).val V):Cl 155 [c.tv,m.tv] h R:=by
 apply AK c.vals c.ep c.aQ c.no c.eV c.eH c.quo c.pe c.iy c.win c.bH c.dec m.kind m.slot m.target m.ax m.body m.bits m.tag;delta gz eG fH dK QF dx eY rD jr dD eW aN bK;have f4:=f.len;refine aa λh1 v1 F s1=>aa λh2 y z s2=>aa λh3 v3 G s3=>?_;have v1:=(Var.ext v1 z).ext G;have y:=Var.ext y G;have X:=(F.trans z).trans G;refine td v1 (bB y (vC f (e.ext X) ω λH Y I A _=>⟨_,_,rfl,?_⟩));have o:=X.trans A;have w1:=v1.ext A;have q:=y.ext A;have J:=v3.ext A;refine al3 (λd=>?_) λd=>?_
 ·have r:mB c.vals.len c.aQ L m row=(alR 16,false):=by
   unfold mB;rw[if_neg (by simpa using d)]
  refine aq J rfl rfl λh5 v5 f5 s5=>⟨_,v5.bytes,?_⟩
  grind [alU]
 have d:(a_ c.vals.len c.aQ m row).2=true:=by simpa using d
 have am:=lY (Lf d);refine⟨_,q.at.1,al3 (λg=>?_) λg=>?_⟩
 ·have g:m.kind≠3:=by simpa using g
  obtain⟨ao,r⟩:=X0 (L:=L) d g;have K:0<=m.ax/\m.ax<c.vals.len:=mem_range (GP (x:=m.ax) (by rw[ao];exact List.mem_singleton.2 rfl));refine⟨c.vals,w1.at.1,_,q.at.2.2.2.1,?_⟩;refine(U.ext o).read K.1 ω λap tv ar s M=>?_;rw[ama]at s;obtain⟨b,u,rfl⟩:=Option.map_eq_some_iff.1 s;have N:FB L m.ax=b.key:=by unfold FB;rw[amr,u];rfl
  have O:=W b (al8 u);refine⟨b.key,M.2,bB q ?_⟩;have ab:=ov m row;refine pg (e.ext o) hl am al λh5 a=>⟨_,rfl,a,HR O ω λh6 k=>⟨_,rfl,?_⟩⟩;have ac:=a.trans k;refine aq (J.ext ac) (t:=.bytes 16 (GO b.key (dA m row))) rfl wI λB P f7 s7=>⟨_,P.bytes,?_⟩;have:=Z B (alU (o.trans ac) f7 λj hj=>by have:=F.size;have:=z.size;omega);rw[r,N]at this;exact this
 ·have g:m.kind=3:=by simpa using g
  have r:mB c.vals.len c.aQ L m row=(fI ((a_ c.vals.len c.aQ m row).1.map (ud L m row)) (alR 16),true):=by
   unfold mB;rw[if_pos d]
  have ad:∀x∈(a_ c.vals.len c.aQ m row).1,0<=x/\x<c.vals.len:=λx D=>mem_range (GP D);have aw:=si (n:=c.vals.len) (aQ:=c.aQ) (m:=m) (row:=row);generalize(a_ c.vals.len c.aQ m row).1=l at I r ad aw;have el:=iP I
  refine⟨λσ hh=>0<=σ.2/\σ.2<=Y.len/\Vc.Own 56 16 hh σ.1 (tags ((l.take σ.2.toNat).map (ud L m row)))/\(∀p,σ.1.a=some p->H.size<=p.b)/\Ext H hh,λσ _=>((Y.len:Int)-σ.2).toNat,
   ⟨alV 0,Ω,Vc.Own.nil _ _ _,(λp w=>by cases w),al0 _⟩,?_⟩
  rintro⟨t,i⟩ h5 ⟨i0,i1,E,Q,a⟩;dsimp only at i0 i1 E Q a⊢;refine ID (λhi=>?_) λhi=>?_
  ·refine gB (I.ext a) i0 ω λx D=>?_;have K:=ad x (al8 D);refine⟨c.vals,(w1.ext a).at.1,?_⟩;refine((U.ext o).ext a).read K.1 ω λap tv ar s M=>?_;rw[ama]at s;obtain⟨b,u,rfl⟩:=Option.map_eq_some_iff.1 s;have N:FB L x=b.key:=by unfold FB;rw[amr,u];rfl
   have O:=W b (al8 u);refine⟨b.key,M.2,_,(q.ext a).at.2.1,_,(q.ext a).at.2.2.1,?_⟩;have ab:(dA ⟨2,m.slot,m.target,x,0,alS,alR 16⟩ []).length<=60+([]:List Bool).length:=ov _ _;refine Fc λh6 k=>⟨_,rfl,k,?_⟩;refine HR O (by simp only[List.length_nil]at ab;omega) λB x7=>⟨_,rfl,?_⟩;have aE:GO b.key (dA (om m x) [])=ud L m row x:=by rw[aaZ L row g,N]
   have S:=k.trans x7;have o8:=E.ext S;have tl:=o8.len;rw[alT,alT,al4]at tl;refine cD (C:=ctx) (T:=56) (sz:=16) (x:=.bytes 16 (GO b.key (dA (om m x) []))) aau VK (by rw[I1];decide) (by rw[I1];omega) o8 b16 bpl λs9 h9 o9 f9 b9=>?_;rw[wrap_i64 (n:=i+1) ω ω];have x9:Ext H h9:=alU (a.trans S) f9 λj⟨p,w,hj⟩=>by have:=Q p w;omega
   have z8:=(a.trans S).size;refine⟨⟨ω,ω,?_,λp w=>?_,x9⟩,Ω⟩
   ·rw[show(i+1).toNat=i.toNat+1 by omega,aU D,al9,amx,amI,<-aE];simpa[tags]using o9
   ·rcases b9 p w with⟨p',ae,a2⟩|ae
    ·have:=Q p' ae;omega
    ·omega
  ·have a0:l.take i.toNat=l:=amA ω;rw[a0]at E;refine Pu E.elems (by rw[alT];omega) λh6 k=>⟨_,rfl,?_⟩;have a1:=(o.trans a).trans k;refine aq ((J.ext a).ext k) (t:=.bytes 16 (fI (l.map (ud L m row)) (alR 16))) rfl rfl λB P f7 s7=>⟨_,P.bytes,?_⟩;have:=Z B (alU a1 f7 λj hj=>by have:=F.size;have:=z.size;omega);rw[r]at this;exact this
theorem L_{c:Cf}{m:Ms}{row:List Bool}{L:List Vd}(f:Gw c)(q:aj 2 h c.vals (jx L))(A:∀v∈L,v.key.length<=64)(e:aj 1 h m.bits (aY row))(B:row.length<500)(E:j9 m)
 (G:∀j,Ext h j->R (ams (kj c.vals.len c.aQ L m row)).val j):Cl 185 [c.tv,m.tv] h R:=by
 apply xL c.vals c.ep c.aQ c.no c.eV c.eH c.quo c.pe c.iy c.win c.bH c.dec m.kind m.slot m.target m.ax m.body m.bits m.tag;delta dK U5 aO eY rD lq;refine aa λp v1 r C=>aa λs b k D=>?_;have v1:=Var.ext (t:=c.tv) v1 k;have b:Var 58 s p.size m.tv:=b;have d:=r.trans k;refine td v1 (bB b (HS f (q.ext d) A (e.ext d) B E λu l=>⟨_,_,rfl,?_⟩));refine aa λF v4 w H=>aq v4 (t:=.bytes 16 (mB c.vals.len c.aQ L m row).1) rfl rfl λn x f5 I=>?_;have o:Ext u n:=alU w f5 λi J=>ω;have y:=(d.trans l).trans o;have a:=G n y;unfold kj at a;refine al3 (λg=>?_) λg=>?_
 ·rw[g,Bool.true_and]at a;have z:=(b.ext l).ext o;exact⟨_,x.bytes,m.tag,z.at.2.2.2.2.2.2,a⟩
 ·rw[g,Bool.false_and]at a;exact a
theorem Lh{c:Cf}{m:Ms}{row:List Bool}(f:Gw c)(e:aj 1 h m.bits (aY row))(hl:row.length<500)
 (A:∀s u,aj 34 s u (Et (jG c.vals.len c.aQ m row))->Ext h s->(∀p,u.a=some p->h.size<=p.b)->R (amh u).val s):Cl 111 [c.tv,m.tv] h R:=by
 apply xM c.vals c.ep c.aQ c.no c.eV c.eH c.quo c.pe c.iy c.win c.bH c.dec m.kind m.slot m.target m.ax m.body m.bits m.tag;delta dK U6 sD dx eY pR jr dD eW aN bK;have f4:=f.len;refine aa λh1 v1 K s1=>aa λh2 k y s2=>?_;have v1:=Var.ext v1 y;have k:=k;have z:=K.trans y;refine td v1 (bB k (vC f (e.ext z) ω λd B v D _=>⟨_,_,rfl,?_⟩));have o:=z.trans D;have E:=k.ext D;intro J L;refine al3 (λw=>?_) λw=>⟨_,E.at.1,ID (λF=>?_) λF=>L _ _ ?_⟩
 ·have q:jG c.vals.len c.aQ m row=[]:=if_pos (.inl (by simp_all));exact A d alS (by simp_all [aj.Bf]) o (λp a=>by cases a)
 ·have q:jG c.vals.len c.aQ m row=[]:=if_pos (.inr F);exact A d alS (by simp_all [aj.Bf]) o (λp a=>by cases a)
 ·have w:=by simpa using w
  have q:jG c.vals.len c.aQ m row=(a_ c.vals.len c.aQ m row).1.map λi=>⟨i,m.slot,m.target⟩:=if_neg (by simp_all);have M:=si (n:=c.vals.len) (aQ:=c.aQ) (m:=m) (row:=row);generalize(a_ c.vals.len c.aQ m row).1=l at v q M;have el:=iP v
  refine⟨λσ G=>0<=σ.2/\σ.2<=B.len/\Vc.Own 124 34 G σ.1 (Et ((l.take σ.2.toNat).map λi=>⟨i,m.slot,m.target⟩))/\(∀p,σ.1.a=some p->d.size<=p.b)/\Ext d G,λσ _=>(B.len-σ.2).toNat,
   ⟨alV 0,ω,Vc.Own.nil _ _ _,(λp a=>by cases a),al0 _⟩,?_⟩
  rintro⟨t,i⟩ N ⟨H,O,g,r,b⟩;dsimp only at H O g r b⊢;refine ID (λP=>?_) λP=>?_
  ·refine gB (v.ext b) H ω λx Q=>?_;have I:=E.ext b;refine⟨_,I.at.2.1,_,I.at.2.2.1,?_⟩;have S:=g.len;rw[alT,alT,al4]at S;refine cD (C:=ctx) (T:=124) (sz:=34) (x:=Vt.tv ⟨x,m.slot,m.target⟩) aax VL (by rw[FC];decide) (by rw[FC];omega) g (Vt.size _) (Vt.plain _) λs9 U V f9 W=>?_;rw[wrap_i64 (n:=i+1) ω ω];have X:Ext d U:=alU b f9 λj⟨p,a,hj⟩=>by have:=r p a;omega
   have z5:=b.size;refine⟨⟨ω,ω,?_,λp a=>?_,X⟩,Ω⟩
   ·rw[show(i+1).toNat=i.toNat+1 by omega,aU Q,al9];simpa[Et]using V
   ·rcases W p a with⟨Y,h1',ab⟩|h1'
    ·have:=r Y h1';omega
    ·omega
  ·have Z:l.take i.toNat=l:=amA ω;rw[Z]at g;exact A N t (by rw[q];exact g.elems) (o.trans b) λp a=>al6 o.size (r p a)
end
end Board
namespace Gate
open Board (Vd Cf Ms Dm Gw jx aq aY bh dF bw bB fR cv gF pX)
open Pool (It qw RL fq eM Dw rts dY oF has)
theorem FH{c:Cf}{V:List Vd}(k:Can c V)(h:V.length=c.vals.len):Gw c:=⟨k.aQ.1,by have:=k.aQ.2.2;omega,k.aQ.2.1,by have:=k.len.2;omega⟩
theorem If.no'{b:Bool}{P Q:Prop}(h:b=false)(q:Q):If b P Q:=by rw[h];exact amk q
theorem If.ag5{b:Bool}{P Q:Prop}(h:b=true)(q:P):If b P Q:=by rw[h];exact aml q
section
variable{R:Rq}{h h':af}{g:Nat}{a:RAd}{c:Cf}{V:List Vd}{s:St}{Fp:Nat->Nat->Prop}
theorem aZ.tok(p:aZ h g a c V s Fp):rz s.N c.no:=by obtain⟨A,B,D,b,d⟩:=p.tree;exact b.ok
theorem aZ.el(p:aZ h g a c V s Fp):V.length=c.vals.len:=by have:=p.vals.len;simp_all
theorem Sa(p:aZ h g a c V s Fp){k:Nat}(kp:Kept c s k)(hk:k<100000){peer:Int}{text:LU}(ht:text.length<1000)
 (M:∀h' Fp',aZ h' g a c V (aG c V s peer text).2 Fp'->Step (dm Fp) h (dm Fp') h'->R (TV.i (aG c V s peer text).1).val h'):
 Cl 120 [.ptr (PT g),.i peer,.str text] h R:=by
 apply qW;delta j3 eG jZ jY aD gK i_ yh mw cu eY dJ jW dz bz dX aN eU bJ bK aT bA;have kl:=kp.left;have kn:=kp.now;have cw:=Clock.CP c.win;have cp:=p.can.pe;have cl:=p.good.2;have el:=p.el;have a4:=FH p.can el;have keys:=wS p.can;have a5:=p.tok
 have f:aG c V s peer text=if decide (Peers.score s.sc peer<=-c.bH)=true then(3,s)else if c.iy<text.length then(4,s)else match dF text with
  |none=>(5,s)
  |some d=>if dw c V s (d.ms alS) d.row≠0 then(dw c V s (d.ms alS) d.row,s)
   else if d.kind=1 then c5 c s peer (d.ms alS) d.row text
   else((dY zU c.eH c.quo peer text s.wait).1,{s with wait:=(dY zU c.eH c.quo peer text s.wait).2.2}):=rfl
 generalize aG c V s peer text=bt at f M
 have E:∀(n:af)(v:Int),bt=(v,s)->Ext h n->R (TV.i v).val n:=λn v e x=>by
  subst e;exact M n Fp (p.ext x) (.an x)
 obtain⟨ti,ba,C⟩:=p.var;obtain⟨wA,wB,wp,hW⟩:=p.who;refine⟨_,C.ah rfl,Peers.Pm wp ω (Peers.CN p.good.1) ⟨_,rfl,?_⟩⟩;rw[show decide (c.bH<=-Peers.score s.sc peer)=decide (Peers.score s.sc peer<=-c.bH)from decide_eq_decide.2 ⟨λh=>ω,λh=>ω⟩];refine al3 (λj=>E h 3 (by simp_all) (al0 _)) λj=>?_;rw[if_neg (by simp_all)]at f;refine⟨c.iy,C.ah rfl,ID (λK=>E h 4 (by simp_all) (al0 _)) λK=>?_⟩;rw[if_neg K]at f;refine gF ht (λbx h2 x2=>?_) λd h2 b N e2 x2 _=>?_
 ·rw[bx]at f;refine⟨_,_,_,_,_,_,_,_,rfl,aa λh3 v3 x3 s3=>aq (t0:=bh.tv) v3 cv fR λK v4 f4 s4=>?_⟩;exact aml (E K 5 f (x2.trans (alU x3 f4 λi A=>amf (ami A))))
 rw[N]at f;simp only at f;refine⟨_,_,_,_,_,_,_,_,rfl,aa λh3 v3 x3 s3=>aq (t0:=bh.tv) v3 cv fR λK v4 f4 s4=>?_⟩;have a6:=alU x3 f4 λi A=>amf (ami A);have x4:=x2.trans a6;have v4:=v4;have e4:=e2.ext a6;have a7:=oF N;have b0:=Board.lY (pX N);have a8:=Pool.Kq N b;refine amk (bB v4 (Board.cW e4 a7 b0 a8 λh5 x5=>⟨_,rfl,?_⟩));refine aa λh6 v6 x6 s6=>aq v6 eM.symm (eM.trans eM.symm) λO v7 f7 s7=>?_;have b1:=alU x6 f7 λi A=>amf (ami A);have ao:=x5.trans b1;have Y:=x4.trans ao;obtain⟨name,ap⟩:∃name,name=bw (d.ms b) d.row:=⟨_,rfl⟩;rw[<-ap]at v7;have b2:bw (d.ms alS) d.row=name:=by rw[ap];exact GS.symm
 have F:=v4.ext ao;obtain⟨w,hw⟩:∃w,w=dw c V s (d.ms alS) d.row:=⟨_,rfl⟩
 have l:w=if fK c s d.kind d.slot=false then 6 else if(Board.a_ V.length c.aQ (d.ms b) d.row).2=false then 7 else if Board.kj V.length c.aQ V (d.ms b) d.row=false then 8 else if iD s d.kind name=true then 9 else 0:=by
  rw[hw,<-KW (b:=b)];unfold dw;rw[<-ap];rfl
 rw[<-hw]at f;have stop:∀(n:af)(v:Int),w=v->v≠0->Ext h n->R (TV.i v).val n:=λn v e hv x=>E n v (by rw[f,if_pos (by rw[e];exact hv),e]) x;intro J HJ
 have a9:∀(n:af)(z:Int),Ext O n->¬fK c s d.kind d.slot=false->J z n:=by
  intro n z Z ha;refine HJ z n ?_;rw[if_neg ha]at l;have xx:=Y.trans Z;have ph:=p.ext xx;have vh:Var 58 n h2.size (d.ms b).tv:=F.ext Z;have eh:=e4.ext (ao.trans Z);obtain⟨ti,ba,C⟩:=ph.var;refine⟨c.vals,c.ep,c.aQ,c.no,c.eV,c.eH,c.quo,c.pe,c.iy,c.win,c.bH,c.dec,C.at.1,bB (m:=d.ms b) vh ?_⟩;refine Board.vC (c:=c) a4 eh ω λh8 s8 _ G _=>⟨_,_,rfl,?_⟩;rw[<-el];refine al3 (λj=>stop h8 7 (by rw[l,if_pos (by simpa using j)]) δ (xx.trans G)) λj=>?_;have a2:¬(Board.a_ V.length c.aQ (d.ms b) d.row).2=false:=by simpa using j
  rw[if_neg a2]at l;have a':=xx.trans G;refine⟨c.vals,c.ep,c.aQ,c.no,c.eV,c.eH,c.quo,c.pe,c.iy,c.win,c.bH,c.dec,(C.ext G).at.1,bB (m:=d.ms b) (vh.ext G) ?_⟩;refine Board.L_ (c:=c) (L:=V) a4 (p.ext a').vals (λv hv=>by have:=keys v hv;omega) (eh.ext G) a7 a8 λh9 x9=>⟨_,rfl,?_⟩;rw[<-el];have ab:=a'.trans x9;have ar:=G.trans x9;refine al3 (λj=>stop h9 8 (by rw[l,if_pos (by simpa using j)]) δ ab) λj=>?_;have a3:¬Board.kj V.length c.aQ V (d.ms b) d.row=false:=by simpa using j
  rw[if_neg a3]at l;have p9:=p.ext ab;have vh9:=vh.ext ar;have ac:Var 52 h9 h5.size (.bytes 32 name):=(v7.ext Z).ext ar;have P:=C.ext ar;clear C;refine⟨d.kind,vh9.at.1,?_⟩;rcases(Decidable.em (d.kind=1)).symm with y|y
  ·rw[decide_eq_false y];have aw:iD s d.kind name=has name s.wait:=by unfold iD;rw[if_neg y]
   rw[aw]at l;obtain⟨wA2,bb,b3⟩:=p9.wait;refine aml ⟨_,P.ah rfl,name,ac.bytes,Pool.GD bb λad B=>⟨_,rfl,?_⟩⟩;have H:=ab.trans B;refine al3 (λj=>stop ad 9 (by rw[l,if_pos j]) δ H) λj=>?_;rw[if_neg (by rw[j];decide)]at l;rw[if_neg (by rw[l];decide),if_neg y]at f;subst f;refine⟨_,(P.ext B).ah rfl,Pool.OY (peer:=peer) (text:=text) (bb.ext B) p.can.eH.1 p.can.eH.2 kp.AG ht λQ bc b5 b6=>⟨_,_,rfl,?_⟩⟩;have st:Step (Fp 4) ad (λi=>i=a.wt\/In bc i) Q:=by rw[b3];exact xJ b6
   have aE:=(p.ext H).B_ ⟨bc,b5,rfl⟩ st;refine aa λae b7 o cs=>aq (t:=.bytes 32 _) b7 eM.symm (eM.trans eM.symm) λD ct f13 s13=>?_;have bd:Ext Q D:=alU o f13 λi A=>amf (ami A);exact M D _ (aE.ext bd) (.cut H ((Step.all st).trans (.an bd)))
  ·rw[decide_eq_true y];have aw:iD s d.kind name=(decide (0<=place name s.N)||has name s.kids):=by unfold iD;rw[if_pos y]
   rw[aw]at l;refine amk ?_;intro J2 bi;obtain⟨tA,tB,tD,S,hT⟩:=p9.tree;refine⟨_,P.ah rfl,_,p9.bk.ah rfl,name,ac.bytes,fA S λad B=>⟨_,rfl,?_⟩⟩;have H:=ab.trans B;refine ID (λh0=>stop ad 9 (by rw[l,if_pos (by rw[decide_eq_true h0,Bool.true_or])]) δ H) λh0=>?_;rw[decide_eq_false h0,Bool.false_or]at l;obtain⟨kA,bj,hK⟩:=p9.kids;refine⟨_,(P.ext B).ah rfl,name,(ac.ext B).bytes,Pool.GD (bj.ext B) λQ bk=>⟨_,rfl,?_⟩⟩;have a0:=H.trans bk;refine al3 (λj=>stop Q 9 (by rw[l,if_pos j]) δ a0) λj=>bi _ Q ?_;rw[if_neg (by rw[j];decide)]at l;rw[if_neg (by rw[l];decide),if_pos y]at f;clear bi J2;have T:=B.trans bk;have bl:=P.ext T;have aE:=p.ext a0;have al:=vh9.ext T;have b8:=ac.ext T;have I:=S.ext T;unfold c5 at f;rw[b2]at f;have b9:(d.ms alS).target=d.target:=rfl;have ca:(d.ms alS).slot=d.slot:=rfl;rw[b9,ca]at f;refine⟨_,bl.ah rfl,_,aE.bk.ah rfl,d.target,al.at.2.2.1,fA I λae o=>⟨_,rfl,?_⟩⟩;have U:=a0.trans o;have W:=p.ext U;have am:=bl.ext o;refine ID (λhn=>?_) λhy=>?_
   ·have en:(c8 s.N (place d.target s.N)).2=false:=by unfold c8 nodeAt;rw[if_neg ω]
    rw[if_pos en]at f;subst f;refine⟨_,am.ah rfl,Pool.OX (peer:=peer) (text:=text) ((bj.ext T).ext o) p.can.eV.1 p.can.eV.2 kp.Cd ht λD bm cd ce=>⟨_,_,rfl,?_⟩⟩;have st:Step (Fp 3) ae (λi=>i=a.kd\/In bm i) D:=by rw[hK];exact xJ ce
    have a1:=W.tj ⟨bm,cd,rfl⟩ st;refine aa λcx cf ch cy=>aq (t:=.bytes 32 _) cf eM.symm (eM.trans eM.symm) λbo cA f15 cB=>?_;have bp:Ext D bo:=alU ch f15 λi A=>amf (ami A);exact M bo _ (a1.ext bp) (.cut U ((Step.all st).trans (.an bp)))
   ·obtain⟨q,u,q1,q2,q3,q4,q5⟩:=fG (r:=d.target) (L:=s.N) ω;have br:s.N[(place d.target s.N).toNat]? =some u:=by rw[q2,amb];exact q3
    have en:c8 s.N (place d.target s.N)=(u,true):=ig ω br;rw[en]at f;rw[if_neg (λh=>by cases h)]at f;refine⟨_,am.ah rfl,_,W.bk.ah rfl,tB,(I.ext o).var.ah rfl,qL (I.ext o).b.elems ω (CL br) ⟨d.slot,(al.ext o).at.2.1,?_⟩⟩;refine ID (λhs=>?_) λhs=>?_
    ·rw[if_pos hs]at f;exact E ae 10 f U
    ·rw[if_neg hs]at f;refine⟨_,am.ah rfl,_,W.bk.ah rfl,tA,(I.ext o).var.ah rfl,_,am.ah rfl,_,W.bk.ah rfl,c.no,(I.ext o).var.ah rfl,?_⟩;have tl:=(I.ext o).la;have ol:=a5.len;refine ID (λhf=>?_) λhf=>?_
     ·rw[if_pos ω]at f;exact E ae 13 f U
     ·rw[if_neg ω]at f;subst f;have ko:=kp.Cd;have co:=p.can.eV;refine⟨name,(b8.ext o).bytes,d.target,(al.ext o).at.2.2.1,d.slot,(al.ext o).at.2.1,R9 W ω ω λD ci a1 cj=>⟨rfl,M D ci a1 (.cut U cj)⟩⟩
 have X:=p.ext Y;obtain⟨cC,cI,vg7⟩:=X.var;have slot:=Board.XT (pX N);have cJ:0<=d.slot/\d.slot<=1073741824:=slot;refine⟨d.kind,F.at.1,ID (λy=>?_) λy=>?_⟩
 ·obtain⟨tA,tB,tD,S,hT⟩:=X.tree;have l0:=a5.Gf;obtain⟨u,hu⟩:∃u,s.N[(0:Int).toNat]? =some u:=⟨_,alW l0⟩;have ef:bT s=u:=by unfold bT;rw[ig (alV 0) hu]
  have ea:fK c s d.kind d.slot=Clock.vt s.now u.slot d.slot:=by unfold fK;rw[if_pos y,ef]
  refine⟨_,vg7.ah rfl,_,vg7.ah rfl,_,X.bk.ah rfl,tB,S.var.ah rfl,qL S.b.elems (alV 0) (CL hu) ⟨d.slot,F.at.2.1,Clock.RH X.kz ⟨_,rfl,?_⟩⟩⟩;rw[<-ea];refine al3 (λj=>stop O 6 (by rw[l,if_pos (by simpa using j)]) δ Y) λj=>?_;exact⟨d.kind,F.at.1,If.no' (by rw[decide_eq_true y];rfl) (a9 O 0 (al0 _) (by simpa using j))⟩
 ·have ea:fK c s d.kind d.slot=Clock.zS s.now (Clock.fB c.win) d.slot:=by unfold fK;rw[if_neg y]
  refine⟨d.kind,F.at.1,If.ag5 (by rw[decide_eq_false y];rfl) ⟨_,vg7.ah rfl,d.slot,F.at.2.1,Clock.TZ X.kz kn.1 kn.2 cw.1 cw.2 ω ⟨_,rfl,?_⟩⟩⟩;rw[<-ea];refine al3 (λj=>stop O 6 (by rw[l,if_pos (by simpa using j)]) δ Y) λj=>?_;exact a9 O 0 (al0 _) (by simpa using j)
theorem FI{v:Int}(q:0<=v/\v<14)(A:∀h',Ext h h'->R (TV.i (iu v)).val h'):Cl 56 [.i v] h R:=by
 apply vD;have a:=amd h (row (alX [TV.i 0,TV.i 0,TV.i 0,TV.i 0,TV.i 4,TV.i 4,TV.i 1,TV.i 3,TV.i 5,TV.i 1,TV.i 3,TV.i 0,TV.i 0,TV.i 0]) 3)
 have o:=(Vc.Own.new (T:=3) h (eA [0,0,0,0,4,4,1,3,5,1,3,0,0,0]) λt b=>by
  obtain⟨x,_,rfl⟩:=al5.1 b;rfl).elems
 have c:=by
  have:∀n:Nat,n<14->[0,0,0,0,4,4,1,3,5,1,3,0,0,0][n]? =some (iu n):=δ;have:=this v.toNat ω
  rwa [show((v.toNat:Nat):Int)=v by omega]at this
 obtain⟨d,f,e⟩:=qL o q.1 c (K:=λn=>R (TV.val (.i n)) _) (A _ a);exact⟨d,q.2,e⟩
theorem Li{peer:Int}{text:LU}:0<=(aG c V s peer text).1/\(aG c V s peer text).1<14:=by
 have a:∀{want:Int->Bool}{most quota:Int}{S:List It},0<=(dY want most quota peer text S).1/\(dY want most quota peer text S).1<14:=by
  grind [Pool.cV,dY]
 grind [c5,aG,dw]
theorem HT{P P':List (Int×Int)}{most k pts n:Int}(g:Peers.Good P)(A:(P.length:Int)<=most)(q:(Lit.int .i64 k).wf=true)(f:Peers.lN most P k pts P' n):Peers.Good P'/\(P'.length:Int)<=most:=by
 rcases f with⟨_,rfl,_⟩|⟨a,c,_,rfl⟩|⟨a,_,_,_,w,b,rfl⟩
 ·simp_all
 ·refine⟨g.put q (Peers.B7 (Peers.CN g k) a),?_⟩
  grind [absurd,Peers.D9]
 ·have d:=Peers.drop_length b.1;refine⟨(g.drop w).put q (Peers.B7 ⟨δ,alV 0⟩ a),?_⟩
  grind [Peers.D9]
theorem Dz(p:aZ h g a c V s Fp){k:Nat}(E:Kept c s k)(U:k<100000){peer:Int}(G:(Lit.int .i64 peer).wf=true){text:LU}(H:text.length<1000)
 (I:∀h' P n C,aZ h' g a c V {(aG c V s peer text).2 with sc:=P,gone:=s.gone+n} C->Step (dm Fp) h (dm C) h'->Peers.lN c.pe s.sc peer (iu (aG c V s peer text).1) P n->R (TV.i (aG c V s peer text).1).val h'):
 Cl 43 [.ptr (PT g),.i peer,.str text] h R:=by
 apply oS;delta jZ dJ aT;have kg:=E.gone;have W:=p.can.pe;have y:=p.good;obtain⟨_,j1,D,_,_⟩:=zj (V:=V) E (peer:=peer) H;have Sb:=Li (c:=c) (V:=V) (s:=s) (peer:=peer) (text:=text);generalize X:aG c V s peer text=m at I j1 D Sb;refine Sa p E U H λh1 F u Y=>?_;rw[X]at u⊢;obtain⟨J,K,o⟩:=u.var;obtain⟨A,B,L,Z⟩:=u.who;refine⟨_,rfl,_,o.ah rfl,FI Sb λh2 w=>⟨_,rfl,w,?_⟩⟩;rw[j1,D]at L;refine Peers.Le Peers.Po (L.ext w) ω y.1 G ω W.1 λq A' B' P n M ab N=>⟨rfl,?_⟩
 have st:Step (F 5) h2 (Peers.dV a.wh A' B') q:=by
  rw[Z];exact⟨N.1,N.2⟩
 have gd:=HT y.1 y.2 G M;have x:=(u.ext w).CR (P:=P) (gone:=s.gone+n) ⟨A',B',ab,rfl⟩ gd st;have O:=(Y.trans (.an w)).trans (Step.all st);obtain⟨z,ac⟩:∃z,z=nT F 5 (Peers.dV a.wh A' B'):=⟨_,rfl⟩;rw[<-ac]at x O
 have Q:∀(d:af)(e l:Bool),Var 80 d g (zn c a m.2.left e l)->ag (·=g) q d->R (TV.i m.1).val d:=λd e l v f=>by
  obtain⟨p4,ad⟩:=x.VS (n:=m.2.left) ⟨e,l,v⟩ f;exact I d P n z p4 (O.trans ad) M
 obtain⟨J,K,o⟩:=x.var;obtain⟨A3,B3,ae,_⟩:=x.who;intro S HJ
 have j:∀(d:af)(e l:Bool),Var 80 d g (zn c a m.2.left e l)->ag (·=g) q d->S PUnit.unit d:=λd e l v f=>by
  refine HJ _ d ⟨_,v.ah rfl,?_⟩;cases l with
  |true=>exact aml (aI v (i:=8) (t:=.bool true) rfl rfl rfl rfl λr v4 f4 T=>Q r e _ v4 (f.trans f4))
  |false=>exact amk (aI v (i:=8) (t:=.bool (decide (m.1=3))) rfl rfl rfl rfl λr v4 f4 T=>Q r e _ v4 (f.trans f4))
 refine⟨_,o.ah rfl,?_⟩
 have set:∀b:Bool,gT q g 18 1/\Bind (amz q g 18 (.bool b)) λh=>S PUnit.unit h:=λb=>
  aI o (i:=7) (t:=.bool b) rfl rfl rfl rfl λr v4 f4 T=>j r b K v4 f4
 cases J with
 |true=>exact aml (set true)
 |false=>exact amk (ID (λ_=>set true) λ_=>If.dec.2 ⟨λ_=>set true,λ_=>⟨_,o.ah rfl,_,ae.var.ah rfl,set _⟩⟩)
end
end Gate
namespace Pool
open Board (Dm Ms dF bw bh bB aq fR cv aY aU)
theorem Kept.only{n:Nat}{Q:Nat->Prop}{B E:af}{t:Sl}{bs:List Bk}(K:Kept n B t bs)(f:ag Q B E)(q:∀k∈bs,∀l,k.b.a=some l->¬Q l.b):Kept n E t bs:=λk a=>
 ⟨(K k a).1.only f (q k a),λl b=>⟨((K k a).2 l b).1,by have:=((K k a).2 l b).2.1;have:=f.size;omega,((K k a).2 l b).2.2⟩⟩
section
variable{R:Rq}{h:af}{m:Nat}{A:Sl}{M:List It}{most quota:Int}
set_option maxHeartbeats 1000000 in
theorem Px(r:RL h m A M most quota)(ht:∀x∈M,x.text.length<1000){n:Int}
 (hr:∀E A' t(bs:List Bk),RL E m A' (M.filter λx=>!decide (x.slot<n)) most quota->fq m A h A' E->bs.map Bk.of=(M.filter λx=>decide (x.slot<n)).map (λx=>(x.root,lK x.text))->Vc.Own 58 53 E t (bs.map Bk.Xj)->Kept h.size E t bs->(∀l,t.a=some l->h.size<=l.b)->R (amh t).val E):
 Cl 110 [.ptr (PT m),.i n] h R:=by
 apply zw;delta aJ jY wu eY dD bK;have al:=r.iz;have hm:=r.var.lt;have el:=r.el.len;rw[alT]at el;refine⟨A,r.var.ah rfl,?_⟩
 refine⟨λσ F=>0<=σ.2.2/\σ.2.2<=M.length/\Ext h F/\(∀l,σ.1.a=some l->h.size<=l.b)/\(∀l,σ.2.1.a=some l->h.size<=l.b)/\(∀i,In σ.1 i->¬In σ.2.1 i)/\
  (∃bs:List Bk,bs.map Bk.of=((M.take σ.2.2.toNat).filter λx=>decide (x.slot<n)).map (λx=>(x.root,lK x.text))/\Vc.Own 58 53 F σ.1 (bs.map Bk.Xj)/\Kept h.size F σ.1 bs/\∀k∈bs,∀l,k.b.a=some l->¬In σ.2.1 l.b)/\
  Vc.Own 82 67 F σ.2.1 (qw ((M.take σ.2.2.toNat).filter λx=>!decide (x.slot<n))),
  λσ _=>((M.length:Int)-σ.2.2).toNat,⟨alV 0,Ω,al0 _,(λl a=>by cases a),(λl a=>by cases a),(λi⟨l,a,_⟩=>by cases a),⟨[],rfl,Vc.Own.nil _ _ _,Kept.nil _ _ _,(λk c=>by cases c)⟩,Vc.Own.nil _ _ _⟩,?_⟩
 rintro⟨t,u,i⟩ V ⟨W,i1,o,s,v,ap,⟨bs,w,p,y,I⟩,z⟩;dsimp only at W i1 o s v ap w p y I z⊢;have z2:=o.size;refine ID (λe=>?_) λe=>?_
 ·refine gE (r.el.ext o) W ω λl x _ b=>?_;refine aa λX v3 x3 s3=>aH v3 (t:=x.tv) rfl λY v4 f4 s4=>?_;have B:Ext V Y:=alU x3 f4 λi e=>ω;have am:=B.size;have J:(i+1).toNat=i.toNat+1:=ω;have L:=lZ (λx=>decide (x.slot<n)) b;have N:=lZ (λx=>!decide (x.slot<n)) b;have ao:((M.take i.toNat).filter λx=>decide (x.slot<n)).length<=M.length:=al6 (List.length_filter_le ..) (by rw[al4];omega);have ar:((M.take i.toNat).filter λx=>!decide (x.slot<n)).length<=M.length:=al6 (List.length_filter_le ..) (by rw[al4];omega);refine⟨x.slot,v4.at.1,?_⟩;refine ID (λhb=>?_) λhb=>?_
  ·have G:decide (x.slot<n)=false:=decide_eq_false ω;rw[if_neg (by rw[G];decide),amH]at L;rw[if_pos (by rw[G];rfl)]at N;refine rG v4 (VE (z.ext B) ω λs8 h8 Q f8 D=>?_);rw[wrap_i64 (n:=i+1) ω ω]
   have O:∀i,In s8 i->In u i\/Y.size<=i:=λi⟨l,a,e⟩=>by
    rcases D l a with⟨q,g,S⟩|g
    ·exact .inl ⟨q,g,ω⟩
    ·exact .inr ω
   refine⟨⟨Ω,Ω,alU (o.trans B) f8 λj⟨l,a,hj⟩=>by have:=v l a;omega,s,λl a=>?_,λi e b=>?_,⟨bs,?_,?_,(y.ext B).only f8 I,?_⟩,?_⟩,Ω⟩
   ·rcases D l a with⟨q,g,S⟩|g
    ·have:=v q g;omega
    ·omega
   ·rcases O i b with d|d
    ·exact ap i e d
    ·obtain⟨l,a,aw⟩:=e;have:=p.lt l a;omega
   ·try dsimp only
    rw[J,L];exact w
   ·exact(p.ext B).only f8 λl a b=>ap _ ⟨l,a,rfl⟩ b
   ·intro k c l a b;rcases O _ b with d|d
    ·exact I k c l a d
    ·have:=((y k c).2 l a).2.1;omega
   ·try dsimp only
    rw[J,N];exact Q
  ·have G:decide (x.slot<n)=true:=decide_eq_true ω;rw[if_pos G]at L;rw[if_neg (by rw[G];decide),amH]at N;have ac:=ht x (al8 b);refine⟨x.text,OK v4,Ip ac λh5 Z ok e5 x5 ab=>⟨_,_,_,_,_,_,_,_,rfl,?_⟩⟩;refine aa λh6 v6 x6 s6=>aq (t0:=bh.tv) v6 (t:=((lK x.text).ms Z).tv) cv fR λh7 v7 f7 s7=>bB v7 ?_;have U:Ext h5 h7:=alU x6 f7 λi e=>ω;have P:=B.trans (x5.trans U);have tl:=p.len;rw[alT,<-alT (f:=Bk.of),w,alT]at tl;obtain⟨k,c⟩:∃k,k=Bk.mk x.root (lK x.text) Z:=⟨_,rfl⟩;have z5:=x5.size;have aE:=U.size;refine cD (C:=ctx) (T:=58) (sz:=53) (x:=k.Xj) aab VD (by rw[IX];decide) (by rw[IX];omega) (p.ext P) k.Z9 k.Z_ (K:=λa0 F=>_) ?_|>λH=>by rw[c]at H;exact H
   intro t8 h8 Q f8 D;rw[wrap_i64 (n:=i+1) ω ω];have K8:=Kept.step (k:=k) y p P z2 (by rw[c];exact e5.ext U) (λl a=>by rw[c]at a;have:=ab l a;omega) f8 D
   have O:∀i,In t8 i->In t i\/h7.size<=i:=λi⟨l,a,e⟩=>by
    rcases D l a with⟨q,g,S⟩|g
    ·exact .inl ⟨q,g,ω⟩
    ·exact .inr ω
   have ul:∀i,In u i->i<V.size:=λi⟨l,a,e⟩=>by have:=z.lt l a;omega
   refine⟨⟨Ω,Ω,alU (o.trans P) f8 λj⟨l,a,hj⟩=>by have:=s l a;omega,λl a=>?_,v,λi e b=>?_,⟨bs++[k],?_,?_,K8,?_⟩,?_⟩,Ω⟩
   ·rcases D l a with⟨q,g,S⟩|g
    ·have:=s q g;omega
    ·omega
   ·rcases O i e with d|d
    ·exact ap i d b
    ·have:=ul i b;omega
   ·try dsimp only
    rw[J,L,al9,al9,w,c];rfl
   ·rw[al9];exact Q
   ·intro k' ad l a b;rcases List.mem_append.1 ad with d|d
    ·exact I k' d l a b
    ·rw[List.mem_singleton.1 d,c]at a;have:=ab l a;have:=ul _ b;omega
   ·try dsimp only
    rw[J,N];exact(z.ext P).only f8 λl a b=>ap _ b ⟨l,a,rfl⟩
 ·have ae:i.toNat=M.length:=ω;rw[ae,amt]at w z;have a1:(M.filter λx=>!decide (x.slot<n)).length<=M.length:=List.length_filter_le ..;refine Kr (r.ext o) z ω (λl a=>by have:=v l a;omega) λX r3 f3=>?_;exact hr X u t bs r3 ⟨(amm o).trans f3,λl a=>.inr (v l a)⟩ w (p.only f3 λl a=>by have:=s l a;omega) (y.only f3 λk c l a=>by have:=((y k c).2 l a).1;omega) s
end
end Pool
namespace Gate
noncomputable def vB:Code:=adK Tryz.f252
noncomputable def vR0:Code:=Cm vB
noncomputable def vL:Code:=af0 (Pz (ri vB))
noncomputable def vRc:Code:=Cm vL
noncomputable def vB1:Code:=Pz (Cm (ri (ri vL)))
noncomputable def vR2:Code:=Cm vB1
noncomputable def vR3:Code:=Cm (ri vB1)
noncomputable def vR4:Code:=ri (ri (ri vL))
theorem aa1:vB=.seq vR0 (.block 0 (.loop (.seq vRc (.seq (.cond (.tmp 8) .skip (.exit 0)) (.seq (.block 1 (.seq vR2 (.seq vR3 (.cond (.tmp 14) .ret .skip)))) vR4))))):=κ
section
variable{Y:aa0}{h:af}{y:Vc.One}{p:OL}{Q:Env->af->Prop}{S:Sl}{n k:Int}
abbrev vE(y:Vc.One)(p:OL)(S:Sl)(n k:Int):Env:=[some (.one y),some (.ptr p),none,none,none,some (.slice S),some (.i n),some (.i k),none,none,none,none,none,none,none,none]
theorem aeC:iT Y ctx (fL vR0) (fL vR0) 0 [some (.one y),some (.ptr p),none,none,none,none,none,none,none,none,none,none,none,none,none,none] h Q=
 (Nn p λl=>∃s:Sl,ah h l.b l.o (bu s)/\Q (vE y p s s.len 0) h):=κ
theorem aeD:iT Y ctx (fL vRc) (fL vRc) 0 (vE y p S n k) h Q=Q [some (.one y),some (.ptr p),none,none,none,some (.slice S),some (.i n),some (.i k),some (.bool (decide (k<n))),none,none,none,none,none,none,none] h:=κ
theorem aeE:iT Y ctx (fL vR2) (fL vR2) 0 (vE y p S n k) h Q=
 (0<=k/\k<(S.len:Int)/\Nn S.a λl=>∃(b:Bs 32),∃(m:Int),∃(a:Int),(av h l.b (l.o+k.toNat*34) 32 b/\ah h l.b (l.o+k.toNat*34+32) (.i m)/\ah h l.b (l.o+k.toNat*34+32+1) (.i a))/\
  Vc.Bind (iW h (TV.agg [.bytes 32 (alR 32),.i 0,.i 0]) 69) λq=>gT q h.size 0 34/\Vc.Bind (amz q h.size 0 (.agg [.bytes 32 b,.i m,.i a])) λA=>
   Q [some (.one y),some (.ptr p),none,none,some (.ptr (PT h.size)),some (.slice S),some (.i n),some (.i k),none,some (.ptr (some ⟨l.b,l.o+k.toNat*34⟩)),some (.agg [.bytes 32 b,.i m,.i a]),none,none,none,none,none] A):=κ
noncomputable def vO(i:Nat):Oper:=(fL vR3).getD i default
theorem X2:(vO 2).guard=none:=κ
theorem acH:(vO 2).dst=some 13:=κ
theorem aa2:∃c:Call,(vO 2).op=.call c/\c.callee=.value (.tmp 11)/\c.args=#[.tmp 12]:=⟨_,(by kernel_rfl:(vO 2).op=.call (match(vO 2).op with|.call c=>c|_=>default)),κ,κ⟩
theorem acI{q:Nat}:iT Y ctx [vO 0,vO 1,vO 2,vO 3] [vO 0,vO 1] 0 [some (.one y),some (.ptr p),none,none,some (.ptr (PT q)),some (.slice S),some (.i n),some (.i k),none,none,none,none,none,none,none,none] h Q=
 (∃(b:Bs 32),∃(m:Int),∃(a:Int),(av h q 0 32 b/\ah h q 32 (.i m)/\ah h q 33 (.i a))/\
  Q [some (.one y),some (.ptr p),none,none,some (.ptr (PT q)),some (.slice S),some (.i n),some (.i k),none,none,none,some (.one y),some (.agg [.bytes 32 b,.i m,.i a]),none,none,none] h):=κ
theorem acJ{c:Bool}:iT Y ctx [vO 0,vO 1,vO 2,vO 3] [vO 3] 3 [some (.one y),some (.ptr p),none,none,none,some (.slice S),some (.i n),some (.i k),none,none,none,none,none,some (.bool c),none,none] h Q=
 Q [some (.one y),some (.ptr p),none,none,none,some (.slice S),some (.i n),some (.i k),none,none,none,none,none,some (.bool c),some (.bool (!c)),none] h:=κ
theorem X4:∃id,vR3=.region id #[vO 0,vO 1,vO 2,vO 3] false:=⟨_,(by kernel_rfl:vR3=.region (match vR3 with|.region id _ _=>id|_=>0) #[vO 0,vO 1,vO 2,vO 3] false)⟩
theorem aeF:iT Y ctx (fL vR4) (fL vR4) 0 (vE y p S n k) h Q=
 Q [some (.one y),some (.ptr p),none,none,none,some (.slice S),some (.i n),some (.i (alY .i64 (k+1))),none,none,none,none,none,none,none,some (.i (alY .i64 (k+1)))] h:=κ
end
end Gate
namespace Gate
open Go Go.Vc Go.RowKit
open Board (aq wI)
open Pool (rts eM Dw)
theorem gn:ctx.strict=false:=rfl
section
variable{h:af}{S:Sl}{N:List Nd}
theorem xO{A B C:World}(q:fS false A B)(E:fS false A C)(G:C.heap=B.heap):B.grownBy C none:=
 ⟨E.os.trans q.os.symm,E.tape.trans q.tape.symm,E.output.trans q.output.symm,by simp_all,λ_ _ _=>by rw[G]⟩
theorem rQ{n:Nat}{A B:World}(q:fS false A B)(x:Ext A.heap B.heap)(E:n<=A.heap.size):Below n A B:=⟨q.os,q.tape,q.output,x.size,λk a=>x.same k ω⟩
theorem acK(e:aj 34 h S (nds N)){k:Nat}{x:Nd}(q:N[k]? =some x){K:Vc.Loc->Bs 32->Int->Int->Prop}(B:∀l,K l x.root x.slot x.par):
 0<=(k:Int)/\(k:Int)<(S.len:Int)/\Nn S.a λl=>∃(b:Bs 32),∃(m:Int),∃(A:Int),(av h l.b (l.o+(k:Int).toNat*34) 32 b/\ah h l.b (l.o+(k:Int).toNat*34+32) (.i m)/\ah h l.b (l.o+(k:Int).toNat*34+32+1) (.i A))/\K l b m A:=by
 have c:=e.len;have:=(al1.1 q).1;rw[alT]at c;refine e.read ω ω λl t _ a d=>?_;rw[amb,ama,q]at a;cases a;exact⟨_,_,_,d,B l⟩
theorem PB{m q n0:Nat}{w:World}(hq:Var 165 w.heap q (.slice S))(e:aj 34 w.heap S (nds N))(hS:∀i,In S i->i<n0)(O:n0<=w.heap.size)(ci:N.length<1000):
 SeqStopsK Fence.wide m Tryz.prog 252 #[(amq (PT q)).val] (λx:Nd=>#[x.tv.val]) (Below n0) (λA=>A=N) (λ_=>True) N.length w:=by
 intro l o P W C u hJx hY h0;have a9:=e.len;rw[alT]at a9;obtain⟨y,hy⟩:∃y:Vc.One,y.v=.func (.yield l) #[] #[]:=⟨⟨.func (.yield l) #[] #[],rfl⟩,rfl⟩;have a':Var 165 W.heap q (.slice S):=(C.block q hq.lt).trans hq
 have ba:∀{W':World},Below n0 W W'->aj 34 W'.heap S (nds N):=λ{W'} b=>by
  have f:ag (λi=>n0<=i) w.heap W'.heap:=⟨al6 C.size b.size,λi F O=>by rw[b.block i ω,C.block i ω]⟩;exact e.only f λl hl B=>by have:=hS l.b ⟨l,hl,rfl⟩;omega
 refine callsIn_of_wp Tryz.func252 (show Tryz.f252.body=some vB by rfl) trivial ?_ rfl;rw[aa1];have i0:=DL [.one y,.ptr (PT q)] 16
 have args:#[Value.func (.yield l) #[] #[]]++#[(amq (PT q)).val]=(amp [.one y,.ptr (PT q)]).toArray:=by
  show _=#[y.v,(amq (PT q)).val];simp_all
 rw[args,show Tryz.f252.ntmps=16 by kernel_rfl];generalize hA:({tmps:=(amp [.one y,.ptr (PT q)]).toArray++Array.replicate (16-(amp [.one y,.ptr (PT q)]).toArray.size) undef,defers:=[]}:Act)=G at i0⊢;have d0:G.defers=[]:=by rw[<-hA]
 have bb:rP [some (.one y),some (.ptr (PT q)),none,none,none,none,none,none,none,none,none,none,none,none,none,none] G:=by
  unfold rP;have:({G with defers:=[]}:Act)=G:=by rw[<-hA]
  rw[this];exact i0
 refine wpIn_seq (iU (ro:=none) (n:=m) bP gn (c:=vR0) κ (env:=[some (.one y),some (.ptr (PT q)),none,none,none,none,none,none,none,none,none,none,none,none,none,none])
  (Q:=λenv h=>env=vE y (PT q) S S.len 0/\h=W.heap) ?_ bb ?_)
 ·rw[aeC];exact⟨S,a'.ah rfl,rfl,rfl⟩
 rintro cj a1 w1 bc bd H ⟨rfl,R⟩
 have out:∀(I:Exit)(a:Act)(w:World),(I=.normal\/I=.ret)->a.defers=[]->((∃A,A=N/\o A w)\/(∃pre:List Nd,True/\P pre w))->bodyPost Tryz.prog Tryz.f252 (λe W'=>(∃v,e=.returned v)/\((∃A,A=N/\o A W')\/∃pre:List Nd,True/\P pre W')) I a w:=λI a w T hd B=>by
  rcases T with rfl|rfl
  ·exact bodyPost_end (results_none κ _ _ _) hd ⟨⟨_,rfl⟩,B⟩
  ·exact bodyPost_ret (results_none κ _ _ _) hd ⟨⟨_,rfl⟩,B⟩
 refine wpIn_block ?_;refine wpIn_loop (λa w'=>∃k:Nat,k<=N.length/\rP (vE y (PT q) S S.len k) a/\a.defers=[]/\o (N.take k) w'/\Below n0 W w') (λa _=>N.length-(match a.tmps.getD 7 undef with|.int _ k=>k.toNat|_=>0)) ⟨0,Nat.zero_le _,bc,bd.trans d0,?_,?_⟩ ?_
 ·rw[List.take_zero];exact u [] W w1 none h0 (xO (fS.refl W) H R) (λr d=>by cases d)
 ·exact⟨H.os,H.tape,H.output,by rw[R];exact al7 _,λk _=>by rw[R]⟩
 rintro a2 U ⟨k,hk,am,ao,bi,bj⟩
 have ap:∀{a:Act}{z:Int},rP (vE y (PT q) S S.len z) a->(match a.tmps.getD 7 undef with|.int _ k=>k.toNat|_=>0)=z.toNat:=λ{a z} T=>by
  have:=T.slot 7 (.i z) rfl
  have e2:a.tmps.getD 7 undef=(TV.i z).val:=by
   rw[Array.getD_eq_getD_getElem?,show a.tmps[7]? =some (TV.i z).val from this];rfl
  rw[e2];rfl
 refine wpIn_seq (iU (ro:=none) (n:=m) bP gn (c:=vRc) κ (env:=vE y (PT q) S S.len k) (Q:=λenv h=>env=[some (.one y),some (.ptr (PT q)),none,none,none,some (.slice S),some (.i S.len),some (.i k),some (.bool (decide ((k:Int)<S.len))),none,none,none,none,none,none,none]/\h=U.heap) ?_ am ?_)
 ·rw[aeD];exact⟨rfl,rfl⟩
 rintro cl a3 j ar aw J ⟨rfl,V⟩;have g3:=xO (fS.refl U) J V;have X:o (N.take k) j:=u _ U j none bi g3 (λr d=>by cases d);have Y:Below n0 W j:=bj.trans ⟨J.os,J.tape,J.output,by rw[V];exact al7 _,λk _=>by rw[V]⟩;have t8:a3.eval (.tmp 8)=.bool (decide ((k:Int)<S.len)):=ar.eval (x:=.tmp 8) rfl;have bk:=ar.weak (a:=vE y (PT q) S S.len k) ⟨rfl,rfl,rfl,rfl,rfl,trivial⟩;by_cases aE:k<N.length
 ·rw[decide_eq_true ω]at t8;refine wpIn_seq (wpIn_cond (t:=true) t8 (wpIn_skip ?_));obtain⟨x,B⟩:∃x,N[k]? =some x:=⟨_,alW aE⟩;have e3:=ba Y
  refine wpIn_seq (wpIn_block (wpIn_seq (iU (ro:=none) (n:=m) bP gn (c:=vR2) κ (env:=vE y (PT q) S S.len k)
   (Q:=λenv h=>∃l:Vc.Loc,env=[some (.one y),some (.ptr (PT q)),none,none,some (.ptr (PT j.heap.size)),some (.slice S),some (.i S.len),some (.i k),none,some (.ptr (some ⟨l.b,l.o+(k:Int).toNat*34⟩)),some x.tv,none,none,none,none,none]/\Ext j.heap h/\Var 69 h j.heap.size x.tv) ?_ bk ?_)))
  ·rw[aeE];refine acK e3 B λl=>aa λh1 v1 x1 s1=>aq (t:=x.tv) v1 rfl rfl λh2 v2 f2 s2=>⟨l,rfl,alU x1 f2 λi F=>amf (ami F),v2⟩
  rintro cp a4 p bl bm K ⟨l4,rfl,Z,v4⟩;have bo:=bl.weak (a:=[some (.one y),some (.ptr (PT q)),none,none,some (.ptr (PT j.heap.size)),some (.slice S),some (.i S.len),some (.i k),none,none,none,none,none,none,none,none]) ⟨rfl,rfl,rfl,rfl,rfl,rfl,trivial⟩;have bp:o (N.take k) p:=u _ j p none X ⟨K.os,K.tape,K.output,Z.size,λi F _=>Z.same i F⟩ (λr d=>by cases d);have br:Below n0 W p:=Y.trans (rQ K Z (al6 O (al6 C.size Y.size)));have bt:(N.take k).length<N.length:=by rw[al4];omega
  have bx:N.take (k+1)=N.take k++[x]:=by rw[List.take_add_one,B];rfl
  obtain⟨cs,b0⟩:=X4;obtain⟨c3,o3,f3,b1⟩:=aa2;rw[b0];refine wpIn_seq (wpIn_region_list ?_)
  refine Lk bP gn (ro:=none) (n:=m) (all:=[vO 0,vO 1,vO 2,vO 3]) (l2:=[vO 2,vO 3]) (w0:=p) (D:=[])
   (Q:=λenv h=>env=[some (.one y),some (.ptr (PT q)),none,none,some (.ptr (PT j.heap.size)),some (.slice S),some (.i S.len),some (.i k),none,none,none,some (.one y),some x.tv,none,none,none]/\h=p.heap)
   ?_ [vO 0,vO 1] 0 _ a4 p (by rw[acI];exact⟨_,_,_,v4.at,rfl,rfl⟩) bo (bm.trans (aw.trans ao)) (fS.refl p)
  rintro ct a5 E ab b2 L ⟨rfl,ac⟩;have b3:o (N.take k) E:=u _ p E none bp (xO (fS.refl p) L ac) (λr d=>by cases d);have a0:Below n0 W E:=br.trans ⟨L.os,L.tape,L.output,by rw[ac];exact al7 _,λk _=>by rw[ac]⟩;unfold wpListIn;rw[if_pos (by unfold Region.wanted;rw[X2])];have b5:a5.eval (.tmp 11)=.func (.yield l) #[] #[]:=by rw[ab.eval (x:=.tmp 11) (tv:=.one y) rfl];exact hy
  have b6:a5.eval (.tmp 12)=x.tv.val:=ab.eval (x:=.tmp 12) (tv:=x.tv) rfl;refine aeA o3 f3 b5 (vs:=#[x.tv.val]) (by rw[b1];simp[b6]) (hY (N.take k) x E b3 bt) λe g b7=>?_
  obtain⟨c,rfl,hc⟩:∃c:Bool,e=.returned (.bool c)/\((c=true/\o (N.take k++[x]) g/\Below n0 E g)\/(c=false/\P (N.take k++[x]) g)):=by
   rcases b7 with⟨rfl,ad,M⟩|⟨rfl,ae⟩
   ·exact⟨true,rfl,.inl ⟨rfl,ad,M⟩⟩
   ·exact⟨false,rfl,.inr ⟨rfl,ae⟩⟩
  refine⟨_,rfl,?_⟩;rw[acH];have b8:=(ab.put (some 13) (r:=some (.bool c)) (v:=.bool c) (.some rfl)).weak (a:=[some (.one y),some (.ptr (PT q)),none,none,none,some (.slice S),some (.i S.len),some (.i k),none,none,none,none,none,some (.bool c),none,none]) ⟨rfl,rfl,rfl,rfl,rfl,rfl,trivial⟩
  refine I3 bP gn (ro:=none) (n:=m) (all:=[vO 0,vO 1,vO 2,vO 3]) (w0:=g) (D:=[])
   (Q:=λenv h=>env=[some (.one y),some (.ptr (PT q)),none,none,none,some (.slice S),some (.i S.len),some (.i k),none,none,none,none,none,some (.bool c),some (.bool (!c)),none]/\h=g.heap) ?_ [vO 3] 3 _ _ g (by rw[acJ];exact⟨rfl,rfl⟩) b8 b2 (fS.refl g)
  rintro cw a7 s he7 hd7 hw7 ⟨rfl,al⟩;have g7:=xO (fS.refl g) hw7 al;have t14:a7.eval (.tmp 14)=.bool (!c):=he7.eval (x:=.tmp 14) rfl;rcases hc with⟨rfl,ad,M⟩|⟨rfl,ae⟩
  ·refine wpIn_cond (t:=false) t14 (wpIn_skip ?_);have b9:=he7.weak (a:=vE y (PT q) S S.len k) ⟨rfl,rfl,rfl,rfl,rfl,trivial⟩;refine iU (ro:=none) (n:=m) bP gn (c:=vR4) κ (env:=vE y (PT q) S S.len k) (Q:=λenv h=>env=[some (.one y),some (.ptr (PT q)),none,none,none,some (.slice S),some (.i S.len),some (.i ((k+1:Nat):Int)),none,none,none,none,none,none,none,some (.i ((k+1:Nat):Int))]/\h=s.heap) ?_ b9 ?_
   ·rw[aeF,wrap_i64 (n:=(k:Int)+1) ω ω];exact⟨rfl,rfl⟩
   rintro cx a8 w8 ca cd hw8 ⟨rfl,hh8⟩;have a6:=ca.weak (a:=vE y (PT q) S S.len ((k+1:Nat):Int)) ⟨rfl,rfl,rfl,rfl,rfl,trivial⟩;have g8:=xO (fS.refl s) hw8 hh8;have ce:o (N.take k++[x]) s:=u _ g s none ad g7 (λr d=>by cases d);have cf:o (N.take k++[x]) w8:=u _ s w8 none ce g8 (λr d=>by cases d);have sz6:n0<=g.heap.size:=al6 O (al6 C.size (al6 a0.size M.size));refine⟨⟨k+1,aE,a6,cd.trans hd7,by rw[bx];exact cf,a0.trans (M.trans ((rQ hw7 (by rw[al];exact al0 _) sz6).trans (rQ hw8 (by rw[hh8];exact al0 _) (by rw[al];exact sz6))))⟩,?_⟩;rw[ap a6,ap am];omega
  ·refine wpIn_cond (t:=true) t14 (wpIn_ret ?_);exact out .ret a7 s (.inr rfl) hd7 (.inr ⟨_,trivial,hJx _ g s none ae g7 (λr d=>by cases d)⟩)
 ·rw[decide_eq_false ω]at t8;refine wpIn_seq (wpIn_cond (t:=false) t8 (wpIn_exit ?_));have ch:k=N.length:=ω;rw[ch,amt]at X;exact out .normal a3 j (.inl rfl) (aw.trans ao) (.inl ⟨N,rfl,X⟩)
end
end Gate
namespace Gate
noncomputable def rB:Code:=adK Tryz.f125
noncomputable def rQ0:Code:=Cm rB
noncomputable def rQ1:Code:=Cm (ri rB)
noncomputable def rX:Code:=Cm (ri (ri rB))
noncomputable def rQ2:Code:=Cm rX
noncomputable def rQ3:Code:=Cm (adJ (ri rX))
noncomputable def rF:Code:=Pz (ri (adJ (ri rX)))
noncomputable def rA:Code:=acG rF
noncomputable def rR:Code:=Pz (aeB rF)
noncomputable def rQ6:Code:=Cm (ri (ri (ri rB)))
theorem aa3:rB=.seq rQ0 (.seq rQ1 (.seq (.seq rQ2 (.cond (.tmp 6) (.seq rQ3 (.block 0 (.rangeFunc (.tmp 11) #[12] rA (.block 1 rR)))) .skip)) (.seq rQ6 .ret))):=κ
section
variable{Y:aa0}{h:af}{p:OL}{Q:Env->af->Prop}{b c o:Nat}{u:Vc.One}
theorem aeG:iT Y ctx (fL rQ0) (fL rQ0) 0 [some (.ptr p),none,none,none,none,none,none,none,none,none,none,none,none,none,none,none,none,none,none] h Q=
 Q [some (.ptr p),none,some (.slice alS),none,none,none,none,none,none,none,none,none,none,none,none,none,none,none,none] h:=κ
theorem aeH:iT Y ctx (fL rQ1) (fL rQ1) 0 [some (.ptr p),none,some (.slice alS),none,none,none,none,none,none,none,none,none,none,none,none,none,none,none,none] h Q=
 Vc.Bind (iW h (.slice alS) 48) λa=>Q [some (.ptr p),none,some (.slice alS),some (.ptr (PT h.size)),none,none,none,none,none,none,none,none,none,none,none,none,none,none,none] a:=κ
theorem aeI:iT Y ctx (fL rQ2) (fL rQ2) 0 [some (.ptr p),none,some (.slice alS),some (.ptr (PT o)),none,none,none,none,none,none,none,none,none,none,none,none,none,none,none] h Q=
 Q [some (.ptr p),none,some (.slice alS),some (.ptr (PT o)),none,some (.ptr p),some (.bool (!p.isNone)),none,none,none,none,none,none,none,none,none,none,none,none] h:=κ
theorem aeJ:iT Y ctx (fL rQ3) (fL rQ3) 0 [some (.ptr (PT b)),none,some (.slice alS),some (.ptr (PT o)),none,none,none,none,none,none,none,none,none,none,none,none,none,none,none] h Q=
 ∃s:Sl,ah h b 0 (bu s)/\qA ctx.strict ctx.P 195 (amp [.slice s]) h λv a=>∃u:Vc.One,v=(TV.one u).val/\
  Q [some (.ptr (PT b)),none,some (.slice alS),some (.ptr (PT o)),none,none,none,some (.ptr (PT b)),some (.ptr (PT b)),some (.ptr (PT b)),some (.slice s),some (.one u),none,none,none,none,none,none,none] a:=κ
theorem af2{x:Bs 32}{m q:Int}:iT Y ctx (fL rA) (fL rA) 0 [none,none,none,some (.ptr (PT o)),none,none,none,none,none,none,none,none,some (.agg [.bytes 32 x,.i m,.i q]),none,none,none,none,none,none] h Q=
 Vc.Bind (iW h (TV.agg [.bytes 32 (alR 32),.i 0,.i 0]) 69) λA=>gT A h.size 0 34/\Vc.Bind (amz A h.size 0 (.agg [.bytes 32 x,.i m,.i q])) λa=>
  Q [none,none,none,some (.ptr (PT o)),some (.ptr (PT h.size)),none,none,none,none,none,none,none,some (.agg [.bytes 32 x,.i m,.i q]),none,none,none,none,none,none] a:=κ
theorem af3:iT Y ctx (fL rR) (fL rR) 0 [none,none,none,some (.ptr (PT o)),some (.ptr (PT c)),none,none,none,none,none,none,none,none,none,none,none,none,none,none] h Q=
 ∃s:Sl,ah h o 0 (bu s)/\∃x:Bs 32,av h c 0 32 x/\∃new,cn (h.push (row (alX [ame 32 x]) 52)) (amo (some (Vc.Loc.mk h.size 0)) 1 1) 32 new/\(∀v∈new,bU v=true)/\au ctx 52 s 1 new (h.push (row (alX [ame 32 x]) 52)) λa q=>
  gT q o 0 1/\Vc.Bind (amz q o 0 (.slice a)) λb=>Q [none,none,none,some (.ptr (PT o)),some (.ptr (PT c)),none,none,none,none,none,none,none,none,some (.slice s),some (.ptr (PT c)),some (.bytes 32 x),some (.slice (amo (some (Vc.Loc.mk h.size 0)) 1 1)),some (.slice a),none] b:=κ
theorem aeK:iT Y ctx (fL rQ6) (fL rQ6) 0 [none,none,none,some (.ptr (PT o)),none,none,none,none,none,none,none,none,none,none,none,none,none,none,none] h Q=
 ∃s:Sl,ah h o 0 (bu s)/\Q [none,none,some (.slice s),some (.ptr (PT o)),none,none,none,none,none,none,none,none,none,none,none,none,none,none,some (.slice s)] h:=κ
end
end Gate
namespace Gate
open Go Go.Vc Go.RowKit
open Board (aq wI)
open Pool (rts eM Dw)
theorem Nx{q:List Value}{T:TypeId}:(Vc.row q T).isCells=true:=rfl
theorem CV{T:TypeId}{sz:Nat}{h:af}{s:Sl}{ts:List TV}(o:Vc.Own T sz h s ts){i:Nat}(q:In s i):∃x,h[i]? =some x/\x.isCells=true:=by
 obtain⟨l,a,rfl⟩:=q;rcases o.row with rfl|⟨b,c,d,e,_⟩
 ·cases a
 grind [Nx]
theorem En{W W':World}{row:Option Nat}(q:W.grownBy W' row):ag (λi=>row=some i) W.heap W'.heap:=by
 obtain⟨_,_,_,a,b⟩:=q;exact⟨a,λi c d=>b i c (λe=>d e.symm)⟩
theorem Ny{A W W':World}{row:Option Nat}(q:W.grownBy W' row)(e:fS false A W):fS false A W':=by
 obtain⟨a,b,c,_,_⟩:=q;exact⟨a.trans e.os,b.trans e.tape,c.trans e.output,λh=>by cases h⟩
section
variable{R:Rq}{h h':af}{b r:Nat}{A:Sl}{L:List Nd}{most:Int}
def adL(w:World)(pre:List Nd)(W:World):Prop:=∃s,Vc.Own 52 32 W.heap s (rts (pre.map Nd.root))/\Var 48 W.heap w.heap.size (.slice s)/\Ext w.heap W.heap/\(∀i,In s i->w.heap.size<i)/\fS false w W
theorem Us{w:World}{B:Nat}(q:w.heap.size<=B):OwnFrom B (adL w):=by
 intro pre W W' row ⟨s,o,v,x,lo,b⟩ a d;have f:=En a
 have no:∀i(x:Obj),W.heap[i]? =some x->x.isCells=true->¬row=some i:=λi x g h e=>by
  simp_all
 refine⟨s,o.keep f λi c=>?_,v.only f (no _ _ v Nx),alU x f λi c=>?_,lo,Ny a b⟩
 ·grind [CV]
 grind
def VX(o:Nat)(x:Nd)(a:Act)(W:World):Prop:=∃c,rP [none,none,none,some (.ptr (PT o)),some (.ptr (PT c)),none,none,none,none,none,none,none,none,none,none,none,none,none,none] a/\a.defers=[]/\Var 69 W.heap c x.tv
theorem PC{o B:Nat}(x:Nd)(a:Act):OwnFrom B (λ(_:Unit) W=>VX o x a W):=by
 intro _ W W' row ⟨c,e,d,v⟩ f g;refine⟨c,e,d,v.only (En f) λe=>?_⟩;obtain⟨_,y,b,h⟩:=g c e;rw[v]at b;cases b;cases h
theorem Ll(p:AP h b r A L most)(hr:∀h' s,Vc.Own 52 32 h' s (rts (L.map Nd.root))->Ext h h'->(∀i,In s i->h.size<=i)->R (amh s).val h'):
 Cl 125 [.ptr (PT b)] h R:=by
 intro w hw;subst hw;have bk:=p.ok.len;have bl:=p.ok.most;refine(callsIn_wide (n:=5)).1 (callsIn_of_wp_marks Tryz.func125 (show Tryz.f125.body=some rB by rfl) trivial ?_ rfl);have i0:=DL [.ptr (PT b)] 19;rw[show Tryz.f125.ntmps=19 by kernel_rfl];generalize hA:({tmps:=(amp [.ptr (PT b)]).toArray++Array.replicate (19-(amp [.ptr (PT b)]).toArray.size) undef,defers:=[]}:Act)=V at i0⊢;have d0:V.defers=[]:=by rw[<-hA]
 have ap:rP [some (.ptr (PT b)),none,none,none,none,none,none,none,none,none,none,none,none,none,none,none,none,none,none] V:=by
  unfold rP;have:({V with defers:=[]}:Act)=V:=by rw[<-hA]
  rw[this];exact i0
 refine wpIn_seq (iU (ro:=none) (n:=5) bP gn (c:=rQ0) κ (Q:=λenv h=>env=[some (.ptr (PT b)),none,some (.slice alS),none,none,none,none,none,none,none,none,none,none,none,none,none,none,none,none]/\h=w.heap) (by rw[aeG];exact⟨rfl,rfl⟩) ap ?_);rintro bm a1 w1 ar aw aE ⟨rfl,a0⟩
 refine wpIn_seq (iU (ro:=none) (n:=5) bP gn (c:=rQ1) κ (Q:=λenv h=>env=[some (.ptr (PT b)),none,some (.slice alS),some (.ptr (PT w.heap.size)),none,none,none,none,none,none,none,none,none,none,none,none,none,none,none]/\Var 48 h w.heap.size (.slice alS)/\Ext w.heap h/\h.size=w.heap.size+1)
  (by rw[aeH,a0];exact aa λh1 v1 H s1=>⟨rfl,v1,H,s1⟩) ar ?_)
 rintro bo a2 w2 he2 hd2 hw2 ⟨rfl,I,x2,z2⟩
 refine wpIn_seq (wpIn_seq (iU (ro:=none) (n:=5) bP gn (c:=rQ2) κ (Q:=λenv h=>env=[some (.ptr (PT b)),none,some (.slice alS),some (.ptr (PT w.heap.size)),none,some (.ptr (PT b)),some (.bool (!(some (Vc.Loc.mk b 0)).isNone)),none,none,none,none,none,none,none,none,none,none,none,none]/\h=w2.heap)
  (by rw[aeI];exact⟨rfl,rfl⟩) he2 ?_))
 rintro bp a3 m ae a4 a5 ⟨rfl,X⟩;refine wpIn_cond (t:=true) (ae.eval (x:=.tmp 6) (tv:=.bool true) rfl) ?_;rw[if_pos rfl];have a6:=ae.weak (a:=[some (.ptr (PT b)),none,some (.slice alS),some (.ptr (PT w.heap.size)),none,none,none,none,none,none,none,none,none,none,none,none,none,none,none]) ⟨rfl,rfl,rfl,trivial⟩;have p3:AP m.heap b r A L most:=by rw[X];exact p.ext x2
 refine wpIn_seq (iU (ro:=none) (n:=5) bP gn (c:=rQ3) κ (Q:=λenv h=>∃u:Vc.One,u.v=.func (.func 252) #[] #[(amq (PT m.heap.size)).val]/\env=[some (.ptr (PT b)),none,some (.slice alS),some (.ptr (PT w.heap.size)),none,none,none,some (.ptr (PT b)),some (.ptr (PT b)),some (.ptr (PT b)),some (.slice A),some (.one u),none,none,none,none,none,none,none]/\
  Var 165 h m.heap.size (.slice A)/\Ext m.heap h) ?_ a6 ?_)
 ·rw[aeJ];refine⟨A,p3.var.ah rfl,?_⟩;refine jm A ?_;exact aa λh1 v1 H s1=>⟨⟨_,rfl⟩,rfl,⟨⟨_,rfl⟩,rfl,rfl,v1,H⟩⟩
 rintro br J w4 Y a7 a8 ⟨u,hu,rfl,vq,x4⟩;have bt:=Y.weak (a:=[none,none,none,some (.ptr (PT w.heap.size)),none,none,none,none,none,none,none,some (.one u),none,none,none,none,none,none,none]) ⟨rfl,rfl,trivial⟩;have x3:Ext w.heap m.heap:=by rw[X];exact x2
 have C:=x3.trans x4;have z3:w.heap.size<m.heap.size:=by rw[X];omega
 have z4:=x4.size;have v4:Var 48 w4.heap w.heap.size (.slice alS):=(show Var 48 m.heap w.heap.size (.slice alS) by rw[X];exact I).ext x4;have a9:fS false w w4:=((aE.trans hw2).trans a5).trans a8;have dd4:J.defers=[]:=a7.trans (a4.trans (hd2.trans (aw.trans d0)));have hg:J.eval (.tmp 11)=.func (.func 252) #[] #[(amq (PT m.heap.size)).val]:=by rw[Y.eval (x:=.tmp 11) (tv:=.one u) rfl];exact hu
 have ba:∀i,In A i->i<w.heap.size:=λi d=>by
  obtain⟨x,Z,_⟩:=CV p.own d;exact(Array.getElem?_eq_some_iff.1 Z).1
 refine wpIn_block (wpIn_rangeFunc_ownH (F:=Fence.wide) (n:=5) (α:=Nd) (w0:=w4) (N:=L.length) (encs:=λx:Nd=>#[x.tv.val]) (S:=λxs=>xs=L) (Sp:=λ_=>True) (Kp:=Below w.heap.size) rfl δ hg trivial (enters_of Tryz.func252 κ rfl)
  (PB vq (p.ext C).own.elems ba C.size ω) belowK_t (belowK_b C.size) (Below.refl _ _) (λ_=>rfl) (adL w) (λ_ _ _=>False) (Us C.size) (λ_ _ _ _ _ h=>h.elim) ?_ (VX w.heap.size) (λx a=>PC x a) ?_ ?_ ?_ ?_)
 ·exact⟨alS,Vc.Own.nil _ _ _,v4,C,λi⟨l,hl,_⟩=>(by cases hl),a9⟩
 ·intro l pre x W K M hK;obtain⟨s,o,v,q,lo,O⟩:=M
  have ad:rP [none,none,none,some (.ptr (PT w.heap.size)),none,none,none,none,none,none,none,none,some x.tv,none,none,none,none,none,none] {tmps:=(#[12].zip #[x.tv.val]).foldl (λt(p,v)=>t.setIfInBounds p v) J.tmps,defers:=[]}:=by
   have:=(Y.put (some 12) (r:=some x.tv) (.some rfl)).weak (a:=[none,none,none,some (.ptr (PT w.heap.size)),none,none,none,none,none,none,none,none,some x.tv,none,none,none,none,none,none]) ⟨rfl,rfl,trivial⟩;have e:(#[12].zip #[x.tv.val]).foldl (λt(p,v)=>t.setIfInBounds p v) J.tmps=J.tmps.setIfInBounds 12 x.tv.val:=by simp
   rw[e];exact this
  refine iU (ro:=some l) (n:=3) bP gn (c:=rA) κ (Q:=λenv h=>env=[none,none,none,some (.ptr (PT w.heap.size)),some (.ptr (PT W.heap.size)),none,none,none,none,none,none,none,some x.tv,none,none,none,none,none,none]/\Ext W.heap h/\Var 69 h W.heap.size x.tv) ?_ ad ?_
  ·rw[show x.tv=TV.agg [.bytes 32 x.root,.i x.slot,.i x.par]from rfl,af2];exact aa λh1 v1 H s1=>aq (t:=x.tv) v1 rfl rfl λh2 I f2 s2=>⟨rfl,alU H f2 λi d=>amf (ami d),I⟩
  rintro al T U ab ac g ⟨rfl,E,v5⟩;refine hK _ _ ⟨E.size,λk o _ G _=>(E.same k (Array.getElem?_eq_some_iff.1 G).1).trans G⟩ (rQ g E q.size) ⟨s,o.ext E,v.ext E,q.trans E,lo,O.trans g⟩ ⟨W.heap.size,ab.weak ⟨rfl,rfl,trivial⟩,ac,v5⟩
 ·intro l pre x a' W hl _ M ⟨c,ad,bx,vc⟩ b0;obtain⟨s,o,v,q,lo,O⟩:=M;have bb:=o.len;rw[pE,alT]at bb;have ns:¬In s w.heap.size:=λd=>Nat.lt_irrefl _ (lo _ d);refine wpIn_block (iU (ro:=some l) (n:=3) bP gn (c:=rR) κ (Q:=λenv h=>∃j:Sl,Vc.Own 52 32 h j (rts ((pre++[x]).map Nd.root))/\Var 48 h w.heap.size (.slice j)/\ag (λi=>In s i\/i=w.heap.size) W.heap h/\(∀i,In j i->w.heap.size<i)) ?_ ad ?_)
  ·rw[af3];refine⟨s,v.ah rfl,x.root,vc.at.1,TR o (by rw[alT];omega) λj h' o' B n'=>?_⟩;have v':Var 48 h' w.heap.size (.slice s):=v.only B ns;have bc:¬In j w.heap.size:=λd=>(n' _ d).elim ns λh=>by have:=v.lt;omega
   refine aq (t:=.slice j) v' rfl rfl λh2 I f2 s2=>⟨j,?_,I,?_,λi d=>(n' i d).elim (lo i) λh=>(by have:=v.lt;omega)⟩
   ·rw[al9];exact o'.keep f2 λi d e=>bc (e▸d)
   ·exact(B.mono λ_ d=>.inl d).trans (f2.mono λ_ d=>.inr d)
  rintro al T U ab ac g ⟨j,o',v',B,bd⟩;refine⟨⟨B.size,λk y G hy hc=>?_⟩,⟨g.os,g.tape,g.output,B.size,λk G=>?_⟩,⟨j,o',v',?_,bd,O.trans g⟩⟩
  ·refine(B.same k (Array.getElem?_eq_some_iff.1 hy).1 λe=>?_).trans hy;rcases e with e|e
   ·obtain⟨z,hz,am⟩:=CV o e;rw[hy]at hz;cases hz;rw[hc]at am;cases am
   ·omega
  ·refine B.same k (Nat.lt_of_lt_of_le G q.size) λe=>?_;rcases e with e|e
   ·exact Nat.lt_asymm (lo k e) G
   ·omega
  ·refine alU q B λi e=>?_;rcases e with e|e
   ·exact Nat.le_of_lt (lo i e)
   ·exact amf e.symm
 ·intro D xs W hD bi M hK;obtain⟨s,o,v,q,lo,O⟩:=M;subst bi
  refine wpIn_seq (iU (ro:=none) (n:=5) bP gn (c:=rQ6) κ (env:=[none,none,none,some (.ptr (PT w.heap.size)),none,none,none,none,none,none,none,none,none,none,none,none,none,none,none])
   (Q:=λenv h=>env=[none,none,some (.slice s),some (.ptr (PT w.heap.size)),none,none,none,none,none,none,none,none,none,none,none,none,none,none,some (.slice s)]/\h=W.heap) ?_ ?_ ?_)
  ·rw[aeK];exact⟨s,v.ah rfl,rfl,rfl⟩
  ·exact Y.weak ⟨rfl,trivial⟩
  rintro al T U ab ac g ⟨rfl,ao⟩;refine wpIn_ret ?_;show LeavesInM Fence.wide 5 Tryz.prog Tryz.f125 T.tmps _ T.defers .returning U;rw[ac];have bj:U.heap[D]? =some (.deferred (some [])):=by rw[ao];exact hK
  have wr:=run_takeDeferred (P:=Tryz.prog) bj;have t2:=ab.eval (x:=.tmp 2) rfl;rw[dd4];refine⟨by simp,.inl ⟨D,_,rfl,wr,_,results_tmp (t:=2) κ _ _ _,?_⟩⟩;have gr:=grownBy_putObj' U D (.deferred none);have f:=En gr
  have nD:∀i,In s i->¬some D=some i:=λi d e=>by
   cases e;obtain⟨x,Z,hc⟩:=CV o d;rw[hK]at Z;cases Z;cases hc
  refine⟨Ny gr (O.trans g),_,rfl,?_⟩;have e2:T.tmps.getD 2 undef=(amh s).val:=t2;rw[e2];rw[<-ao]at o q;exact hr _ s (o.keep f nD) (alU q f λi d=>by cases d;have:=C.size;omega) λi d=>Nat.le_of_lt (lo i d)
 ·intro D c pre W _ _ hf;exact hf.elim
end
end Gate
end Go.Proofs.YtennbinbffdimaaGreat

/- Texts that the proof needs, joined. -/
import Derived.Test.YtennbinbffdimaaGreatPk10
set_option maxRecDepth 100000
open Go.Vc.Bs renaming zero->al0,set->am3
open List renaming length_map->al1,getElem?_eq_getElem->al7,mem_map->al9,length_append->amb,getElem?_eq_some_iff->amg,getElem?_map->amh,mem_of_getElem?->amo,length_take->amr,map_append->amt,map_cons->amx,take_length->amA,range->amB,map_nil->amC,getD_eq_getElem?_getD->amD,length_range->amG,length_singleton->amH,length_drop->amI,take_of_length_le->amK,replicate->amM,filter_congr->amN,mem_cons->amP,mem_filter->amQ,take_add_one->amS,getElem?_take->amV,foldl_append->amX,append_nil->amY,map_set->am0,append_assoc->am1
open Go.Vc.ag renaming cut->al2,an->amz,refl->amE
open Go.Vc.Sl renaming nil->al3,mk->ami
open Go.Vc.ak renaming cells->al4
open Go.IntKind renaming wrap->al5,bits->amy,i64->am2
open Int renaming le_refl->al8,toNat_natCast->amd,toNat->ams
open Go.Vc.TV renaming bg->ama,bytes->amq,bool->amw,size->amJ,slice->amL,put->amT
open Go.Vc.Ext renaming refl->amc,push->amf
open Go.Vc.If renaming no->ame,split->amj,yes->amp
open Nat renaming le_refl->amk,le_of_eq->aml,zero_le->amF,le_trans->amR
open Eq renaming symm->amm
open Go.Proofs.YtennbinbffdimaaGreat.Gate.Step renaming all->amn
open Array renaming push->amu
open BitVec renaming ofInt->amv
open Bool renaming true_and->amO
open PUnit renaming unit->amU
open Option renaming map_eq_some_iff->amW,map_some->amZ

namespace Go.Vc
open Go
section
variable{K V:Type}[DecidableEq K]{κ:K->TV}{ν:V->TV}{C:Ctx}{d:TypeDesc}
def kJ(del:K×V×Nat->Bool)(s:Nat->Bool)(es:List (K×V×Nat)):List (K×V×Nat):=es.filter λe=>!(s e.2.2&&del e)
def FF(s:Nat->Bool)(b:Nat):Nat->Bool:=λn=>s n||decide (n=b)
omit [DecidableEq K]in
theorem Ug(del:K×V×Nat->Bool)(es:List (K×V×Nat)):kJ del (λ_=>false) es=es:=by
 unfold kJ;simp
omit [DecidableEq K]in
theorem XQ{del:K×V×Nat->Bool}{s:Nat->Bool}{es:List (K×V×Nat)}(h:∀e∈es,s e.2.2=true):kJ del s es=es.filter λe=>!del e:=by
 unfold kJ;exact amN λe a=>by rw[h e a,amO]
theorem KY(E:Emb C d κ)(k:K):∀es:List (K×V×Nat),(es.map (·.1)).Nodup->fN (κ k) (mh κ ν es)=mh κ ν (es.filter λe=>decide (e.1≠k))
 |[],_=>rfl
 |e::es,b=>by
  obtain⟨q,A⟩:=List.nodup_cons.1 (show(e.1::es.map (·.1)).Nodup from b);have c:=KY E k es A;have d1:mh κ ν (e::es)=(κ e.1,ν e.2.1,e.2.2)::mh κ ν es:=rfl;rw[d1];simp only[fN,E.eq,decide_eq_true_eq];by_cases h:k=e.1
  ·rw[if_pos h,List.filter_cons_of_neg (by simp[h])];congr 1;symm
   exact List.filter_eq_self.2 λx f=>by
    have:x.1≠k:=λa=>q (by rw[<-h,<-a];exact al9.2 ⟨x,f,rfl⟩);simpa using this
  ·rw[if_neg h,List.filter_cons_of_pos (by simpa using λa=>h a.symm),c];rfl
theorem KZ{del:K×V×Nat->Bool}{s:Nat->Bool}{es:List (K×V×Nat)}{x:K×V×Nat}(hx:x∈es)(hk:(es.map (·.1)).Nodup)(hb:(es.map (·.2.2)).Nodup)(hd:del x=true):
 kJ del (FF s x.2.2) es=(kJ del s es).filter λe=>decide (e.1≠x.1):=by
 unfold kJ;rw[List.filter_filter];refine amN λe he=>?_;by_cases h:e.2.2=x.2.2
 ·have hex:e=x:=CT hb he hx h;rw[hex];unfold FF;simp[hd]
 ·have hne:e.1≠x.1:=λhh=>h (by rw[CT hk he hx hh]);unfold FF;simp[h,hne]
where
 CT {A B:Type} {f:A->B}:∀{l:List A},(l.map f).Nodup->∀{a b:A},a∈l->b∈l->f a=f b->a=b
  |[],_,_,_,ha,_,_=>by cases ha
  |c::l,hn,a,b,ha,hb,he=>by
   obtain⟨h1,h2⟩:=List.nodup_cons.1 (show(f c::l.map f).Nodup from hn)
   rcases amP.1 ha with e1|ha<;>rcases amP.1 hb with e2|hb
   ·rw[e1,e2]
   ·exact absurd (al9.2 ⟨b,hb,by rw[<-he,e1]⟩) h1
   ·exact absurd (al9.2 ⟨a,ha,by rw[he,e2]⟩) h1
   ·exact CT h2 ha hb he
omit [DecidableEq K]in
theorem Uh{del:K×V×Nat->Bool}{s:Nat->Bool}{es:List (K×V×Nat)}{x:K×V×Nat}(q:x∈es)(A:(es.map (·.2.2)).Nodup)(B:del x=false):kJ del (FF s x.2.2) es=kJ del s es:=by
 unfold kJ;refine amN λe a=>?_;by_cases h:e.2.2=x.2.2
 ·have b:e=x:=KZ.CT A a q h;rw[b,B];simp
 ·unfold FF;simp[h]
def K0(q:Nat)(es:List (K×V×Nat))(h:af):Nat:=match h[q]? with
 |some (.mapIter _ _ seen _)=>(es.filter λe=>!seen.contains e.2.2).length
 |_=>0
theorem Ce(seen:Array Nat)(b n:Nat):(seen.push b).contains n=FF (λn=>seen.contains n) b n:=by
 unfold FF;rw[Bool.eq_iff_iff,Bool.or_eq_true,decide_eq_true_eq,Array.contains_iff_mem,Array.contains_iff_mem,Array.mem_push]
omit [DecidableEq K]in
theorem K1{es:List (K×V×Nat)}{seen:Array Nat}{x:K×V×Nat}(q:x∈es)(A:seen.contains x.2.2=false):
 (es.filter λe=>!(seen.push x.2.2).contains e.2.2).length<(es.filter λe=>!seen.contains e.2.2).length:=by
 have e:(es.filter λe=>!(seen.push x.2.2).contains e.2.2)=(es.filter λe=>!seen.contains e.2.2).filter λe=>decide (e.2.2≠x.2.2):=by
  rw[List.filter_filter];refine amN λy _=>?_;rw[Ce];unfold FF;rw[Bool.not_or,Bool.and_comm];simp
 rw[e];have a:x∈es.filter λe=>!seen.contains e.2.2:=amQ.2 ⟨q,by rw[A];rfl⟩;refine Nat.lt_of_le_of_ne (List.length_filter_le _ _) λb=>?_;have:=List.length_filter_eq_length_iff.1 b x a;simp at this
end
end Go.Vc
namespace Go.Proofs.YtennbinbffdimaaGreat
open Go Go.Vc
namespace Gate
open Board (Vd Cf Vt aq)
open Peers (sZ y_)
section
variable{R:Rq}{h h':af}{b r n:Nat}{La Ou:Sl}{ps:List (Option Nat)}{t:Tb}
theorem Pg(p:Kb h b r La Ou ps t n){slot:Int}(al:slot<=1073741824)
 (A:∀h',Kb h' b r La Ou ps (dW t slot) n->ag (·=r) h h'->R (ama []).val h'):Cl 174 [.ptr (PT b),.i slot] h R:=by
 apply vA;delta uu U_ QE EV fP LP;have hs:=p.ok.slots;have am:=p.map.lt;have O:=p.map.ne p.var;intro J P;refine ame (ID (λB=>A h (by unfold dW;rw[if_pos B];exact p) (amE _ _)) λB=>P _ h ?_);clear P J;have C:=p.ok.forget slot;have eF:dW t slot={t with first:=t.first.filter λe=>decide (aP t slot<=e.1.2)}:=by unfold dW;rw[if_neg B]
 rw[eF]at C A;have ao:=sL p.ok (show 0<=slot by omega) al;obtain⟨E,Q⟩:∃E,E=aP t slot:=⟨_,rfl⟩;rw[<-Q]at C A ao;obtain⟨es,c,S,T,l⟩:=p.map;obtain⟨del,D⟩:∃del:(Int×Int)×Bs 32×Nat->Bool,del=λe=>decide (e.1.2<E):=⟨_,rfl⟩
 have U:(es.map (·.1)).Nodup:=by
  have:=p.ok.one;rw[<-T]at this;unfold nC vY at this;rw[List.map_map]at this;exact this
 refine⟨some r,p.var.ah rfl,mh kM kR es,c,S,?_⟩;have V:=amf h (.mapIter (some r) c #[] c);refine⟨λ_ g=>∃seen,g[h.size]? =some (.mapIter (some r) c seen c)/\g[r]? =some (bX (mh kM kR (kJ del (λn=>seen.contains n) es)) c)/\ag (·=r) h g,λ_ g=>K0 h.size es g,⟨#[],by simp,?_,amz V⟩,?_⟩
 ·rw[V.same r am,S]
  have:kJ del (λn=>(#[]:Array Nat).contains n) es=es:=by
   have e:(λn=>(#[]:Array Nat).contains n)=λ_=>false:=by funext n;simp
   rw[e,Ug]
  rw[this]
 rintro _ a ⟨seen,m,s,d⟩;have F:∀y∈kJ del (λn=>seen.contains n) es,y.2.2<c:=λy G=>l.1 y (amQ.1 G).1;have H:((kJ del (λn=>seen.contains n) es).map (·.2.2)).Nodup:=l.2.sublist (List.filter_sublist.map _);have W:¬In La r:=p.nla.2;refine⟨rfl,r,c,c,seen,mh kM kR (kJ del (λn=>seen.contains n) es),c,m,s,λe j=>?_,amk _,λap=>?_,λe j I=>?_⟩
 ·obtain⟨y,G,rfl⟩:=al9.1 j;exact F y G
 ·have ar:∀e∈es,seen.contains e.2.2=true:=λe j=>by
   cases X:seen.contains e.2.2 with
   |true=>rfl
   |false=>
    have aw:e∈kJ del (λn=>seen.contains n) es:=amQ.2 ⟨j,by show(!(seen.contains e.2.2&&del e))=true;rw[X];rfl⟩;have:=ap _ (al9.2 ⟨e,aw,rfl⟩);rw[<-X];exact this
  rw[XQ ar]at s F H
  have m1:mj kM kR a r (t.first.filter λe=>decide (E<=e.1.2)):=by
   refine⟨_,c,s,?_,F,H⟩;rw[<-T,D];unfold vY;rw[List.filter_map];congr 1;refine amN λe _=>?_;simp only[Function.comp];rw[<-decide_not];exact decide_eq_decide.2 ω
  have e:∀i,i=r->¬In La i:=λi e=>e▸W;exact A a ⟨p.var.only d λe=>O e,p.la.keep d λ_ f e=>W (e▸f),p.vs.only d λq hq e=>(p.nv q hq).2.1 e,p.ou.keep d λ_ f e=>p.nou.2 (e▸f),m1,C,p.nla,p.nou,p.lo,p.nv⟩ d
 ·obtain⟨x,Y,rfl⟩:=al9.1 j;simp only at I;have u:x∈es:=(amQ.1 Y).1;have aE:h.size<a.size:=(Array.getElem?_eq_some_iff.1 m).1;have o2:=sZ (h:=a) (r:=h.size) (o:=.mapIter (some r) c (seen.push x.2.2) c)
  have Z:(a.setIfInBounds h.size (.mapIter (some r) c (seen.push x.2.2) c))[r]? =some (bX (mh kM kR (kJ del (λn=>seen.contains n) es)) c):=by
   rw[o2.same r (by have:=d.size;omega) ω,s]
  have ab:(a.setIfInBounds h.size (.mapIter (some r) c (seen.push x.2.2) c))[h.size]? =some (.mapIter (some r) c (seen.push x.2.2) c):=y_ aE
  have a0:ag (·=r) h (a.setIfInBounds h.size (.mapIter (some r) c (seen.push x.2.2) c)):=
   ⟨amR d.size o2.size,λi f hn=>(o2.same i (Nat.lt_of_lt_of_le f d.size) ω).trans (d.same i f hn)⟩
  have a5:(a.setIfInBounds h.size (.mapIter (some r) c (seen.push x.2.2) c)).size=a.size:=by simp
  refine⟨rfl,r,c,seen,mh kM kR (kJ del (λn=>seen.contains n) es),c,(kM x.1,kR x.2.1,x.2.2),ab,Z,al9.2 ⟨x,Y,rfl⟩,?_,x.1.1,x.1.2,rfl,?_⟩
  ·have:(mh kM kR (kJ del (λn=>seen.contains n) es)).map (λx=>x.2.2)=(kJ del (λn=>seen.contains n) es).map (·.2.2):=by
    unfold mh;rw[List.map_map];rfl
   rw[this];exact H
  generalize a.setIfInBounds h.size (.mapIter (some r) c (seen.push x.2.2) c)=h2 at*;refine aa λh3 v3 x3 s3=>aq (t:=kM x.1) v3 rfl rfl λk v4 f4 s4=>?_;have K:Ext h2 k:=al2 x3 f4 λi f=>aml (amm f);have v:ag (·=r) h k:=a0.trans (.an K);have ac:=p.var.only v λe=>O e;have ad:Var 310 k h2.size (.agg [.i x.1.1,.i x.1.2]):=v4;refine⟨x.1.2,ad.at.2,t.slots,ac.ah rfl,ω,?_⟩
  have a1:al5 .i64 (Int.tdiv slot t.slots)=E:=by
   have:Int.tdiv slot t.slots=E:=by rw[Q];rfl
   rw[this];exact wrap_i64 ω ω
  rw[a1];have w:=K.same h.size ω;rw[ab]at w;have L:=K.same r (by have:=d.size;omega);rw[Z]at L;have a2:r<k.size:=by have:=v.size;omega
  have ae:(λn=>(seen.push x.2.2).contains n)=FF (λn=>seen.contains n) x.2.2:=by
   funext n;exact Ce seen x.2.2 n
  refine ID (λa3=>?_) λa4=>?_
  ·refine⟨some r,ac.ah rfl,x.1.1,x.1.2,ad.at,mh kM kR (kJ del (λn=>seen.contains n) es),c,L,Ga Vr _,?_⟩;have M:del x=true:=by rw[D];exact decide_eq_true a3
   have o5:=sZ (h:=k) (r:=r) (o:=bX (fN (kM x.1) (mh kM kR (kJ del (λn=>seen.contains n) es))) c);have N:=o5.same h.size ω ω;rw[w]at N;refine⟨⟨seen.push x.2.2,N,?_,v.trans o5⟩,?_⟩
   ·rw[y_ a2,ae,KZ u U l.2 M];exact congrArg (λz=>some (bX z c)) (KY (ν:=kR) Vr x.1 _ (U.sublist (List.filter_sublist.map _)))
   ·show K0 h.size es _<K0 h.size es _;unfold K0;rw[N,m];exact K1 u I
  ·have M:del x=false:=by rw[D];exact decide_eq_false a4
   refine⟨⟨seen.push x.2.2,w,?_,v⟩,?_⟩
   ·rw[L,ae,Uh u l.2 M]
   ·show K0 h.size es _<K0 h.size es _;unfold K0;rw[w,m];exact K1 u I
theorem Ph{st:List Int}{t:Tb}{slot:Int}:∀r i,aK (dW t slot) st i r=aK t st i r:=λr i=>by
 unfold dW;split<;>rfl
theorem Pj{g:Nat}{a:Ad}{c:Cf}{V:List Vd}{s:St}{q:Nat->Nat->Prop}(p:aR h g a c V s q){slot:Int}(A:slot<=1073741824)
 (B:∀h' d,aR h' g a c V {s with tb:=dW s.tb slot} d->Step (dm q) h (dm d) h'->R (ama []).val h'):
 Cl 106 [.ptr (PT a.bk),.i slot] h R:=by
 apply xG;delta cu fP aT;refine amp ⟨_,p.bk.ah rfl,?_⟩;obtain⟨r,La,Ou,ps,j,e⟩:=p.gH;refine Pg j A λf l f1=>⟨rfl,?_⟩;have st:Step (q 2) h (q 2) f:=⟨f1.mono λi b=>by rw[e,b];exact .inr (.inl rfl),λi b=>.inl b⟩;have X:=p.x.FD (t':=dW s.tb slot) ⟨r,La,Ou,ps,l,e⟩ st;have w:=p.x.aay (k:=2) δ p.FP st;rw[<-Re (t':=dW s.tb slot) Ph]at w;exact B f _ (X.b w) (amn st)
end
end Gate
namespace Gate
open Board (Vd Cf Vt Ms Dm jx aq aY bh jG Et bB fR cv)
open Pool (It WL dV Fit Bk lK)
open Peers (Pe)
noncomputable def qQ(c:Cf)(V:List Vd)(x:It):List Vt:=jG V.length c.aQ ((lK x.text).ms al3) (lK x.text).row
def iw(N:List Nd)(t:Tb)(W:List Vt):Tb:=W.foldl (λt v=>(iS N t v).2) t
noncomputable def f_(c:Cf)(V:List Vd)(N:List Nd)(t:Tb)(L:List It):Tb:=L.foldl (λt x=>iw N t (qQ c V x)) t
noncomputable def fC(c:Cf)(V:List Vd)(s:St):Bool×St:=
 if 1073741824<=s.now then(false,s)
 else(true,{s with now:=s.now+1,sc:=Peers.tick c.dec s.sc,wait:=s.wait.filter λx=>!decide (x.slot<s.now+1),
                   tb:=dW (f_ c V s.N s.tb (s.wait.filter λx=>decide (x.slot<s.now+1))) (Vc.mx (s.now+1-Clock.fB c.win) 0)})
theorem K4{n:Nat}{aQ:Int}{d:Dm}{b:Sl}{row:List Bool}:jG n aQ (d.ms b) row=jG n aQ (d.ms al3) row:=by
 rfl
def Safe(Q:Nat->Prop)(F:Nat->Nat->Prop)(h:af):Prop:=∀i,Q i->¬dm F i/\i<h.size
theorem Safe.step{Q:Nat->Prop}{F F':Nat->Nat->Prop}{h h':af}(q:Safe Q F h)(st:Step (dm F) h (dm F') h'):Safe Q F' h':=λi a=>by
 obtain⟨d,e⟩:=q i a;have:=st.only.size;refine⟨λb=>?_,ω⟩;rcases st.new i b with c|c<;>grind
theorem Safe.elems{Q:Nat->Prop}{F:Nat->Nat->Prop}{h h':af}(q:Safe Q F h)(f:ag (dm F) h h'){sz:Nat}{s:Sl}{ts:List TV}(e:aj sz h s ts)(A:∀i,In s i->Q i):aj sz h' s ts:=
 TV.ck f e λi a=>(q i (A i a)).1
section
variable{R:Rq}{h h':af}{g:Nat}{a:Ad}{c:Cf}{V:List Vd}{s:St}{Fp:Nat->Nat->Prop}
theorem VP{s:Sl}{W:List Vt}(e:aj 34 h s (Et W)){j:Nat}{v:Vt}(q:W[j]? =some v){K:Int->Int->Bs 32->Prop}(B:K v.who v.slot v.target):
 0<=(j:Int)/\(j:Int)<(s.len:Int)/\Nn s.a λl=>∃(n:Int),∃(A:Int),∃(b:Bs 32),(ah h l.b (l.o+(j:Int).toNat*34) (.i n)/\ah h l.b (l.o+(j:Int).toNat*34+1) (.i A)/\av h l.b (l.o+(j:Int).toNat*34+1+1) 32 b)/\K n A b:=by
 have c:=e.len;have:=(amg.1 q).1;rw[al1]at c;refine e.read ω ω λl t _ a d=>?_;rw[amd,amh,q]at a;cases a;exact⟨_,_,_,d,B⟩
theorem K5(p:aR h g a c V s Fp){k:Nat}(M:Kept c s k)
 (O:∀h' ap,aR h' g a c V (fC c V s).2 ap->Step (dm Fp) h (dm ap) h'->R (amw (fC c V s).1).val h'):
 Cl 39 [.ptr (PT g)] h R:=by
 apply qn;delta aF gL fk aO cu cE fE bK aT lq;have kn:=M.now;have cw:=Clock.CP c.win;intro J HJ;refine ame ⟨_,p.var.ah rfl,?_⟩;by_cases ad:1073741824<=s.now
 ·have e:fC c V s=(false,s):=by unfold fC;rw[if_pos ad]
  rw[e]at O;exact Clock.aal p.kz ad ⟨_,rfl,amp (O h Fp p (.an (amc _)))⟩
 refine Clock.XB p.kz ω kn.1 λz c1 f1 s1=>⟨_,rfl,ame (HJ _ z ?_)⟩;obtain⟨K,a'⟩:=p.Pd c1 f1;obtain⟨n,hn⟩:∃n,n=s.now+1:=⟨_,rfl⟩;rw[<-hn]at K;obtain⟨r,pe,hP⟩:=K.who;refine⟨_,K.var.ah rfl,Peers.XA pe λN ba f2=>⟨rfl,?_⟩⟩
 have ar:Step (Fp 6) z (λi=>i=a.wh\/i=r) N:=by
  rw[hP];exact⟨f2,λi b=>.inl b⟩
 have p2:=K.CR ⟨r,ba,rfl⟩ ar;have ae:=a'.trans (amn ar);obtain⟨P,bb⟩:∃P,P=nT Fp 6 (λi=>i=a.wh\/i=r):=⟨_,rfl⟩;rw[<-bb]at p2 ae;obtain⟨wb,wA,wp,hW⟩:=p2.wait;refine⟨_,p2.var.ah rfl,_,p2.var.ah rfl,Clock.Fz p2.kz ⟨_,rfl,amc _,?_⟩⟩;refine Pool.TQ wp (λx H=>(M.AH x H).1) λh3 A3 t bs w3 g3 S o3 bc=>⟨_,rfl,?_⟩
 have al:Step (P 5) N (λi=>i=a.wt\/dV wb A3 i) h3:=by
  rw[hW]
  exact⟨g3.only.mono λi b=>.inr b,λi b=>by
   rcases b with z|z
   ·omega
   ·exact(g3.new i z).imp .inr id⟩
 have T:=p2.B_ ⟨wb,A3,w3,rfl⟩ al;have aw:=ae.trans (amn al);obtain⟨D,aE⟩:∃D,D=nT P 5 (λi=>i=a.wt\/dV wb A3 i):=⟨_,rfl⟩;rw[<-aE]at T aw;have z2:=ae.only.size;have z3:=al.only.size;obtain⟨nn,ca,bd,bi,a0⟩:=bc.ex;have bj:=o3.lt;obtain⟨L,U⟩:∃L,L=s.wait.filter λx=>decide (x.slot<n):=⟨_,rfl⟩;have S:bs.map Bk.of=L.map λx=>(x.root,lK x.text):=by rw[U];exact S
 have cc:bs.length=L.length:=by have:=congrArg List.length S;simpa using this
 have cd:=M.AG;have cf:L.length<=s.wait.length:=by rw[U];exact List.length_filter_le _ _
 have ce:=p.can.eH;have tl:=o3.elems.len;rw[al1]at tl;have ch:=p.can.len;have el:V.length=c.vals.len:=by have:=p.vals.len;rwa [al1]at this
 obtain⟨Q,hQ⟩:∃Q:Nat->Prop,Q=λi=>In t i\/∃k∈bs,In k.b i:=⟨_,rfl⟩
 have a1:∀i,nn<=i->¬dm D i:=λi b⟨k,f⟩=>by
  rw[aE]at f;by_cases e:k=5
  ·rw[e,bY]at f;rcases f with f|f
   ·have:=p2.sep.lt 5 a.wt (by rw[hW];exact .inl rfl);omega
   ·have:=bd i f;omega
  ·rw[aB e]at f;have:=p2.sep.lt k i f;omega
 have bk:Safe Q D h3:=λi b=>by
  rw[hQ]at b;rcases b with⟨l,u,e⟩|⟨y,X,l,u,e⟩
  ·have z:=bi l u;have N:=bj l u;exact⟨a1 i ω,ω⟩
  ·have z:=(a0 y X).2 l u;exact⟨a1 i ω,ω⟩
 obtain⟨q,I⟩:∃q:St,q={s with now:=n,sc:=Peers.tick c.dec s.sc,gone:=s.gone,wait:=s.wait.filter λx=>!decide (x.slot<n)}:=⟨_,rfl⟩;have T:aR h3 g a c V q D:=by rw[I];exact T
 have hT:fC c V s=(true,{q with tb:=dW (f_ c V s.N s.tb L) (Vc.mx (n-Clock.fB c.win) 0)}):=by unfold fC;rw[if_neg ad,U,I,hn]
 rw[hT]at O;have hN:q.N=s.N:=by rw[I]
 have bl:q.tb=s.tb:=by rw[I]
 refine⟨λσ o=>∃i:Nat,σ=i/\i<=bs.length/\∃F,aR o g a c V {q with tb:=f_ c V s.N s.tb (L.take i)} F/\Step (dm Fp) h (dm F) o/\Safe Q F o/\aj 53 o t (bs.map Bk.Xj)/\∀k∈bs,aj 1 o k.b (aY k.d.row),
  λσ _=>(bs.length-σ).toNat,⟨0,rfl,amF _,D,by rw[List.take_zero];unfold f_;rw[List.foldl_nil,<-bl];exact T,aw,bk,o3.elems,λk f=>(a0 k f).1⟩,?_⟩
 rintro σ h4 ⟨i,rfl,b,F4,A,a2,bm,e4,k4⟩;refine ID (λa3=>?_) λa3=>?_
 ·have bo:i<bs.length:=ω;obtain⟨x,H⟩:∃x,L[i]? =some x:=⟨_,al7 ω⟩;refine e4.read ω a3 λl1 t1 ci a4 bp=>?_;rw[amd,amh]at a4;obtain⟨y,X,rfl⟩:=amW.1 a4
  have a5:y.d=lK x.text:=by
   have Y:(bs.map Bk.of)[i]? =some y.of:=by rw[amh,X];rfl
   rw[S,amh,H]at Y;injection Y with Y;injection Y with cj br;exact br.symm
  have bt:=amo X;refine⟨y.ms.kind,y.ms.slot,y.ms.target,y.ms.ax,y.ms.body,y.ms.bits,y.ms.tag,bp,?_⟩;refine aa λh5 v5 x5 s5=>aq (t0:=bh.tv) v5 (t:=y.ms.tv) cv fR λh6 v6 f6 s6=>?_;have Z:Ext h4 h6:=al2 x5 f6 λi b=>aml (amm b);have p6:=A.ext Z;have cl:=Z.size;refine⟨c.vals,c.ep,c.aQ,c.no,c.eV,c.eH,c.quo,c.pe,c.iy,c.win,c.bH,c.dec,p6.var.at.1,bB (m:=y.ms) v6 ?_⟩
  have bx:y.d.row.length<500:=by
   have bN:x∈s.wait:=by
    have:=amo H;rw[U]at this;exact(amQ.1 this).1
   obtain⟨_,d,hd,_,_⟩:=M.AH x bN;rw[a5,Pool.rY hd];exact Pool.oF hd
  refine Board.RU (c:=c) (m:=y.ms) (row:=y.d.row) ω ((k4 y bt).ext Z) bx λh7 w e7 x7 b0=>⟨_,rfl,?_⟩;have ab:=Z.trans x7;have z7:=x7.size;have p7:=p6.ext x7;obtain⟨W,am⟩:∃W,W=jG c.vals.len c.aQ y.ms y.d.row:=⟨_,rfl⟩;rw[<-am]at e7
  have cp:W.length<=1000:=by
   have:=Board.si (n:=c.vals.len) (aQ:=c.aQ) (m:=y.ms) (row:=y.d.row);rw[am];unfold Board.jG;split
   ·simp
   ·rw[al1];omega
  have b1:W=qQ c V x:=by
   rw[am];unfold qQ Bk.ms;rw[K4,<-a5,el]
  obtain⟨B,hB⟩:∃B,B=f_ c V s.N s.tb (L.take i):=⟨_,rfl⟩;rw[<-hB]at p7;have a6:=e7.len;unfold Et at a6;rw[al1]at a6
  have b2:∀l,W≠[]->w.a=some l->l.b<h7.size:=λl C u=>by
   obtain⟨v,hv⟩:∃v,W[0]? =some v:=⟨_,al7 (List.length_pos_iff.2 C)⟩;have b3:=e7.get l u 0 v.tv (by unfold Et;rw[amh,hv];rfl);exact xY (show ah h7 l.b (l.o+0*34) (.i v.who)from b3.1)
  have b5:Safe (λi=>Q i\/(W≠[]/\In w i)) F4 h7:=λj hj=>by
   rcases hj with hj|⟨C,l,u,e⟩
   ·have:=bm j hj;exact⟨this.1,by have:=ab.size;omega⟩
   ·have z:=b0 l u;have N:=b2 l C u;exact⟨λ⟨k,f⟩=>by have:=A.sep.lt k j f;omega,ω⟩
  refine⟨λσ o=>∃j:Nat,σ=j/\j<=W.length/\∃F,aR o g a c V {q with tb:=iw s.N B (W.take j)} F/\Step (dm Fp) h (dm F) o/\Safe (λi=>Q i\/(W≠[]/\In w i)) F o/\aj 53 o t (bs.map Bk.Xj)/\(∀k∈bs,aj 1 o k.b (aY k.d.row))/\(W≠[]->aj 34 o w (Et W)),
   λσ _=>(W.length-σ).toNat,⟨0,rfl,amF _,F4,by rw[List.take_zero];exact p7,a2.trans (.an ab),b5,e4.ext ab,λk f=>(k4 k f).ext ab,λ_=>e7⟩,?_⟩
  rintro σ h8 ⟨j,rfl,hj,F8,p8,a7,ao,e8,k8,w8⟩;refine ID (λb6=>?_) λb6=>?_
  ·have E:j<W.length:=ω;have C:W≠[]:=λe=>by rw[e]at E;simp at E
   obtain⟨v,hv⟩:∃v,W[j]? =some v:=⟨_,al7 E⟩;refine VP (w8 C) hv ?_;refine aa λh9 v9 x9 s9=>aq (t:=v.tv) v9 rfl rfl λa8 v10 f10 cs=>?_;have G:Ext h8 a8:=al2 x9 f10 λi b=>aml (amm b);have a9:=p8.ext G;refine⟨_,a9.var.ah rfl,v.who,v.slot,v.target,v10.at,Ua a9 λct b7 b8 st11=>⟨_,rfl,?_⟩⟩;have z810:=G.size;have ac:Safe (λi=>Q i\/(W≠[]/\In w i)) F8 a8:=λi b=>⟨(ao i b).1,by have:=(ao i b).2;omega⟩
   have eT:iw s.N B (W.take (j+1))=(iS s.N (iw s.N B (W.take j)) v).2:=by
    unfold iw;rw[amS,hv,amX];rfl
   rw[show al5 .i64 ((j:Int)+1)=((j+1:Nat):Int) by rw[wrap_i64 ω ω];omega]
   refine⟨⟨j+1,rfl,E,b7,?_,(a7.trans (.an G)).trans st11,ac.step st11,ac.elems st11.only (e8.ext G) λi b=>.inl (by rw[hQ];exact .inl b),λk f=>ac.elems st11.only ((k8 k f).ext G) λi b=>.inl (by rw[hQ];exact .inr ⟨k,f,b⟩),
    λ_=>ac.elems st11.only ((w8 C).ext G) λi b=>.inr ⟨C,b⟩⟩,by dsimp only;omega⟩
   rw[eT,show iS s.N=iS q.N by rw[hN]];exact b8
  ·have E:j=W.length:=ω;rw[E,amA]at p8;rw[show al5 .i64 ((i:Int)+1)=((i+1:Nat):Int) by rw[wrap_i64 ω ω];omega];refine⟨⟨i+1,rfl,bo,F8,?_,a7,λi b=>ao i (.inl b),e8,k8⟩,by dsimp only;omega⟩
   have eT:f_ c V s.N s.tb (L.take (i+1))=iw s.N B (qQ c V x):=by
    rw[hB];unfold f_;rw[amS,H,amX];rfl
   rw[eT,<-b1];exact p8
 ·have b9:i=L.length:=ω;rw[b9,amA]at A;have n3:q.now=n:=by rw[I]
  refine⟨_,A.var.ah rfl,_,A.var.ah rfl,Clock.yl A.kz (by dsimp only;omega) (by dsimp only;omega) cw.1 cw.2 ⟨_,rfl,amc _,?_⟩⟩;refine Pj A ?_ λh5 F5 p5 b'=>⟨rfl,O h5 F5 ?_ (a2.trans b')⟩
  ·dsimp only;rw[n3];unfold Vc.mx;split<;>omega
  ·dsimp only at p5⊢;rw[n3]at p5⊢;exact p5
end
end Gate
namespace Gate
open Board (Vd Cf aq jx)
open Pool (rts eM Dw)
def dO(m:Nat)(A B D E:Sl):Nat->Nat->Prop
 |0=>(·=m)
 |1=>In A
 |2=>In B
 |3=>In D
 |4=>In E
 |_=>λ_=>False
theorem aaH(m:Nat)(A A' B D E:Sl):nT (dO m A B D E) 1 (In A')=dO m A' B D E:=by
 funext k
 match k with
 |0|1|2|3|4|_+5=>rfl
theorem aaI(m:Nat)(A B B' D E:Sl):nT (dO m A B D E) 2 (In B')=dO m A B' D E:=by
 funext k
 match k with
 |0|1|2|3|4|_+5=>rfl
theorem aaJ(m:Nat)(A B D D' E:Sl):nT (dO m A B D E) 3 (In D')=dO m A B D' E:=by
 funext k
 match k with
 |0|1|2|3|4|_+5=>rfl
theorem aaK(m:Nat)(A B D E E':Sl):nT (dO m A B D E) 4 (In E')=dO m A B D E':=by
 funext k
 match k with
 |0|1|2|3|4|_+5=>rfl
structure KT(h:af)(m:Nat)(A B D E:Sl)(ra:List (Bs 32))(sb:List Int)(pd:List (Bs 32))(ow:List Int)(most:Int):Prop where
 var:Var 130 h m (.agg [.slice A,.slice B,.slice D,.i most])
 a:Vc.Own 52 32 h A (rts ra)
 b:Vc.Own 3 1 h B (eA sb)
 d:Vc.Own 52 32 h D (rts pd)
 e:Vc.Own 3 1 h E (eA ow)
 sep:Sep h (dO m A B D E)
section
variable{R:Rq}{h h':af}{m:Nat}{A B D E:Sl}{ra pd:List (Bs 32)}{sb ow:List Int}{most:Int}
theorem KT.ext(p:KT h m A B D E ra sb pd ow most)(x:Ext h h'):KT h' m A B D E ra sb pd ow most:=⟨p.var.ext x,p.a.ext x,p.b.ext x,p.d.ext x,p.e.ext x,p.sep.ext x⟩
theorem KT.afU(p:KT h m A B D E ra sb pd ow most){x:Bs 32}(H:ra.length<50000){K:af->Prop}(q:∀h' A',KT h' m A' B D E (ra++[x]) sb pd ow most->Step (dm (dO m A B D E)) h (dm (dO m A' B D E)) h'->K h'):
 ∃new,cn (h.push (row (al4 [amq 32 x]) 52)) (ami (some (Vc.Loc.mk h.size 0)) 1 1) 32 new/\(∀v∈new,bU v=true)/\au ctx 52 A 1 new (h.push (row (al4 [amq 32 x]) 52)) λl h'=>
  gT h' m 0 1/\Bind (amT h' m 0 (.slice l)) K:=by
 refine TR p.a ω λA' n f f1 o=>?_;have z:=p.sep.qx;have g:Step (dO m A B D E 1) h (In A') n:=⟨f1,o⟩;have b:=p.sep.step g f.g_;rw[aaH]at b;have c:∀k,k≠1->∀i,dO m A B D E k i->¬In A i:=λk q i a e=>q (z k 1 i a e);have d:∀k,k≠0->∀i,dO m A' B D E k i->¬i=m:=λk q i a e=>q (b.qx k 0 i a e);have v1:=p.var.only f1 (c 0 δ m rfl);refine aI v1 (i:=0) rfl rfl rfl rfl λr s f2 t=>q r A' ⟨s,f.keep f2 (d 1 δ),(p.b.keep f1 (c 2 δ)).keep f2 (d 2 δ),(p.d.keep f1 (c 3 δ)).keep f2 (d 3 δ),(p.e.keep f1 (c 4 δ)).keep f2 (d 4 δ),⟨b.qx,λj i a=>by have:=b.lt j i a;omega⟩⟩ ?_;have st:=amn g;rw[aaH]at st;exact st.trans ⟨f2.mono λi a=>⟨0,a⟩,λi a=>.inl a⟩
theorem KT.afV(p:KT h m A B D E ra sb pd ow most){x:Int}(H:sb.length<50000){K:af->Prop}(q:∀h' B',KT h' m A B' D E ra (sb++[x]) pd ow most->Step (dm (dO m A B D E)) h (dm (dO m A B' D E)) h'->K h'):
 ∃new,cn (h.push (row (al4 [TV.i x]) 3)) (ami (some (Vc.Loc.mk h.size 0)) 1 1) 1 new/\(∀v∈new,bU v=true)/\au ctx 3 B 1 new (h.push (row (al4 [TV.i x]) 3)) λl h'=>
  gT h' m 1 1/\Bind (amT h' m 1 (.slice l)) K:=by
 refine acr p.b ω λB' n f f1 o=>?_;have z:=p.sep.qx;have g:Step (dO m A B D E 2) h (In B') n:=⟨f1,o⟩;have b:=p.sep.step g f.g_;rw[aaI]at b;have c:∀k,k≠2->∀i,dO m A B D E k i->¬In B i:=λk q i a e=>q (z k 2 i a e);have d:∀k,k≠0->∀i,dO m A B' D E k i->¬i=m:=λk q i a e=>q (b.qx k 0 i a e);have v1:=p.var.only f1 (c 0 δ m rfl);refine aI v1 (i:=1) rfl rfl rfl rfl λr s f2 t=>q r B' ⟨s,(p.a.keep f1 (c 1 δ)).keep f2 (d 1 δ),f.keep f2 (d 2 δ),(p.d.keep f1 (c 3 δ)).keep f2 (d 3 δ),(p.e.keep f1 (c 4 δ)).keep f2 (d 4 δ),⟨b.qx,λj i a=>by have:=b.lt j i a;omega⟩⟩ ?_;have st:=amn g;rw[aaI]at st;exact st.trans ⟨f2.mono λi a=>⟨0,a⟩,λi a=>.inl a⟩
theorem KT.afW(p:KT h m A B D E ra sb pd ow most){x:Bs 32}(H:pd.length<50000){K:af->Prop}(q:∀h' D',KT h' m A B D' E ra sb (pd++[x]) ow most->Step (dm (dO m A B D E)) h (dm (dO m A B D' E)) h'->K h'):
 ∃new,cn (h.push (row (al4 [amq 32 x]) 52)) (ami (some (Vc.Loc.mk h.size 0)) 1 1) 32 new/\(∀v∈new,bU v=true)/\au ctx 52 D 1 new (h.push (row (al4 [amq 32 x]) 52)) λg h'=>
  gT h' m 2 1/\Bind (amT h' m 2 (.slice g)) K:=by
 refine TR p.d ω λD' l d1 f1 n=>?_;have z:=p.sep.qx;have f:Step (dO m A B D E 3) h (In D') l:=⟨f1,n⟩;have b:=p.sep.step f d1.g_;rw[aaJ]at b;have c:∀k,k≠3->∀i,dO m A B D E k i->¬In D i:=λk q i a e=>q (z k 3 i a e);have d:∀k,k≠0->∀i,dO m A B D' E k i->¬i=m:=λk q i a e=>q (b.qx k 0 i a e);have v1:=p.var.only f1 (c 0 δ m rfl);refine aI v1 (i:=2) rfl rfl rfl rfl λo r f2 s=>q o D' ⟨r,(p.a.keep f1 (c 1 δ)).keep f2 (d 1 δ),(p.b.keep f1 (c 2 δ)).keep f2 (d 2 δ),d1.keep f2 (d 3 δ),(p.e.keep f1 (c 4 δ)).keep f2 (d 4 δ),⟨b.qx,λj i a=>by have:=b.lt j i a;omega⟩⟩ ?_;have st:=amn f;rw[aaJ]at st;exact st.trans ⟨f2.mono λi a=>⟨0,a⟩,λi a=>.inl a⟩
theorem KT.afX(p:KT h m A B D E ra sb pd ow most){x:Int}(H:ow.length<50000){K:Sl->af->Prop}(q:∀E' h',KT h' m A B D E' ra sb pd (ow++[x]) most->Step (dm (dO m A B D E)) h (dm (dO m A B D E')) h'->K E' h'):
 ∃new,cn (h.push (row (al4 [TV.i x]) 3)) (ami (some (Vc.Loc.mk h.size 0)) 1 1) 1 new/\(∀v∈new,bU v=true)/\au ctx 3 E 1 new (h.push (row (al4 [TV.i x]) 3)) K:=by
 refine acr p.e ω λE' b c f1 f=>?_;have z:=p.sep.qx;have d:Step (dO m A B D E 4) h (In E') b:=⟨f1,f⟩;have e:=p.sep.step d c.g_;rw[aaK]at e;have a:∀k,k≠4->∀i,dO m A B D E k i->¬In E i:=λk q i g j=>q (z k 4 i g j);have st:=amn d;rw[aaK]at st;exact q E' b ⟨p.var.only f1 (a 0 δ m rfl),p.a.keep f1 (a 1 δ),p.b.keep f1 (a 2 δ),p.d.keep f1 (a 3 δ),c,e⟩ st
end
def Em(N:List Nd)(rL root:Bs 32):Bool:=decide (0<=place rL N)&&(decide (0<=place root N)&&bO (bQ N) (place rL N).toNat (place root N).toNat)
section
variable{R:Rq}{h h':af}{m:Nat}{A B D:Sl}{N:List Nd}{most:Int}
theorem R3(p:RT h m A B D N most){rL root:Bs 32}(q:∀h',Ext h h'->R (amw (Em N rL root)).val h'):
 Cl 246 [.ptr (PT m),.bytes 32 rL,.bytes 32 root] h R:=by
 apply qR;delta kU eG aO cr jW fE bz bJ lq;have up:=p.ok.tree;refine aa λC v1 t M=>aa λO E g P=>⟨rL,(v1.ext g).bytes,fA (p.ext (t.trans g)) λF n=>⟨_,rfl,?_⟩⟩;have o:=(t.trans g).trans n;refine ID (λQ=>?_) λS=>?_
 ·have e:Em N rL root=false:=by simp_all [decide_eq_false,Em,Bool.false_and]
  rw[e]at q;exact q F o
 obtain⟨k,y,T,U,V,W,X⟩:=fG (r:=rL) (L:=N) ω;refine⟨root,(E.ext n).bytes,fA (p.ext o) λG u=>⟨_,rfl,?_⟩⟩;have H:=o.trans u;have Y:=pQ root N;refine⟨λσ I=>-1<=σ.2/\σ.2<N.length/\Ext G I/\Em N rL root=(decide (0<=σ.2)&&bO (bQ N) k σ.2.toNat),λσ _=>(σ.2+1).toNat,⟨ω,ω,amc _,?_⟩,?_⟩
 ·simp_all [amO,amd,Em,place,decide_eq_true]
 rintro⟨f,i⟩ v ⟨Z,i1,j,b⟩;have c:=H.trans j;refine ID (λl=>?_) λl=>?_
 ·obtain⟨x,d⟩:∃x,N[i.toNat]? =some x:=⟨_,al7 ω⟩;rw[decide_eq_true l]at b;refine⟨A,(p.ext c).var.ah rfl,lM (p.ext c).a.elems l (yT d) ⟨rL,(((v1.ext g).ext n).ext (u.trans j)).bytes,?_⟩⟩;dsimp only;rw[Gb _ _]
  have w:x.root=rL↔i.toNat=k:=by
   constructor
   ·intro e;have C:=gX p.ok.nodup d
    grind
   grind
  refine ID (λs=>?_) λs=>?_
  ·rw[w.1 s,pO]at b;rw[b]at q;exact q v c
  ·have J:=λe=>s (w.2 e);rw[fO up ω,decide_eq_false J,Bool.false_or]at b;refine Rw (p.ext c) λh6 z=>⟨_,rfl,?_⟩;by_cases K:0<i
   ·have ab:=p.ok.up i.toNat x d ω;rw[decide_eq_true (show 0<i.toNat by omega),yf d]at b;rw[TS K d];refine⟨⟨ω,ω,j.trans z,?_⟩,ω⟩;simp_all
   ·have e:upI N i=-1:=by simp_all [if_neg,upI]
    rw[e];rw[decide_eq_false (show¬0<i.toNat by omega)]at b;exact⟨⟨ω,ω,j.trans z,b⟩,ω⟩
 ·rw[decide_eq_false l]at b;rw[b]at q;exact q v c
def upN(N:List Nd)(k i:Nat):Bs 32:=if i=k then al0 32 else HF N (bQ N i)
theorem XR{w:Nat}{O:Sl}{own:Nat->Int}(p:RT h m A B D N most)(q:RW h w m O N own){root:Bs 32}(a':place root N<0->∀h',Ext h h'->R (ama [.ptr none,.bool false]).val h')
 (W:∀k:Nat,place root N=(k:Int)->∀h' w' X A' B' D' O' n',RT h' X A' B' D' (eX N most k) most->Var 263 h' w' (.agg [.ptr (PT X),.slice O',.i n'])->Ext h h'->(∀i,Dx X A' B' D' i->h.size<=i)->R (ama [.ptr (PT w'),.bool true]).val h'):
 Cl 180 [.ptr (PT w),.bytes 32 root] h R:=by
 apply AI;delta gz j3 eG fH js Dr i_ Bo mw mu C2 jr cr dD eW jW bz eU bJ bK aT fD;have up:=p.ok.tree;have b5:=p.ok.len;have b6:=p.ok.most;have la:=p.a.len;have lb:=p.b.len;have ld:=p.d.len;rw[pE,al1]at la;unfold LZ at ld;refine aa λY v1 Z s1=>⟨_,(q.var.ext Z).ah rfl,root,v1.bytes,fA (p.ext Z) λf x2=>⟨_,rfl,?_⟩⟩;have g:=Z.trans x2;refine ID (λG=>a' G f g) λh0=>?_;obtain⟨k,y,q1,q2,q3,q4,q5⟩:=fG (r:=root) (L:=N) ω;have W:=W k q2;obtain⟨ba,_⟩:=oH p.ok q5;have kr:=HH p.ok q5;have ks:=Ry p.ok q5;have bb:=TT p.ok q5;refine⟨_,(q.var.ext g).ah rfl,most,(p.ext g).var.ah rfl,aa λh3 v3 x3 s3=>⟨_,((q.var.ext g).ext x3).ah rfl,A,((p.ext g).ext x3).var.ah rfl,?_⟩⟩;have z2:=x2.size;have bc:KT h3 f.size al3 al3 al3 al3 [] [] [] [] most:=⟨v3,Vc.Own.nil _ _ _,Vc.Own.nil _ _ _,Vc.Own.nil _ _ _,Vc.Own.nil _ _ _,⟨λj k i Y f=>?_,λj i c=>?_⟩⟩;rotate_left
 ·match j,k with
  |0,0=>rfl
  |0,1|0,2|0,3|0,4=>exact(q8 f).elim
  |1,_|2,_|3,_|4,_=>exact(q8 Y).elim
  |0,_+5=>exact f.elim
  |_+5,_=>exact Y.elim
 ·match j with
  |0=>have c:i=f.size:=c;omega
  |1|2|3|4=>exact(q8 c).elim
  |_+5=>exact c.elim
 have Oo:∀i,i<=N.length->(eC N k i).length<=i:=λi _=>by
  have:=List.length_filter_le (bO (bQ N) k) (amB i)
  rwa [amG]at this
 refine⟨λσ l=>∃i:Nat,σ.2=i/\i<=N.length/\∃A' B' D' ow,KT l f.size A' B' D' σ.1 ((eC N k i).map (HF N)) ((eC N k i).map (slI N)) ((eC N k i).map (upN N k)) ow most/\ow.length<=i/\Ext f l/\∀j,dm (dO f.size A' B' D' σ.1) j->f.size<=j,
  λσ _=>(N.length-σ.2).toNat,⟨0,rfl,amF _,al3,al3,al3,[],bc,amF _,x3,λj⟨q,H⟩=>?_⟩,?_⟩
 ·match q with
  |0=>exact aml (amm H)
  |1|2|3|4=>exact(q8 H).elim
  |_+5=>exact H.elim
 rintro⟨E,ii⟩ o ⟨i,c,bd,A',B',D',ow,I,b7,K,lo⟩;dsimp only at c I lo⊢;subst c
 have ext:∀{F F':Nat->Nat->Prop}{s n:af},Ext f s->Step (dm F) s (dm F') n->(∀j,dm F j->f.size<=j)->Ext f n/\(∀j,dm F' j->f.size<=j):=λx st lo=>
  ⟨al2 x st.only lo,λj u=>(st.new j u).elim (lo j) λh=>by have:=x.size;omega⟩
 have bl:=Oo i bd;refine ID (λb8=>?_) λb9=>?_
 ·have M:i<N.length:=ω;obtain⟨x,v⟩:∃x,N[i]? =some x:=⟨_,al7 M⟩;have ab:N[(i:Int).toNat]? =some x:=by rw[amd];exact v
  refine lM (p.ext (g.trans K)).a.elems ω (yT ab) ?_;refine aa λh5 v5 P s5=>aq (t:=.bytes 32 x.root) v5 eM.symm (eM.trans eM.symm) λh6 v6 f6 s6=>?_;have ac:Ext o h6:=al2 P f6 λi c=>aml (amm c);have ad:=K.trans ac;have b':=ac.size;refine⟨_,(q.var.ext (g.trans ad)).ah rfl,root,(v1.ext (x2.trans ad)).bytes,x.root,v6.bytes,R3 (p.ext (g.trans ad)) λh7 x7=>⟨_,rfl,?_⟩⟩;have ae:=ac.trans x7;have a0:=K.trans ae
  have n:Em N root x.root=bO (bQ N) k i:=by
   unfold Em;rw[gX p.ok.nodup v,q2,decide_eq_true ω,decide_eq_true ω,amO,amO,amd,amd]
  rw[n];have w1:al5 .i64 ((i:Int)+1)=((i+1:Nat):Int):=by rw[wrap_i64 ω ω];omega
  have a1:Safe (·=o.size) (dO f.size A' B' D' E) h7:=λj u=>by
   have:=x7.size;exact⟨λ⟨q,H⟩=>by have:=I.sep.lt q j H;omega,ω⟩
  have v7:Var 52 h7 o.size (.bytes 32 x.root):=v6.ext x7;refine amj (λG=>?_) λQ=>?_
  ·have G:bO (bQ N) k i=false:=by simpa using G
   rw[w1];have e:eC N k (i+1)=eC N k i:=by rw[yU,if_neg (by rw[G];decide),amY]
   exact⟨⟨i+1,rfl,M,A',B',D',ow,by rw[e];exact I.ext ae,ω,a0,lo⟩,ω⟩
  ·have Q:bO (bQ N) k i=true:=by simpa using Q
   have e:eC N k (i+1)=eC N k i++[i]:=by rw[yU,if_pos Q]
   have er:HF N i=x.root:=oG v;have es:slI N i=x.slot:=Kt v;have a2:=I.ext ae;refine⟨_,a2.var.ah rfl,x.root,v7.bytes,amf _ _,a2.afU (by rw[al1];omega) λh8 A8 a3 al=>?_⟩;obtain⟨S,bi⟩:=ext a0 al lo;have a4:=a1.step al;have v8:Var 52 h8 o.size (.bytes 32 x.root):=v7.only al.only (a1 _ rfl).1;refine⟨_,a3.var.ah rfl,_,(q.var.ext (g.trans S)).ah rfl,B,(p.ext (g.trans S)).var.ah rfl,qL (p.ext (g.trans S)).b.elems ω (CL ab) ⟨amf _ _,a3.afV (by rw[al1];omega) λT B9 bj am=>?_⟩⟩;obtain⟨U,bk⟩:=ext S am bi;have a5:=a4.step am;have v9:Var 52 T o.size (.bytes 32 x.root):=v8.only am.only (a4 _ rfl).1;refine⟨_,(q.var.ext (g.trans U)).ah rfl,D,(p.ext (g.trans U)).var.ah rfl,lM (p.ext (g.trans U)).d.elems ω (VF ab) ?_⟩;refine aa λca v10 x10 cc=>aq (t:=.bytes 32 (yS N x)) v10 eM.symm (eM.trans eM.symm) λao v11 f11 cd=>?_;have ap:Ext T ao:=al2 x10 f11 λi c=>aml (amm c);have ce:=ap.size;intro J HJ
   have a6:∀(l:af),Ext T l->ao.size<=l.size->Var 52 l T.size (.bytes 32 (upN N k i))->J amU l:=λl V zh vh=>by
    refine HJ _ l ?_;have a7:=bj.ext V;have bm:Safe (λj=>j=o.size) (dO f.size A8 B9 D' E) l:=λj u=>⟨(a5 j u).1,by have:=(a5 j u).2;have:=V.size;omega⟩;refine⟨_,a7.var.ah rfl,upN N k i,vh.bytes,amf _ _,a7.afW (by rw[al1];omega) λar bo bp a8=>?_⟩;obtain⟨aw,br⟩:=ext (U.trans V) a8 bk;have aE:Var 52 ar o.size (.bytes 32 x.root):=(v9.ext V).only a8.only (bm _ rfl).1;refine⟨x.root,aE.bytes,Xr (p.ext (g.trans aw)) (q.ext (g.trans aw)) λcf a9=>⟨_,rfl,?_⟩⟩;refine(bp.ext a9).afX ω λch ci bt bx=>?_;obtain⟨bN,b0⟩:=ext (aw.trans a9) bx br;rw[w1];refine⟨⟨i+1,rfl,M,A8,B9,bo,ow++[mV N own x.root],?_,?_,bN,b0⟩,ω⟩
    ·rw[e,amt,amt,amt,amx,amx,amx,amC,amC,amC,er,es];exact bt
    ·rw[amb,amH];omega
   refine ID (λb1=>?_) λb1=>?_
   ·refine aq (t:=.bytes 32 (al0 32)) v11 eM.symm (eM.trans eM.symm) λar aE f12 cj=>a6 ar (al2 ap f12 λi c=>aml (amm c)) ω ?_;have:upN N k i=al0 32:=if_pos ω;rw[this];exact aE
   ·refine a6 ao ap (amk _) ?_;have cl:=Bg up i M Q;have b2:=p.ok.up i x v ω;obtain⟨z,hz⟩:∃z,N[x.par.toNat]? =some z:=⟨_,al7 ω⟩
    have:upN N k i=yS N x:=by
     unfold upN;rw[if_neg ω,yf v,oG hz,IY b2.1 hz]
    rw[this];exact v11
 ·have b3:i=N.length:=ω;refine aa λh5 v5 P s5=>?_;have C:=I.ext P;rw[b3]at C;have z:=C.sep.qx;refine W h5 o.size f.size A' B' D' E _ ⟨C.var,?_,?_,?_,ba,⟨λc=>?_,λc=>?_,λc=>?_⟩,λj s n=>?_,λj s n=>?_,λj s n=>?_⟩ v5 ((g.trans K).trans P) λj u=>?_
  ·rw[kr];exact C.a
  ·rw[ks];exact C.b
  ·rw[bb];exact C.d
  ·have:=z 1 0 _ c rfl;omega
  ·have:=z 2 0 _ c rfl;omega
  ·have:=z 3 0 _ c rfl;omega
  ·have:=z 1 2 j s n;omega
  ·have:=z 1 3 j s n;omega
  ·have:=z 2 3 j s n;omega
  ·have:f.size<=j:=by
    rcases u with e|e|e|e
    ·omega
    ·exact lo j ⟨1,e⟩
    ·exact lo j ⟨2,e⟩
    ·exact lo j ⟨3,e⟩
   omega
theorem Ui{q b:Nat}{c:Cf}(H:Var 134 h q (Nr c m b))(p:RT h m A B D N most){root:Bs 32}(I:place root N<0->∀h',Ext h h'->R (TV.i 7).val h')
 (J:∀k:Nat,place root N=(k:Int)->∀h' a A' B' D',RT h' a A' B' D' (eX N most k) most->Var 134 h' q (Nr c a b)->ag (·=q) h h'->(∀i,Dx a A' B' D' i->h.size<=i)->R (TV.i 0).val h'):
 Cl 118 [.ptr (PT q),.bytes 32 root] h R:=by
 apply rM;delta nE j3 aD uR cr bz dX bJ bA;have C:=H.lt;refine aa λE v1 j F=>⟨_,(H.ext j).ah rfl,root,v1.bytes,Ku (p.ext j) λG w O u o K _=>⟨_,rfl,o,?_⟩⟩;have f:=j.trans o;refine XR (p.ext f) u (λl r n=>⟨_,_,rfl,amp (I l r (f.trans n))⟩) λk v r L a A' B' D' O' M x y n s=>⟨_,_,rfl,ame ?_⟩;have g:=f.trans n;have P:=f.size;refine⟨_,y.ah rfl,aI (H.ext g) (i:=1) (t:=.ptr (PT a)) rfl rfl rfl rfl λz v4 f4 Q=>J k v z a A' B' D' (x.only f4 λi d e=>by have:=s i d;have e:i=q:=e;omega) v4 ⟨by have:=g.size;omega,λi d l=>(f4.same i (Nat.lt_of_lt_of_le d g.size) l).trans (g.same i d)⟩ λi d=>by have:=s i d;omega⟩
end
end Gate
namespace Peers
def vals(L:List (Int×Int)):List Int:=L.map (·.2)
structure Rf(h:af)(b:Nat)(A B:Sl)(L:List (Int×Int))(most bH decay gone:Int):Prop where
 var:Var 189 h b (.agg [.slice A,.slice B,.i most,.i bH,.i decay,.i gone])
 a:Vc.Own 3 1 h A ((keys L).map dL)
 b:Vc.Own 3 1 h B ((vals L).map dL)
 uT:∀i,In A i->¬In B i
def dV(b:Nat)(A B:Sl)(i:Nat):Prop:=i=b\/In A i\/In B i
section
variable{R:Rq}{h h':af}{b:Nat}{A B:Sl}{L:List (Int×Int)}{most bH decay gone:Int}
theorem Rf.only{S:Nat->Prop}(p:Rf h b A B L most bH decay gone)(o:ag S h h')(q:∀i,dV b A B i->¬S i):Rf h' b A B L most bH decay gone:=
 ⟨p.var.only o (q b (.inl rfl)),p.a.only o (λl a=>q _ (.inr (.inl ⟨l,a,rfl⟩))),p.b.only o (λl a=>q _ (.inr (.inr ⟨l,a,rfl⟩))),p.uT⟩
theorem Rf.ext(p:Rf h b A B L most bH decay gone)(e:Ext h h'):Rf h' b A B L most bH decay gone:=p.only (S:=λ_=>False) (amz e) (λ_ _ a=>a)
theorem R4{T:TypeId}{sz:Nat}{s:Sl}{ts:List TV}(o:Vc.Own T sz h s ts){i:Nat}(q:In s i):∃E,h[i]? =some (row E T):=by
 obtain⟨l,a,rfl⟩:=q;rcases o.row with rfl|⟨d,e,b,c,_⟩
 ·cases a
 ·rw[b]at a;cases a;exact⟨_,c⟩
theorem R5{H I:List Value}{T q:TypeId}(J:h[b]? =some (row H T))(E:h[b]? =some (row I q)):T=q:=by
 rw[J]at E;have:=congrArg (λo=>match o with|some (Obj.cells _ t _)=>t|_=>0) E;simpa[row]using this
theorem Rf.acC(p:Rf h b A B L most bH decay gone):¬In A b:=λa=>by
 obtain⟨d,c⟩:=R4 p.a a;have:=R5 c p.var;cases this
theorem Rf.Uj(p:Rf h b A B L most bH decay gone):¬In B b:=λa=>by
 obtain⟨d,c⟩:=R4 p.b a;have:=R5 c p.var;cases this
theorem Rf.lt(p:Rf h b A B L most bH decay gone){i:Nat}(q:dV b A B i):i<h.size:=by
 rcases q with rfl|⟨l,a,rfl⟩|⟨l,a,rfl⟩
 ·exact p.var.lt
 ·exact p.a.lt l a
 ·exact p.b.lt l a
theorem xH:(vals L).length=L.length:=by simp[vals]
theorem xI:(keys L).length=L.length:=by simp[keys]
theorem Rf.aaL(p:Rf h b A B L most bH decay gone):A.len=L.length:=by have:=p.a.len;rw[al1,xI]at this;omega
theorem Rf.Oo(p:Rf h b A B L most bH decay gone):B.len=L.length:=by have:=p.b.len;rw[al1,xH]at this;omega
def K6(L:List (Int×Int))(k:Int):Int:=match L.findIdx? (λe=>decide (e.1=k))with
 |some i=>i
 |none=>-1
theorem GJ(q:∀h' ok,Ext h h'->Rf h' h.size al3 al3 [] most bH decay 0->h'.size=h.size+1->(ok=true↔Valid most bH decay)->R (ama [.ptr (PT h.size),.bool ok]).val h'):
 Cl 94 [.i most,.i bH,.i decay] h R:=by
 apply AJ;delta U' JL fW fD;obtain⟨b,d,v1,e,f⟩:=DN h (.agg [.slice al3,.slice al3,.i most,.i bH,.i decay,.i 0]) 189;unfold cL;rw[d];have c:=λok=>q b ok e ⟨v1,Vc.Own.nil _ _ _,Vc.Own.nil _ _ _,λi g=>by obtain⟨l,j,_⟩:=g;cases j⟩ f;have no:¬Valid most bH decay->R (ama [.ptr (PT h.size),.bool false]).val b:=λk=>c false (by simp[k]);unfold Valid at no;refine ID (λm=>ID (λn=>ID (λo=>ID (λp=>ID (λr=>?_) λa=>no ω) λa=>no ω) λa=>no ω) λa=>no ω) λa=>no ω;refine c _ ?_;rw[decide_eq_true_eq];unfold Valid;omega
theorem Pk(p:Rf h b A B L most bH decay gone)(H:L.length<1000000){k:Int}(q:R (TV.i (K6 L k)).val h):Cl 130 [.ptr (PT b),.i k] h R:=by
 apply tq;delta aJ U8 iZ nj gI bK;have F:=p.aaL;refine⟨A,p.var.ah rfl,?_⟩;refine⟨λs v=>0<=s.2/\s.2<=L.length/\v=h/\∀(j:Nat)(e:Int×Int),(j:Int)<s.2->L[j]? =some e->e.1≠k,λs _=>((L.length:Int)-s.2).toNat,⟨by simp,by simp,rfl,λj e a=>by simp at a;omega⟩,?_⟩;rintro⟨u,i⟩ _ ⟨r,w,rfl,d⟩;simp only at r w d⊢;refine ID (λx=>?_) λx=>?_
 ·refine ints_at p.a.elems r (by rw[xI];omega) λl y f z=>⟨y,z,?_⟩;obtain⟨e,c⟩:∃e,L[i.toNat]? =some e:=⟨_,al7 ω⟩
  have t:y=e.1:=by
   unfold keys at f;rw[amh,c]at f;exact(Option.some.inj f).symm
  refine ID (λg=>?_) λg=>?_
  ·have:K6 L k=i:=by
    have m:L.findIdx? (λe=>decide (e.1=k))=some i.toNat:=by
     rw[List.findIdx?_eq_some_iff_getElem];obtain⟨C,D⟩:=amg.1 c;refine⟨C,?_,λj a=>?_⟩
     ·rw[D,decide_eq_true_eq,<-t];exact g
     ·simp only[decide_eq_true_eq];exact d j _ ω (al7 ω)
    unfold K6;rw[m];simp only;omega
   rw[this]at q;exact q
  ·rw[wrap_i64 (n:=i+1) ω ω];refine⟨⟨ω,ω,by trivial,λj E a o=>?_⟩,ω⟩;by_cases G:(j:Int)=i
   ·have:j=i.toNat:=ω;rw[this,c]at o;cases o;rw[<-t];exact g
   ·exact d j E ω o
 ·have:K6 L k=-1:=by
   have m:L.findIdx? (λe=>decide (e.1=k))=none:=by
    rw[List.findIdx?_eq_none_iff];intro e c;obtain⟨j,a,rfl⟩:=List.getElem_of_mem c;simp only[decide_eq_false_iff_not];exact d j _ ω (al7 a)
   unfold K6;rw[m]
  rw[this]at q;exact q
theorem Cg:∀(L:List (Int×Int))(k:Int),(K6 L k<0/\get k L=none)\/(0<=K6 L k/\∃v,L[(K6 L k).toNat]? =some (k,v)/\get k L=some v)
 |[],k=>.inl ⟨by simp[K6],rfl⟩
 |e::L,k=>by
  have a:=Cg L k;unfold K6 at a⊢;rw[List.findIdx?_cons];unfold get;by_cases h:e.1=k
  ·right;rw[if_pos (by simpa using h),if_pos h.symm];refine⟨by simp,e.2,?_,rfl⟩;simp[<-h]
  ·rw[if_neg (by simpa using h),if_neg (λb=>h b.symm)];cases c:L.findIdx? (λe=>decide (e.1=k))with
   |none=>rw[c]at a;exact .inl ⟨by simp,(a.resolve_right (λb=>by simp at b)).2⟩
   |some i=>
    rw[c]at a;right;rcases a with⟨f,_⟩|⟨_,v,d,g⟩
    ·simp only at f;omega
    ·refine⟨by simp only[amZ];omega,v,?_,g⟩;simp only[amZ]at d⊢;have:((i+1:Nat):Int).toNat=i+1:=ω;rw[this,List.getElem?_cons_succ];simpa using d
theorem HO(p:Rf h b A B L most bH decay gone)(E:L.length<1000000){k:Int}(q:R (TV.i (score L k)).val h):Cl 129 [.ptr (PT b),.i k] h R:=by
 apply qp;delta q7 aJ aD cu dJ dX aT bA;refine Pk p E ⟨_,rfl,?_⟩;unfold score at q;rcases Cg L k with⟨d,a⟩|⟨d,v,a,e⟩
 ·refine ID (λf=>ω) λ_=>?_;rw[a]at q;exact q
 ·refine ID (λ_=>?_) λf=>ω;have j:=(amg.1 a).1;refine⟨B,p.var.ah rfl,?_⟩;refine ints_at p.b.elems d (by rw[xH];omega) λl y c g=>⟨y,g,?_⟩;unfold vals at c;rw[amh,a]at c;cases c;rw[e]at q;exact q
theorem Pm(p:Rf h b A B L most bH decay gone)(q:L.length<1000000)(E:∀k,-1048576<=score L k/\score L k<=0){k:Int}(H:R (amw (decide (bH<=-score L k))).val h):Cl 182 [.ptr (PT b),.i k] h R:=by
 apply oR;delta cu aT;refine⟨bH,p.var.ah rfl,HO p q ⟨_,rfl,amc _,?_⟩⟩;have:=E k;rw[wrap_i64 (n:=0-score L k) ω ω];have:(0:Int)-score L k=-score L k:=ω;rw[this];exact H
theorem XS{s t:Sl}{q E:List Int}(H:aj 1 h s (q.map dL))(I:aj 1 h t (E.map dL))(J:q=E)(O:q.length<1000000)(M:R (amw true).val h):Cl 64 [.slice s,.slice t] h R:=by
 apply mQ;delta jM aO mq fE bK lq;subst J;have d:=H.len;have l2:=I.len;rw[al1]at d l2;rw[decide_eq_true (by omega:(s.len:Int)=(t.len:Int))];refine ame ?_;refine⟨λa e=>0<=a.2/\a.2<=q.length/\e=h,λa _=>((q.length:Int)-a.2).toNat,⟨by simp,by simp,rfl⟩,?_⟩;rintro⟨u,i⟩ _ ⟨b,f,rfl⟩;simp only at b f⊢;refine ID (λg=>?_) λg=>M;refine ints_at H b ω λl y j k=>⟨y,k,?_⟩;refine ints_at I b ω λp m c o=>⟨m,o,?_⟩;rw[j]at c;cases c;rw[decide_eq_true rfl,wrap_i64 (n:=i+1) ω ω];exact ame ⟨⟨ω,ω,by trivial⟩,ω⟩
def ins(x:Int)(l:List Int):List Int:=l.takeWhile (λy=>decide (y<x))++x::l.dropWhile (λy=>decide (y<x))
theorem R6(x:Int)(l:List Int):(ins x l).Perm (x::l):=by
 unfold ins;have:l.Perm (l.takeWhile (λy=>decide (y<x))++l.dropWhile (λy=>decide (y<x))):=by rw[List.takeWhile_append_dropWhile]
 exact List.perm_middle.trans (this.symm.cons x)
theorem K7(x:Int):∀{l:List Int},l.Pairwise (λa b=>a<=b)->(ins x l).Pairwise (λa b=>a<=b)
 |[],_=>by simp[ins]
 |y::l,h=>by
  have h':=List.pairwise_cons.1 h;by_cases d:y<x
  ·have e:ins x (y::l)=y::ins x l:=by simp[ins,d]
   rw[e];refine List.pairwise_cons.2 ⟨λz c=>?_,K7 x h'.2⟩;rcases amP.1 ((R6 x l).mem_iff.1 c)with rfl|c
   ·omega
   ·exact h'.1 z c
  ·have e:ins x (y::l)=x::y::l:=by simp[ins,d]
   rw[e];refine List.pairwise_cons.2 ⟨λz c=>?_,h⟩;rcases amP.1 c with rfl|c
   ·omega
   ·have:=h'.1 z c;omega
def pF(l:List Int):List Int:=l.foldl (λout x=>ins x out) []
theorem FG(l:List Int):(pF l).Perm l/\(pF l).Pairwise (λa b=>a<=b):=by
 have key:∀(l out:List Int),out.Pairwise (λa b=>a<=b)->(l.foldl (λout x=>ins x out) out).Perm (l++out)/\(l.foldl (λout x=>ins x out) out).Pairwise (λa b=>a<=b):=by
  intro l
  induction l with
  |nil=>intro out h;exact⟨List.Perm.refl _,h⟩
  |cons x l c=>
   intro out h;obtain⟨d,e⟩:=c (ins x out) (K7 x h);refine⟨d.trans (((R6 x out).append_left l).trans ?_),e⟩;exact List.perm_middle
 have:=key l [] List.Pairwise.nil;rw[amY]at this;exact this
theorem R7(L:List (Int×Int)):pF (keys L)=IS L:=by
 obtain⟨a,b⟩:=FG (keys L);exact kW (a.trans (xu L).symm) b (sY L)
theorem wH{s:Sl}{ts:List TV}{i j:Nat}(e:aj 1 h s ts)(q:i<=j)(E:j<=s.len)(H:s.len<=s.cap):aj 1 h (ay s i j 1) ((ts.drop i).take (j-i)):=by
 have g:=e.len;refine⟨by simp only[ay,amr,amI];omega,λc=>?_,λl a k t d=>?_⟩
 ·unfold ay at c;simp only at c
  have:ts=[]\/i=j:=by
   split at c
   ·right;omega
   ·left;cases b:s.a with
    |none=>exact e.nil b
    |some l=>rw[b]at c;simp at c
  rcases this with rfl|rfl
  ·simp
  ·simp
 ·unfold ay at a;simp only at a;rw[amV]at d;split at d
  ·rename_i m;rw[List.getElem?_drop]at d;split at a
   ·omega
   ·cases b:s.a with
    |none=>rw[b]at a;simp at a
    |some f=>
     rw[b]at a;simp only[amZ,Option.some.injEq]at a;subst a;have:=e.get f b (i+k) t d;simp only[Nat.mul_one]at this⊢;rw[Nat.add_assoc];exact this
  ·cases d
end
end Peers
namespace Peers
section
variable{R:Rq}{h h':af}{b:Nat}{A B:Sl}{L:List (Int×Int)}{most bH decay gone:Int}
theorem uF{C:Ctx}{T:TypeId}{sz:Nat}{t s:Sl}{ts us:List TV}{K:Sl->af->Prop}(M:(C.ti T).size=sz)(O:(C.ti T).z.size=sz)(U:0<(C.ti T).bytes)(q:0<sz)
 (W:(t.len+s.len)*(C.ti T).bytes<=70368744177664)(ab:t.len=t.cap)(ac:0<s.len)(E:aj sz h t ts)(H:aj sz h s us)(I:∀u∈ts,u.size=sz)(J:∀u∈us,u.size=sz)(Z:∀u∈us,u.plain=true)
 (hk:∀t' h',Vc.Own T sz h' t' (ts++us)->Ext h h'->(∀l,t'.a=some l->h.size<=l.b)->K t' h'):
 ∃new,cn h s sz new/\(∀v∈new,bU v=true)/\au C T t s.len new h K:=by
 refine⟨al4 us,H.cells J q,ak.mJ Z,al4 ts,?_,W,U,λb=>ω,λb=>ω,λ_ c d=>?_⟩
 ·rw[M];exact E.cells I q
 have e:=E.len;have l2:=H.len;refine hk _ _ ⟨λu f=>?_,by simp[e,l2],d,.inr ⟨_,cq (C.ti T).z (c-(t.len+s.len)),rfl,?_,?_⟩⟩ (amf _ _) (λl g=>by cases g;exact amk _)
 ·rcases List.mem_append.1 f with a|a
  ·exact I u a
  ·exact J u a
 ·rw[cO,ak.fT]
 ·rw[je,O]
theorem zk{l:List Int}:∀u∈l.map dL,u.size=1:=λu a=>by
 obtain⟨x,_,rfl⟩:=al9.1 a;rfl
theorem uK{l:List Int}:∀u∈l.map dL,u.plain=true:=λu a=>by
 obtain⟨x,_,rfl⟩:=al9.1 a;rfl
theorem Lc{x:Int}:∀{l:List Int}{n:Nat},n<=l.length->(∀(j:Nat)(y:Int),j<n->l[j]? =some y->y<x)->(∀y,l[n]? =some y->¬y<x)->l.takeWhile (λy=>decide (y<x))=l.take n/\l.dropWhile (λy=>decide (y<x))=l.drop n
 |[],n,a,_,_=>by simp at a;subst a;simp
 |y::l,0,_,_,b=>by
  have:=b y rfl;simp[this]
 |y::l,n+1,a,d,b=>by
  have e:=d 0 y ω rfl;obtain⟨f,g⟩:=Lc (x:=x) (l:=l) (n:=n) (by simpa using a) (λj z h c=>d (j+1) z ω (by simpa using c)) (λz c=>b z (by simpa using c));simp[e,f,g]
theorem aaM{out:Sl}{q:List Int}{x i:Int}{K:Sl->af->Prop}(o:Vc.Own 3 1 h out (q.map dL))(H:q.length<1000000)(E:0<=i)(Z:i<=q.length)
 (M:∀f h',Vc.Own 3 1 h' f ((q.take i.toNat++x::q.drop i.toNat).map dL)->Ext h h'->(∀l,f.a=some l->h.size<=l.b)->K f h'):
 0<=i/\i<=(out.cap:Int)/\0<=i/\i<=i/\0<=i/\i<=(out.len:Int)/\
  ∃new,cn (amu h (row (al4 [TV.i x]) 3)) (ay out (ams i) out.len 1) 1 new/\(∀v:Value,v∈new->bU v=true)/\
   au ctx 3 (ami (some (Loc.mk (Array.size h) 0)) 1 1) (ay out (ams i) out.len 1).len new (amu h (row (al4 [TV.i x]) 3)) λ(I:Sl)(J:af)=>
    ∃new,cn J I 1 new/\(∀v:Value,v∈new->bU v=true)/\
     au ctx 3 (ay (@ami out.a out.len (ams i) out.HX) 0 (ams i) 1) I.len new J λ(s:Sl)(h:af)=>K s h:=by
 have z:=o.len;rw[al1]at z;have A:=o.cap;have g:=amf h (row (al4 [TV.i x]) 3);have B:=Vc.Own.new (T:=3) (sz:=1) h [TV.i x] (by simp[amJ]);have r:=o.ext g;refine⟨E,ω,E,al8 _,E,ω,?_⟩;have w:=wH (i:=i.toNat) (j:=out.len) r.elems ω (amk _) A
 have D:((q.map dL).drop i.toNat).take (out.len-i.toNat)=(q.drop i.toNat).map dL:=by
  rw[amK (by simp only[amI,al1];omega),List.map_drop]
 rw[D]at w;refine oW (C:=ctx) (T:=3) (t:=ami (some (Loc.mk h.size 0)) 1 1) rfl rfl δ δ (by show(1+(ay out i.toNat out.len 1).len)*8<=_;simp only[ay];omega) B w zk uK λF G m L _ Y=>?_;have n:=L rfl;have N:=r.ext n
 have O:aj 1 G (ay (@ami out.a out.len i.toNat out.HX) 0 i.toNat 1) ((q.take i.toNat).map dL):=by
  have y:=N.elems;refine⟨by simp only[ay,al1,amr];omega,λe=>?_,λl a k t b=>?_⟩
  ·unfold ay at e;simp only at e;split at e
   ·rename_i c;rw[c];simp
   ·cases d:out.a with
    |none=>have:=y.nil d;simp at this;rw[this];simp
    |some l=>rw[d]at e;simp at e
  ·unfold ay at a;simp only at a
   have P:(q.map dL)[k]? =some t:=by
    rw[List.map_take]at b;rw[amV]at b;split at b
    ·exact b
    ·cases b
   split at a
   ·rename_i c;rw[c]at b;simp at b
   ·cases d:out.a with
    |none=>rw[d]at a;simp at a
    |some Q=>
     rw[d]at a;simp only[amZ,Option.some.injEq]at a;subst a;have:=y.get Q d k t P;simpa using this
 have R:=m.len;simp only[amb,al1,amI,List.length_cons,List.length_nil]at R;refine uF (C:=ctx) (T:=3) rfl rfl δ δ (by show((ay (@ami out.a out.len i.toNat out.HX) 0 i.toNat 1).len+F.len)*8<=_;simp only[ay];omega) (by simp[ay]) ω O m.elems zk (λu p=>m.size u p) (λu p=>?_) λS U V W X=>?_
 ·rcases List.mem_append.1 p with c|c
  ·rw[List.mem_singleton.1 c];rfl
  ·exact uK u c
 ·refine M S U ?_ ((g.trans n).trans W) (λl H=>?_)
  ·have:(q.take i.toNat++x::q.drop i.toNat).map dL=(q.take i.toNat).map dL++([TV.i x]++(q.drop i.toNat).map dL):=by simp[dL]
   rw[this];exact V
  ·have:=X l H;have:=g.size;have:=n.size;omega
theorem R8(p:Rf h b A B L most bH decay gone)(W:L.length<1000)(E:∀h' s,Ext h h'->Vc.Own 3 1 h' s ((IS L).map dL)->R (amL s).val h'):
 Cl 128 [.ptr (PT b)] h R:=by
 apply qq;delta Zr aF aJ Dr sD iA mu jr cE dD eW gY bK aT;have X:=p.aaL;have Y:=xI (L:=L);refine⟨A,p.var.ah rfl,?_⟩;refine⟨λs g=>0<=s.2/\s.2<=L.length/\Ext h g/\Vc.Own 3 1 g s.1 ((pF ((keys L).take s.2.toNat)).map dL),λs _=>((L.length:Int)-s.2).toNat,⟨al8 _,Int.natCast_nonneg _,amc _,Vc.Own.nil 3 1 h⟩,?_⟩;rintro⟨out,i⟩ g ⟨r,D,x,o⟩;simp only at r D o⊢;have F:=p.ext x;refine ID (λG=>?_) λG=>?_
 ·refine ints_at F.a.elems r ω λl y H I=>⟨y,I,?_⟩;have J:(i+1).toNat=i.toNat+1:=ω
  have K:pF ((keys L).take (i+1).toNat)=ins y (pF ((keys L).take i.toNat)):=by
   rw[J,amS,H];unfold pF;rw[amX];rfl
  have Z:(pF ((keys L).take i.toNat)).length<=L.length:=by
   rw[(FG _).1.length_eq,amr];omega
  generalize pF ((keys L).take i.toNat)=f at*;have M:=o.len;rw[al1]at M;refine⟨λa N=>0<=a/\a<=f.length/\N=g/\(∀(j:Nat)(z:Int),(j:Int)<a->f[j]? =some z->z<y),λa _=>((f.length:Int)-a).toNat,⟨al8 _,Int.natCast_nonneg _,rfl,λj z m=>by have:(j:Int)<0:=m;omega⟩,?_⟩;rintro a t ⟨q,a1,rfl,u⟩
  have v:(∀z,f[a.toNat]? =some z->¬z<y)->∀c h',Vc.Own 3 1 h' c ((f.take a.toNat++y::f.drop a.toNat).map dL)->Ext t h'->(∀l,c.a=some l->t.size<=l.b)->
   ((0<=(c,al5 .i64 (i+1)).2/\(c,al5 .i64 (i+1)).2<=(L.length:Int)/\Ext h h'/\Vc.Own 3 1 h' (c,al5 .i64 (i+1)).1 ((pF ((keys L).take (c,al5 .i64 (i+1)).2.toNat)).map dL))/\
     ((L.length:Int)-(c,al5 .i64 (i+1)).2).toNat<((L.length:Int)-(out,i).2).toNat):=by
   intro O c h' P Q _;simp only;rw[wrap_i64 (n:=i+1) ω ω,K];have C:=Lc (x:=y) (l:=f) (n:=a.toNat) ω (λj z m k=>u j z ω k) O;refine⟨⟨ω,ω,x.trans Q,?_⟩,ω⟩;unfold ins;rw[C.1,C.2];exact P
  refine ID (λS=>?_) λS=>?_
  ·refine ints_at o.elems q ω λl2 z k T=>⟨z,T,?_⟩;refine ID (λU=>?_) λV=>?_
   ·rw[wrap_i64 (n:=a+1) ω ω];refine⟨⟨ω,ω,by trivial,λj w m d=>?_⟩,by dsimp only;omega⟩;by_cases e:(j:Int)=a
    ·have:j=a.toNat:=ω;rw[this,k]at d;cases d;exact U
    ·exact u j w ω d
   ·exact aaM o ω q ω (v (λw d=>by rw[k]at d;cases d;exact V))
  ·exact aaM o ω q ω (v (λw d=>by
    have:=(amg.1 d).1;omega))
 ·have:i.toNat=(keys L).length:=ω;rw[this,amA,R7]at o;exact E _ _ x o
end
end Peers
namespace Peers
theorem Nn.of{α:Type}{p:Option α}{x:α}(h:p=some x){K:α->Prop}(q:K x):Nn p K:=by rw[h];exact q
section
variable{R:Rq}{h h':af}{b:Nat}{A B:Sl}{L:List (Int×Int)}{most bH decay gone:Int}
def Grown(b:Nat)(A B:Sl)(h:af)(A' B':Sl)(h':af):Prop:=ag (dV b A B) h h'/\∀i,dV b A' B' i->dV b A B i\/h.size<=i
theorem Grown.refl(b:Nat)(A B:Sl)(h:af):Grown b A B h A B h:=⟨amE _ _,λ_ a=>.inl a⟩
theorem Grown.trans{A' B' E H:Sl}{h h' I:af}(g:Grown b A B h A' B' h')(q:Grown b A' B' h' E H I):Grown b A B h E H I:=by
 refine⟨⟨amR g.1.size q.1.size,λi a d=>?_⟩,λi a=>?_⟩
 ·rw[q.1.same i (Nat.lt_of_lt_of_le a g.1.size) (λe=>by
   rcases g.2 i e with c|c<;>grind),g.1.same i a d]
 ·rcases q.2 i a with c|c
  ·exact g.2 i c
  ·have:=g.1.size;omega
theorem Ch{i:Nat}{e:Int×Int}(h:L[i]? =some e):(keys L)[i]? =some e.1/\(vals L)[i]? =some e.2:=by
 unfold keys vals;simp_all
theorem aaN{i:Nat}{k n m:Int}(h:L[i]? =some (k,n)):keys (L.set i (k,m))=keys L:=by
 unfold keys;rw[am0];apply List.ext_getElem?
 grind
theorem aaO{i:Nat}{k m:Int}:vals (L.set i (k,m))=(vals L).set i m:=by
 simp[vals,am0]
theorem Rf.set(p:Rf h b A B L most bH decay gone){i:Nat}{k n:Int}(q:L[i]? =some (k,n))(m:Int):
 ∃l,B.a=some l/\gT h l.b (l.o+i*1) 1/\∃a,(TV.i m).put h l.b (l.o+i*1)=a/\Rf a b A B (L.set i (k,m)) most bH decay gone/\Grown b A B h A B a:=by
 have e:=(amg.1 q).1;obtain⟨l,f,w,a,g,o,c,v⟩:=Vc.Own.set p.b (t:=.i m) (by rw[al1,xH];exact e) rfl;refine⟨l,f,w,a,g,⟨p.var.only c p.Uj,?_,?_,p.uT⟩,c.mono λj r=>.inr (.inr r),λ_ d=>.inl d⟩
 ·rw[aaN q];exact p.a.only c (λs u d=>p.uT _ ⟨s,u,rfl⟩ d)
 ·rw[aaO,am0];exact o
def Uk:Prop:=∀(R:Rq)(h:af)(b:Nat)(A B:Sl)(L:List (Int×Int))(most bH decay gone:Int)(i:Nat),Rf h b A B L most bH decay gone->L.length<1000->i<L.length->
 (∀h' A' B',Rf h' b A' B' (L.eraseIdx i) most bH decay gone->Grown b A B h A' B' h'->R (ama []).val h')->Cl 131 [.ptr (PT b),.i (i:Int)] h R
theorem Ul(E:Uk)(p:Rf h b A B L most bH decay gone)(Z:L.length<1000)(H:∀e∈L,-1048576<=e.2/\e.2<0)(ab:1<=decay/\decay<=1048576)
 (I:∀h' A' B',Rf h' b A' B' (tick decay L) most bH decay gone->Grown b A B h A' B' h'->R (ama []).val h'):Cl 109 [.ptr (PT b)] h R:=by
 apply qS;delta zP wE zO q7 aJ jt cu fP bK aT;have Y:=p.aaL;refine⟨A,p.var.ah rfl,?_⟩;dsimp only;rw[wrap_i64 ω ω];refine⟨λi j=>-1<=i/\i<L.length/\∃A' B',Rf j b A' B' (L.take (i+1).toNat++tick decay (L.drop (i+1).toNat)) most bH decay gone/\Grown b A B h A' B' j,λi _=>(i+1).toNat,⟨ω,ω,A,B,?_,Grown.refl _ _ _ _⟩,?_⟩
 ·simp_all [List.drop_length,amA,tick]
 rintro i j ⟨i0,i1,q,c,a,r⟩;refine ID (λf=>?_) λf=>?_
 ·obtain⟨⟨k,n⟩,z⟩:∃e,L[i.toNat]? =some e:=⟨_,al7 ω⟩;have ac:(i+1).toNat=i.toNat+1:=ω
  have g:(L.take (i+1).toNat++tick decay (L.drop (i+1).toNat))[i.toNat]? =some (k,n):=by
   grind
  have D:L.take (i+1).toNat=L.take i.toNat++[(k,n)]:=by grind [amS]
  have s:L.drop i.toNat=(k,n)::L.drop (i+1).toNat:=by
   simp_all [List.drop_eq_getElem_cons,amg]
  have ad:=H (k,n) (amo z);generalize F:L.take (i+1).toNat++tick decay (L.drop (i+1).toNat)=C at a g
  have ae:C.length<=L.length:=by
   grind [amI,BZ,amr,amb]
  have G:=(amg.1 g).1;obtain⟨al,J⟩:=Ch g;have lB:=a.Oo;refine⟨c,a.var.ah rfl,c,a.var.ah rfl,?_⟩;refine ints_at a.b.elems f (by grind) λl y d K=>⟨y,K,?_⟩;rw[J]at d;cases d;rw[wrap_i64 ω ω];obtain⟨l2,M,N,O,P,p2,Q⟩:=a.set g (n+decay);refine⟨decay,a.var.ah rfl,f,ω,Nn.of M ⟨N,?_⟩⟩;dsimp only[Nat.add_zero];rw[wrap_i64 ω ω,P];have S:(C.set i.toNat (k,n+decay))[i.toNat]? =some (k,n+decay):=by simp_all
  obtain⟨_,T⟩:=Ch S;refine⟨c,p2.var.ah rfl,?_⟩;refine ints_at p2.b.elems f (by grind) λl3 y d U=>⟨y,U,?_⟩;rw[T]at d;cases d;have t:=r.trans Q
  have u:C.set i.toNat (k,n+decay)=L.take i.toNat++(k,n+decay)::tick decay (L.drop (i+1).toNat):=by
   rw[<-F,D,am1];have m:(L.take i.toNat).length=i.toNat:=by grind
   rw[List.set_append_right _ _ ω,m,Nat.sub_self];rfl
  have v:(i-1+1).toNat=i.toNat:=ω;refine ID (λo=>?_) λo=>?_
  ·have w:i=(i.toNat:Nat):=ω;rw[w];refine E _ O b q c _ most bH decay gone i.toNat p2 (by rw[List.length_set];omega) (by rw[List.length_set];exact G) λh3 V W x X=>⟨rfl,?_⟩;rw[<-w];refine⟨⟨ω,ω,V,W,?_,t.trans X⟩,Ω⟩;rw[v]
   have:(C.set i.toNat (k,n+decay)).eraseIdx i.toNat=L.take i.toNat++tick decay (L.drop i.toNat):=by
    rw[u,s];have m:(L.take i.toNat).length=i.toNat:=by simp only[amr];omega
    rw[List.eraseIdx_append_of_length_le ω,m,Nat.sub_self,List.eraseIdx_cons_zero];congr 1;unfold tick yW;rw[List.filterMap_cons,if_pos (by simpa using o)]
   rw[this]at x;exact x
  ·refine⟨⟨ω,ω,q,c,?_,t⟩,Ω⟩;rw[v]
   have:C.set i.toNat (k,n+decay)=L.take i.toNat++tick decay (L.drop i.toNat):=by
    rw[u,s];congr 1;unfold tick yW;rw[List.filterMap_cons,if_neg (by simpa using o)]
   rw[this]at p2;exact p2
 ·have:(i+1).toNat=0:=ω;rw[this]at a;simp only[List.take_zero,List.nil_append,List.drop_zero]at a;exact I _ _ _ a r
theorem VQ:∀{L:List (Int×Int)}{i:Nat}{k v w:Int},L[i]? =some (k,v)->(keys L).Nodup->put k w L=L.set i (k,w)
 |[],i,k,v,w,h,_=>by grind
 |e::L,0,k,v,w,h,_=>by
  simp only[List.getElem?_cons_zero,Option.some.injEq]at h;subst h;simp[put]
 |e::L,i+1,k,v,w,h,b=>by
  have a:e.1∉keys L/\(keys L).Nodup:=by simp_all [keys]
  simp only[List.getElem?_cons_succ]at h;have c:k∈keys L:=al9.2 ⟨_,amo h,rfl⟩;unfold put;rw[if_neg (λd=>a.1 (by simp_all)),VQ h a.2];rfl
theorem VR:∀{L:List (Int×Int)}{k w:Int},k∉keys L->put k w L=L++[(k,w)]
 |[],k,w,_=>rfl
 |e::L,k,w,h=>by
  simp only[keys,amx,amP,not_or]at h;unfold put;rw[if_neg h.1,VR h.2];rfl
theorem Ns:∀{L:List (Int×Int)}{k v w:Int},put k w (put k v L)=put k w L
 |[],k,v,w=>by simp[put]
 |e::L,k,v,w=>by
  have a:=Ns (L:=L) (k:=k) (v:=v) (w:=w);simp only[put];by_cases h:k=e.1
  ·rw[if_pos h,if_pos h];simp[put,h]
  ·rw[if_neg h,if_neg h];simp only[put,if_neg h,a]
theorem Ld:∀{L:List (Int×Int)}{i:Nat}{k v:Int},L[i]? =some (k,v)->(keys L).Nodup->drop k L=L.eraseIdx i
 |[],i,k,v,h,_=>by rfl
 |e::L,0,k,v,h,_=>by
  simp only[List.getElem?_cons_zero,Option.some.injEq]at h;subst h;simp[drop]
 |e::L,i+1,k,v,h,b=>by
  have a:e.1∉keys L/\(keys L).Nodup:=by simp_all [keys]
  simp only[List.getElem?_cons_succ]at h;have c:k∈keys L:=al9.2 ⟨_,amo h,rfl⟩;unfold drop;rw[if_neg (λd=>a.1 (by simp_all)),Ld h a.2];rfl
theorem Nt{A A':Sl}{h:af}(q:∀l,A'.a=some l->(∃a,A.a=some a/\a.b=l.b)\/h.size<=l.b){i:Nat}(E:In A' i):In A i\/h.size<=i:=by
 obtain⟨l,b,rfl⟩:=E;rcases q l b with⟨a,c,d⟩|e
 ·exact .inl ⟨a,c,d⟩
 omega
theorem Le(hd:Uk)(p:Rf h b A B L most bH decay gone)(q:L.length<900)(hG:Good L){k pts:Int}(_hk:(Lit.int .i64 k).wf=true)(b7:0<=gone/\gone<1000000)(hm:1<=most)
 (hr:∀h' A' B' L' g,lN most L k pts L' g->Rf h' b A' B' L' most bH decay (gone+g)->Grown b A B h A' B' h'->R (ama []).val h'):Cl 55 [.ptr (PT b),.i k,.i pts] h R:=by
 apply qT;delta q7 aJ wv iZ cu jX fP cE gI bK aT bA;refine ID (λhp=>hr h A B L 0 (.inl ⟨hp,rfl,rfl⟩) (by simp_all) (Grown.refl _ _ _ _)) λhp=>?_;intro J hJ
 have last:∀(r:af)(D u:Sl)(M:List (Int×Int))(g:Int),Rf r b D u M most bH decay (gone+g)->Grown b A B h D u r->M.length<1000->(keys M).Nodup->k∈keys M->(-1048576<=score M k/\score M k<=0)->
  lN most L k pts (put k (lower (score M k) pts) M) g->J amU r:=by
  intro r D u M g d g1 bd ac ao bi z;refine hJ _ _ ?_;refine Pk d ω ⟨_,rfl,?_⟩;rcases Cg M k with⟨_,a⟩|⟨n0,v,V,b8⟩
  ·exact absurd ao (get_none.1 a)
  have bj:score M k=v:=by simp_all [score]
  rw[bj]at bi z;generalize K6 M k=n at*;have bk:=(amg.1 V).1;obtain⟨_,a3⟩:=Ch V;have lB:=d.Oo;refine⟨u,d.var.ah rfl,?_⟩;refine ints_at d.b.elems n0 (by grind) λl y E F=>⟨y,F,?_⟩;rw[a3]at E;cases E;rw[wrap_i64 ω ω]
  have done:∀m,m=lower v pts->∃l,u.a=some l/\gT r l.b (l.o+n.toNat*1) 1/\R (ama []).val ((TV.i m).put r l.b (l.o+n.toNat*1)):=by
   rintro m rfl;obtain⟨l2,X,G,N,e2,p2,g2⟩:=d.set V (lower v pts);refine⟨l2,X,G,?_⟩;rw[e2];rw[VQ V ac]at z;exact hr N D u _ g z p2 (g1.trans g2)
  refine ID (λb9=>?_) λb'=>?_
  ·obtain⟨l2,X,G,hR⟩:=done (-1048576) (by grind [mn,lower,mx]);exact⟨u,d.var.ah rfl,n0,ω,Nn.of X ⟨G,hR⟩⟩
  ·obtain⟨l2,X,G,hR⟩:=done (v-pts) (by grind [mn,lower,mx]);refine⟨u,d.var.ah rfl,u,d.var.ah rfl,?_⟩;refine ints_at d.b.elems n0 (by grind) λl3 y E bl=>⟨y,bl,?_⟩;rw[a3]at E;cases E;rw[wrap_i64 ω ω];exact⟨n0,ω,Nn.of X ⟨G,hR⟩⟩
 refine Pk p ω ⟨_,rfl,?_⟩;refine ID (λca=>?_) λcc=>?_
 ·have ad:k∉keys L:=by
   grind [get_none,Cg]
  intro J2 bm;have lA:=p.aaL
  have more:∀(r:af)(D u:Sl)(M:List (Int×Int))(g:Int),Rf r b D u M most bH decay (gone+g)->Grown b A B h D u r->M.length<900->(keys M).Nodup->k∉keys M->lN most L k pts (put k (lower 0 pts) M) g->J2 amU r:=by
   intro r D u M g d g1 bd ac ao z;refine bm _ _ ?_;have cd:=d.aaL;have ce:=d.Oo;refine⟨D,d.var.ah rfl,?_⟩;refine cD rfl rfl δ (by show(D.len+1)*8<=_;omega) d.a rfl rfl λO N o2 G b2=>?_;have v2:=d.var.only G d.acC;have bo:=d.b.only G (λl q a=>d.uT _ a ⟨l,q,rfl⟩);have cf:=d.var.lt;obtain⟨w3,P,e3,v3,o3,s3⟩:=Cy (i:=0) v2 (by simp[amJ]) (by simp) (t:=.slice O) rfl;refine⟨w3,?_⟩;rw[e3];have ap:∀i,In O i->In D i\/r.size<=i:=λi c=>Nt b2 c
   have a4:¬In O b:=λa=>by
    rcases ap _ a with o|o
    ·exact d.acC o
    ·omega
   have a5:=o2.only o3 (λl q a=>a4 ⟨l,q,a⟩);have bp:=bo.only o3 (λl q a=>d.Uj ⟨l,q,a⟩);refine⟨u,v3.ah rfl,?_⟩;refine cD (C:=ctx) (T:=3) (x:=.i 0) rfl rfl δ (by show(u.len+1)*8<=_;omega) bp rfl rfl λW h4 Y Z b4=>?_;have v4:=v3.only Z d.Uj;have ch:=G.size;have ar:∀i,In W i->In u i\/P.size<=i:=λi c=>Nt b4 c
   have a6:∀i,In O i->¬In u i:=λi c a=>by
    rcases ap i c with o|o
    ·exact d.uT i o a
    ·have:=d.lt (.inr (.inr a));omega
   have br:=a5.only Z (λl q a=>a6 _ ⟨l,q,rfl⟩ a);obtain⟨w5,h5,e5,v5,o5,s5⟩:=Cy (i:=1) v4 (by simp[amJ]) (by simp) (t:=.slice W) rfl;refine⟨w5,?_⟩;rw[e5]
   have bt:¬In W b:=λa=>by
    rcases ar _ a with o|o
    ·exact d.Uj o
    ·omega
   have bx:∀i,In O i->i<P.size:=λi c=>by
    obtain⟨l,q,rfl⟩:=c;exact a5.lt l q
   have p5:Rf h5 b O W (M++[(k,0)]) most bH decay (gone+g):=by
    refine⟨v5,?_,?_,λi c a=>?_⟩
    ·have:(keys (M++[(k,0)])).map dL=(keys M).map dL++[.i k]:=by simp[keys,dL]
     rw[this];exact br.only o5 (λl q a=>a4 ⟨l,q,a⟩)
    ·have:(vals (M++[(k,0)])).map dL=(vals M).map dL++[.i 0]:=by simp[vals,dL]
     rw[this];exact Y.only o5 (λl q a=>bt ⟨l,q,a⟩)
    ·rcases ar i a with o|o
     ·exact a6 i c o
     ·have:=bx i c;omega
   have gg:Grown b D u r O W h5:=by
    refine⟨((G.mono λi c=>.inr (.inl c)).trans ((o3.mono λi c=>.inl c).trans ((Z.mono λi c=>.inr (.inr c)).trans (o5.mono λi c=>.inl c)))),λi c=>?_⟩;rcases c with rfl|c|c
    ·exact .inl (.inl rfl)
    ·rcases ap i c with o|o
     ·exact .inl (.inr (.inl o))
     ·exact .inr o
    ·rcases ar i c with o|o
     ·exact .inl (.inr (.inr o))
     ·right;omega
   have aw:=VR (w:=(0:Int)) ao;have a7:=Kw ac k 0;rw[aw]at a7
   have ae:score (M++[(k,0)]) k=0:=by
    rw[<-aw];unfold score;rw[acs ac,if_pos rfl];rfl
   refine last h5 O W _ g p5 (g1.trans gg) (by simp;omega) a7 (by simp[keys]) (by rw[ae];omega) ?_;rw[ae,<-aw,Ns];exact z
  refine⟨A,p.var.ah rfl,most,p.var.ah rfl,?_⟩;refine ID (λci=>?_) λcj=>?_
  ·refine⟨A,p.var.ah rfl,?_⟩;have lB:=p.Oo;have cl:0<L.length:=ω
   refine⟨λs hh=>0<=s.2/\s.2<=L.length/\hh=h/\0<=s.1/\s.1<max s.2 1/\(∀(e f:Int×Int)(j:Nat),L[s.1.toNat]? =some e->(j:Int)<s.2->L[j]? =some f->e.2<f.2\/e.2=f.2/\e.1<=f.1),
    λs _=>((L.length:Int)-s.2).toNat,⟨al8 _,Int.natCast_nonneg _,rfl,al8 _,δ,λe f j _ hj _=>by have:(j:Int)<0:=hj;omega⟩,?_⟩
   rintro⟨w,i⟩ h0 ⟨i0,i1,rfl,w0,w1,al⟩;simp only at i0 i1 w0 w1 al⊢;refine ID (λc=>?_) λc=>?_
   ·obtain⟨⟨ki,vi⟩,am⟩:∃e,L[i.toNat]? =some e:=⟨_,al7 ω⟩;obtain⟨⟨H,I⟩,Q⟩:∃e,L[w.toNat]? =some e:=⟨_,al7 ω⟩;obtain⟨a8,aE⟩:=Ch am;obtain⟨a9,a0⟩:=Ch Q;dsimp only at a8 aE a9 a0
    have rv:∀{i:Int}{v:Int}{K:Go.Vc.Loc->Prop},0<=i->i<L.length->(vals L)[i.toNat]? =some v->(∀l,ah h0 l.b (l.o+i.toNat*1) (.i v)->K l)->0<=i/\i<(B.len:Int)/\Nn B.a K:=λr N P hK=>
     ints_at p.b.elems r (by rw[xH];exact N) λl y E F=>by rw[P]at E;cases E;exact hK l F
    have rk:∀{i:Int}{v:Int}{K:Go.Vc.Loc->Prop},0<=i->i<L.length->(keys L)[i.toNat]? =some v->(∀l,ah h0 l.b (l.o+i.toNat*1) (.i v)->K l)->0<=i/\i<(A.len:Int)/\Nn A.a K:=λr N P hK=>
     ints_at p.a.elems r (by rw[xI];exact N) λl y E F=>by rw[P]at E;cases E;exact hK l F
    have a1:w<L.length:=ω;have a2:i<L.length:=ω
    have a':vi<I\/(vi=I/\ki<H)->((0<=i+1/\i+1<=(L.length:Int)/\True/\0<=i/\i<max (i+1) 1/\(∀(e f:Int×Int)(j:Nat),L[i.toNat]? =some e->(j:Int)<i+1->L[j]? =some f->e.2<f.2\/e.2=f.2/\e.1<=f.1))/\((L.length:Int)-(i+1)).toNat<((L.length:Int)-i).toNat):=by
     intro hb;refine⟨⟨ω,ω,trivial,i0,ω,λe f j S hj z=>?_⟩,ω⟩;rw[am]at S;cases S;by_cases bN:(j:Int)=i
     ·have:j=i.toNat:=ω;rw[this,am]at z;cases z;exact .inr ⟨rfl,al8 _⟩
     ·have:=al (H,I) f j Q ω z;simp only at this⊢;omega
    have ba:¬(vi<I\/(vi=I/\ki<H))->((0<=i+1/\i+1<=(L.length:Int)/\True/\0<=w/\w<max (i+1) 1/\(∀(e f:Int×Int)(j:Nat),L[w.toNat]? =some e->(j:Int)<i+1->L[j]? =some f->e.2<f.2\/e.2=f.2/\e.1<=f.1))/\((L.length:Int)-(i+1)).toNat<((L.length:Int)-i).toNat):=by
     intro hb;refine⟨⟨ω,ω,trivial,w0,ω,λe f j S hj z=>?_⟩,ω⟩;by_cases bN:(j:Int)=i
     ·have:j=i.toNat:=ω;rw[this,am]at z;cases z;rw[Q]at S;cases S;simp only;omega
     ·exact al e f j S ω z
    rw[wrap_i64 (n:=i+1) ω ω];refine⟨B,p.var.ah rfl,rv i0 a2 aE λl F=>⟨vi,F,B,p.var.ah rfl,rv w0 a1 a0 λl2 ab=>⟨I,ab,?_⟩⟩⟩;refine ID (λb0=>a' (.inl b0)) λbk=>?_;refine⟨B,p.var.ah rfl,rv i0 a2 aE λl F=>⟨vi,F,B,p.var.ah rfl,rv w0 a1 a0 λl2 ab=>⟨I,ab,?_⟩⟩⟩;refine ID (λheq=>?_) λcp=>ba ω;refine⟨A,p.var.ah rfl,rk i0 a2 a8 λl F=>⟨ki,F,A,p.var.ah rfl,rk w0 a1 a9 λl2 ab=>⟨H,ab,?_⟩⟩⟩;exact ID (λb1=>a' (.inr ⟨heq,b1⟩)) λcs=>ba ω
   ·obtain⟨⟨H,I⟩,Q⟩:∃e,L[w.toNat]? =some e:=⟨_,al7 ω⟩;have hwn:w=((w.toNat:Nat):Int):=ω
    have bb:rI L H:=by
     refine⟨al9.2 ⟨_,amo Q,rfl⟩,λx a=>?_⟩;obtain⟨⟨x1,x2⟩,hm,rfl⟩:=al9.1 a;obtain⟨j,hj,b3⟩:=List.getElem_of_mem hm;have o:=al (H,I) (x1,x2) j Q ω (by rw[al7 hj,b3]);have s1:score L H=I:=by unfold score;rw[(get_mem hG.one).2 (amo Q)];rfl
     have s2:score L x1=x2:=by unfold score;rw[(get_mem hG.one).2 hm];rfl
     rw[s1,s2];exact o
    rw[hwn];refine hd _ h0 b A B L most bH decay gone w.toNat p ω ω λP A3 B3 U g3=>⟨rfl,gone,U.var.ah rfl,?_⟩;obtain⟨Z,h4,e4,v4,Y,s4⟩:=Cy (i:=5) (t:=.i (gone+1)) U.var (by simp[amJ]) (by simp) rfl;refine⟨Z,?_⟩;rw[wrap_i64 (n:=gone+1) ω ω];have b5:(TV.i (gone+1)).put P b (0+5)=h4:=e4;rw[b5];have b6:=Ld Q hG.one;rw[<-b6]at U
    have p4:Rf h4 b A3 B3 (drop H L) most bH decay (gone+1):=
     ⟨v4,U.a.only Y (λl q a=>U.acC ⟨l,q,a⟩),U.b.only Y (λl q a=>U.Uj ⟨l,q,a⟩),U.uT⟩
    have ct:=drop_length bb.1
    refine more h4 A3 B3 _ 1 p4 (g3.trans ⟨Y.mono λi c=>.inl c,λ_ c=>.inl c⟩) ω (r_ hG.one _) (λa=>ad (by
     obtain⟨e,S,N⟩:=al9.1 a;exact al9.2 ⟨e,((kZ hG.one).1 S).1,N⟩)) (.inr (.inr ⟨ω,ad,ω,rfl,H,bb,rfl⟩))
  ·have ae:score L k=0:=by unfold score;rw[get_none.2 ad];rfl
   refine more h A B L 0 (by simpa using p) (Grown.refl _ _ _ _) q hG.one ad (.inr (.inl ⟨ω,.inr ω,rfl,?_⟩));rw[ae]
 ·have bc:k∈keys L:=by
   rcases Cg L k with⟨r,_⟩|⟨_,v,V,_⟩
   ·omega
   ·exact al9.2 ⟨_,amo V,rfl⟩
  exact last h A B L 0 (by simpa using p) (Grown.refl _ _ _ _) ω hG.one bc (CN hG k) (.inr (.inl ⟨ω,.inl bc,rfl,rfl⟩))
end
end Peers
section
set_option linter.unusedVariables false
def Pn(p:OL)(i:Int)(off:Nat)(h:af)(K:af->Prop):Prop:=
 Nn p λ(l:Go.Vc.Loc)=>
 ∃(s:Sl),ah h l.b (l.o+off) (bu s)/\0<=i/\i<=(s.cap:Int)/\
 Nn p λ(l:Go.Vc.Loc)=>
 ∃(a:Sl),ah h l.b (l.o+off) (bu a)/\0<=al5 am2 (i+1)/\al5 am2 (i+1)<=(a.len:Int)/\
 Ext h (amu h (row (al4 []) 3))/\
 ∃(new:List Value),cn (amu h (row (al4 []) 3)) (ay s 0 (ams i) 1) 1 new/\(∀(v:Value),v∈new->bU v=true)/\
 au ctx 3 (ami (some (Loc.mk (Array.size h) 0)) 0 0) (ay s 0 (ams i) 1).len new (amu h (row (al4 []) 3)) λ(d:Sl)(b:af)=>
 Ext (amu h (row (al4 []) 3)) b/\
 ∃(new:List Value),cn b (ay a (ams (al5 am2 (i+1))) a.len 1) 1 new/\(∀(v:Value),v∈new->bU v=true)/\
 au ctx 3 d (ay a (ams (al5 am2 (i+1))) a.len 1).len new b λ(e:Sl)(c:af)=>
 Nn p λ(l:Go.Vc.Loc)=>gT c l.b (l.o+off) 1/\K (amT c l.b (l.o+off) (amL e))
def gP(p:OL)(i:Int)(h:af)(q:Rq):Prop:=
 Pn p i 0 h λh=>Pn p i 1 h λh=>q (TV.val (ama [])) h
theorem qU(p:OL)(i:Int)(h:af)(q:Rq)(H:gP p i h q):bC Tryz.prog 131 (ak.vals [TV.ptr p,TV.i i]) h q:=
 DM (C:=ctx) bP (fn:=Tryz.f131) Tryz.func131 ((by kernel_rfl:gP p i h q=Qm ctx Tryz.f131 [TV.ptr p,TV.i i] h q)▸H)
end
namespace Peers
section
variable{R:Rq}{h h':af}{b r:Nat}{A B:Sl}{L:List (Int×Int)}{most bH decay gone:Int}
theorem HP{off i:Nat}{l:List Int}{ts:List TV}{K:af->Prop}(v:Var 189 h b (.agg ts))(E:∀t∈ts,t.size=1)(H:ts[off]? =some (.slice A))(o:Vc.Own 3 1 h A (l.map dL))(_hnb:¬In A b)(hi:i<l.length)(hl:l.length<1000000)
 (M:∀h' A',Var 189 h' b (.agg (ts.set off (.slice A')))->Vc.Own 3 1 h' A' ((l.eraseIdx i).map dL)->ag (·=b) h h'->(∀j,In A' j->h.size<=j)->K h'):Pn (PT b) (i:Int) off h K:=by
 have p:ah h b (0+off) (bu A):=by
  rw[Nat.zero_add];refine v.ah ?_;have:=ak.rU (sz:=1) ts off 0 (.slice A) E H δ;simpa[TV.cells]using this
 have L:=o.len;rw[al1]at L;have r:=o.cap;have c:=amf h (row (al4 []) 3);have N:=Vc.Own.new (T:=3) (sz:=1) h [] (by simp);have s:=o.ext c;unfold Pn;rw[wrap_i64 (n:=(i:Int)+1) ω ω];have O:((i:Int)+1).toNat=i+1:=ω;have P:((i:Int)).toNat=i:=rfl;rw[O,P];refine⟨A,p,ω,ω,A,p,ω,ω,c,?_⟩;have u:=wH (i:=0) (j:=i) s.elems ω ω r;have Q:((l.map dL).drop 0).take (i-0)=(l.take i).map dL:=by simp[List.map_take]
 rw[Q]at u;refine oW (C:=ctx) (T:=3) (t:=ami (some (Loc.mk h.size 0)) 0 0) rfl rfl δ δ (by show(0+(ay A 0 i 1).len)*8<=_;simp only[ay];omega) N u zk uK λw h2 x R _ S=>?_;have d:=R rfl;refine⟨d,?_⟩;have y:=wH (i:=i+1) (j:=A.len) (s.ext d).elems ω (amk _) r
 have U:((l.map dL).drop (i+1)).take (A.len-(i+1))=(l.drop (i+1)).map dL:=by
  rw[amK (by simp only[amI,al1];omega),List.map_drop]
 rw[U]at y;have l2:=x.len;simp only[List.nil_append,al1,amr]at l2;refine oW (C:=ctx) (T:=3) rfl rfl δ δ (by show(w.len+(ay A (i+1) A.len 1).len)*8<=_;simp only[ay];omega) x y zk uK λe f V _ W X=>?_
 have z:∀j,In w j->h.size<=j:=λj g=>by
  obtain⟨q,a,rfl⟩:=g;rcases S q a with⟨B,k,m⟩|D
  ·cases k;rw[<-m];exact amk _
  ·have:=c.size;omega
 have F:Ext h f:=al2 (c.trans d) W (by rintro j ⟨q,a,rfl⟩;exact z _ ⟨q,a,rfl⟩);have ad:=v.lt;obtain⟨Y,G,Z,v4,I,s4⟩:=Cy (i:=off) (v.ext F) E (amg.1 H).1 (t:=.slice e) rfl
 have J:∀j,In e j->h.size<=j:=λj g=>by
  obtain⟨q,a,rfl⟩:=g;rcases X q a with⟨B,k,m⟩|D
  ·rw[<-m];exact z _ ⟨B,k,rfl⟩
  ·have:=(c.trans d).size;omega
 have ab:(amL e).put f b (0+off)=G:=by rw[Nat.zero_add];exact Z
 have ac:gT f b (0+off) 1:=by rw[Nat.zero_add];exact Y
 refine⟨ac,?_⟩;rw[ab];refine M G e v4 ?_ ((amz F).trans I) J
 have:(l.eraseIdx i).map dL=[]++(l.take i).map dL++(l.drop (i+1)).map dL:=by
  rw[List.eraseIdx_eq_take_drop_succ,amt,List.nil_append]
 rw[this];exact V.only I (λq a D=>by have:=J _ ⟨q,a,rfl⟩;omega)
theorem Um(i:Nat):keys (L.eraseIdx i)=(keys L).eraseIdx i:=by
 unfold keys;rw[ChangeMaps.map_eraseIdx]
theorem Un(i:Nat):vals (L.eraseIdx i)=(vals L).eraseIdx i:=by
 unfold vals;rw[ChangeMaps.map_eraseIdx]
theorem Po:Uk:=by
 intro R h b A B L most bH decay gone i p D g s;apply qU;unfold gP;refine HP (off:=0) (l:=keys L) p.var (by simp[amJ]) rfl p.a p.acC (by rw[xI];exact g) (by rw[xI];omega) λe k t m f n=>?_;have E:=p.var.lt;have u:=p.b.only f (λq c d=>p.Uj ⟨q,c,d⟩);refine HP (off:=1) (l:=vals L) t (by simp[amJ]) rfl u p.Uj (by rw[xH];exact g) (by rw[xH];omega) λv w x y o r=>?_
 have z:∀j,In k j->j<e.size:=λj a=>by
  obtain⟨q,c,rfl⟩:=a;exact m.lt q c
 refine s v k w ⟨x,?_,?_,λj a d=>?_⟩ ⟨(f.mono λj a=>.inl a).trans (o.mono λj a=>.inl a),λj a=>?_⟩
 ·rw[Um];exact m.only o (λq c d=>by have:=n _ ⟨q,c,rfl⟩;omega)
 ·rw[Un];exact y
 ·have C:=z j a;have e:=r j d;omega
 ·rcases a with rfl|a|a
  ·exact .inl (.inl rfl)
  ·exact .inr (n j a)
  ·right;have C:=r j a;have e:=f.size;omega
theorem Ci{H L' I:List (Int×Int)}{k pts g J:Int}(q:L.Perm H)(E:(keys L).Nodup)(f:lN most L k pts L' g)(f2:lN most H k pts I J):L'.Perm I/\g=J:=by
 have h:k∈keys L↔k∈keys H:=(q.map (·.1)).mem_iff;have l:=q.length_eq;rcases f with⟨a,rfl,rfl⟩|⟨a,b,rfl,rfl⟩|⟨a,b,c,rfl,w,i,rfl⟩
 ·rcases f2 with⟨_,rfl,rfl⟩|⟨e,_⟩|⟨e,_⟩
  ·exact⟨q,rfl⟩
  ·omega
  ·omega
 ·rcases f2 with⟨e,_⟩|⟨_,_,rfl,rfl⟩|⟨_,d,m,_⟩
  ·omega
  ·rw[<-oL q E];exact⟨RC q E _ _,rfl⟩
  ·rcases b with b|b
   ·exact absurd (h.1 b) d
   ·omega
 ·rcases f2 with⟨e,_⟩|⟨_,d,_⟩|⟨_,_,_,rfl,n,j,rfl⟩
  ·omega
  ·rcases d with d|d
   ·exact absurd (h.2 d) b
   ·omega
  ·have:=(i.perm q E).unique j;subst this;exact⟨RC (Nf q E _) (r_ E _) _ _,rfl⟩
theorem Good.perm{E:List (Int×Int)}(g:Good L)(q:L.Perm E):Good E:=
 ⟨(q.map _).nodup_iff.1 g.one,λk a=>g.fit k ((q.map (·.1)).mem_iff.2 a),λe b=>g.low e (q.mem_iff.2 b)⟩
end
end Peers
namespace Gate
open Board (Vd Cf jx)
open Pool (It RL fq)
open Peers (Rf)
section
variable{h h':af}{b m n:Nat}{N:List Nd}{most quota bH decay gone:Int}{t:Tb}{M:List It}{P:List (Int×Int)}{S Q:Nat->Prop}
def zl(h:af)(m:Nat)(N:List Nd)(most:Int)(S:Nat->Prop):Prop:=∃A B D,RT h m A B D N most/\S=Dx m A B D
def HQ(h:af)(b:Nat)(t:Tb)(n:Nat)(S:Nat->Prop):Prop:=∃a c Ha d,Lx h b a c Ha d t n/\S=jP b a c Ha d
def zm(h:af)(m:Nat)(M:List It)(most quota:Int)(S:Nat->Prop):Prop:=∃A,RL h m A M most quota/\S=λi=>i=m\/In A i
def Uo(h:af)(b:Nat)(P:List (Int×Int))(most bH decay gone:Int)(S:Nat->Prop):Prop:=∃A B,Rf h b A B P most bH decay gone/\S=Peers.dV b A B
theorem zl.only(p:zl h m N most S)(f:ag Q h h')(q:∀i,S i->¬Q i):zl h' m N most S:=by
 obtain⟨A,B,D,p,rfl⟩:=p;exact⟨A,B,D,p.only f q,rfl⟩
theorem HQ.only(p:HQ h b t n S)(f:ag Q h h')(q:∀i,S i->¬Q i):HQ h' b t n S:=by
 obtain⟨a,c,Ha,d,p,rfl⟩:=p;exact⟨a,c,Ha,d,p.only f q,rfl⟩
theorem zm.only(p:zm h m M most quota S)(f:ag Q h h')(q:∀i,S i->¬Q i):zm h' m M most quota S:=by
 obtain⟨A,p,rfl⟩:=p;exact⟨A,p.only f (q m (.inl rfl)) λl a=>q l.b (.inr ⟨l,a,rfl⟩),rfl⟩
theorem Uo.only(p:Uo h b P most bH decay gone S)(f:ag Q h h')(q:∀i,S i->¬Q i):Uo h' b P most bH decay gone S:=by
 obtain⟨A,B,p,rfl⟩:=p;exact⟨A,B,p.only f q,rfl⟩
theorem zl.lt(p:zl h m N most S):∀i,S i->i<h.size:=by
 obtain⟨A,B,D,p,rfl⟩:=p;exact λi a=>p.lt a
theorem HQ.lt(p:HQ h b t n S):∀i,S i->i<h.size:=by
 obtain⟨c,d,Ha,e,p,rfl⟩:=p;exact λi a=>p.lt a
theorem zm.lt(p:zm h m M most quota S):∀i,S i->i<h.size:=by
 obtain⟨A,p,rfl⟩:=p;rintro i (rfl|⟨l,a,rfl⟩)
 ·exact p.var.lt
 ·exact p.low l a
theorem Uo.lt(p:Uo h b P most bH decay gone S):∀i,S i->i<h.size:=by
 obtain⟨A,B,p,rfl⟩:=p;exact λi a=>p.lt a
theorem xJ{A A':Sl}(g:fq m A h A' h'):Step (λi=>i=m\/In A i) h (λi=>i=m\/In A' i) h':=
 ⟨g.only.mono λi a=>.inl a,λi a=>by
  rcases a with rfl|⟨l,c,rfl⟩
  ·omega
  ·rcases g.new l c with⟨d,b,e⟩|b
   ·exact .inl (.inr ⟨d,b,e⟩)
   omega⟩
end
structure RAd where
 tr:Nat
 ta:Nat
 bk:Nat
 kd:Nat
 wt:Nat
 wh:Nat
 kz:Nat
def zn(c:Cf)(a:RAd)(left:Int)(tight q:Bool):TV:=
 .agg [c.tv,.ptr (PT a.kz),.ptr (PT a.bk),.ptr (PT a.kd),.ptr (PT a.wt),.ptr (PT a.wh),.i left,.bool tight,.bool q]
structure aZ(h:af)(g:Nat)(a:RAd)(c:Cf)(V:List Vd)(s:St)(Fp:Nat->Nat->Prop):Prop where
 sep:Sep h Fp
 tree:zl h a.tr s.N c.no (Fp 0)
 gH:HQ h a.ta s.tb V.length (Fp 1)
 bk:Var 134 h a.bk (Nr c a.tr a.ta)
 f2:Fp 2=(·=a.bk)
 kids:zm h a.kd s.kids c.eV c.quo (Fp 3)
 wait:zm h a.wt s.wait c.eH c.quo (Fp 4)
 who:Uo h a.wh s.sc c.pe c.bH c.dec s.gone (Fp 5)
 good:Peers.Good s.sc/\(s.sc.length:Int)<=c.pe
 kz:Clock.CI 183 h a.kz s.now (Clock.fB c.win)
 f6:Fp 6=(·=a.kz)
 var:∃tight bans,Var 80 h g (zn c a s.left tight bans)
 f7:Fp 7=(·=g)
 vals:aj 2 h c.vals (jx V)
 off:∀k i,Fp k i->¬In c.vals i
 can:Can c V
section
variable{h h':af}{g:Nat}{a:RAd}{c:Cf}{V:List Vd}{s:St}{Fp:Nat->Nat->Prop}{S':Nat->Prop}
theorem qs{Q:Nat->Prop}{left:Int}(p:∃tight q,Var 80 h g (zn c a left tight q))(f:ag Q h h')(A:¬Q g):∃tight q,Var 80 h' g (zn c a left tight q):=by
 obtain⟨t,b,v⟩:=p;exact⟨t,b,v.only f A⟩
theorem aZ.SF(p:aZ h g a c V s Fp):∀i,In c.vals i->i<h.size:=λi⟨l,b,f⟩=>by
 have k:=p.can.len;obtain⟨v,j⟩:∃v,V[0]? =some v:=⟨_,al7 ω⟩;have d:=p.vals.get l b 0 v.tv (by simp_all);have e:=d.1;have:=xY e;omega
theorem aZ.DB(p:aZ h g a c V s Fp){j:Nat}(st:Step (Fp j) h S' h'):∀k i,nT Fp j S' k i->¬In c.vals i:=I2 p.off p.SF st
theorem aZ.only{Q:Nat->Prop}(p:aZ h g a c V s Fp)(f:ag Q h h')(q:∀k i,Fp k i->¬Q i)(A:∀i,In c.vals i->¬Q i):aZ h' g a c V s Fp:=
 ⟨⟨p.sep.qx,λj i b=>by have:=p.sep.lt j i b;have:=f.size;omega⟩,p.tree.only f (q 0),p.gH.only f (q 1),p.bk.only f (q 2 _ (by rw[p.f2])),p.f2,p.kids.only f (q 3),p.wait.only f (q 4),p.who.only f (q 5),p.good,
   p.kz.only f (q 6 _ (by rw[p.f6])),p.f6,qs p.var f (q 7 _ (by rw[p.f7])),p.f7,TV.ck f p.vals A,p.off,p.can⟩
theorem aZ.ext(p:aZ h g a c V s Fp)(x:Ext h h'):aZ h' g a c V s Fp:=p.only (Q:=λ_=>False) (.an x) (λ_ _ _ b=>b) λ_ _ b=>b
theorem aZ.KN(p:aZ h g a c V s Fp){N':List Nd}(q:zl h' a.tr N' c.no S')(st:Step (Fp 0) h S' h'):aZ h' g a c V {s with N:=N'} (nT Fp 0 S'):=by
 have o:∀k,k≠0->∀i,Fp k i->¬Fp 0 i:=λk b=>p.sep.off b;refine⟨p.sep.step st q.lt,?_,?_,?_,?_,?_,?_,?_,?_,?_,?_,?_,?_,?_,p.DB st,p.can⟩
 ·simp_all [bY]
 ·exact p.gH.only st.only (o 1 δ)
 ·exact p.bk.only st.only (o 2 δ _ (by rw[p.f2]))
 ·exact p.f2
 ·exact p.kids.only st.only (o 3 δ)
 ·exact p.wait.only st.only (o 4 δ)
 ·exact p.who.only st.only (o 5 δ)
 ·exact p.good
 ·exact p.kz.only st.only (o 6 δ _ (by rw[p.f6]))
 ·exact p.f6
 ·exact qs p.var st.only (o 7 δ _ (by rw[p.f7]))
 ·exact p.f7
 ·exact TV.ck st.only p.vals λi d e=>p.off 0 i e d
theorem aZ.FD(p:aZ h g a c V s Fp){t':Tb}(q:HQ h' a.ta t' V.length S')(st:Step (Fp 1) h S' h'):aZ h' g a c V {s with tb:=t'} (nT Fp 1 S'):=by
 have o:∀k,k≠1->∀i,Fp k i->¬Fp 1 i:=λk b=>p.sep.off b;refine⟨p.sep.step st q.lt,?_,?_,?_,?_,?_,?_,?_,?_,?_,?_,?_,?_,?_,p.DB st,p.can⟩
 ·exact p.tree.only st.only (o 0 δ)
 ·simp_all [bY]
 ·exact p.bk.only st.only (o 2 δ _ (by rw[p.f2]))
 ·exact p.f2
 ·exact p.kids.only st.only (o 3 δ)
 ·exact p.wait.only st.only (o 4 δ)
 ·exact p.who.only st.only (o 5 δ)
 ·exact p.good
 ·exact p.kz.only st.only (o 6 δ _ (by rw[p.f6]))
 ·exact p.f6
 ·exact qs p.var st.only (o 7 δ _ (by rw[p.f7]))
 ·exact p.f7
 ·exact TV.ck st.only p.vals λi d e=>p.off 1 i e d
theorem aZ.tj(p:aZ h g a c V s Fp){q:List It}(A:zm h' a.kd q c.eV c.quo S')(st:Step (Fp 3) h S' h'):aZ h' g a c V {s with kids:=q} (nT Fp 3 S'):=by
 have o:∀k,k≠3->∀i,Fp k i->¬Fp 3 i:=λk b=>p.sep.off b;refine⟨p.sep.step st A.lt,?_,?_,?_,?_,?_,?_,?_,?_,?_,?_,?_,?_,?_,p.DB st,p.can⟩
 ·exact p.tree.only st.only (o 0 δ)
 ·exact p.gH.only st.only (o 1 δ)
 ·exact p.bk.only st.only (o 2 δ _ (by rw[p.f2]))
 ·exact p.f2
 ·simp_all [bY]
 ·exact p.wait.only st.only (o 4 δ)
 ·exact p.who.only st.only (o 5 δ)
 ·exact p.good
 ·exact p.kz.only st.only (o 6 δ _ (by rw[p.f6]))
 ·exact p.f6
 ·exact qs p.var st.only (o 7 δ _ (by rw[p.f7]))
 ·exact p.f7
 ·exact TV.ck st.only p.vals λi d e=>p.off 3 i e d
theorem aZ.B_(p:aZ h g a c V s Fp){q:List It}(A:zm h' a.wt q c.eH c.quo S')(st:Step (Fp 4) h S' h'):aZ h' g a c V {s with wait:=q} (nT Fp 4 S'):=by
 have o:∀k,k≠4->∀i,Fp k i->¬Fp 4 i:=λk b=>p.sep.off b;refine⟨p.sep.step st A.lt,?_,?_,?_,?_,?_,?_,?_,?_,?_,?_,?_,?_,?_,p.DB st,p.can⟩
 ·exact p.tree.only st.only (o 0 δ)
 ·exact p.gH.only st.only (o 1 δ)
 ·exact p.bk.only st.only (o 2 δ _ (by rw[p.f2]))
 ·exact p.f2
 ·exact p.kids.only st.only (o 3 δ)
 ·simp_all [bY]
 ·exact p.who.only st.only (o 5 δ)
 ·exact p.good
 ·exact p.kz.only st.only (o 6 δ _ (by rw[p.f6]))
 ·exact p.f6
 ·exact qs p.var st.only (o 7 δ _ (by rw[p.f7]))
 ·exact p.f7
 ·exact TV.ck st.only p.vals λi d e=>p.off 4 i e d
theorem aZ.CR(p:aZ h g a c V s Fp){P:List (Int×Int)}{gone:Int}(q:Uo h' a.wh P c.pe c.bH c.dec gone S')(A:Peers.Good P/\(P.length:Int)<=c.pe)(st:Step (Fp 5) h S' h'):aZ h' g a c V {s with sc:=P,gone:=gone} (nT Fp 5 S'):=by
 have o:∀k,k≠5->∀i,Fp k i->¬Fp 5 i:=λk b=>p.sep.off b;refine⟨p.sep.step st q.lt,?_,?_,?_,?_,?_,?_,?_,?_,?_,?_,?_,?_,?_,p.DB st,p.can⟩
 ·exact p.tree.only st.only (o 0 δ)
 ·exact p.gH.only st.only (o 1 δ)
 ·exact p.bk.only st.only (o 2 δ _ (by rw[p.f2]))
 ·exact p.f2
 ·exact p.kids.only st.only (o 3 δ)
 ·exact p.wait.only st.only (o 4 δ)
 ·simp_all [bY]
 ·exact A
 ·exact p.kz.only st.only (o 6 δ _ (by rw[p.f6]))
 ·exact p.f6
 ·exact qs p.var st.only (o 7 δ _ (by rw[p.f7]))
 ·exact p.f7
 ·exact TV.ck st.only p.vals λi d e=>p.off 5 i e d
theorem aZ.Pd(p:aZ h g a c V s Fp){n:Int}(q:Clock.CI 183 h' a.kz n (Clock.fB c.win))(f:ag (·=a.kz) h h'):aZ h' g a c V {s with now:=n} Fp/\Step (dm Fp) h (dm Fp) h':=by
 have d:Fp 6 a.kz:=by rw[p.f6]
 have o:∀k,k≠6->∀i,Fp k i->¬i=a.kz:=λk l i b e=>p.sep.off l i b (e▸d);refine⟨⟨⟨p.sep.qx,λj i b=>by have:=p.sep.lt j i b;have:=f.size;omega⟩,?_,?_,?_,p.f2,?_,?_,?_,p.good,?_,p.f6,?_,p.f7,?_,p.off,p.can⟩,⟨f.mono λi e=>⟨6,by rw[p.f6];exact e⟩,λi b=>.inl b⟩⟩
 ·exact p.tree.only f (o 0 δ)
 ·exact p.gH.only f (o 1 δ)
 ·exact p.bk.only f (o 2 δ _ (by rw[p.f2]))
 ·exact p.kids.only f (o 3 δ)
 ·exact p.wait.only f (o 4 δ)
 ·exact p.who.only f (o 5 δ)
 ·exact q
 ·exact qs p.var f (o 7 δ _ (by rw[p.f7]))
 ·exact TV.ck f p.vals λi b e=>p.off 6 i (by rw[p.f6];exact e) b
theorem aZ.VS(p:aZ h g a c V s Fp){n:Int}(q:∃tight d,Var 80 h' g (zn c a n tight d))(f:ag (·=g) h h'):aZ h' g a c V {s with left:=n} Fp/\Step (dm Fp) h (dm Fp) h':=by
 have l:Fp 7 g:=by rw[p.f7]
 have o:∀k,k≠7->∀i,Fp k i->¬i=g:=λk m i b e=>p.sep.off m i b (e▸l);refine⟨⟨⟨p.sep.qx,λj i b=>by have:=p.sep.lt j i b;have:=f.size;omega⟩,?_,?_,?_,p.f2,?_,?_,?_,p.good,?_,p.f6,?_,p.f7,?_,p.off,p.can⟩,⟨f.mono λi e=>⟨7,by rw[p.f7];exact e⟩,λi b=>.inl b⟩⟩
 ·exact p.tree.only f (o 0 δ)
 ·exact p.gH.only f (o 1 δ)
 ·exact p.bk.only f (o 2 δ _ (by rw[p.f2]))
 ·exact p.kids.only f (o 3 δ)
 ·exact p.wait.only f (o 4 δ)
 ·exact p.who.only f (o 5 δ)
 ·exact p.kz.only f (o 6 δ _ (by rw[p.f6]))
 ·exact q
 ·exact TV.ck f p.vals λi b e=>p.off 7 i (by rw[p.f7];exact e) b
end
end Gate
namespace Gate
open Board (Vd Cf aq)
open Pool (It qw RL fq eM Dw rts)
section
variable{R:Rq}{h h':af}{g:Nat}{a:RAd}{c:Cf}{V:List Vd}{s:St}{Fp:Nat->Nat->Prop}
theorem Nu(p:aZ h g a c V s Fp){root parent:Bs 32}{slot:Int}
 (q:∀h' S',aZ h' g a c V {s with N:=gw s.N c.no root parent slot} (nT Fp 0 S')->Step (Fp 0) h S' h'->R (TV.i (nV s.N c.no root parent slot)).val h'):
 Cl 249 [.ptr (PT a.tr),.bytes 32 root,.bytes 32 parent,.i slot] h R:=by
 obtain⟨A,B,D,b,d⟩:=p.tree;refine Xl b λe A' B' D' f st=>?_;rw[<-d]at st;exact q e _ (p.KN ⟨A',B',D',f,rfl⟩ st) st
theorem R9(p:aZ h g a c V s Fp){root parent:Bs 32}{slot:Int}(ct:s.kids.length<1000)(A:0<=s.left/\s.left<1000000000)
 (hr:∀h' bb,aZ h' g a c V (lQ c.no root parent slot s) bb->Step (dm Fp) h (dm bb) h'->R (ama []).val h'):
 Cl 189 [.ptr (PT g),.bytes 32 root,.bytes 32 parent,.i slot] h R:=by
 apply qV;delta j3 mu C2 jr fP cr cE d_ eW bz bJ bK aT fD;refine aa λo v1 x1 s1=>aa λY v2 x2 s2=>?_;have bc:=x1.trans x2;have p2:=p.ext bc;obtain⟨O,ba,u⟩:=p2.var;refine⟨_,u.ah rfl,_,p2.bk.ah rfl,root,(v1.ext x2).bytes,parent,v2.bytes,Nu p2 λD S3 p3 bo=>⟨_,rfl,?_⟩⟩;clear u O ba;have al:=amn bo;obtain⟨F3,bp⟩:∃F3,F3=nT Fp 0 S3:=⟨_,rfl⟩;rw[<-bp]at p3 al;have br:∀i,h.size<=i->¬dm Fp i:=λi b⟨k,q⟩=>by have:=p.sep.lt k i q;omega
 have w1:Var 52 D h.size (.bytes 32 root):=(v1.ext x2).only al.only (br _ (amk _));refine⟨root,w1.bytes,?_⟩;have bd:=amf D (row (al4 [amq 32 root]) 52);have oq:=Vc.Own.new (T:=52) (sz:=32) D (rts [root]) λt S=>by simp[rts]at S;rw[S];exact eM
 have bt:Step (dm Fp) h (dm F3) D:=.cut bc al;have z3:=al.only.size;obtain⟨goal,bi⟩:∃goal,goal=lQ c.no root parent slot s:=⟨_,rfl⟩;rw[<-bi]at hr
 refine Loop.less (λn σ y=>∃(l:List (Bs 32))(i:Nat)(m:St)(F':Nat->Nat->Prop),σ.2=i/\i<=l.length/\Vc.Own 52 32 y σ.1 (rts l)/\aZ y g a c V m F'/\Step (dm Fp) h (dm F') y/\(∀i,In σ.1 i->h.size<=i/\¬dm F' i)/\
  (∃f,(l.drop i).length+m.kids.length<=f/\fZ c.no f (l.drop i) m=goal)/\0<=m.left/\m.left+(m.kids.length:Int)<=s.left+s.kids.length/\l.length+m.kids.length<=1+s.kids.length/\n=(l.drop i).length+m.kids.length) (n0:=1+s.kids.length)
  ⟨[root],0,{s with N:=gw s.N c.no root parent slot},F3,rfl,by simp,oq,p3.ext bd,bt.trans (.an bd),λi⟨l,A,b⟩=>?_,⟨1+s.kids.length,amk _,bi.symm⟩,A.1,al8 _,amk _,rfl⟩ ?_
 ·cases A;simp only at b;exact⟨ω,λ⟨k,q⟩=>by have:=p3.sep.lt k i q;omega⟩
 rintro n ⟨σ,ii⟩ y G ⟨l,i,m,F',b,cw,Z,M,aw,aE,⟨f,hf,hq⟩,l0,l1,kq,rfl⟩ go;dsimp only at b Z aE⊢;subst b;have bx:=Z.len;rw[pE]at bx;refine ID (λcx=>?_) λcy=>?_
 case refine_2=>
  have:l.drop i=[]:=List.drop_eq_nil_of_le ω;rw[this]at hq;have e:fZ c.no f [] m=m:=by cases f<;>rfl
  rw[e]at hq;subst hq;exact hr y F' M aw
 have am:i<l.length:=ω;obtain⟨r,a0⟩:∃r,l[i]? =some r:=⟨_,al7 am⟩
 have bN:l.drop i=r::l.drop (i+1):=by
  rw[List.drop_eq_getElem_cons am];have:=al7 am;rw[a0]at this;rw[Option.some.inj this]
 obtain⟨E,a1⟩:∃E,E=l.drop (i+1):=⟨_,rfl⟩;rw[bN,<-a1]at hq hf go;obtain⟨f',rfl⟩:∃f',f=f'+1:=⟨f-1,by simp only[List.length_cons]at hf;omega⟩;simp only[List.length_cons]at hf go;obtain⟨O,ba,u⟩:=M.var;refine⟨_,u.ah rfl,lM Z.elems ω (x:=r) (by rw[amd];exact a0) ?_⟩;clear u O ba;obtain⟨kA,kp,hK⟩:=M.kids;refine Pool.lI kp λh6 A6 t w6 g6 o6 b0=>⟨_,rfl,?_⟩
 have a2:Step (F' 3) y (λi=>i=a.kd\/In A6 i) h6:=by
  rw[hK];exact xJ g6
 have p6:=M.tj ⟨A6,w6,rfl⟩ a2;have t6:=amn a2;obtain⟨F,bj⟩:∃F,F=nT F' 3 (λi=>i=a.kd\/In A6 i):=⟨_,rfl⟩;rw[<-bj]at p6 t6;have z6:=a2.only.size;have zh:=aw.only.size;obtain⟨L,hL⟩:∃L,L=m.kids.filter λx=>decide (x.fr=r):=⟨_,rfl⟩;obtain⟨K,a3⟩:∃K,K=m.kids.filter λx=>!decide (x.fr=r):=⟨_,rfl⟩;have cA:L.length+K.length=m.kids.length:=by rw[hL,a3];exact zi _ _
 rw[<-a3]at p6;rw[<-hL]at o6;have lt:=o6.elems.len;unfold qw at lt;rw[al1]at lt;have b1:=o6.lt
 have ab:∀i,In t i->y.size<=i/\i<h6.size/\¬F 0 i:=λi⟨l,A,b⟩=>by
  have o:=b0 l A;have Y:=b1 l A;refine⟨ω,ω,λd=>?_⟩;rw[bj,aB δ]at d;have:=M.sep.lt 0 i d;omega
 have b2:∀i,In σ i->h.size<=i/\i<y.size/\¬dm F i:=λi b=>by
  have o:=aE i b
  have Y:i<y.size:=by
   obtain⟨l,A,e⟩:=b;have:=Z.lt l A;omega
  refine⟨o.1,Y,λd=>?_⟩;rcases t6.new i d with D|D
  ·exact o.2 D
  ·omega
 have oC:Vc.Own 52 32 h6 σ (rts l):=Z.keep t6.only λi b=>(aE i b).2;obtain⟨P,hP⟩:∃P:Nat->St×List (Bs 32),P=λj=>(L.take j).foldl (aW c.no r) ({m with kids:=K},E):=⟨_,rfl⟩;have P0:P 0=({m with kids:=K},E):=by rw[hP];rfl
 have PS:∀j x,L[j]? =some x->P (j+1)=aW c.no r (P j) x:=λj x d=>by
  rw[hP];simp only;rw[amS,d,amX];rfl
 have b3:∀j,vv j {m with kids:=K} (P j).1/\(P j).1.kids=K/\(P j).2.length<=E.length+j:=λj=>by
  obtain⟨o,Y,D⟩:=mY (no:=c.no) (r:=r) (L.take j) ({m with kids:=K},E);have hj:(L.take j).length<=j:=List.length_take_le ..;rw[hP];exact⟨o.mono hj,Y,by simp only at D⊢;omega⟩
 have b5:Step (dm Fp) h (dm F) h6:=aw.trans t6;have g7:∀i,i=g↔F 7 i:=λi=>by rw[p6.f7]
 have cB:=p6.sep.lt 7 g ((g7 g).1 rfl);have cC:g<y.size:=M.sep.lt 7 g (by rw[M.f7]);have cI:E.length+(i+1)=l.length:=by rw[a1,amI];omega
 refine⟨λac v=>∃j:Nat,ac.2=j/\j<=L.length/\∃(w:List (Bs 32))(z:Nat->Nat->Prop),(P j).2=E++w/\Vc.Own 52 32 v ac.1 (rts (l++w))/\aZ v g a c V (P j).1 z/\Step (dm Fp) h (dm z) v/\h6.size<=v.size/\(∀k,k≠0->z k=F k)/\(∀i,In ac.1 i->h.size<=i/\¬dm z i/\¬In t i)/\
  (∀i,In t i->¬z 0 i)/\aj 67 v t (qw L),λac _=>(L.length-ac.2).toNat,
  ⟨0,rfl,amF _,[],F,by rw[P0,amY],by rw[amY];exact oC,by rw[P0];exact p6,b5,amk _,λ_ _=>rfl,λi b=>by
    obtain⟨q1,q2,q3⟩:=b2 i b;exact⟨q1,q3,λS=>by have:=(ab i S).1;omega⟩,λi b=>(ab i b).2.2,o6.elems⟩,?_⟩
 rintro⟨Q,jj⟩ v ⟨j,hj,bk,w,z,ad,ae,p7,bl,z7,k7,a7,t7,e7⟩;dsimp only at hj ae a7⊢;subst hj;obtain⟨b6,ao,b7⟩:=b3 j;have b8:=b6.left;dsimp only at b8;have nl:w.length<=j:=by rw[ad,amb]at b7;omega
 have cJ:∀i,z 7 i->i=g:=λi b=>by rw[k7 7 δ]at b;exact(g7 i).2 b
 refine ID (λb9=>?_) λb9=>?_
 ·have a4:j<L.length:=ω;have ap:=λx d=>PS j x d;refine Pool.gE e7 ω ω λl1 x _ d=>?_;rw[amd]at d;have ap:=PS j x d;refine aa λh8 v8 x8 s8=>aH v8 (t:=x.tv) rfl λh9 v9 f9 s9=>?_;have U:Ext v h9:=al2 x8 f9 λi b=>aml (amm b);have z9:=U.size;have p9:=p7.ext U;obtain⟨O,ba,u⟩:=p9.var;have cm:(l++w)[(i:Int).toNat]? =some r:=by rw[amd,List.getElem?_append_left am];exact a0
  refine⟨_,u.ah rfl,_,p9.bk.ah rfl,x.root,Pool.jF v9,lM (ae.ext U).elems ω cm ⟨x.slot,Pool.oz v9,Nu p9 λW b' H a5=>⟨_,rfl,?_⟩⟩⟩;clear u O ba;have X:=amn a5;obtain⟨B,a6⟩:∃B,B=nT z 0 b':=⟨_,rfl⟩;rw[<-a6]at H X;have cK:=X.only.size;have k10:∀k,k≠0->B k=F k:=λk q=>by rw[a6,aB q,k7 k q]
  have ca:∀i,dm z i->i<v.size:=λi⟨k,q⟩=>p7.sep.lt k i q;have cc:∀i,In Q i->i<v.size:=λi⟨l,A,b⟩=>by have:=ae.lt l A;omega
  have v10:Var 82 W v.size x.tv:=v9.only X.only λd=>by have:=ca _ d;omega
  have a8:aj 67 W t (qw L):=TV.ck a5.only (e7.ext U) t7;have a9:Vc.Own 52 32 W Q (rts (l++w)):=(ae.ext U).keep X.only λi b=>(a7 i b).2.1;have a':Step (dm Fp) h (dm B) W:=(bl.trans (.an U)).trans X
  have I:∀i,In Q i->h.size<=i/\¬dm B i/\¬In t i:=λi b=>by
   obtain⟨q1,q2,q3⟩:=a7 i b;refine⟨q1,λd=>?_,q3⟩;rcases X.new i d with o|o
   ·exact q2 o
   ·have:=cc i b;omega
  have t10:∀i,In t i->¬B 0 i:=λi b d=>by
   rw[a6,bY]at d;rcases a5.new i d with o|o
   ·exact t7 i b o
   ·have:=(ab i b).2.1;omega
  have wj:al5 .i64 ((j:Int)+1)=((j+1:Nat):Int):=by rw[wrap_i64 ω ω];omega
  intro J HJ;refine ID (λh0=>?_) λh0=>HJ _ W ?_
  ·have C:P (j+1)=({(P j).1 with N:=gw (P j).1.N c.no x.root r x.slot},(P j).2++[x.root]):=by rw[ap];unfold aW;rw[if_pos h0]
   refine⟨x.root,Pool.jF v10,TR a9 (by rw[amb];omega) λQ' bm cd f11 ce=>HJ _ bm (ID (λar=>ω) λ_=>?_)⟩;rw[wj];refine⟨⟨j+1,rfl,a4,w++[x.root],B,by rw[C];simp only[ad,am1],by rw[<-am1];exact cd,?_,Step.tail a' f11 λi b=>(I i b).1,by have:=f11.size;omega,k10,λi b=>?_,t10,?_⟩,ω⟩
   ·rw[C];exact H.only f11 (λk i q d=>(I i d).2.1 ⟨k,q⟩) λi hv d=>by have:=p.SF i hv;have:=(I i d).1;omega
   ·rcases ce i b with o|o
    ·exact I i o
    ·exact⟨ω,λ⟨k,q⟩=>by have:=H.sep.lt k i q;omega,λS=>by have:=(ab i S).2.1;omega⟩
   ·exact TV.ck f11 a8 λi b d=>(I i d).2.2 b
  ·have cf:gw (P j).1.N c.no x.root r x.slot=(P j).1.N:=by unfold gw;rw[if_neg h0]
   rw[cf]at H;refine ID (λar=>?_) λar=>?_
   ·have C:P (j+1)=({(P j).1 with left:=(P j).1.left+1},(P j).2):=by rw[ap];unfold aW;rw[if_neg h0,if_pos ar]
    obtain⟨O,ba,u⟩:=H.var;refine⟨_,u.ah rfl,?_⟩;dsimp only;rw[wj,wrap_i64 (n:=(P j).1.left+1) ω ω];refine aI u (i:=6) (t:=.i ((P j).1.left+1)) rfl rfl rfl rfl λbm v11 f11 cM=>aI v11 (i:=7) (t:=.bool true) rfl rfl rfl rfl λch ci f12 cP=>?_;have f112:ag (·=g) W ch:=f11.trans f12;obtain⟨cj,cl⟩:=H.VS ⟨true,ba,ci⟩ f112;have cp:∀i,i=g->dm B i:=λi e=>⟨7,by rw[H.f7];exact e⟩;refine⟨⟨j+1,rfl,a4,w,B,by rw[C];exact ad,a9.keep f112 λi b e=>(I i b).2.1 (cp i e),by rw[C];exact cj,a'.trans cl,ω,k10,I,t10,?_⟩,ω⟩;exact TV.ck f112 a8 λi b e=>by have:=(ab i b).1;have e:i=g:=e;omega
   ·have C:P (j+1)=P j:=by rw[ap];unfold aW;rw[if_neg h0,if_neg ar]
    rw[wj];exact⟨⟨j+1,rfl,a4,w,B,by rw[C];exact ad,a9,by rw[C];exact H,a',ω,k10,I,t10,a8⟩,ω⟩
 ·have bk:j=L.length:=ω;have C:P j=L.foldl (aW c.no r) ({m with kids:=K},E):=by rw[hP,bk];simp only;rw[amA]
  have cs:fZ c.no f' (P j).2 (P j).1=goal:=by rw[C,<-hq,hL,a3];rfl
  have ba:(l++w).drop (i+1)=(P j).2:=by rw[ad,a1,List.drop_append_of_le_length ω]
  rw[show al5 .i64 ((i:Int)+1)=((i+1:Nat):Int) by rw[wrap_i64 ω ω];omega];refine go ((P j).2.length+(P j).1.kids.length) (Q,((i+1:Nat):Int)) v (by rw[ao];omega) ⟨l++w,i+1,(P j).1,z,rfl,by rw[amb];omega,ae,p7,bl,λi b=>⟨(a7 i b).1,(a7 i b).2.1⟩,⟨f',by rw[ba,ao];omega,by rw[ba];exact cs⟩,ω,by rw[ao];omega,by rw[ao,amb];omega,by rw[ba]⟩
end
end Gate
namespace Board
section
variable{R:Rq}{h:af}{c:Cf}
end
end Board
namespace Board
theorem aaQ(c d:UInt8):xb c (d.toNat:Int)=c^^^d:=by
 unfold xb xv;apply UInt8.toNat_inj.1;rw[UInt8.toNat_ofNat',wrap_u8]
 have a:amv (amy .u8) (c.toNat:Int)=c.toBitVec:=by
  apply BitVec.eq_of_toNat_eq;show(amv 8 (c.toNat:Int)).toNat=c.toNat;rw[BitVec.ofInt_natCast,BitVec.toNat_ofNat];exact Nat.mod_eq_of_lt c.toNat_lt
 have b:amv (amy .u8) (d.toNat:Int)=d.toBitVec:=by
  apply BitVec.eq_of_toNat_eq;show(amv 8 (d.toNat:Int)).toNat=d.toNat;rw[BitVec.ofInt_natCast,BitVec.toNat_ofNat];exact Nat.mod_eq_of_lt d.toNat_lt
 rw[a,b];have:(c.toBitVec^^^d.toBitVec).toNat=(c^^^d).toNat:=rfl;have e:=(c^^^d).toNat_lt;show(((c.toBitVec^^^d.toBitVec).toNat:Int)%256).toNat%2^8=_;rw[this];omega
theorem VT(a t:Bs 16)(j:Nat)(q:j<16):fc (IJ a t) j=fc a j^^^fc t j:=by
 unfold IJ;rw[lX _ _ _ _ (amk _),if_pos q,aaQ]
theorem aaR(t:Bs 16):IJ (al0 16) t=t:=by
 apply Bs.OH;intro j a;rw[VT _ _ _ a]
 have:fc (al0 16) j=0:=by
  unfold fc al0;rw[amD,List.getElem?_replicate,if_pos a];rfl
 rw[this,UInt8.zero_xor]
def om(m:Ms)(who:Int):Ms:=⟨2,m.slot,m.target,who,0,al3,al0 16⟩
theorem XT{m:Ms}{row:List Bool}(q:dU m row=true):0<=m.slot/\m.slot<=1073741824:=by
 unfold dU at q;simp only[Bool.and_eq_true,Bool.not_eq_true',Bool.or_eq_false_iff,decide_eq_false_iff_not]at q;obtain⟨⟨⟨⟨⟨a,b⟩,_⟩,_⟩,_⟩,_⟩:=q;omega
theorem Lf{n:Nat}{aQ:Int}{m:Ms}{row:List Bool}(h:(a_ n aQ m row).2=true):dU m row=true:=by
 cases a:dU m row with
 |true=>rfl
 |false=>unfold a_ at h;rw[if_pos a]at h;cases h
section
variable{R:Rq}{h:af}{c:Cf}
end
end Board
namespace Board
section
variable{R:Rq}{h:af}
theorem Pp{r:Bs 32}(q:∀b,Ext h b->R (TV.str r.l).val b):Cl 274 [.bytes 32 r] h R:=by
 apply zo;delta Dj iA cr d_ kT gY gj bJ fD;refine aa λa v1 f o=>?_;have d:=amf a (Vc.row (al4 []) 5);have g:ay (ami (some (Vc.Loc.mk h.size 0)) 32 32) 0 32 1=⟨some ⟨h.size,0⟩,32,32⟩:=rfl;rw[g];refine⟨r.l.map λc=>Value.int .u8 (c.toNat:Int),by rw[<-rW];exact(uD (v1.ext d).bytes).cells (By _) δ,sJ r.l,?_⟩
 have r1:Row (λi=>h.size<i) (a.push (Vc.row (al4 []) 5)) ⟨some ⟨a.size,0⟩,0,0⟩ []:=by
  refine⟨Vc.Own.new (T:=5) (sz:=1) a [] (λt j=>by cases j),λl k=>?_,λi e=>?_⟩
  ·obtain rfl:=Option.some.inj k;show h.size<a.size;omega
  ·rw[Array.size_push]at e;omega
 refine yG r.h.symm r1 (by rw[r.h];decide) λp m n f2 s=>⟨_,n.str,?_⟩;exact q m (f.trans (al2 d (r1.cut f2) λi e=>ω))
theorem aey{key:LU}(q:key.length<=64):(Iw key).l=key++amM (64-key.length) 0:=by
 show(key++amM 64 0).take 64=_;rw[List.take_append,amK q,List.take_replicate,Nat.min_eq_left ω]
theorem R_(c:UInt8)(x:Int):UInt8.ofNat (al5 .u8 ((amv (amy .u8) (c.toNat:Int)^^^amv (amy .u8) x).toNat:Int)).toNat=xb c x:=rfl
theorem Lg{α:Type}(f:Nat->α)(n:Nat):(amB (n+1)).map f=(amB n).map f++[f n]:=by
 rw[List.range_succ,amt,amx,amC]
theorem HR{key s:LU}(A:key.length<=64)(hl:s.length<10000)(I:∀v,Ext h v->R (amq 16 (GO key s)).val v):Cl 217 [.str key,.str s] h R:=by
 apply Cj;delta aF gZ QH i_ QD rD cE dz Te eU bJ;refine aa λm v1 J s1=>?_;intro K w;refine ID (λal=>ω) λ_=>w key m ?_;clear w K;refine⟨λσ b=>m=b/\σ.length<=64/\∃k,σ=key++amM k 0,λσ _=>64-σ.length,⟨rfl,A,0,by simp⟩,?_⟩;rintro a b ⟨rfl,am,k,p⟩;refine ID (λL=>⟨by show((a.length+1:Nat):Int)<=_;omega,⟨rfl,by rw[amb];show a.length+1<=64;omega,k+1,?_⟩,?_⟩) λao=>?_
 ·rw[p,am1];congr 1;rw[List.replicate_succ']
 ·show 64-(a++[0]).length<64-a.length;rw[amb,amH];omega
 have M:a=(Iw key).l:=by
  rw[aey A,p];have:a.length=key.length+k:=by rw[p,amb,List.length_replicate]
  congr 2;omega
 have cm:∀i,a.getD i 0=fc (Iw key) i:=λi=>by rw[M];rfl
 refine⟨λσ b=>0<=σ.2.2/\σ.2.2<=64/\Ext m b/\σ.1=(amB σ.2.2.toNat).map (λi=>xb (fc (Iw key) i) 54)/\σ.2.1=(amB σ.2.2.toNat).map (λi=>xb (fc (Iw key) i) 92),λσ _=>((64:Int)-σ.2.2).toNat,
  ⟨al8 0,δ,amc _,rfl,rfl⟩,?_⟩
 rintro⟨x,out,i⟩ h2 ⟨e,y,q,c,d⟩;dsimp only at e y q c d⊢;have z:x.length=i.toNat:=by rw[c];simp
 have l2:out.length=i.toNat:=by rw[d];simp
 refine ID (λf=>?_) λf=>?_
 ·have B:=aS ((amv (amy .u8) ((a.getD i.toNat 0).toNat:Int)^^^amv (amy .u8) 54).toNat:Int);have C:=aS ((amv (amy .u8) ((a.getD i.toNat 0).toNat:Int)^^^amv (amy .u8) 92).toNat:Int);refine⟨e,ω,_,str1 B.1 B.2,by rw[amH];omega,e,ω,_,str1 C.1 C.2,by rw[amH];omega,?_⟩;rw[wrap_i64 (n:=i+1) ω ω];refine⟨⟨ω,ω,(q.trans (amf _ _)).trans (amf _ _),?_,?_⟩,Ω⟩
  ·rw[R_,cm,c,show(i+1).toNat=i.toNat+1 by omega,Lg]
  ·rw[R_,cm,d,show(i+1).toNat=i.toNat+1 by omega,Lg]
 have N:i.toNat=64:=ω;rw[N]at c d z l2;have c:x=iR key 54:=c;have d:out=iR key 92:=d;subst c;subst d;refine⟨ω,lI (by rw[amb,z];omega) λh3 O=>⟨_,rfl,Pp λh4 P=>⟨_,rfl,by rw[l2,Bs.h];decide,?_⟩⟩⟩;refine lI (by rw[amb,l2,Bs.h];decide) λr Q=>⟨_,rfl,?_⟩;refine aa λh6 v6 S s6=>aq v6 (t:=.bytes 32 (mz (iR key 92++(mz (iR key 54++s)).l))) rfl wI λu T f7 s7=>?_;have U:Ext r u:=al2 S f7 λi f=>ω;refine aa λV W D s8=>?_;have X:=T.ext D;refine⟨λi b=>0<=i/\i<=16/\ag (·=u.size) V b/\Var 56 b u.size (.bytes 16 (kX (fc (mz (iR key 92++(mz (iR key 54++s)).l))) (al0 16) i.toNat)),λi _=>((16:Int)-i).toNat,⟨al8 0,δ,amE _ _,W⟩,?_⟩;rintro i E ⟨e,y,f9,g⟩;have Y:Var 52 E r.size (.bytes 32 (mz (iR key 92++(mz (iR key 54++s)).l))):=X.only f9 ω;refine ID (λf=>?_) λf=>?_
 ·have Z:=iI Y (i:=i.toNat) ω;have L:=(fc (mz (iR key 92++(mz (iR key 54++s)).l)) i.toNat).toNat_lt;refine⟨e,ω,_,Z,e,ω,?_⟩;refine kV g (i:=i.toNat) (o:=0+i.toNat*1) ω ω ω ω λF v10 f10 ab=>?_;rw[wrap_i64 (n:=i+1) ω ω];refine⟨⟨ω,ω,f9.trans f10,?_⟩,Ω⟩;rw[show(i+1).toNat=i.toNat+1 by omega];rw[amd,UInt8.ofNat_toNat]at v10;exact v10
 ·have ac:i.toNat=16:=ω;rw[ac]at g
  have ad:kX (fc (mz (iR key 92++(mz (iR key 54++s)).l))) (al0 16) 16=GO key s:=by
   apply Bs.OH;intro j G;rw[lX _ _ _ _ (amk _),if_pos G];unfold GO qO No fc;rw[amD,amD,amV,if_pos G]
  rw[ad]at g;have ae:Ext r E:=U.trans (al2 D f9 λi f=>ω);have H:=(((q.trans O).trans P).trans Q).trans ae;refine⟨_,g.bytes,aq (v1.ext H) (t:=.bytes 16 (GO key s)) rfl wI λF v10 f10 ab=>⟨_,v10.bytes,?_⟩⟩;exact I F (al2 (J.trans H) f10 λi f=>ω)
theorem Pq{n:Nat}(b:Bs n)(i:Nat)(x y:UInt8):(b.set i x).set i y=b.set i y:=by
 apply Bs.ext';simp[am3]
theorem aaS{n:Nat}(b:Bs n)(i:Nat):b.set i (fc b i)=b:=by
 apply Bs.ext';unfold am3 fc;by_cases a:i<b.l.length
 ·rw[amD,al7 a];simp
 ·simp only;rw[List.set_eq_of_length_le ω]
theorem aaT{n:Nat}(b:Bs n){i:Nat}(x:UInt8)(q:i<n):fc (b.set i x) i=x:=by
 unfold fc am3;rw[amD,List.getElem?_set_self (by rw[b.h];exact q)];rfl
theorem Pu{s:Sl}{ts:List (Bs 16)}(e:aj 16 h s (tags ts))(W:ts.length<1000000)(E:∀q,Ext h q->R (amq 16 (fI ts (al0 16))).val q):Cl 218 [.slice s] h R:=by
 apply zq;delta aF gL QD rD Th cE bK;have F:=e.len;rw[al1]at F;refine aa λd v1 r X=>aa λu G k Y=>?_;have Z:h.size<d.size:=ω;refine⟨λi f=>0<=i/\i<=16/\ag (·=d.size) u f/\Var 56 f d.size (.bytes 16 (kX (fc (fI ts (al0 16))) (al0 16) i.toNat)),λi _=>((16:Int)-i).toNat,⟨al8 0,δ,amE _ _,G⟩,?_⟩;rintro i H ⟨m,i1,f3,c⟩;refine ID (λa=>?_) λa=>?_
 ·have I:fc (kX (fc (fI ts (al0 16))) (al0 16) i.toNat) i.toNat=fc (al0 16) i.toNat:=by rw[lX _ _ _ _ ω,if_neg ω]
  have v:kX (fc (fI ts (al0 16))) (al0 16) i.toNat=(kX (fc (fI ts (al0 16))) (al0 16) i.toNat).set i.toNat (fc (fI (ts.take 0) (al0 16)) i.toNat):=by
   show _=am3 _ _ (fc (al0 16) i.toNat);rw[<-I,aaS]
  have w:kX (fc (fI ts (al0 16))) (al0 16) (i.toNat+1)=(kX (fc (fI ts (al0 16))) (al0 16) i.toNat).set i.toNat (fc (fI ts (al0 16)) i.toNat):=rfl;generalize kX (fc (fI ts (al0 16))) (al0 16) i.toNat=B at c v w;refine⟨λj f=>0<=j/\j<=ts.length/\ag (λb=>b=d.size) u f/\Var 56 f d.size (.bytes 16 (B.set i.toNat (fc (fI (ts.take j.toNat) (al0 16)) i.toNat))),λj _=>((ts.length:Int)-j).toNat,⟨al8 0,ω,f3,by rw[v]at c;exact c⟩,?_⟩;rintro j g ⟨J,j1,f4,v4⟩;refine ID (λp=>?_) λp=>?_
  ·have K:aj 16 g s (tags ts):=e.ext (al2 (r.trans k) f4 λi a=>ω);refine K.read J ω λl t ab x L=>?_;rw[amh]at x;obtain⟨t',M,rfl⟩:=amW.1 x;refine⟨t',L,?_⟩;refine aa λh5 N O s5=>aq N (t:=.bytes 16 t') rfl rfl λP v6 f6 s6=>?_;have y:Ext g P:=al2 O f6 λi a=>ω;have ac:=f4.size;have z:=v4.ext y;have A:=iI z (i:=i.toNat) ω;rw[aaT _ _ ω]at A;have Q:=iI v6 (i:=i.toNat) ω;have C:0<=xv ((fc (fI (ts.take j.toNat) (al0 16)) i.toNat).toNat:Int) ((fc t' i.toNat).toNat:Int)/\xv ((fc (fI (ts.take j.toNat) (al0 16)) i.toNat).toNat:Int) ((fc t' i.toNat).toNat:Int)<256:=aS _;refine⟨m,a,_,A,m,a,_,Q,m,a,?_⟩;refine kV z (i:=i.toNat) (o:=0+i.toNat*1) ω ω C.1 C.2 λh7 D f7 s7=>?_;rw[wrap_i64 (n:=j+1) ω ω];refine⟨⟨ω,ω,(f4.trans ((amz y).mono λ_ h=>h)).trans f7,?_⟩,Ω⟩;rw[Pq]at D;rw[show(j+1).toNat=j.toNat+1 by omega,aU M,Eg,VT _ _ _ ω,<-aaQ];exact D
  ·have S:ts.take j.toNat=ts:=amK ω;rw[S]at v4;rw[wrap_i64 (n:=i+1) ω ω];refine⟨⟨ω,ω,f4,?_⟩,Ω⟩;rw[show(i+1).toNat=i.toNat+1 by omega,w];exact v4
 ·have T:i.toNat=16:=ω;rw[T]at c
  have U:kX (fc (fI ts (al0 16))) (al0 16) 16=fI ts (al0 16):=by
   apply Bs.OH;intro j p;rw[lX _ _ _ _ (amk _),if_pos p]
  rw[U]at c;have V:Var 56 H h.size (.bytes 16 (al0 16)):=(v1.ext k).only f3 ω;refine⟨_,c.bytes,aq V (t:=.bytes 16 (fI ts (al0 16))) rfl wI λg v4 f4 s4=>⟨_,v4.bytes,?_⟩⟩;exact E g (al2 (al2 (r.trans k) f3 λi a=>ω) f4 λi a=>ω)
end
end Board
namespace Board
section
variable{R:Rq}{h:af}{c:Cf}
theorem Pv:zR.length=5:=δ
theorem acD(slot who:Int):mz ((zR++MV (al5 .u64 slot) 4)++MV (al5 .u64 who) 2)=tR slot who:=by
 have a:=gC slot;have b:=gC who;rw[BF 4 _ a.1 a.2,BF 2 _ b.1 b.2];rfl
end
def zu(slot:Int)(j:Nat):ij:=⟨tR slot (j:Int),(j:Int)⟩
theorem mem_sorted{slot:Int}{n:Nat}{x:ij}(h:x∈sorted slot n):∃j,j<n/\x=zu slot j:=by
 have:=(sorted_perm slot n).mem_iff.1 h;unfold Tu at this;obtain⟨j,a,rfl⟩:=al9.1 this;exact⟨j,List.mem_range.1 a,rfl⟩
theorem acE{slot:Int}{n j:Nat}(h:j<n):zu slot j∈sorted slot n:=by
 refine(sorted_perm slot n).mem_iff.2 ?_;unfold Tu;exact al9.2 ⟨j,List.mem_range.2 h,rfl⟩
def Ck(slot:Int)(un:Nat->Bool)(i:Nat)(q:Int):Prop:=
 (q=-1/\∀j,j<i->un j=false)\/∃b:Nat,q=(b:Int)/\b<i/\un b=true/\∀j,j<i->un j=true->j≠b->sb (zu slot b) (zu slot j)
theorem Ck.skip{slot:Int}{un:Nat->Bool}{i:Nat}{q:Int}(B:Ck slot un i q)(A:un i=false):Ck slot un (i+1) q:=by
 rcases B with⟨a,c⟩|⟨b,a,k,f,c⟩
 ·refine .inl ⟨a,λj g=>?_⟩;by_cases d:j=i
  ·rw[d];exact A
  ·exact c j ω
 ·refine .inr ⟨b,a,ω,f,λj g e h=>?_⟩;by_cases d:j=i
  ·rw[d,A]at e;cases e
  ·exact c j ω e h
theorem Ck.first{slot:Int}{un:Nat->Bool}{i:Nat}{q:Int}(B:Ck slot un i q)(E:q<0)(A:un i=true):Ck slot un (i+1) (i:Int):=by
 rcases B with⟨_,c⟩|⟨b,d,_⟩
 ·refine .inr ⟨i,rfl,ω,A,λj e a f=>?_⟩;rw[c j ω]at a;cases a
 ·omega
theorem Ck.less{slot:Int}{un:Nat->Bool}{i b:Nat}(B:Ck slot un i (b:Int))(q:un i=true)(A:Op.bytesLess (tR slot (i:Int)).l (tR slot (b:Int)).l=true):Ck slot un (i+1) (i:Int):=by
 rcases B with⟨e,_⟩|⟨a,e,h,k,f⟩
 ·omega
 ·have:a=b:=ω;subst this;have c:sb (zu slot i) (zu slot a):=.inl A;refine .inr ⟨i,rfl,ω,q,λj m g n=>?_⟩;by_cases d:j=a
  ·rw[d];exact c
  ·exact E7 c (f j ω g d)
theorem Ck.keep{slot:Int}{un:Nat->Bool}{i b:Nat}(B:Ck slot un i (b:Int))(q:Op.bytesLess (tR slot (i:Int)).l (tR slot (b:Int)).l=false):Ck slot un (i+1) (b:Int):=by
 rcases B with⟨d,_⟩|⟨c,d,m,e,f⟩
 ·omega
 ·have:c=b:=ω;subst this;refine .inr ⟨c,rfl,ω,e,λj n g h=>?_⟩;by_cases k:j=i
  ·subst k;rcases Q4 (x:=zu slot c) (y:=zu slot j) (by show(c:Int)≠j;omega)with a|a
   ·exact a
   ·rcases a with a|⟨_,a⟩
    ·have:Op.bytesLess (tR slot (j:Int)).l (tR slot (c:Int)).l=true:=a;rw[q]at this;cases this
    ·have:(j:Int)<(c:Int):=a;omega
  ·exact f j ω g h
noncomputable def left(slot:Int)(n k:Nat)(j:Nat):Bool:=!decide ((j:Int)∈(Ay slot n).take k)
theorem aaU{slot:Int}{n k:Nat}(q:k<n):∃j:Nat,j<n/\(sorted slot n)[k]? =some (zu slot j)/\(Ay slot n)[k]? =some (j:Int):=by
 have c:=o_ slot n;have a:(sorted slot n)[k]? =some (sorted slot n)[k]:=al7 ω;obtain⟨j,b,e⟩:=mem_sorted (List.getElem_mem (by omega:k<(sorted slot n).length));refine⟨j,b,by rw[a,e],?_⟩;unfold Ay;rw[amh,a,e];rfl
theorem aaV{l:List Int}{k:Nat}{x:Int}(A:l.Nodup)(q:l[k]? =some x):x∉l.take k:=by
 intro h;obtain⟨i,a⟩:=List.getElem?_of_mem h;rw[amV]at a;split at a
 ·rename_i b;have c:=(amg.1 q).1;have:=(List.getElem?_inj ω A).1 (a.trans q.symm);omega
 ·cases a
theorem Ck.done{slot:Int}{n k:Nat}{q:Int}(A:k<n)(B:Ck slot (left slot n k) n q):∃b:Nat,b<n/\q=(b:Int)/\(Ay slot n)[k]? =some (b:Int):=by
 obtain⟨c,j,l,e⟩:=aaU (slot:=slot) A;have s:=T5 slot n
 have f:left slot n k c=true:=by
  unfold left;rw[decide_eq_false (aaV s e)];rfl
 rcases B with⟨_,g⟩|⟨b,t,m,o,g⟩
 ·rw[g c j]at f;cases f
 ·refine⟨b,m,t,?_⟩;by_cases p:c=b
  ·rw[<-p];exact e
  ·exfalso;have u:=g c j f p
   have v:(b:Int)∉(Ay slot n).take k:=by
    unfold left at o;simpa using o
   obtain⟨i,h⟩:=List.getElem?_of_mem (acE (slot:=slot) m)
   have d:(Ay slot n)[i]? =some (b:Int):=by
    unfold Ay;rw[amh,h];rfl
   have w:k<i:=by
    rcases Nat.lt_trichotomy i k with a|a|a
    ·refine absurd (amo (i:=i) ?_) v;rw[amV,if_pos a];exact d
    ·rw[a,e]at d;injection d with d;omega
    ·exact a
   have r:=List.pairwise_iff_getElem.1 (Hz slot n) k i (amg.1 l).1 (amg.1 h).1 w;rw[(amg.1 l).2,(amg.1 h).2]at r;exact r u
theorem XU{slot:Int}{n k b:Nat}(q:(Ay slot n)[k]? =some (b:Int))(j:Nat):left slot n (k+1) j=if j=b then false else left slot n k j:=by
 unfold left;rw[aU q];by_cases a:j=b
 ·subst a;rw[if_pos rfl];simp
 ·rw[if_neg a];have:(j:Int)≠(b:Int):=ω;simp[this]
end Board
namespace Board
abbrev aaW(n:Nat):Obj:=row (cq (amw false) n) 4
theorem VU:(ctx.ti 52).bytes=32:=κ
theorem aez:(ctx.ti 52).size=32:=κ
theorem acF:(ctx.ti 52).z.size=32:=κ
abbrev XV(slot:Int)(n:Nat):List TV:=(amB n).map λ(j:Nat)=>amq 32 (tR slot (j:Int))
theorem XW(slot:Int)(n:Nat):XV slot (n+1)=XV slot n++[amq 32 (tR slot (n:Int))]:=by
 simp[List.range_succ,amt,XV]
noncomputable def flags(slot:Int)(n k:Nat):List Bool:=(amB n).map λj=>!left slot n k j
theorem Uq(slot:Int)(n:Nat):flags slot n 0=amM n false:=by
 unfold flags left;apply List.ext_getElem (by simp);simp_all
theorem XX{slot:Int}{n k j:Nat}(q:j<n):(flags slot n k)[j]? =some (!left slot n k j):=by
 unfold flags;rw[amh,List.getElem?_range q];rfl
theorem XY{slot:Int}{n k b:Nat}(q:(Ay slot n)[k]? =some (b:Int)):(flags slot n k).set b true=flags slot n (k+1):=by
 unfold flags;apply List.ext_getElem (by simp);intro j a c;rw[List.getElem_set];simp only[List.getElem_map,List.getElem_range];rw[XU q]
 grind
section
variable{R:Rq}{h:af}{c:Cf}
theorem aaX{s:Sl}{slot:Int}{n m:Nat}{i:Int}(q:m=s.len)(e:aj 32 h s (XV slot n))(A:0<=i)(E:i<n){K:Bs 32->Prop}(B:K (tR slot i)):
 0<=i/\i<(m:Int)/\Nn s.a λ(l:Vc.Loc)=>∃(b:Bs 32),av h l.b (l.o+i.toNat*32) 32 b/\K b:=by
 subst q;have d:=e.len;rw[al1,amG]at d;refine e.read A ω λl t j a f=>?_;rw[amh,List.getElem?_range ω]at a;injection a with a;subst a;have g:((i.toNat:Nat):Int)=i:=ω;have c:TV.at h l.b (l.o+i.toNat*32) (amq 32 (tR slot ((i.toNat:Nat):Int))):=f;rw[g]at c;exact⟨_,c,B⟩
theorem aaY{s:Sl}{l:List Bool}{i:Int}{b:Nat}(o:Vc.Own 4 1 h s (aY l))(q:s.a=some ⟨b,0⟩)(A:0<=i)(B:i<l.length){K:Bool->Prop}(E:∀x,l[i.toNat]? =some x->K x):
 ∃(x:Bool),ah h b (0+i.toNat*1) (.bool x)/\K x:=by
 have c:=o.len;have:=kD o.elems A B E;rw[q]at this;obtain⟨_,_,a⟩:=this;exact a
set_option maxHeartbeats 1000000 in
theorem zV{slot:Int}(f:Gw c)(hr:∀S U,Vc.Own 3 1 S U (ints (mem c.vals.len c.aQ slot))->Ext h S->(∀l,U.a=some l->h.size<=l.b)->R (amL U).val S):
 Cl 282 [c.tv,.i slot] h R:=by
 apply ue c.vals c.ep c.aQ c.no c.eV c.eH c.quo c.pe c.iy c.win c.bH c.dec slot;delta gz MF dx mu tM pR jr gI dD eW bJ bK bA;refine aa λu v1 x1 s1=>?_;intro J hJ
 have ao:=λI=>by
  refine hr u al3 ?_ x1 (λl d=>by cases d);rw[VI I];exact Vc.Own.nil _ _ _
 refine ID (λI=>ao (.inl I)) λI=>If.dec.2 ⟨λap=>ao (.inr ap),λap=>hJ _ _ ?_⟩;have f1:=f.agR;have f2:=f.agS;have f4:=f.len;have a3:∀a,ag (λi=>h.size<i) u a->Ext h a:=λa o=>al2 x1 o λi hi=>ω;have var:∀a,ag (λi=>h.size<i) u a->Var 24 a h.size c.tv:=λa o=>v1.only o (Nat.lt_irrefl _);refine⟨c.vals,v1.ah rfl,?_⟩
 refine⟨λσ a=>0<=σ.2/\σ.2<=c.vals.len/\Vc.Own 52 32 a σ.1 (XV slot σ.2.toNat)/\(∀l,σ.1.a=some l->h.size<l.b)/\ag (λi=>h.size<i) u a,λσ _=>(c.vals.len-σ.2).toNat,
  ⟨al8 0,ω,Vc.Own.nil _ _ _,(λl d=>by cases d),amE _ _⟩,?_⟩
 rintro⟨s,i⟩ g ⟨i0,i1,w,V,W⟩;dsimp only at i0 i1 w V⊢;have z2:=W.size;refine ID (λhi=>?_) λhi=>?_
 ·have X:=Pv;have Y:=dN 4 (al5 .u64 slot);have l2:=dN 2 (al5 .u64 i);refine bL 4 _ _ _ δ λq x3=>⟨_,rfl,by show((zR.length+_:Nat):Int)<=_;rw[Y,X];decide,bL 2 _ _ _ δ λL p=>⟨_,rfl,?_,?_⟩⟩
  ·show(((zR++_).length+_:Nat):Int)<=_;rw[amb,Y,l2,X];decide
  refine lI (s:=(zR++MV (al5 .u64 slot) 4)++MV (al5 .u64 i) 2) (by rw[amb,amb,Y,l2,X];decide) λA M=>⟨_,rfl,?_⟩;have Z:=(x3.trans p).trans M;have D:=w.ext Z;have a4:=D.len;rw[al1,amG]at a4;rw[acD];refine cD (C:=ctx) (T:=52) (sz:=32) (x:=.bytes 32 (tR slot i)) aez acF (by rw[VU];decide) (by rw[VU];omega) D rfl rfl λs6 h6 E f6 b6=>?_;rw[wrap_i64 (n:=i+1) ω ω];have ab:(i+1).toNat=i.toNat+1:=ω;have z5:=Z.size;refine⟨⟨Ω,Ω,?_,λl d=>?_,?_⟩,Ω⟩
  ·rw[ab,XW];have y:((i.toNat:Nat):Int)=i:=ω;rw[y];exact E
  ·rcases b6 l d with⟨z,F,ac⟩|F
   ·rw[<-ac];exact V z F
   ·omega
  ·refine W.trans ((amz Z).trans (f6.mono λj⟨l,d,e⟩=>?_));rw[<-e];exact V l d
 have a5:i.toNat=c.vals.len:=ω;rw[a5]at w;have ar:=w.len;rw[al1,amG]at ar;have a6:ams (s.len:Int)=s.len:=amd _;refine⟨ω,al8 _,ω,ω,?_⟩;rw[a6,<-ar];have ob:=Vc.Own.new (T:=4) (sz:=1) g (amM c.vals.len (amw false)) (λt ht=>by rw[List.eq_of_mem_replicate ht];rfl);rw[List.length_replicate,<-gR]at ob;have xp:=amf g (aaW c.vals.len);have bp:(amu g (aaW c.vals.len)).size=g.size+1:=by simp
 change Vc.Own 4 1 (amu g (aaW c.vals.len)) _ _ at ob;show Vc.Loop _ (amu g (aaW c.vals.len)) _;generalize amu g (aaW c.vals.len)=N at*;have a7:ag (λi=>h.size<i) u N:=W.trans (amz xp);have a8:∀l,s.a=some l->l.b<g.size:=w.lt;have br:h.size<g.size:=ω;rw[show amM c.vals.len (amw false)=aY (flags slot c.vals.len 0) by rw[Uq];simp[aY]]at ob
 refine⟨λt a=>∃k:Nat,(k:Int)<=c.aQ/\Vc.Own 3 1 a t (ints ((Ay slot c.vals.len).take k))/\(∀l,t.a=some l->g.size<l.b)/\Vc.Own 4 1 a ⟨some ⟨g.size,0⟩,c.vals.len,c.vals.len⟩ (aY (flags slot c.vals.len k))/\ag (λi=>g.size<=i) N a,λt _=>(c.aQ-(t.len:Int)).toNat,
  ⟨0,ω,Vc.Own.nil _ _ _,(λl d=>by cases d),ob,amE _ _⟩,?_⟩
 rintro t q ⟨k,hk,ot,G,aw,O⟩;have aE:ag (λi=>h.size<i) u q:=a7.trans (O.mono λi hi=>ω);have v3:=var q aE;have tl:=ot.len;have a0:((Ay slot c.vals.len).take k).length=k:=by rw[amr,RP];omega
 rw[al1,a0]at tl;have z3:=O.size;have a9:=aas (n:=c.vals.len) (aQ:=c.aQ) (slot:=slot) ω ω
 have a':∀a,Ext q a->(k:Int)=c.aQ->R (amL t).val a:=λa x bt=>by
  refine hr a t ?_ ((a3 q aE).trans x) (λl d=>by have:=G l d;omega);rw[a9,show(min (max c.aQ 0) (c.vals.len:Int)).toNat=k by omega];exact ot.ext x
 refine⟨c.aQ,v3.ah rfl,ID (λbx=>?_) λbN=>a' q (amc _) ω⟩;have ba:k<c.vals.len:=ω;have bb:Vc.Own 52 32 q s (XV slot c.vals.len):=(w.ext xp).only O (λl d=>by have:=a8 l d;omega);refine⟨λσ a=>0<=σ.2/\σ.2<=c.vals.len/\Ext q a/\Ck slot (left slot c.vals.len k) σ.2.toNat σ.1,λσ _=>((c.vals.len:Int)-σ.2).toNat,⟨al8 0,Ω,amc _,.inl ⟨rfl,λj hj=>absurd hj (by simp)⟩⟩,?_⟩;rintro⟨ad,m⟩ L ⟨P,j1,p,B⟩;dsimp only at P j1 B⊢;refine ID (λbc=>?_) λbc=>?_
 ·have ab:(m+1).toNat=m.toNat+1:=ω;have y:((m.toNat:Nat):Int)=m:=ω;rw[wrap_i64 (n:=m+1) ω ω];have ae:ams (c.vals.len:Int)=c.vals.len:=amd _;refine⟨P,by first|omega|(rw[ae];omega),aaY (aw.ext p) rfl P (by unfold flags;rw[al1,amG];omega) λx r=>?_⟩;rw[XX ω]at r;injection r with r
  have next:∀(a:af)(Q:Int),Ext q a->Ck slot (left slot c.vals.len k) (m.toNat+1) Q->((0<=m+1/\m+1<=c.vals.len/\Ext q a/\Ck slot (left slot c.vals.len k) (m+1).toNat Q)/\((c.vals.len:Int)-(m+1)).toNat<((c.vals.len:Int)-m).toNat):=
   λa Q xh Bh=>⟨⟨ω,ω,xh,by rw[ab];exact Bh⟩,ω⟩
  cases H:left slot c.vals.len k m.toNat with
  |false=>
   rw[H]at r;subst r;exact ame (next L ad p (B.skip H))
  |true=>
   rw[H]at r;subst r;refine amp (ID (λa1=>?_) λb0=>?_)
   ·have:=B.first a1 H;rw[y]at this;exact next L m p this
   ·obtain⟨b,al⟩:∃b:Nat,ad=(b:Int):=⟨ad.toNat,ω⟩;subst al
    have bd:b<m.toNat:=by
     rcases B with⟨bi,_⟩|⟨Q,bi,b1,_⟩
     ·omega
     ·omega
    have a2:=bb.ext p;refine aaX rfl a2.elems P ω ?_;refine aaX (i:=(b:Int)) rfl a2.elems ω ω ?_;refine OA λA M=>⟨_,rfl,?_⟩;rw[<-y];cases d:Op.bytesLess (tR slot ((m.toNat:Nat):Int)).l (tR slot (b:Int)).l with
    |true=>
     have:=B.less H d;rw[y]at this⊢;exact amp (next A m (p.trans M) this)
    |false=>
     have:=B.keep d;rw[y];exact ame (next A _ (p.trans M) this)
 have bj:m.toNat=c.vals.len:=ω;rw[bj]at B;obtain⟨b,bd,al,hw⟩:=B.done ba;subst al;refine ID (λa1=>ω) λ_=>?_
 have bk:=(aw.ext p).aH (t:=.bool true) (i:=(b:Int)) (n:=1) (K:=λa=>∃new,cn (a.push (row (al4 [TV.i (b:Int)]) 3)) (ami (some (Vc.Loc.mk a.size 0)) 1 1) 1 new/\(∀v∈new,bU v=true)/\
  au ctx 3 t 1 new (a.push (row (al4 [TV.i (b:Int)]) 3)) λ(s_:Sl)(h_:af)=>(∃k:Nat,(k:Int)<=c.aQ/\Vc.Own 3 1 h_ s_ (ints ((Ay slot c.vals.len).take k))/\(∀l,s_.a=some l->g.size<l.b)/\Vc.Own 4 1 h_ ⟨some ⟨g.size,0⟩,c.vals.len,c.vals.len⟩ (aY (flags slot c.vals.len k))/\ag (λi=>g.size<=i) N h_)/\(c.aQ-(s_.len:Int)).toNat<(c.aQ-(t.len:Int)).toNat)
  ω (by unfold flags;rw[al1,al1,amG];omega) rfl rfl λA D f5 s5=>?_
 ·have ae:ams (c.vals.len:Int)=c.vals.len:=amd _;refine⟨ω,by first|omega|(rw[ae];omega),?_⟩;exact bk.2.2
 ·have am:ag (·=g.size) L A:=f5.mono λi⟨l,d,e⟩=>by cases d;exact e.symm
  have bl:(aY (flags slot c.vals.len k)).set ((b:Int)).toNat (amw true)=aY (flags slot c.vals.len (k+1)):=by
   rw[amd,<-XY hw];unfold aY;rw[am0]
  rw[bl]at D;have bm:=(ot.ext p).only am (λl d=>by have:=G l d;omega);refine cD (C:=ctx) (T:=3) (sz:=1) (x:=.i (b:Int)) MR Gs (by rw[sG];decide) (by rw[sG];omega) bm rfl rfl λs6 h6 E f6 b6=>?_;have z5:=am.size;have z4:=p.size;have b2:g.size<N.size:=ω;have l6:=E.len;rw[amb,al1,a0,amH]at l6;refine⟨⟨k+1,ω,?_,λl d=>?_,?_,?_⟩,ω⟩
  ·rw[aU hw];simp only[ints,amt,amx,amC]at E⊢;exact E
  ·rcases b6 l d with⟨z,F,ac⟩|F
   ·rw[<-ac];exact G z F
   ·omega
  ·refine D.only f6 λl d r=>?_;obtain⟨z,bo,e⟩:=r;cases d;have:=G z bo;have e':z.b=g.size:=e;omega
  ·refine O.trans ((amz p).trans ((am.mono λi hi=>ω).trans (f6.mono λi⟨l,d,e⟩=>?_)));have:=G l d;omega
theorem L8{slot who:Int}(f:Gw c)(A:∀g,Ext h g->R (TV.i (idx (mem c.vals.len c.aQ slot) who 0)).val g):Cl 242 [c.tv,.i slot,.i who] h R:=by
 apply xK c.vals c.ep c.aQ c.no c.eV c.eH c.quo c.pe c.iy c.win c.bH c.dec slot who;delta U8 iZ nj gI bK aT;have f4:=f.len;refine aa λB v1 r C=>td v1 (zV f λj k m s _=>⟨_,rfl,?_⟩);have b:=A j (r.trans s);have D:=sK c.vals.len c.aQ slot;have el:=iP m.elems;generalize mem c.vals.len c.aQ slot=l at*;refine⟨λσ o=>0<=σ.2/\σ.2<=k.len/\o=j/\idx l who 0=idx (l.drop σ.2.toNat) who σ.2,λσ _=>((k.len:Int)-σ.2).toNat,⟨al8 0,Ω,rfl,rfl⟩,?_⟩;rintro⟨q,i⟩ o ⟨p,t,u,a⟩;obtain rfl:=u.symm;dsimp only at p t a⊢;refine ID (λv=>?_) λv=>?_
 ·refine gB m.elems p ω λx w=>?_;rw[BD w,idx]at a;refine ID (λd=>?_) λd=>?_
  ·rw[if_pos d.symm]at a;rw[a]at b;exact b
  ·rw[if_neg (λe=>d e.symm)]at a;rw[wrap_i64 (n:=i+1) ω ω];have y:(i+1).toNat=i.toNat+1:=ω;refine⟨⟨Ω,Ω,rfl,?_⟩,Ω⟩
   try dsimp only
   rw[y];exact a
 ·have z:l.drop i.toNat=[]:=List.drop_eq_nil_of_le ω;rw[z,idx]at a;rw[a]at b;exact b
theorem Pw{slot:Int}{bits:Sl}{row:List Bool}(f:Gw c)(e:aj 1 h bits (aY row))
 (A:∀g,Ext h g->(mem c.vals.len c.aQ slot=[]\/row.length≠(mem c.vals.len c.aQ slot).length)->R (ama [.slice al3,.bool false]).val g)
 (I:∀g u,Vc.Own 3 1 g u (ints (pk (mem c.vals.len c.aQ slot) row))->Ext h g->(∀l,u.a=some l->h.size<=l.b)->mem c.vals.len c.aQ slot≠[]->row.length=(mem c.vals.len c.aQ slot).length->R (ama [.slice u,.bool true]).val g):
 Cl 241 [c.tv,.i slot,.slice bits] h R:=by
 apply zv c.vals c.ep c.aQ c.no c.eV c.eH c.quo c.pe c.iy c.win c.bH c.dec slot bits;delta iA jr dD eW uQ gY bK aT;have f4:=f.len;refine aa λh1 v1 x1 s1=>td v1 (zV f λr s B K _=>⟨_,rfl,?_⟩);have o:=x1.trans K;have el:=iP B.elems;have ml:=sK c.vals.len c.aQ slot;generalize mem c.vals.len c.aQ slot=l at*;have L:row.length=bits.len:=by have:=e.len;rwa [al1]at this
 intro J M;refine amj (λv=>?_) λv=>ID (λN=>A r o (.inl (List.eq_nil_of_length_eq_zero ω))) λN=>?_
 ·refine A r o (.inr λa=>?_);rw[L,el]at a;simp[a]at v
 ·have ac:bits.len=s.len:=by
   have:((s.len:Nat):Int)=((bits.len:Nat):Int):=by simpa using v
   omega
  refine M _ _ ?_
  refine⟨λσ D=>0<=σ.2/\σ.2<=s.len/\Vc.Own 3 1 D σ.1 (ints (pk (l.take σ.2.toNat) (row.take σ.2.toNat)))/\(∀p,σ.1.a=some p->r.size<=p.b)/\Ext r D/\σ.1.len<=σ.2.toNat,λσ _=>((s.len:Int)-σ.2).toNat,
   ⟨al8 0,Ω,Vc.Own.nil _ _ _,(λp d=>by cases d),amc _,amF _⟩,?_⟩
  rintro⟨t,i⟩ O ⟨w,P,k,q,m,Q⟩;dsimp only at w P k q Q⊢;refine ID (λS=>?_) λS=>?_
  ·refine kD ((e.ext o).ext m) w ω λb U=>?_;have E:(i+1).toNat=i.toNat+1:=ω;obtain⟨x,a⟩:∃x,l[i.toNat]? =some x:=⟨_,al7 ω⟩;have y:=OD (l.take i.toNat) (row.take i.toNat) x b (by rw[amr,amr];omega);rw[<-aU a,<-aU U]at y;rw[wrap_i64 (n:=i+1) ω ω];have z3:=m.size;cases b with
   |false=>
    refine ame ⟨⟨Ω,Ω,?_,q,m,Ω⟩,Ω⟩
    try dsimp only
    rw[E,y];simpa using k
   |true=>
    have V:=k.len;rw[al1]at V;refine amp (gB (B.elems.ext m) w ω λW F=>?_);obtain rfl:x=W:=by rw[a]at F;injection F
    refine cD (C:=ctx) (T:=3) (sz:=1) (x:=.i x) MR Gs (by rw[sG];decide) (by rw[sG];omega) k rfl rfl λs4 h4 z f4 b4=>?_;have X:=z.len;rw[amb,al1,amH]at X;refine⟨⟨Ω,Ω,?_,λp d=>?_,?_,Ω⟩,Ω⟩
    ·try dsimp only
     rw[E,y];simp only[ints,if_true,amt,amx,amC]at z⊢;exact z
    ·rcases b4 p d with⟨Y,G,Z⟩|G
     ·rw[<-Z];exact q Y G
     ·omega
    ·refine al2 m f4 λj⟨p,d,ej⟩=>?_;rw[<-ej];exact q p d
  ·have ab:i.toNat=l.length:=ω;have H:row.length=l.length:=ω;rw[ab,amA,<-H,amA]at k;exact I O t k (o.trans m) (λp d=>amR o.size (q p d)) (λa=>by subst a;simp at el;omega) H
end
end Board
namespace Board
section
variable{R:Rq}{h:af}
theorem XZ:∀(l:List Int)(x:Int),(idx l x 0=0↔∃k,l=x::k)
 |[],x=>by simp[idx]
 |y::l,x=>by
  unfold idx;constructor
  ·intro a;split at a
   ·rename_i c;exact⟨l,by rw[c]⟩
   ·exfalso
    have:∀(l:List Int)(k:Int),1<=k->idx l x k≠0:=by
     intro l
     induction l with
     |nil=>intro k _;simp[idx]
     |cons z l d=>
      intro k b;unfold idx;split
      ·omega
      ·exact d (k+1) ω
    exact this l 1 ω a
  ·rintro⟨k,b⟩;injection b with e f;rw[if_pos e.symm]
theorem Nv{n:Nat}{aQ:Int}{m:Ms}{row:List Bool}(q:dU m row=true)(A:m.kind≠3):
 a_ n aQ m row=if idx (mem n aQ m.slot) m.ax 0<0 then([],false)else if m.kind=1/\0<idx (mem n aQ m.slot) m.ax 0 then([],false)else([m.ax],true):=by
 unfold a_;rw[if_neg (by rw[q];decide),if_neg A]
 have i:0<=m.ax:=by
  unfold dU at q;simp only[Bool.and_eq_true,Bool.not_eq_true',Bool.or_eq_false_iff,decide_eq_false_iff_not]at q;obtain⟨⟨⟨⟨_,c⟩,_⟩,_⟩,_⟩:=q;omega
 generalize mem n aQ m.slot=l
 have e:uy l=m.ax↔idx l m.ax 0=0:=by
  rw[XZ];constructor
  ·intro h;cases l with
   |nil=>
    have f:(-1:Int)=m.ax:=h;omega
   |cons x l=>
    have f:x=m.ax:=h;exact⟨l,by rw[f]⟩
  ·rintro⟨k,rfl⟩;rfl
 by_cases c:m.kind=1
 ·by_cases a:idx l m.ax 0<0
  ·have b:m.kind=1/\uy l≠m.ax:=⟨c,λh=>by rw[e]at h;omega⟩;rw[if_pos b,if_pos a]
  ·by_cases g:0<idx l m.ax 0
   ·have b:m.kind=1/\uy l≠m.ax:=⟨c,λh=>by rw[e]at h;omega⟩;have d:m.kind=1/\0<idx l m.ax 0:=⟨c,g⟩;rw[if_pos b,if_neg a,if_pos d]
   ·have b:¬(m.kind=1/\uy l≠m.ax):=λh=>h.2 (e.2 ω);have d:¬(m.kind=1/\0<idx l m.ax 0):=λh=>g h.2;rw[if_neg b,if_neg a,if_neg a,if_neg d]
 ·have b:¬(m.kind=1/\uy l≠m.ax):=λh=>c h.1;have d:¬(m.kind=1/\0<idx l m.ax 0):=λh=>c h.1;rw[if_neg b];by_cases a:idx l m.ax 0<0
  ·rw[if_pos a,if_pos a]
  ·rw[if_neg a,if_neg a,if_neg d]
theorem vC{c:Cf}{m:Ms}{row:List Bool}(f:Gw c)(e:aj 1 h m.bits (aY row))(q:row.length<100000)
 (A:∀a s,aj 1 a s (ints (a_ c.vals.len c.aQ m row).1)->Ext h a->(∀l,s.a=some l->h.size<=l.b)->R (ama [.slice s,.bool (a_ c.vals.len c.aQ m row).2]).val a):Cl 176 [c.tv,m.tv] h R:=by
 apply tu c.vals c.ep c.aQ c.no c.eV c.eH c.quo c.pe c.iy c.win c.bH c.dec m.kind m.slot m.target m.ax m.body m.bits m.tag;delta dK U7 eY nY Wv d_ uQ aN aT fD;refine aa λI v1 J V=>aa λB o C W=>?_;have v1:Var 24 B h.size c.tv:=Var.ext (t:=c.tv) v1 C;have o:Var 58 B I.size m.tv:=o;have D:=J.trans C;refine bB o (yJ (e.ext D) q λK u=>⟨_,rfl,?_⟩);have g:=D.trans u;have E:=v1.ext u;have L:=o.ext u;have M:=L.at;obtain⟨F,G,X,v,Y,N,Z⟩:=M
 have p:∀a,Ext h a->a_ c.vals.len c.aQ m row=([],false)->R (ama [.slice al3,.bool false]).val a:=λa x b=>by
  have:=A a al3 (by rw[b];exact RR a) x (λl q=>by cases q);rw[b]at this;exact this
 refine amj (λi=>p K g ?_) λi=>⟨_,F,ID (λr=>?_) λr=>?_⟩
 ·unfold a_;rw[if_pos (by simpa using i)]
 ·have i:¬dU m row=false:=by simpa using i
  refine td E ⟨_,G,_,N,?_⟩;refine Pw (c:=c) f (e.ext g) (λj d O=>⟨_,_,rfl,p j (g.trans d) ?_⟩) λj P Q d S T U=>⟨_,_,rfl,?_⟩
  ·unfold a_;rw[if_neg i,if_pos r,if_pos O]
  ·have b:a_ c.vals.len c.aQ m row=(pk (mem c.vals.len c.aQ m.slot) row,true):=by
    unfold a_;rw[if_neg i,if_pos r,if_neg (λw=>w.elim T (λw=>w U))]
   have:=A j P (by rw[b];exact Q.elems) (g.trans d) (λl q=>amR g.size (S l q));rw[b]at this;exact this
 ·have i:dU m row=true:=by simpa using i
  have b:=Nv (n:=c.vals.len) (aQ:=c.aQ) i r
  have H:∀a,Ext h a->a_ c.vals.len c.aQ m row=([m.ax],true)->R (ama [.slice (ami (some (Vc.Loc.mk a.size 0)) 1 1),.bool true]).val (a.push (Vc.row (al4 [TV.i m.ax]) 3)):=λa x b=>by
   have:=A _ ⟨some ⟨a.size,0⟩,1,1⟩ (by rw[b];exact RS a m.ax) (x.trans (amf _ _)) (λl q=>by obtain rfl:=Option.some.inj q;exact x.size);rw[b]at this;exact this
  refine td E ⟨_,G,_,v,?_⟩;refine L8 (c:=c) f λj d=>⟨_,rfl,ID (λk=>p j (g.trans d) ?_) λk=>⟨_,mI d F,ID (λy=>ID (λz=>p j (g.trans d) ?_) λz=>⟨_,mI d v,H j (g.trans d) ?_⟩) λy=>⟨_,mI d v,H j (g.trans d) ?_⟩⟩⟩
  ·rw[b,if_pos k]
  ·rw[b,if_neg k,if_pos ⟨y,z⟩]
  ·rw[b,if_neg k,if_neg (λh=>z h.2)]
  ·rw[b,if_neg k,if_neg (λh=>y h.1)]
end
end Board
namespace Board
theorem bpl{n:Nat}{x:Bs n}:(amq n x).plain=true:=by simp only[TV.plain]
section
variable{R:Rq}{h:af}
theorem aaZ(L:List Vd){m:Ms}(row:List Bool)(q:m.kind=3)(x:Int):ud L m row x=GO (FB L x) (dA (om m x) []):=by
 unfold ud B8 Eh;rw[if_pos q,if_pos q];rfl
theorem X0{n:Nat}{aQ:Int}{L:List Vd}{m:Ms}{row:List Bool}(q:(a_ n aQ m row).2=true)(A:m.kind≠3):(a_ n aQ m row).1=[m.ax]/\mB n aQ L m row=(GO (FB L m.ax) (dA m row),true):=by
 have b:=Nv (n:=n) (aQ:=aQ) (Lf q) A
 have a:a_ n aQ m row=([m.ax],true):=by
  rw[b]at q⊢;split at q
  ·cases q
  ·rename_i a;rw[if_neg a];split at q
   ·cases q
   ·rename_i c;rw[if_neg c]
 refine⟨by rw[a],?_⟩;unfold mB;rw[a,if_pos rfl];show(IJ (al0 16) (ud L m row m.ax),true)=_;rw[aaR];unfold ud B8 Eh;rw[if_neg A,if_neg A]
set_option maxHeartbeats 400000 in
theorem HS{c:Cf}{m:Ms}{row:List Bool}{L:List Vd}(f:Gw c)(H:aj 2 h c.vals (jx L))(Z:∀v∈L,v.key.length<=64)(e:aj 1 h m.bits (aY row))(hl:row.length<500)(am:j9 m)
 (I:∀X,Ext h X->R (ama [.bytes 16 (mB c.vals.len c.aQ L m row).1,.bool (mB c.vals.len c.aQ L m row).2]).val X):Cl 155 [c.tv,m.tv] h R:=by
 apply AK c.vals c.ep c.aQ c.no c.eV c.eH c.quo c.pe c.iy c.win c.bH c.dec m.kind m.slot m.target m.ax m.body m.bits m.tag;delta gz eG fH dK QF dx eY rD jr dD eW aN bK;have lv:L.length=c.vals.len:=by have:=H.len;rwa [al1]at this
 have f4:=f.len;refine aa λh1 v1 z s1=>aa λh2 A r s2=>aa λY v3 G s3=>?_;have v1:Var 24 Y h.size c.tv:=(Var.ext (t:=c.tv) v1 r).ext G;have A:Var 58 Y h1.size m.tv:=Var.ext (t:=m.tv) A G;have ab:=(z.trans r).trans G;refine td v1 (bB A (vC f (e.ext ab) ω λJ s4 K B _=>⟨_,_,rfl,?_⟩));have o:=ab.trans B;have w1:=v1.ext B;have s:=A.ext B;have M:=v3.ext B;refine amj (λd=>?_) λd=>?_
 ·have q:mB c.vals.len c.aQ L m row=(al0 16,false):=by
   unfold mB;rw[if_neg (by simpa using d)]
  refine aq M (t:=.bytes 16 (al0 16)) rfl rfl λN v5 f5 s5=>⟨_,v5.bytes,?_⟩;have:=I N (al2 o f5 λi hi=>by have:=z.size;have:=r.size;omega);rw[q]at this;exact this
 have d:(a_ c.vals.len c.aQ m row).2=true:=by simpa using d
 have ao:=lY (Lf d);refine⟨_,s.at.1,amj (λg=>?_) λg=>?_⟩
 ·have g:m.kind≠3:=by simpa using g
  obtain⟨ap,q⟩:=X0 (L:=L) d g;have O:0<=m.ax/\m.ax<c.vals.len:=mem_range (GP (x:=m.ax) (by rw[ap];exact List.mem_singleton.2 rfl));refine⟨c.vals,w1.at.1,_,s.at.2.2.2.1,?_⟩;refine(H.ext o).read O.1 ω λar tv aw u P=>?_;rw[amh]at u;obtain⟨b,w,rfl⟩:=amW.1 u;have Q:FB L m.ax=b.key:=by unfold FB;rw[amD,w];rfl
  have S:=Z b (amo w);refine⟨b.key,P.2,bB s ?_⟩;have ac:=ov m row;refine pg (e.ext o) hl ao am λN a=>⟨_,rfl,a,HR S ω λh6 k=>⟨_,rfl,?_⟩⟩;have ad:=a.trans k;refine aq (M.ext ad) (t:=.bytes 16 (GO b.key (dA m row))) rfl wI λD U f7 s7=>⟨_,U.bytes,?_⟩;have:=I D (al2 (o.trans ad) f7 λj hj=>by have:=z.size;have:=r.size;omega);rw[q,Q]at this;exact this
 ·have g:m.kind=3:=by simpa using g
  have q:mB c.vals.len c.aQ L m row=(fI ((a_ c.vals.len c.aQ m row).1.map (ud L m row)) (al0 16),true):=by
   unfold mB;rw[if_pos d]
  have ae:∀x∈(a_ c.vals.len c.aQ m row).1,0<=x/\x<c.vals.len:=λx E=>mem_range (GP E);have aE:=si (n:=c.vals.len) (aQ:=c.aQ) (m:=m) (row:=row);generalize(a_ c.vals.len c.aQ m row).1=l at K q ae aE;have el:=iP K
  refine⟨λσ hh=>0<=σ.2/\σ.2<=s4.len/\Vc.Own 56 16 hh σ.1 (tags ((l.take σ.2.toNat).map (ud L m row)))/\(∀p,σ.1.a=some p->J.size<=p.b)/\Ext J hh,λσ _=>((s4.len:Int)-σ.2).toNat,
   ⟨al8 0,Ω,Vc.Own.nil _ _ _,(λp y=>by cases y),amc _⟩,?_⟩
  rintro⟨t,i⟩ N ⟨i0,i1,F,V,a⟩;dsimp only at i0 i1 F V a⊢;refine ID (λhi=>?_) λhi=>?_
  ·refine gB (K.ext a) i0 ω λx E=>?_;have O:=ae x (amo E);refine⟨c.vals,(w1.ext a).at.1,?_⟩;refine((H.ext o).ext a).read O.1 ω λar tv aw u P=>?_;rw[amh]at u;obtain⟨b,w,rfl⟩:=amW.1 u;have Q:FB L x=b.key:=by unfold FB;rw[amD,w];rfl
   have S:=Z b (amo w);refine⟨b.key,P.2,_,(s.ext a).at.2.1,_,(s.ext a).at.2.2.1,?_⟩;have ac:(dA ⟨2,m.slot,m.target,x,0,al3,al0 16⟩ []).length<=60+([]:List Bool).length:=ov _ _;refine Fc λh6 k=>⟨_,rfl,k,?_⟩;refine HR S (by simp only[List.length_nil]at ac;omega) λD x7=>⟨_,rfl,?_⟩;have a0:GO b.key (dA (om m x) [])=ud L m row x:=by rw[aaZ L row g,Q]
   have W:=k.trans x7;have o8:=F.ext W;have tl:=o8.len;rw[al1,al1,amr]at tl;refine cD (C:=ctx) (T:=56) (sz:=16) (x:=.bytes 16 (GO b.key (dA (om m x) []))) aau VK (by rw[I1];decide) (by rw[I1];omega) o8 b16 bpl λs9 h9 o9 f9 b9=>?_;rw[wrap_i64 (n:=i+1) ω ω];have x9:Ext J h9:=al2 (a.trans W) f9 λj⟨p,y,hj⟩=>by have:=V p y;omega
   have z8:=(a.trans W).size;refine⟨⟨ω,ω,?_,λp y=>?_,x9⟩,Ω⟩
   ·rw[show(i+1).toNat=i.toNat+1 by omega,aU E,amt,amx,amC,<-a0];simpa[tags]using o9
   ·rcases b9 p y with⟨p',al,a3⟩|al
    ·have:=V p' al;omega
    ·omega
  ·have a1:l.take i.toNat=l:=amK ω;rw[a1]at F;refine Pu F.elems (by rw[al1];omega) λh6 k=>⟨_,rfl,?_⟩;have a2:=(o.trans a).trans k;refine aq ((M.ext a).ext k) (t:=.bytes 16 (fI (l.map (ud L m row)) (al0 16))) rfl rfl λD U f7 s7=>⟨_,U.bytes,?_⟩;have:=I D (al2 a2 f7 λj hj=>by have:=z.size;have:=r.size;omega);rw[q]at this;exact this
theorem L_{c:Cf}{m:Ms}{row:List Bool}{L:List Vd}(f:Gw c)(q:aj 2 h c.vals (jx L))(A:∀v∈L,v.key.length<=64)(e:aj 1 h m.bits (aY row))(B:row.length<500)(E:j9 m)
 (H:∀j,Ext h j->R (amw (kj c.vals.len c.aQ L m row)).val j):Cl 185 [c.tv,m.tv] h R:=by
 apply xL c.vals c.ep c.aQ c.no c.eV c.eH c.quo c.pe c.iy c.win c.bH c.dec m.kind m.slot m.target m.ax m.body m.bits m.tag;delta dK U5 aO eY rD lq;refine aa λr v1 s C=>aa λk b l D=>?_;have v1:Var 24 k h.size c.tv:=Var.ext (t:=c.tv) v1 l;have b:Var 58 k r.size m.tv:=b;have d:=s.trans l;refine td v1 (bB b (HS f (q.ext d) A (e.ext d) B E λu n=>⟨_,_,rfl,?_⟩));refine aa λF v4 w G=>aq v4 (t:=.bytes 16 (mB c.vals.len c.aQ L m row).1) rfl rfl λo x f5 I=>?_;have p:Ext u o:=al2 w f5 λi J=>ω;have y:=(d.trans n).trans p;have a:=H o y;unfold kj at a;refine amj (λg=>?_) λg=>?_
 ·rw[g,amO]at a;have z:=(b.ext n).ext p;exact⟨_,x.bytes,m.tag,z.at.2.2.2.2.2.2,a⟩
 ·rw[g,Bool.false_and]at a;exact a
theorem Lh{c:Cf}{m:Ms}{row:List Bool}(f:Gw c)(e:aj 1 h m.bits (aY row))(hl:row.length<500)
 (A:∀u v,aj 34 u v (Et (jG c.vals.len c.aQ m row))->Ext h u->(∀p,v.a=some p->h.size<=p.b)->R (amL v).val u):Cl 111 [c.tv,m.tv] h R:=by
 apply xM c.vals c.ep c.aQ c.no c.eV c.eH c.quo c.pe c.iy c.win c.bH c.dec m.kind m.slot m.target m.ax m.body m.bits m.tag;delta dK U6 sD dx eY pR jr dD eW aN bK;have f4:=f.len;refine aa λL v1 M s1=>aa λz q B s2=>?_;have v1:Var 24 z h.size c.tv:=Var.ext (t:=c.tv) v1 B;have q:Var 58 z L.size m.tv:=q;have D:=M.trans B;refine td v1 (bB q (vC f (e.ext D) ω λg E w F _=>⟨_,_,rfl,?_⟩));have r:=D.trans F;have G:=q.ext F;intro J N;refine amj (λk=>?_) λk=>⟨_,G.at.1,ID (λy=>?_) λy=>N _ _ ?_⟩
 ·have b:jG c.vals.len c.aQ m row=[]:=if_pos (.inl (by simpa using k));exact A g al3 (by rw[b];exact aj.Bf _ _) r (λp a=>by cases a)
 ·have b:jG c.vals.len c.aQ m row=[]:=if_pos (.inr y);exact A g al3 (by rw[b];exact aj.Bf _ _) r (λp a=>by cases a)
 ·have k:(a_ c.vals.len c.aQ m row).2=true:=by simpa using k
  have b:jG c.vals.len c.aQ m row=(a_ c.vals.len c.aQ m row).1.map λi=>⟨i,m.slot,m.target⟩:=if_neg (by rw[k];rintro(h|h);cases h;exact y h);have O:=si (n:=c.vals.len) (aQ:=c.aQ) (m:=m) (row:=row);generalize(a_ c.vals.len c.aQ m row).1=l at w b O;have el:=iP w
  refine⟨λσ H=>0<=σ.2/\σ.2<=E.len/\Vc.Own 124 34 H σ.1 (Et ((l.take σ.2.toNat).map λi=>⟨i,m.slot,m.target⟩))/\(∀p,σ.1.a=some p->g.size<=p.b)/\Ext g H,λσ _=>((E.len:Int)-σ.2).toNat,
   ⟨al8 0,Ω,Vc.Own.nil _ _ _,(λp a=>by cases a),amc _⟩,?_⟩
  rintro⟨t,i⟩ P ⟨I,Q,o,s,d⟩;dsimp only at I Q o s d⊢;refine ID (λS=>?_) λS=>?_
  ·refine gB (w.ext d) I ω λx U=>?_;have w5:=G.ext d;refine⟨_,w5.at.2.1,_,w5.at.2.2.1,?_⟩;have V:=o.len;rw[al1,al1,amr]at V;refine cD (C:=ctx) (T:=124) (sz:=34) (x:=Vt.tv ⟨x,m.slot,m.target⟩) aax VL (by rw[FC];decide) (by rw[FC];omega) o (Vt.size _) (Vt.plain _) λs9 W X f9 Y=>?_;rw[wrap_i64 (n:=i+1) ω ω];have Z:Ext g W:=al2 d f9 λj⟨p,a,hj⟩=>by have:=s p a;omega
   have z5:=d.size;refine⟨⟨ω,ω,?_,λp a=>?_,Z⟩,Ω⟩
   ·rw[show(i+1).toNat=i.toNat+1 by omega,aU U,amt];simpa[Et]using X
   ·rcases Y p a with⟨p',K,ac⟩|K
    ·have:=s p' K;omega
    ·omega
  ·have ab:l.take i.toNat=l:=amK ω;rw[ab]at o;exact A P t (by rw[b];exact o.elems) (r.trans d) λp a=>amR r.size (s p a)
end
end Board
namespace Gate
open Board (Vd Cf Ms Dm Gw jx aq aY bh dF bw bB fR cv gF pX)
open Pool (It qw RL fq eM Dw rts dY oF has)
theorem FH{c:Cf}{V:List Vd}(k:Can c V)(h:V.length=c.vals.len):Gw c:=⟨k.aQ.1,by have:=k.aQ.2.2;omega,k.aQ.2.1,by have:=k.len.2;omega⟩
theorem If.no'{b:Bool}{P Q:Prop}(h:b=false)(q:Q):If b P Q:=by rw[h];exact ame q
theorem If.ag5{b:Bool}{P Q:Prop}(h:b=true)(q:P):If b P Q:=by rw[h];exact amp q
section
variable{R:Rq}{h h':af}{g:Nat}{a:RAd}{c:Cf}{V:List Vd}{s:St}{Fp:Nat->Nat->Prop}
theorem aZ.tok(p:aZ h g a c V s Fp):rz s.N c.no:=by obtain⟨A,B,D,b,d⟩:=p.tree;exact b.ok
theorem aZ.el(p:aZ h g a c V s Fp):V.length=c.vals.len:=by have:=p.vals.len;simp_all
theorem Sa(p:aZ h g a c V s Fp){k:Nat}(kp:Kept c s k)(hk:k<100000){peer:Int}{text:LU}(ht:text.length<1000)
 (M:∀h' Fp',aZ h' g a c V (aG c V s peer text).2 Fp'->Step (dm Fp) h (dm Fp') h'->R (TV.i (aG c V s peer text).1).val h'):
 Cl 120 [.ptr (PT g),.i peer,.str text] h R:=by
 apply qW;delta j3 eG jZ jY aD gK i_ yh mw cu eY dJ jW dz bz dX aN eU bJ bK aT bA;have kl:=kp.left;have kn:=kp.now;have cw:=Clock.CP c.win;have cp:=p.can.pe;have ch:=p.good.2;have el:=p.el;have a4:=FH p.can el;have keys:=wS p.can;have a5:=p.tok
 have f:aG c V s peer text=if decide (Peers.score s.sc peer<=-c.bH)=true then(3,s)else if c.iy<text.length then(4,s)else match dF text with
  |none=>(5,s)
  |some d=>if dw c V s (d.ms al3) d.row≠0 then(dw c V s (d.ms al3) d.row,s)
   else if d.kind=1 then c5 c s peer (d.ms al3) d.row text
   else((dY zU c.eH c.quo peer text s.wait).1,{s with wait:=(dY zU c.eH c.quo peer text s.wait).2.2}):=rfl
 generalize aG c V s peer text=bt at f M
 have E:∀(n:af)(v:Int),bt=(v,s)->Ext h n->R (TV.i v).val n:=λn v e x=>by
  subst e;exact M n Fp (p.ext x) (.an x)
 obtain⟨ti,ba,C⟩:=p.var;obtain⟨wA,wB,wp,hW⟩:=p.who;refine⟨_,C.ah rfl,Peers.Pm wp ω (Peers.CN p.good.1) ⟨_,rfl,?_⟩⟩;rw[show decide (c.bH<=-Peers.score s.sc peer)=decide (Peers.score s.sc peer<=-c.bH)from decide_eq_decide.2 ⟨λh=>ω,λh=>ω⟩];refine amj (λj=>E h 3 (by simp_all) (amc _)) λj=>?_;rw[if_neg (by simp_all)]at f;refine⟨c.iy,C.ah rfl,ID (λK=>E h 4 (by simp_all) (amc _)) λK=>?_⟩;rw[if_neg K]at f;refine gF ht (λbx h2 x2=>?_) λd h2 b N e2 x2 _=>?_
 ·rw[bx]at f;refine⟨_,_,_,_,_,_,_,_,rfl,aa λh3 v3 x3 s3=>aq (t0:=bh.tv) v3 cv fR λK v4 f4 s4=>?_⟩;exact amp (E K 5 f (x2.trans (al2 x3 f4 λi A=>aml (amm A))))
 rw[N]at f;simp only at f;refine⟨_,_,_,_,_,_,_,_,rfl,aa λh3 v3 x3 s3=>aq (t0:=bh.tv) v3 cv fR λK v4 f4 s4=>?_⟩;have a6:=al2 x3 f4 λi A=>aml (amm A);have x4:=x2.trans a6;have v4:=v4;have e4:=e2.ext a6;have a7:=oF N;have bN:=Board.lY (pX N);have a8:=Pool.Kq N b;refine ame (bB v4 (Board.cW e4 a7 bN a8 λh5 x5=>⟨_,rfl,?_⟩));refine aa λh6 v6 x6 s6=>aq v6 eM.symm (eM.trans eM.symm) λO v7 f7 s7=>?_;have b0:=al2 x6 f7 λi A=>aml (amm A);have ao:=x5.trans b0;have Y:=x4.trans ao;obtain⟨name,ap⟩:∃name,name=bw (d.ms b) d.row:=⟨_,rfl⟩;rw[<-ap]at v7;have b1:bw (d.ms al3) d.row=name:=by rw[ap];exact GS.symm
 have F:=v4.ext ao;obtain⟨w,hw⟩:∃w,w=dw c V s (d.ms al3) d.row:=⟨_,rfl⟩
 have l:w=if fK c s d.kind d.slot=false then 6 else if(Board.a_ V.length c.aQ (d.ms b) d.row).2=false then 7 else if Board.kj V.length c.aQ V (d.ms b) d.row=false then 8 else if iD s d.kind name=true then 9 else 0:=by
  rw[hw,<-KW (b:=b)];unfold dw;rw[<-ap];rfl
 rw[<-hw]at f;have stop:∀(n:af)(v:Int),w=v->v≠0->Ext h n->R (TV.i v).val n:=λn v e hv x=>E n v (by rw[f,if_pos (by rw[e];exact hv),e]) x;intro J HJ
 have a9:∀(n:af)(z:Int),Ext O n->¬fK c s d.kind d.slot=false->J z n:=by
  intro n z Z ha;refine HJ z n ?_;rw[if_neg ha]at l;have xx:=Y.trans Z;have ph:=p.ext xx;have vh:Var 58 n h2.size (d.ms b).tv:=F.ext Z;have eh:=e4.ext (ao.trans Z);obtain⟨ti,ba,C⟩:=ph.var;refine⟨c.vals,c.ep,c.aQ,c.no,c.eV,c.eH,c.quo,c.pe,c.iy,c.win,c.bH,c.dec,C.at.1,bB (m:=d.ms b) vh ?_⟩;refine Board.vC (c:=c) a4 eh ω λh8 s8 _ G _=>⟨_,_,rfl,?_⟩;rw[<-el];refine amj (λj=>stop h8 7 (by rw[l,if_pos (by simpa using j)]) δ (xx.trans G)) λj=>?_;have a2:¬(Board.a_ V.length c.aQ (d.ms b) d.row).2=false:=by simpa using j
  rw[if_neg a2]at l;have a':=xx.trans G;refine⟨c.vals,c.ep,c.aQ,c.no,c.eV,c.eH,c.quo,c.pe,c.iy,c.win,c.bH,c.dec,(C.ext G).at.1,bB (m:=d.ms b) (vh.ext G) ?_⟩;refine Board.L_ (c:=c) (L:=V) a4 (p.ext a').vals (λv hv=>by have:=keys v hv;omega) (eh.ext G) a7 a8 λh9 x9=>⟨_,rfl,?_⟩;rw[<-el];have ab:=a'.trans x9;have ar:=G.trans x9;refine amj (λj=>stop h9 8 (by rw[l,if_pos (by simpa using j)]) δ ab) λj=>?_;have a3:¬Board.kj V.length c.aQ V (d.ms b) d.row=false:=by simpa using j
  rw[if_neg a3]at l;have p9:=p.ext ab;have vh9:=vh.ext ar;have ac:Var 52 h9 h5.size (.bytes 32 name):=(v7.ext Z).ext ar;have P:=C.ext ar;clear C;refine⟨d.kind,vh9.at.1,?_⟩;rcases(Decidable.em (d.kind=1)).symm with y|y
  ·rw[decide_eq_false y];have aw:iD s d.kind name=has name s.wait:=by unfold iD;rw[if_neg y]
   rw[aw]at l;obtain⟨ci,bb,b2⟩:=p9.wait;refine amp ⟨_,P.ah rfl,name,ac.bytes,Pool.GD bb λad B=>⟨_,rfl,?_⟩⟩;have H:=ab.trans B;refine amj (λj=>stop ad 9 (by rw[l,if_pos j]) δ H) λj=>?_;rw[if_neg (by rw[j];decide)]at l;rw[if_neg (by rw[l];decide),if_neg y]at f;subst f;refine⟨_,(P.ext B).ah rfl,Pool.OY (peer:=peer) (text:=text) (bb.ext B) p.can.eH.1 p.can.eH.2 kp.AG ht λQ bc b3 b5=>⟨_,_,rfl,?_⟩⟩;have st:Step (Fp 4) ad (λi=>i=a.wt\/In bc i) Q:=by rw[b2];exact xJ b5
   have aE:=(p.ext H).B_ ⟨bc,b3,rfl⟩ st;refine aa λae b6 o cj=>aq (t:=.bytes 32 _) b6 eM.symm (eM.trans eM.symm) λD cl f13 s13=>?_;have bd:Ext Q D:=al2 o f13 λi A=>aml (amm A);exact M D _ (aE.ext bd) (.cut H ((amn st).trans (.an bd)))
  ·rw[decide_eq_true y];have aw:iD s d.kind name=(decide (0<=place name s.N)||has name s.kids):=by unfold iD;rw[if_pos y]
   rw[aw]at l;refine ame ?_;intro J2 bi;obtain⟨tA,tB,tD,S,hT⟩:=p9.tree;refine⟨_,P.ah rfl,_,p9.bk.ah rfl,name,ac.bytes,fA S λad B=>⟨_,rfl,?_⟩⟩;have H:=ab.trans B;refine ID (λh0=>stop ad 9 (by rw[l,if_pos (by rw[decide_eq_true h0,Bool.true_or])]) δ H) λh0=>?_;rw[decide_eq_false h0,Bool.false_or]at l;obtain⟨kA,bj,hK⟩:=p9.kids;refine⟨_,(P.ext B).ah rfl,name,(ac.ext B).bytes,Pool.GD (bj.ext B) λQ bk=>⟨_,rfl,?_⟩⟩;have a0:=H.trans bk;refine amj (λj=>stop Q 9 (by rw[l,if_pos j]) δ a0) λj=>bi _ Q ?_;rw[if_neg (by rw[j];decide)]at l;rw[if_neg (by rw[l];decide),if_pos y]at f;clear bi J2;have T:=B.trans bk;have bl:=P.ext T;have aE:=p.ext a0;have al:=vh9.ext T;have b7:=ac.ext T;have I:=S.ext T;unfold c5 at f;rw[b1]at f;have b8:(d.ms al3).target=d.target:=rfl;have b9:(d.ms al3).slot=d.slot:=rfl;rw[b8,b9]at f;refine⟨_,bl.ah rfl,_,aE.bk.ah rfl,d.target,al.at.2.2.1,fA I λae o=>⟨_,rfl,?_⟩⟩;have U:=a0.trans o;have W:=p.ext U;have am:=bl.ext o;refine ID (λhn=>?_) λhy=>?_
   ·have en:(c8 s.N (place d.target s.N)).2=false:=by unfold c8 nodeAt;rw[if_neg ω]
    rw[if_pos en]at f;subst f;refine⟨_,am.ah rfl,Pool.OX (peer:=peer) (text:=text) ((bj.ext T).ext o) p.can.eV.1 p.can.eV.2 kp.Cd ht λD bm b' ca=>⟨_,_,rfl,?_⟩⟩;have st:Step (Fp 3) ae (λi=>i=a.kd\/In bm i) D:=by rw[hK];exact xJ ca
    have a1:=W.tj ⟨bm,b',rfl⟩ st;refine aa λcs cc cd ct=>aq (t:=.bytes 32 _) cc eM.symm (eM.trans eM.symm) λbo v15 f15 cx=>?_;have bp:Ext D bo:=al2 cd f15 λi A=>aml (amm A);exact M bo _ (a1.ext bp) (.cut U ((amn st).trans (.an bp)))
   ·obtain⟨q,u,q1,q2,q3,q4,q5⟩:=fG (r:=d.target) (L:=s.N) ω;have br:s.N[(place d.target s.N).toNat]? =some u:=by rw[q2,amd];exact q3
    have en:c8 s.N (place d.target s.N)=(u,true):=ig ω br;rw[en]at f;rw[if_neg (λh=>by cases h)]at f;refine⟨_,am.ah rfl,_,W.bk.ah rfl,tB,(I.ext o).var.ah rfl,qL (I.ext o).b.elems ω (CL br) ⟨d.slot,(al.ext o).at.2.1,?_⟩⟩;refine ID (λhs=>?_) λhs=>?_
    ·rw[if_pos hs]at f;exact E ae 10 f U
    ·rw[if_neg hs]at f;refine⟨_,am.ah rfl,_,W.bk.ah rfl,tA,(I.ext o).var.ah rfl,_,am.ah rfl,_,W.bk.ah rfl,c.no,(I.ext o).var.ah rfl,?_⟩;have tl:=(I.ext o).la;have ol:=a5.len;refine ID (λhf=>?_) λhf=>?_
     ·rw[if_pos ω]at f;exact E ae 13 f U
     ·rw[if_neg ω]at f;subst f;have ko:=kp.Cd;have co:=p.can.eV;refine⟨name,(b7.ext o).bytes,d.target,(al.ext o).at.2.2.1,d.slot,(al.ext o).at.2.1,R9 W ω ω λD ce a1 cf=>⟨rfl,M D ce a1 (.cut U cf)⟩⟩
 have X:=p.ext Y;obtain⟨cy,cA,vg7⟩:=X.var;have slot:=Board.XT (pX N);have cB:0<=d.slot/\d.slot<=1073741824:=slot;refine⟨d.kind,F.at.1,ID (λy=>?_) λy=>?_⟩
 ·obtain⟨tA,tB,tD,S,hT⟩:=X.tree;have l0:=a5.Gf;obtain⟨u,hu⟩:∃u,s.N[(0:Int).toNat]? =some u:=⟨_,al7 l0⟩;have ef:bT s=u:=by unfold bT;rw[ig (al8 0) hu]
  have ea:fK c s d.kind d.slot=Clock.vt s.now u.slot d.slot:=by unfold fK;rw[if_pos y,ef]
  refine⟨_,vg7.ah rfl,_,vg7.ah rfl,_,X.bk.ah rfl,tB,S.var.ah rfl,qL S.b.elems (al8 0) (CL hu) ⟨d.slot,F.at.2.1,Clock.RH X.kz ⟨_,rfl,?_⟩⟩⟩;rw[<-ea];refine amj (λj=>stop O 6 (by rw[l,if_pos (by simpa using j)]) δ Y) λj=>?_;exact⟨d.kind,F.at.1,If.no' (by rw[decide_eq_true y];rfl) (a9 O 0 (amc _) (by simpa using j))⟩
 ·have ea:fK c s d.kind d.slot=Clock.zS s.now (Clock.fB c.win) d.slot:=by unfold fK;rw[if_neg y]
  refine⟨d.kind,F.at.1,If.ag5 (by rw[decide_eq_false y];rfl) ⟨_,vg7.ah rfl,d.slot,F.at.2.1,Clock.TZ X.kz kn.1 kn.2 cw.1 cw.2 ω ⟨_,rfl,?_⟩⟩⟩;rw[<-ea];refine amj (λj=>stop O 6 (by rw[l,if_pos (by simpa using j)]) δ Y) λj=>?_;exact a9 O 0 (amc _) (by simpa using j)
theorem FI{v:Int}(q:0<=v/\v<14)(A:∀h',Ext h h'->R (TV.i (iu v)).val h'):Cl 56 [.i v] h R:=by
 apply vD;have a:=amf h (row (al4 [TV.i 0,TV.i 0,TV.i 0,TV.i 0,TV.i 4,TV.i 4,TV.i 1,TV.i 3,TV.i 5,TV.i 1,TV.i 3,TV.i 0,TV.i 0,TV.i 0]) 3)
 have o:=(Vc.Own.new (T:=3) h (eA [0,0,0,0,4,4,1,3,5,1,3,0,0,0]) λt b=>by
  obtain⟨x,_,rfl⟩:=al9.1 b;rfl).elems
 have c:=by
  have:∀n:Nat,n<14->[0,0,0,0,4,4,1,3,5,1,3,0,0,0][n]? =some (iu n):=δ;have:=this v.toNat ω
  rwa [show((v.toNat:Nat):Int)=v by omega]at this
 obtain⟨d,f,e⟩:=qL o q.1 c (K:=λn=>R (TV.val (.i n)) _) (A _ a);exact⟨d,q.2,e⟩
theorem Li{peer:Int}{text:LU}:0<=(aG c V s peer text).1/\(aG c V s peer text).1<14:=by
 have a:∀{want:Int->Bool}{most quota:Int}{S:List It},0<=(dY want most quota peer text S).1/\(dY want most quota peer text S).1<14:=by
  grind [Pool.cV,dY]
 grind [c5,aG,dw]
theorem HT{P P':List (Int×Int)}{most k pts n:Int}(g:Peers.Good P)(A:(P.length:Int)<=most)(q:(Lit.int .i64 k).wf=true)(f:Peers.lN most P k pts P' n):Peers.Good P'/\(P'.length:Int)<=most:=by
 rcases f with⟨_,rfl,_⟩|⟨a,c,_,rfl⟩|⟨a,_,_,_,w,b,rfl⟩
 ·simp_all
 ·refine⟨g.put q (Peers.B7 (Peers.CN g k) a),?_⟩
  grind [absurd,Peers.D9]
 ·have d:=Peers.drop_length b.1;refine⟨(g.drop w).put q (Peers.B7 ⟨δ,al8 0⟩ a),?_⟩
  grind [Peers.D9]
theorem Dz(p:aZ h g a c V s Fp){k:Nat}(E:Kept c s k)(U:k<100000){peer:Int}(H:(Lit.int .i64 peer).wf=true){text:LU}(I:text.length<1000)
 (J:∀h' P n C,aZ h' g a c V {(aG c V s peer text).2 with sc:=P,gone:=s.gone+n} C->Step (dm Fp) h (dm C) h'->Peers.lN c.pe s.sc peer (iu (aG c V s peer text).1) P n->R (TV.i (aG c V s peer text).1).val h'):
 Cl 43 [.ptr (PT g),.i peer,.str text] h R:=by
 apply oS;delta jZ dJ aT;have kg:=E.gone;have W:=p.can.pe;have y:=p.good;obtain⟨_,j1,D,_,_⟩:=zj (V:=V) E (peer:=peer) I;have Sb:=Li (c:=c) (V:=V) (s:=s) (peer:=peer) (text:=text);generalize X:aG c V s peer text=m at J j1 D Sb;refine Sa p E U I λh1 F u Y=>?_;rw[X]at u⊢;obtain⟨G,K,o⟩:=u.var;obtain⟨A,B,L,Z⟩:=u.who;refine⟨_,rfl,_,o.ah rfl,FI Sb λh2 w=>⟨_,rfl,w,?_⟩⟩;rw[j1,D]at L;refine Peers.Le Peers.Po (L.ext w) ω y.1 H ω W.1 λq A' B' P n M ab N=>⟨rfl,?_⟩
 have st:Step (F 5) h2 (Peers.dV a.wh A' B') q:=by
  rw[Z];exact⟨N.1,N.2⟩
 have gd:=HT y.1 y.2 H M;have x:=(u.ext w).CR (P:=P) (gone:=s.gone+n) ⟨A',B',ab,rfl⟩ gd st;have O:=(Y.trans (.an w)).trans (amn st);obtain⟨z,ac⟩:∃z,z=nT F 5 (Peers.dV a.wh A' B'):=⟨_,rfl⟩;rw[<-ac]at x O
 have Q:∀(d:af)(e l:Bool),Var 80 d g (zn c a m.2.left e l)->ag (·=g) q d->R (TV.i m.1).val d:=λd e l v f=>by
  obtain⟨p4,ad⟩:=x.VS (n:=m.2.left) ⟨e,l,v⟩ f;exact J d P n z p4 (O.trans ad) M
 obtain⟨G,K,o⟩:=x.var;obtain⟨A3,B3,ae,_⟩:=x.who;intro S HJ
 have j:∀(d:af)(e l:Bool),Var 80 d g (zn c a m.2.left e l)->ag (·=g) q d->S amU d:=λd e l v f=>by
  refine HJ _ d ⟨_,v.ah rfl,?_⟩;cases l with
  |true=>exact amp (aI v (i:=8) (t:=.bool true) rfl rfl rfl rfl λr v4 f4 T=>Q r e _ v4 (f.trans f4))
  |false=>exact ame (aI v (i:=8) (t:=.bool (decide (m.1=3))) rfl rfl rfl rfl λr v4 f4 T=>Q r e _ v4 (f.trans f4))
 refine⟨_,o.ah rfl,?_⟩
 have set:∀b:Bool,gT q g 18 1/\Bind (amT q g 18 (.bool b)) λh=>S amU h:=λb=>
  aI o (i:=7) (t:=.bool b) rfl rfl rfl rfl λr v4 f4 T=>j r b K v4 f4
 cases G with
 |true=>exact amp (set true)
 |false=>exact ame (ID (λ_=>set true) λ_=>If.dec.2 ⟨λ_=>set true,λ_=>⟨_,o.ah rfl,_,ae.var.ah rfl,set _⟩⟩)
end
end Gate
end Go.Proofs.YtennbinbffdimaaGreat

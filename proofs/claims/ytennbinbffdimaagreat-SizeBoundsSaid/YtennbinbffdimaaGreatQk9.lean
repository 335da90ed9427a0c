/- Texts that the proof needs, joined. -/
import Derived.Shelf.SlIterI.Nil
import Derived.Shelf.SortM.Plain
import Derived.Shelf.SortM.SortNone
import Derived.Ground.GgzProg
import Derived.Ground.SlgmProg
import Derived.Test.YtennbinbffdimaaGreatProg
import Derived.Test.YtennbinbffdimaaGreatQk5
import Derived.Test.YtennbinbffdimaaGreatQk8
set_option maxRecDepth 100000
open List renaming mem_map->aki,length_map->ako,map_map->aks,length_append->aku,getElem?_eq_getElem->akv,map_cons->aky,length_eq_one_iff->akD,range->akF,mem_cons->akG,replicate->akJ,map->akN,mem_of_getElem?->akO,nodup_cons->akP,getElem?_eq_some_iff->akS,map_append->akT,filterMap_cons->akV,getElem?_map->akW,mem_range->akX,nodup_nil->akY,length_cons->akZ,mem_cons_of_mem->ak0,length_take->ak1
open Go.Vc.ak renaming cells->akj
open Go.Vc.TV renaming ptr->akk,bool->akn,bg->akx,int->akE,bytes->akI,size->akK,str->akR
open Go.Vc.Ext renaming push->akl,refl->akp
open Go.Vc.ag renaming cut->akm
open Go.IntKind renaming wrap->akq
open Nat renaming le_refl->akr,le_of_eq->akM
open Go.Vc.If renaming split->akt,no->akz,dec->akB,yes->akQ
open Int renaming le_refl->akw
open Go.Vc.Bs renaming zero->akA
open Go.Vc.Loc renaming mk->akC
open Go.Lit renaming int->akH
open Bool renaming true_and->akL
open Array renaming getElem?_eq_some_iff->akU
namespace Go.Proofs.YtennbinbffdimaaGreat
open Go Go.Vc
namespace Gate
open Board (aq wI)
open Pool (rts eM Dw pq GI CJ)
theorem sG:(ctx.ti 3).bytes=8:=κ
theorem MR:(ctx.ti 3).size=1:=κ
theorem Gs:(ctx.ti 3).z.size=1:=κ
section
variable{R:Rq}{h h':af}{s:Sl}{L:List (Bs 32)}{l:List Int}
theorem pE:(rts L).length=L.length:=by grind
theorem TR{x:Bs 32}{K:Sl->af->Prop}(o:Vc.Own 52 32 h s (rts L))(q:L.length<100000)(E:∀a h',Vc.Own 52 32 h' a (rts (L++[x]))->ag (In s) h h'->(∀i,In a i->In s i\/h.size<=i)->K a h'):
 ∃new,cn (h.push (row (akj [akI 32 x]) 52)) (Sl.mk (some (Vc.Loc.mk h.size 0)) 1 1) 32 new/\(∀v∈new,bU v=true)/\au ctx 52 s 1 new (h.push (row (akj [akI 32 x]) 52)) K:=by
 have c:=o.len;rw[pE]at c;refine cD GI CJ (by rw[pq];decide) (by rw[pq];omega) o eM Dw λa h' g d e=>E a h' (by simp_all) d λi⟨l,q,j⟩=>?_;rcases e l q with⟨f,b,k⟩|b
 ·exact .inl ⟨f,b,ω⟩
 omega
theorem acr{x:Int}{K:Sl->af->Prop}(o:Vc.Own 3 1 h s (eA l))(q:l.length<100000)(E:∀a h',Vc.Own 3 1 h' a (eA (l++[x]))->ag (In s) h h'->(∀i,In a i->In s i\/h.size<=i)->K a h'):
 ∃new,cn (h.push (row (akj [TV.i x]) 3)) (Sl.mk (some (Vc.Loc.mk h.size 0)) 1 1) 1 new/\(∀v∈new,bU v=true)/\au ctx 3 s 1 new (h.push (row (akj [TV.i x]) 3)) K:=by
 have c:=o.len;rw[ako]at c;refine cD MR Gs (by rw[sG];decide) (by rw[sG];omega) o rfl rfl λa h' g d e=>E a h' (by simp_all) d λi⟨l,q,j⟩=>?_;rcases e l q with⟨f,b,k⟩|b
 ·exact .inl ⟨f,b,ω⟩
 omega
theorem lM(e:aj 32 h s (rts L)){i:Int}(E:0<=i){x:Bs 32}(q:L[i.toNat]? =some x){K:Bs 32->Prop}(G:K x):0<=i/\i<(s.len:Int)/\Nn s.a λl=>∃b,av h l.b (l.o+i.toNat*32) 32 b/\K b:=by
 have c:=e.len;have:=(akS.1 q).1;rw[pE]at c;refine e.read E ω λl t _ a d=>?_;rw[akW,q]at a;cases a;exact⟨x,d,G⟩
theorem qL(e:aj 1 h s (eA l)){i:Int}(E:0<=i){x:Int}(q:l[i.toNat]? =some x){K:Int->Prop}(G:K x):0<=i/\i<(s.len:Int)/\Nn s.a λl=>∃n,ah h l.b (l.o+i.toNat*1) (.i n)/\K n:=by
 have b:=e.len;have:=(akS.1 q).1;rw[ako]at b;refine e.read E ω λp t _ a c=>?_;rw[akW,q]at a;cases a;exact⟨x,c,G⟩
end
def yS(N:List Nd)(x:Nd):Bs 32:=if x.par<0 then akA 32 else((N[x.par.toNat]?).map Nd.root).getD (akA 32)
def LZ(N:List Nd):List (Bs 32):=N.map (yS N)
theorem CK{N:List Nd}{y z:Nd}(q:y.par<N.length):yS (N++[z]) y=yS N y:=by
 grind [List.getElem?_append_left,yS]
theorem aae{N:List Nd}{most:Int}(o:rz N most){y:Nd}(q:y∈N):y.par<N.length:=by
 obtain⟨i,a,rfl⟩:=List.getElem_of_mem q;have q:=akv a;by_cases b:0<i
 ·have:=(o.up i _ q b).2;omega
 ·have:i=0:=ω;subst this;rw[o.first _ q];omega
theorem Xk{N:List Nd}{most:Int}(o:rz N most){x:Nd}(q:x.par<N.length):LZ (N++[x])=LZ N++[yS N x]:=by
 unfold LZ;rw[akT,aky,List.map_nil,CK q];congr 1;exact List.map_congr_left λy a=>CK (aae o a)
theorem IY{N:List Nd}{x y:Nd}(q:0<=x.par)(h:N[x.par.toNat]? =some y):yS N x=y.root:=by
 simp_all [if_neg,yS]
structure RT(h:af)(m:Nat)(A B D:Sl)(N:List Nd)(most:Int):Prop where
 var:Var 130 h m (.agg [.slice A,.slice B,.slice D,.i most])
 a:Vc.Own 52 32 h A (rts (N.map Nd.root))
 b:Vc.Own 3 1 h B (eA (N.map Nd.slot))
 d:Vc.Own 52 32 h D (rts (LZ N))
 ok:rz N most
 ne:¬In A m/\¬In B m/\¬In D m
 ab:∀i,In A i->¬In B i
 ad:∀i,In A i->¬In D i
 bd:∀i,In B i->¬In D i
def Dx(m:Nat)(A B D:Sl)(i:Nat):Prop:=i=m\/In A i\/In B i\/In D i
section
variable{R:Rq}{h h':af}{m:Nat}{A B D:Sl}{N:List Nd}{most:Int}
theorem RT.only{S:Nat->Prop}(p:RT h m A B D N most)(f:ag S h h')(q:∀i,Dx m A B D i->¬S i):RT h' m A B D N most:=
 ⟨p.var.only f (q m (.inl rfl)),p.a.keep f λi a=>q i (.inr (.inl a)),p.b.keep f λi a=>q i (.inr (.inr (.inl a))),p.d.keep f λi a=>q i (.inr (.inr (.inr a))),p.ok,p.ne,p.ab,p.ad,p.bd⟩
theorem RT.ext(p:RT h m A B D N most)(x:Ext h h'):RT h' m A B D N most:=p.only (S:=λ_=>False) (.an x) λ_ _ a=>a
theorem RT.lt(p:RT h m A B D N most){i:Nat}(q:Dx m A B D i):i<h.size:=by
 rcases q with rfl|q|q|q
 ·exact p.var.lt
 ·exact p.a.g_ i q
 ·exact p.b.g_ i q
 ·exact p.d.g_ i q
theorem RT.la(p:RT h m A B D N most):A.len=N.length:=by have:=p.a.len;simp_all
theorem RT.lb(p:RT h m A B D N most):B.len=N.length:=by have:=p.b.len;simp_all
theorem RT.ld(p:RT h m A B D N most):D.len=N.length:=by have:=p.d.len;rw[pE]at this;unfold LZ at this;rw[ako]at this;omega
theorem yT{i:Nat}{x:Nd}(h:N[i]? =some x):(N.map Nd.root)[i]? =some x.root:=by simp_all
theorem CL{i:Nat}{x:Nd}(h:N[i]? =some x):(N.map Nd.slot)[i]? =some x.slot:=by simp_all
theorem VF{i:Nat}{x:Nd}(h:N[i]? =some x):(LZ N)[i]? =some (yS N x):=by simp_all [LZ,akW]
theorem fA(p:RT h m A B D N most){k:Bs 32}(q:∀h',Ext h h'->R (TV.i (place k N)).val h'):Cl 73 [.ptr (PT m),.bytes 32 k] h R:=by
 apply qK;delta kU aJ iZ nj cr gI bz eU bJ bK;have G:=p.la;have H:=p.ok.len;have I:=p.ok.most;refine aa λo v1 g J=>⟨A,(p.var.ext g).ah rfl,?_⟩;refine⟨λσ r=>0<=σ.2/\σ.2<=N.length/\Ext o r/\∀j:Nat,j<σ.2->∀y,N[j]? =some y->y.root≠k,λσ _=>(N.length-σ.2).toNat,⟨akw 0,ω,akp _,λj b=>ω⟩,?_⟩;rintro⟨z,i⟩ s ⟨t,K,c,u⟩;have d:=g.trans c;refine ID (λe=>?_) λe=>?_
 ·obtain⟨x,l⟩:∃x,N[i.toNat]? =some x:=⟨_,akv ω⟩;refine lM ((p.a.ext d).elems) t (yT l) ?_;refine aa λL v w M=>aq v eM.symm (eM.trans eM.symm) λC v4 f4 O=>?_;have f:=akm w f4 λi e=>akM (Eq.symm e);refine⟨_,v4.bytes,_,((v1.ext c).ext f).bytes,?_⟩;dsimp only;rw[Gb _ _];refine ID (λa=>?_) λa=>?_
  ·have:=gX p.ok.nodup l;rw[a,show(i.toNat:Nat)=i by omega]at this;rw[<-this];exact q C (d.trans f)
  ·rw[wrap_i64 ω ω];refine⟨⟨ω,ω,c.trans f,λj b y n=>?_⟩,ω⟩
   grind
 ·have E:=lV.2 λF=>by
   obtain⟨y,n,a⟩:=aki.1 F;obtain⟨j,b,rfl⟩:=List.getElem_of_mem n;exact u j ω _ (akv b) a
  have:=q s d;rw[(pQ k N).2.2 E]at this;exact this
def upI(N:List Nd)(i:Int):Int:=if 0<i/\i<N.length then((N[i.toNat]?).map Nd.par).getD (-1)else-1
theorem TS{i:Int}{x:Nd}(E:0<i)(q:N[i.toNat]? =some x):upI N i=x.par:=by
 have:=(akS.1 q).1;unfold upI
 grind
theorem Rw(p:RT h m A B D N most){i:Int}(q:∀h',Ext h h'->R (TV.i (upI N i)).val h'):Cl 285 [.ptr (PT m),.i i] h R:=by
 apply ua;delta aJ js nj dJ bJ bK aT;have g:=p.la;have b:¬(0<i/\i<N.length)->upI N i=-1:=λj=>by simp_all [if_neg,upI]
 refine ID (λd=>?_) λd=>⟨A,p.var.ah rfl,ID (λe=>?_) λe=>⟨D,p.var.ah rfl,?_⟩⟩
 ·have:=q h (akp _);rw[b ω]at this;exact this
 ·have:=q h (akp _);rw[b ω]at this;exact this
 ·obtain⟨x,a⟩:∃x,N[i.toNat]? =some x:=⟨_,akv ω⟩;have f:=p.ok.up i.toNat x a ω;obtain⟨y,c⟩:∃y,N[x.par.toNat]? =some y:=⟨_,akv ω⟩;refine lM p.d.elems ω (VF a) (fA p λk l=>⟨_,rfl,?_⟩);rw[IY f.1 c,gX p.ok.nodup c,show(x.par.toNat:Nat)=x.par by omega,<-TS ω a];simp_all
theorem GJ{root:Bs 32}{slot:Int}(E:1<=most/\most<=256)(O:0<=slot/\slot<=1073741824)
 (G:∀h' m A B D,RT h' m A B D [⟨root,slot,-1⟩] most->Ext h h'->(∀i,Dx m A B D i->h.size<=i)->R (akx [.ptr (PT m),.bool true]).val h'):
 Cl 160 [.bytes 32 root,.i slot,.i most] h R:=by
 apply Ao;delta Dr Bo C2 cr d_ bz eU bJ aT fD;refine aa λb v1 p P=>ID (λh=>ω) λ_=>akB.2 ⟨λh=>ω,λ_=>ID (λh=>ω) λ_=>akB.2 ⟨λh=>ω,λ_=>⟨root,v1.bytes,?_⟩⟩⟩;have q:=Vc.Own.new (T:=52) (sz:=32) b (rts [root]) (λt w=>by simp_all [rts,eM]);have z:akj [akI 32 root]=akj (rts [root]):=rfl;dsimp only;rw[z];have r:=akl b (row (akj (rts [root])) 52);have C:(b.push (row (akj (rts [root])) 52)).size=b.size+1:=by simp
 generalize b.push (row (akj (rts [root])) 52)=c at q r C⊢;have s:=Vc.Own.new (T:=3) c (eA [slot]) (Gm _);have F:akj [TV.i slot]=akj (eA [slot]):=rfl;rw[F];have g:=akl c (row (akj (eA [slot])) 3);have H:(c.push (row (akj (eA [slot])) 3)).size=c.size+1:=by simp
 generalize c.push (row (akj (eA [slot])) 3)=d at s g H⊢;have u:=Vc.Own.new (T:=52) (sz:=32) d (rts [akA 32]) (λt w=>by simp_all [rts,eM]);have I:akj [akI 32 (akA 32)]=akj (rts [akA 32]):=rfl;rw[I];have e:=akl d (row (akj (rts [akA 32])) 52);have J:(d.push (row (akj (rts [akA 32])) 52)).size=d.size+1:=by simp
 generalize d.push (row (akj (rts [akA 32])) 52)=K at u e J⊢;refine aa λL M f Q=>?_;have S:∀{n k j i:Nat},In (Sl.mk (some (Vc.Loc.mk n 0)) k j) i->i=n:=λ⟨l,U,a⟩=>by grind
 have ok:rz [⟨root,slot,-1⟩] most:=⟨by simp,λx o=>by grind,λi x o N=>by
  grind,by simp,λx o=>by simp_all,λi x y o N=>by
  grind,by grind,E⟩
 refine G L K.size _ _ _ ⟨M,((q.ext g).ext e).ext f,(s.ext e).ext f,u.ext f,ok,⟨λa=>?_,λa=>?_,λa=>?_⟩,λi a v=>?_,λi a v=>?_,λi a v=>?_⟩ (((((p.trans r).trans g).trans e)).trans f) λi a=>?_
 ·grind
 ·grind
 ·grind
 ·grind
 ·grind
 ·grind
 ·have:=p.size;rcases a with rfl|a|a|a<;>grind
theorem Xl(p:RT h m A B D N most){root parent:Bs 32}{slot:Int}
 (hr:∀h' A' B' D',RT h' m A' B' D' (gw N most root parent slot) most->Step (Dx m A B D) h (Dx m A' B' D') h'->R (TV.i (nV N most root parent slot)).val h'):
 Cl 249 [.ptr (PT m),.bytes 32 root,.bytes 32 parent,.i slot] h R:=by
 apply sV;delta q7 eG aJ aD jX C2 cr jW bz dX bJ bK aT bA;have la:=p.la;have hm:=p.ok.most
 have j:∀{e:Int}{q:af},Ext h q->nV N most root parent slot=e->e≠0->R (TV.i e).val q:=λ{e q} x he d=>by
  have:=hr q A B D;unfold gw at this;rw[he,if_neg d]at this;exact this (p.ext x) (.an x)
 refine aa λg v1 x1 s1=>aa λh2 P s s2=>⟨root,(v1.ext s).bytes,?_⟩;have l:=x1.trans s;refine fA (p.ext l) λh3 v=>⟨_,rfl,ID (λK=>j (l.trans v) (by unfold nV;rw[if_pos K]) δ) λK=>⟨parent,(P.ext v).bytes,?_⟩⟩;have Q:=l.trans v;refine fA (p.ext Q) λw S=>⟨_,rfl,?_⟩;have n:=Q.trans S;have y:=v.trans S;have f:=p.ext n;intro J T;refine ID (λd=>j n ?_ δ) λhp=>⟨B,f.var.ah rfl,?_⟩
 ·simp_all [nV,if_neg,nodeAt]
 obtain⟨k,u,q1,q2,q3,q4,q5⟩:=fG (r:=parent) (L:=N) ω;have M:N[(place parent N).toNat]? =some u:=by simp_all
 have ao:nodeAt N (place parent N)=some u:=by unfold nodeAt;rw[if_pos ω];exact M
 have z:nV N most root parent slot=if slot<=u.slot\/1073741824<slot then 5 else if most<=N.length then 6 else 0:=by
  unfold nV;rw[if_neg K,ao]
 refine qL f.b.elems ω (CL M) (ID (λU=>j n (by rw[z,if_pos (.inl U)]) δ) λU=>akB.2 ⟨λV=>j n (by rw[z,if_pos (.inr V)]) δ,λV=>T 0 w ?_⟩);clear T J;refine⟨A,f.var.ah rfl,most,f.var.ah rfl,ID (λhf=>j n (by rw[z,if_neg ω,if_pos ω]) δ) λhf=>?_⟩;have W:nV N most root parent slot=0:=by rw[z,if_neg ω,if_neg ω]
 clear j;have X:gw N most root parent slot=N++[⟨root,slot,place parent N⟩]:=by unfold gw;rw[if_pos W]
 rw[W,X]at hr;have Y:=p.ok.add (root:=root) (parent:=parent) (slot:=slot);rw[X]at Y;have ap:yS N ⟨root,slot,place parent N⟩=parent:=by rw[IY (by simp only;omega) M];exact q4
 have Z:=Xk p.ok (x:=⟨root,slot,place parent N⟩) (by simp only;omega);rw[ap]at Z;have aw:=l.size;have aE:=y.size;have z2:=s.size;have lt:=λi(a:Dx m A B D i)=>p.lt a;have w1:Var 52 w h.size (.bytes 32 root):=(v1.ext s).ext y;have w2:Var 52 w g.size (.bytes 32 parent):=P.ext y;refine⟨A,f.var.ah rfl,root,w1.bytes,akl _ _,TR f.a (by rw[ako];omega) λA' h5 a5 f5 C=>?_⟩;have v5:Var 130 h5 m (.agg [.slice A,.slice B,.slice D,.i most]):=f.var.only f5 p.ne.1;have b5:=f.b.keep f5 λi a c=>p.ab i c a;have d5:=f.d.keep f5 λi a c=>p.ad i c a;have u5:Var 52 h5 g.size (.bytes 32 parent):=w2.only f5 λa=>by have:=lt _ (.inr (.inl a));omega
 have E:¬In A' m:=λa=>by
  rcases C m a with b|b
  ·exact p.ne.1 b
  ·have:=lt m (.inl rfl);omega
 refine aI v5 (i:=0) (t:=.slice A') rfl rfl rfl rfl λo v6 f6 s6=>?_;have v6:Var 130 o m (.agg [.slice A',.slice B,.slice D,.i most]):=v6;have a6:=a5.keep f6 λi a e=>E ((show i=m from e)▸a);have b6:=b5.keep f6 λi a e=>p.ne.2.1 ((show i=m from e)▸a);have d6:=d5.keep f6 λi a e=>p.ne.2.2 ((show i=m from e)▸a);have u6:Var 52 o g.size (.bytes 32 parent):=u5.only f6 (show¬g.size=m by have:=lt m (.inl rfl);omega);refine⟨B,v6.ah rfl,acr b6 (by rw[ako];omega) λB' h7 b7 f7 F=>?_⟩;have a0:w.size<=o.size:=by have:=f5.size;have:=f6.size;omega
 have ab:∀i,In A' i->¬In B i:=λi a c=>by
  rcases C i a with b|b
  ·exact p.ab i b c
  ·have:=lt i (.inr (.inr (.inl c)));omega
 have v7:Var 130 h7 m (.agg [.slice A',.slice B,.slice D,.i most]):=v6.only f7 p.ne.2.1;have a7:=a6.keep f7 ab;have d7:=d6.keep f7 λi a c=>p.bd i c a;have u7:Var 52 h7 g.size (.bytes 32 parent):=u6.only f7 λa=>by have:=lt _ (.inr (.inr (.inl a)));omega
 have O:¬In B' m:=λa=>by
  rcases F m a with b|b
  ·exact p.ne.2.1 b
  ·have:=lt m (.inl rfl);omega
 refine aI v7 (i:=1) (t:=.slice B') rfl rfl rfl rfl λG H f8 s8=>?_;have H:Var 130 G m (.agg [.slice A',.slice B',.slice D,.i most]):=H;have a8:=a7.keep f8 λi a e=>E ((show i=m from e)▸a);have b8:=b7.keep f8 λi a e=>O ((show i=m from e)▸a);have d8:=d7.keep f8 λi a e=>p.ne.2.2 ((show i=m from e)▸a);have u8:Var 52 G g.size (.bytes 32 parent):=u7.only f8 (show¬g.size=m by have:=lt m (.inl rfl);omega);refine⟨D,H.ah rfl,parent,u8.bytes,akl _ _,TR d8 (by unfold LZ;rw[ako];omega) λD' b d9 f9 I=>?_⟩;have a1:o.size<=G.size:=by have:=f7.size;have:=f8.size;omega
 have ac:∀i,In A' i->¬In D i:=λi a c=>by
  rcases C i a with b|b
  ·exact p.ad i b c
  ·have:=lt i (.inr (.inr (.inr c)));omega
 have ad:∀i,In B' i->¬In D i:=λi a c=>by
  rcases F i a with b|b
  ·exact p.bd i b c
  ·have:=lt i (.inr (.inr (.inr c)));omega
 have v9:Var 130 b m (.agg [.slice A',.slice B',.slice D,.i most]):=H.only f9 p.ne.2.2;have a9:=a8.keep f9 ac;have b9:=b8.keep f9 ad
 have ae:¬In D' m:=λa=>by
  rcases I m a with b|b
  ·exact p.ne.2.2 b
  ·have:=lt m (.inl rfl);omega
 refine aI v9 (i:=2) (t:=.slice D') rfl rfl rfl rfl λal v10 f10 a2=>?_;have v10:Var 130 al m (.agg [.slice A',.slice B',.slice D',.i most]):=v10;have am:∀i,In A' i->i<o.size:=a6.g_;have ar:∀i,In B' i->i<G.size:=b8.g_;refine hr al A' B' D' ⟨v10,?_,?_,?_,Y,⟨E,O,ae⟩,λi a c=>?_,λi a c=>?_,λi a c=>?_⟩ ⟨⟨?_,?_⟩,?_⟩
 ·rw[akT];exact a9.keep f10 λi a e=>E ((show i=m from e)▸a)
 ·rw[akT];exact b9.keep f10 λi a e=>O ((show i=m from e)▸a)
 ·rw[Z];exact d9.keep f10 λi a e=>ae ((show i=m from e)▸a)
 ·rcases F i c with b|b
  ·exact ab i a b
  ·have:=am i a;omega
 ·rcases I i c with b|b
  ·exact ac i a b
  ·have:=am i a;omega
 ·rcases I i c with b|b
  ·exact ad i a b
  ·have:=ar i a;omega
 ·have:=f9.size;have:=f10.size;omega
 ·intro i a d;have:=f5.size;have:=f6.size;have:=f7.size;have:=f8.size;have:=f9.size
  rw[f10.same i ω (λe=>d (.inl e)),f9.same i ω (λc=>d (.inr (.inr (.inr c)))),f8.same i ω (λe=>d (.inl e)),f7.same i ω (λc=>d (.inr (.inr (.inl c)))),f6.same i ω (λe=>d (.inl e)),
   f5.same i ω (λc=>d (.inr (.inl c))),y.same i ω,l.same i a]
 ·rintro i (rfl|a|a|a)
  ·exact .inl (.inl rfl)
  ·exact(C i a).imp (λh=>.inr (.inl h)) λh=>ω
  ·exact(F i a).imp (λh=>.inr (.inr (.inl h))) λh=>ω
  ·exact(I i a).imp (λh=>.inr (.inr (.inr h))) λh=>ω
end
end Gate
namespace Gate
def BX(N:List Nd)(most:Int)(out:List Nd)(i:Int):List Nd:=
 if 0<=place (c8 N (c8 N i).1.par).1.root out then gw out most (c8 N i).1.root (c8 N (c8 N i).1.par).1.root (c8 N i).1.slot else out
def kQ(N:List Nd)(most:Int)(k:Nat):Nat->List Nd
 |0=>[⟨(c8 N (k:Int)).1.root,(c8 N (k:Int)).1.slot,-1⟩]
 |d+1=>BX N most (kQ N most k d) ((k+1+d:Nat):Int)
def eX(N:List Nd)(most:Int)(k:Nat):List Nd:=kQ N most k (N.length-(k+1))
def eC(N:List Nd)(k j:Nat):List Nat:=(akF j).filter (bO (bQ N) k)
def HF(N:List Nd)(i:Nat):Bs 32:=((N[i]?).map Nd.root).getD (akA 32)
def slI(N:List Nd)(i:Nat):Int:=((N[i]?).map Nd.slot).getD 0
def Ap(N:List Nd):List (Bs 32×Int×Bs 32):=N.map λx=>(x.root,x.slot,yS N x)
def Ks(N:List Nd)(k i:Nat):Bs 32×Int×Bs 32:=(HF N i,slI N i,if i=k then akA 32 else HF N (bQ N i))
section
variable{N:List Nd}{most:Int}
theorem oG{i:Nat}{x:Nd}(h:N[i]? =some x):HF N i=x.root:=by simp_all [HF]
theorem Kt{i:Nat}{x:Nd}(h:N[i]? =some x):slI N i=x.slot:=by simp_all [slI]
theorem O4(o:rz N most){i j:Nat}(q:i<N.length)(A:j<N.length)(h:HF N i=HF N j):i=j:=by
 have a:=akv q;have b:=akv A;rw[oG a,oG b]at h;have c:=ye o.nodup a;have d:=ye o.nodup b;simp_all
theorem Xm(o:rz N most){x:Nd}(q:x.par<N.length):Ap (N++[x])=Ap N++[(x.root,x.slot,yS N x)]:=by
 unfold Ap;rw[akT,aky,List.map_nil,CK q];congr 1;exact List.map_congr_left λy a=>by rw[CK (aae o a)]
theorem BY:(Ap N).length=N.length:=by simp[Ap]
theorem yU{k j:Nat}:eC N k (j+1)=eC N k j++if bO (bQ N) k j=true then[j]else[]:=by
 unfold eC;rw[List.range_succ,List.filter_append];congr 1;by_cases h:bO (bQ N) k j=true<;>simp[h]
theorem Rx(o:rz N most){k:Nat}(q:k<N.length):eC N k (k+1)=[k]:=by
 rw[yU,if_pos (pO k)]
 have:eC N k k=[]:=List.filter_eq_nil_iff.2 λx a=>by
  have a:=akX.1 a;intro h;have:=Bg o.tree x ω h;omega
 simp_all
theorem rZ{k j i:Nat}:i∈eC N k j↔i<j/\bO (bQ N) k i=true:=by
 simp[List.mem_filter,akX,eC]
theorem sW{i:Nat}{x:Nd}(h:N[i]? =some x):c8 N (i:Int)=(x,true):=ig ω (by simp_all)
theorem HG(o:rz N most){k:Nat}(q:k<N.length):∀d,k+1+d<=N.length->rz (kQ N most k d) most/\Ap (kQ N most k d)=(eC N k (k+1+d)).map (Ks N k)
 |0,_=>by
  have a:=akv q;have f:=o.most;have e:kQ N most k 0=[⟨N[k].root,N[k].slot,-1⟩]:=by simp_all [sW,kQ]
  rw[e]
  refine⟨⟨by simp,λx a=>by grind,λi x a G=>by
   grind,by simp,λx v=>by simp at v;rw[v];exact o.slots N[k] (List.getElem_mem q),λi x y a G=>by
   grind,by grind,f⟩,?_⟩
  rw[Rx o q];unfold Ap Ks;simp only[aky,oG a,Kt a];rfl
 |d+1,Z=>by
  obtain⟨ok,b⟩:=HG o q d ω;obtain⟨j,w⟩:∃j,j=k+1+d:=⟨_,rfl⟩;have n:j<N.length:=ω;have a:=akv n;have H:=o.up j _ a ω;have g:N[j].par.toNat<N.length:=ω;have l:=akv g;have par:=yf a;obtain⟨out,r⟩:∃out,out=kQ N most k d:=⟨_,rfl⟩;have e:kQ N most k (d+1)=BX N most out j:=by rw[r,w];rfl
  rw[e,show k+1+(d+1)=j+1 by omega,yU];rw[<-r,<-w]at b;rw[<-r]at ok;have I:(c8 N j).1=N[j]:=by rw[sW a]
  have J:(c8 N N[j].par).1=N[N[j].par.toNat]:=by rw[ig H.1 l]
  have K:out.map Nd.root=(eC N k j).map (HF N):=by
   have:=congrArg (akN λt:Bs 32×Int×Bs 32=>t.1) b;unfold Ap at this;rw[aks,aks]at this;exact this
  have z:∀i,i<N.length->(HF N i∈out.map Nd.root↔i<j/\bO (bQ N) k i=true):=λi L=>by
   rw[K,aki];constructor
   ·rintro⟨i',M,O⟩;have h3:=rZ.1 M;have:=O4 o ω L O;simp_all
   ·exact λh=>⟨i,rZ.2 h,rfl⟩
  have Wf:bO (bQ N) k j=bO (bQ N) k N[j].par.toNat:=by
   rw[fO o.tree n,par]
   grind
  unfold BX;rw[I,J,<-oG l];by_cases c:0<=place (HF N N[j].par.toNat) out
  ·rw[if_pos c];have P:HF N N[j].par.toNat∈out.map Nd.root:=Classical.byContradiction λm=>by have:=lV.2 m;omega
   have Q:=((z _ g).1 P).2;obtain⟨p,u,q1,A,s,B,q5⟩:=fG c
   have R:¬0<=place N[j].root out:=λh=>by
    have f:N[j].root∈out.map Nd.root:=Classical.byContradiction λm=>by have:=lV.2 m;omega
    simp_all [oG]
   have S:nodeAt out (place (HF N N[j].par.toNat) out)=some u:=by unfold nodeAt;rw[if_pos c,A,Int.toNat_natCast];exact s
   have C:(u.root,u.slot,yS out u)∈Ap out:=aki.2 ⟨u,akO s,rfl⟩;rw[b]at C;obtain⟨i,T,D⟩:=aki.1 C;have ab:=rZ.1 T;have E:=congrArg (λt=>t.1) D;have U:slI N i=u.slot:=congrArg (λt=>t.2.1) D;rw[B]at E;have V:=O4 o ω g E
   have ac:u.slot<N[j].slot:=by
    rw[<-U,V,Kt l];exact o.later j _ _ a ω l
   have ad:=(o.slots _ (List.getElem_mem n)).2;have ae:out.length=(eC N k j).length:=by rw[<-BY,b,ako]
   have al:(eC N k j).length<=j:=by
    have:=List.length_filter_le (bO (bQ N) k) (akF j)
    rwa [List.length_range]at this
   have am:=o.len
   have W:nV out most N[j].root (HF N N[j].par.toNat) N[j].slot=0:=by
    unfold nV;rw[if_neg R,S];simp only;rw[if_neg ω,if_neg ω]
   have F:=ok.add (root:=N[j].root) (parent:=HF N N[j].par.toNat) (slot:=N[j].slot);have X:gw out most N[j].root (HF N N[j].par.toNat) N[j].slot=out++[⟨N[j].root,N[j].slot,place (HF N N[j].par.toNat) out⟩]:=by unfold gw;rw[if_pos W]
   rw[X]at F⊢;refine⟨F,?_⟩;rw[Xm ok (by simp only;omega),b,Wf,if_pos Q,akT];congr 1;simp only[aky,List.map_nil];unfold Ks;rw[if_neg (show¬j=k by omega),par,oG a,Kt a,IY (y:=u) (by simp only;omega) (by simp only;rw[A,Int.toNat_natCast];exact s),B]
  ·rw[if_neg c]
   have Y:¬bO (bQ N) k j=true:=λh=>by
    rw[Wf]at h;have f:=(z _ g).2 ⟨ω,h⟩
    exact c (Classical.byContradiction λm=>by
     have:=lV.1 (show place (HF N N[j].par.toNat) out<0 by omega);exact this f)
   rw[if_neg Y,List.append_nil];exact⟨ok,b⟩
theorem oH(o:rz N most){k:Nat}(q:k<N.length):rz (eX N most k) most/\Ap (eX N most k)=(eC N k N.length).map (Ks N k):=by
 have:=HG o q (N.length-(k+1)) ω
 rwa [show k+1+(N.length-(k+1))=N.length by omega]at this
theorem HH(o:rz N most){k:Nat}(q:k<N.length):(eX N most k).map Nd.root=(eC N k N.length).map (HF N):=by
 have:=congrArg (akN λt:Bs 32×Int×Bs 32=>t.1) (oH o q).2;unfold Ap at this;rw[aks,aks]at this;exact this
theorem Ry(o:rz N most){k:Nat}(q:k<N.length):(eX N most k).map Nd.slot=(eC N k N.length).map (slI N):=by
 have:=congrArg (akN λt:Bs 32×Int×Bs 32=>t.2.1) (oH o q).2;unfold Ap at this;rw[aks,aks]at this;exact this
theorem TT(o:rz N most){k:Nat}(q:k<N.length):LZ (eX N most k)=(eC N k N.length).map λi=>if i=k then akA 32 else HF N (bQ N i):=by
 have:=congrArg (akN λt:Bs 32×Int×Bs 32=>t.2.2) (oH o q).2;unfold Ap at this;rw[aks,aks]at this;exact this
end
end Gate
namespace Gate
open Pool (zH)
def mU(L:List Nd)(own:Nat->Int):Bs 32:=((L[uq L.length (bQ L) (dh L own) (c7 L) 0]?).map Nd.root).getD (akA 32)
def mV(L:List Nd)(f:Nat->Int)(r:Bs 32):Int:=if 0<=place r L then f (place r L).toNat else 0
section
variable{R:Rq}{h h':af}{w tb r:Nat}{O S B G A:Sl}{L:List Nd}{most:Int}{own:Nat->Int}
theorem TU(p:WT h w tb O S B G L own)(t:AP h tb r A L most)(E:∀h',Ext h h'->R (akI 32 (mU L own)).val h'):Cl 190 [.ptr (PT w)] h R:=by
 apply vl;delta aJ zM wq Dn gK cQ yh cu bz eU bJ bK aT fD;have m:=t.ok.Gf;obtain⟨k,f⟩:∃k,k=uq L.length (bQ L) (dh L own) (c7 L) 0:=⟨_,rfl⟩;have z:k<L.length:=f▸II t.ok.tree t.ok.names _ 0 m;have e:L[k]? =some L[k]:=akv z;obtain⟨x,C⟩:∃x,x=L[k]:=⟨_,rfl⟩;rw[<-C]at e;have D:mU L own=x.root:=by unfold mU;rw[<-f,e];rfl
 have F:Ow L own 0=(k:Int):=by unfold Ow;rw[<-f]
 refine aa λn v1 g U=>akz ?_;intro H o;have j:=p.ext g;have t1:=t.ext g
 have s:∀(a:OL×OL×OL×Sl×Int×Bool×OL×Bool)(b:af)(q:Nat),a.2.2.2.2.2.2.1=some ⟨q,0⟩->Ext n b->Var 69 b q x.tv->H a b:=by
  intro a b q I u J;refine o a b ?_;dsimp only;rw[I];refine⟨x.root,J.at.1,aH (v1.ext u) (t:=.bytes 32 x.root) rfl λK M f5 V=>⟨_,M.bytes,?_⟩⟩;rw[<-D];exact E K (akm (g.trans u) f5 λi v=>ω)
 clear o;refine⟨some ⟨tb,0⟩,j.var.ah rfl,G,j.var.ah rfl,ic j.f (akw 0) (iO (Ow L own) (i:=0) m) ?_⟩;rw[F];refine⟨dg t1 λy c=>⟨_,_,_,_,rfl,?_⟩,aa λy N c W=>⟨c,dg (t1.ext c) λP d=>⟨_,_,_,_,rfl,?_⟩⟩⟩
 ·rw[ig (i:=(k:Int)) ω e];refine aa λP Q d X=>⟨d,aH Q (t:=x.tv) rfl λl v4 f4 T=>?_⟩;exact s _ l y.size rfl (c.trans (akm d f4 λi v=>ω)) v4
 ·rw[ig (i:=(k:Int)) ω e];refine aH (N.ext d) (t:=x.tv) rfl λl v4 f4 T=>?_;exact s _ l n.size rfl (akm (c.trans d) f4 λi v=>ω) v4
def aes(h:af)(f:Vc.One)(g:Nat->Int)(n:Nat):Prop:=∃(k:Nat)(first cap:Array Value),f.v=.func (.func k) first cap/\NZ Tryz.prog k/\
 ∀(h':af)(i:Nat)(R:Rq),Ext h h'->i<n->R (TV.i (g i)).val h'->bC Tryz.prog k (first.toList++ak.vals [.i (i:Int)]++cap.toList) h' R
theorem IT(p:WT h w tb O S B G L own)(t:AP h tb r A L most){f:Vc.One}{g:Nat->Int}(E:aes h f g L.length){k:Bs 32}(q:∀h',Ext h h'->R (TV.i (mV L g k)).val h'):
 Cl 191 [.ptr (PT w),.bytes 32 k,.one f] h R:=by
 apply yV;delta aJ aD gL Ww cr jW bz dX bJ bK aT bA;refine aa λo v1 a s=>akz ⟨some ⟨tb,0⟩,(p.var.ext a).ah rfl,k,v1.bytes,dM (t.ext a) λb e=>⟨_,rfl,ID (λc=>?_) λc=>?_⟩⟩
 ·have d:=a.trans e;have i:=p.ext d;have lo:=i.lo;rw[yq]at lo;have u:=pQ k L;refine⟨O,i.var.ah rfl,ID (λ_=>?_) λv=>ω⟩;obtain⟨j,first,cap,l,m,n⟩:=E;refine⟨j,first,cap,l,m,?_⟩;rw[show place k L=(((place k L).toNat:Nat):Int) by omega];refine n b (place k L).toNat _ d ω ⟨_,rfl,?_⟩;have:=q b d;unfold mV at this;rw[if_pos c]at this;exact this
 ·have:=q b (a.trans e);unfold mV at this;rw[if_neg c]at this;exact this
theorem adD(p:WT h w tb O S B G L own)(t:AP h tb r A L most){k:Bs 32}(q:∀h',Ext h h'->R (TV.i (mV L (dh L own) k)).val h'):Cl 122 [.ptr (PT w),.bytes 32 k] h R:=by
 apply sX;delta Vb wD cr dJ fW bz bJ aT fD;refine aa λo v1 e s=>aa λu j b v=>⟨some ⟨w,0⟩,(v1.ext b).ah rfl,k,j.bytes,?_⟩;have a:=e.trans b;refine IT (f:=⟨(TV.fn (.func 192) [] [.ptr (PT h.size)]).val,rfl⟩) (g:=dh L own) (p.ext a) (t.ext a) ⟨192,#[],#[(akk (PT h.size)).val],rfl,bP.LI κ,λh' i R' c x l=>?_⟩ λm n=>⟨_,rfl,q m (a.trans n)⟩;have d:=(p.ext a).ext c;show Cl 192 [.i (i:Int),.ptr (PT h.size)] h' R';apply qM;delta mw dJ aT;exact⟨some ⟨w,0⟩,((v1.ext b).ext c).ah rfl,S,d.var.ah rfl,ic d.s ω (iO (dh L own) (i:=((i:Int)).toNat) ω) l⟩
theorem aaf(p:WT h w tb O S B G L own)(t:AP h tb r A L most){k:Bs 32}(q:∀h',Ext h h'->R (TV.i (mV L own k)).val h'):Cl 245 [.ptr (PT w),.bytes 32 k] h R:=by
 apply xm;delta Vb wD cr dJ fW bz bJ aT fD;refine aa λo v1 e s=>aa λu j b v=>⟨some ⟨w,0⟩,(v1.ext b).ah rfl,k,j.bytes,?_⟩;have a:=e.trans b;refine IT (f:=⟨(TV.fn (.func 284) [] [.ptr (PT h.size)]).val,rfl⟩) (g:=own) (p.ext a) (t.ext a) ⟨284,#[],#[(akk (PT h.size)).val],rfl,bP.LI κ,λh' i R' c x l=>?_⟩ λm n=>⟨_,rfl,q m (a.trans n)⟩;have d:=(p.ext a).ext c;show Cl 284 [.i (i:Int),.ptr (PT h.size)] h' R';apply uc;delta mw dJ aT;exact⟨some ⟨w,0⟩,((v1.ext b).ext c).ah rfl,O,d.var.ah rfl,ic d.o ω (iO own (i:=((i:Int)).toNat) ω) l⟩
end
end Gate
namespace Gate
open Pool (zH)
open Board (Vt)
theorem gR(z:TV):∀n,cq z n=akj (akJ n z)
 |0=>rfl
 |n+1=>by rw[List.replicate_succ];simp only[cq,akj,gR z n]
theorem Rz(h:af):∀n,BJ h (akJ n none) (akJ n none)
 |0=>.nil
 |n+1=>.cons trivial (Rz h n)
section
variable{R:Rq}{h h':af}
def Fu(v q:Int):Prop:=1<=v/\v<=64/\1<=q/\q<=32
theorem Xn{v A:Int}(B:¬Fu v A->R (akk none).val h)
 (M:Fu v A->∀h' b r u w C,Kb h' b r u w C (iQ v.toNat A) v.toNat->Ext h h'->(∀i,uY b r u w C i->h.size<=i)->R (akk (PT b)).val h'):
 Cl 144 [.i v,.i A] h R:=by
 apply Iq;delta E1 EZ zN jL Bp tL Ib Ia fD;refine ID (λn=>B (λj=>by have:=j.1;omega)) λD=>akB.2 ⟨λn=>B (λj=>by have:=j.2.1;omega),λE=>ID (λn=>B (λj=>by have:=j.2.2.1;omega)) λg3=>akB.2 ⟨λn=>B (λj=>by have:=j.2.2.2;omega),λg4=>?_⟩⟩;have can:Fu v A:=⟨ω,ω,ω,ω⟩
 have K:∀(g:af)(c d f:Nat),Ext h g->g[c]? =some (row (cq (akk none) v.toNat) 198)->g[d]? =some (row (cq (akn false) v.toNat) 4)->g[f]? =some (bX [] 0)->h.size<=c/\h.size<=d/\h.size<=f/\c≠d/\c≠f/\d≠f->
  Bind (iW g (.agg [.i A,.slice (Sl.mk (some (akC c 0)) v.toNat v.toNat),.slice (Sl.mk (some (akC d 0)) v.toNat v.toNat),.map (some f)]) 202) λL=>R (TV.val (.ptr (some (akC g.size 0)))) L:=by
  rintro g c d f F G H I ⟨N,O,P,Q,S,T⟩;have l1:=kO G;have l2:=kO H;have l3:=(akU.1 I).1;refine aa λU v4 k s4=>?_
  have V:Vc.Own 198 1 g (Sl.mk (some (akC c 0)) v.toNat v.toNat) (ZO (akJ v.toNat none)):=
   ⟨λt o=>by obtain⟨x,_,rfl⟩:=aki.1 o;rfl,by simp,akr _,.inr ⟨c,[],rfl,by rw[G,gR];simp[ZO],by simp⟩⟩
  have lo:Vc.Own 4 1 g (Sl.mk (some (akC d 0)) v.toNat v.toNat) (WM (akJ v.toNat false)):=
   ⟨λt o=>by obtain⟨x,_,rfl⟩:=aki.1 o;rfl,by simp,akr _,.inr ⟨d,[],rfl,by rw[H,gR];simp[WM],by simp⟩⟩
  have W:mj kM kR g f []:=⟨[],0,by rw[I];simp[mh],rfl,(λe X=>by cases X),akY⟩;have inl:∀i,In (Sl.mk (some (akC c 0)) v.toNat v.toNat) i->i=c:=λi⟨l,p,a⟩=>by cases p;exact a.symm
  have m:∀i,In (Sl.mk (some (akC d 0)) v.toNat v.toNat) i->i=d:=λi⟨l,p,a⟩=>by cases p;exact a.symm
  have J:∀q,some q∉akJ v.toNat (none:Option Nat):=λq s=>by simp[List.mem_replicate]at s
  refine M can U g.size f _ _ (akJ v.toNat none) ⟨v4,V.ext k,Rz _ _,lo.ext k,W.ext k,Q9 ⟨ω,ω⟩ ⟨ω,ω⟩,⟨λa=>?_,λa=>?_⟩,⟨λa=>?_,λa=>?_⟩,λi a Y=>?_,λq s=>absurd s (J q)⟩ (F.trans k) ?_
  ·have:=inl _ a;omega
  ·exact S (inl _ a).symm
  ·have:=m _ a;omega
  ·exact T (m _ a).symm
  ·exact Q ((inl i a).symm.trans (m i Y))
  ·rintro i (rfl|rfl|a|a|a)
   ·exact F.size
   ·exact P
   ·rw[inl i a];exact N
   ·rw[m i a];exact O
   ·exact absurd a (J i)
 have Z:∀x y z:Obj,Ext h (((h.push x).push y).push z):=λx y z=>((akl h x).trans (akl _ y)).trans (akl _ z);have E:∀x y z:Obj,(((h.push x).push y).push z)[((h.push x).push y).size]? =some z:=λx y z=>cO _ _;have D:∀x y z:Obj,(((h.push x).push y).push z)[(h.push x).size]? =some y:=λx y z=>((akl ((h.push x).push y) z).same _ (by simp)).trans (cO _ _);have g0:∀x y z:Obj,(((h.push x).push y).push z)[h.size]? =some x:=λx y z=>((akl ((h.push x).push y) z).same _ (by simp;omega)).trans (((akl (h.push x) y).same _ (by simp)).trans (cO _ _))
 repeat' apply And.intro
 all_goals first
  |omega
  |(refine K _ _ _ _ (Z _ _ _) ?_ ?_ ?_ ?_<;>first|exact g0 _ _ _|exact D _ _ _|exact E _ _ _|(simp only[Array.size_push];omega))
end
end Gate
end Go.Proofs.YtennbinbffdimaaGreat
namespace Go.Vc
open Go
theorem least{p:Nat->Prop}(h:∃n,p n):∃n,p n/\∀m,m<n->¬p m:=by
 obtain⟨n,a⟩:=h
 induction n using Nat.strongRecOn with
 |_ n b=>
  grind
open Classical in
theorem Loop.less{σ:Type}{q:σ}{E:af}{round:σ->af->(σ->af->Prop)->Prop}(S:Nat->σ->af->Prop){n0:Nat}(H:S n0 q E)
 (I:∀n s h(G:σ->af->Prop),S n s h->(∀m a h',m<n->S m a h'->G a h')->round s h G):Loop q E round:=by
 refine⟨λs h=>∃n,S n s h,λs h=>if c:∃n,S n s h then Classical.choose (least c)else 0,⟨n0,H⟩,λs h d=>?_⟩;have e:=Classical.choose_spec (least d);refine I _ s h _ e.1 λm a h' f b=>⟨⟨m,b⟩,?_⟩;have g:∃n,S n a h':=⟨m,b⟩
 grind
end Go.Vc
namespace Go.Proofs.YtennbinbffdimaaGreat
open Go Go.Vc
namespace Gate
open Board (aq wI)
open Pool (rts eM Dw D6)
structure RW(h:af)(w m:Nat)(O:Sl)(N:List Nd)(own:Nat->Int):Prop where
 var:Var 263 h w (.agg [.ptr (PT m),.slice O,.i N.length])
 o:Vc.Own 3 1 h O (eA (gO N.length own))
theorem take_succ{α:Type}{l:List α}{j:Nat}{x:α}(h:l[j]? =some x):l.take (j+1)=l.take j++[x]:=by
 grind [List.take_add_one]
section
variable{R:Rq}{h h':af}{w m:Nat}{O A B D:Sl}{N:List Nd}{most:Int}{own:Nat->Int}
theorem RW.ext(p:RW h w m O N own)(x:Ext h h'):RW h' w m O N own:=⟨p.var.ext x,p.o.ext x⟩
theorem Ku(p:RT h m A B D N most)(q:∀h' w O,RW h' w m O N (λ_=>0)->Ext h h'->(∀i,i=w\/In O i->h.size<=i)->¬In O w->R (akk (PT w)).val h'):
 Cl 181 [.ptr (PT m)] h R:=by
 apply Aq;delta Va aJ bK bA fD;have g:=p.la;have c:=p.ok.len;have s:=p.ok.most;refine⟨A,p.var.ah rfl,A,p.var.ah rfl,ω,ω,ω,ω,akl _ _,?_⟩;have b:=Vc.Own.new (T:=3) h (eA (gO N.length λ_=>0)) (Gm _)
 have j:cq (TV.i 0) (Int.toNat A.len)=akj (eA (gO N.length λ_=>0)):=by
  simp_all [gO,List.length_range,Int.toNat_natCast,gR,eA,List.map_const']
 rw[j];have k:(eA (gO N.length λ_=>0)).length=A.len:=by grind
 rw[k]at b;have d:=akl h (row (akj (eA (gO N.length λ_=>0))) 3);have n:(h.push (row (akj (eA (gO N.length λ_=>0))) 3)).size=h.size+1:=by simp
 generalize h.push (row (akj (eA (gO N.length λ_=>0))) 3)=o at b d n⊢;refine aa λr e f t=>?_;rw[g]at e b;refine q r o.size _ ⟨e,b.ext f⟩ (d.trans f) (λi a=>?_) λa=>?_
 ·rcases a with rfl|⟨l,c,a⟩<;>grind
 ·obtain⟨l,c,a⟩:=a
  grind
theorem Xp{i k:Nat}:(akF (k+1)).filter (We N.length (bQ N) i)=(akF k).filter (We N.length (bQ N) i)++if We N.length (bQ N) i k=true then[k]else[]:=by
 rw[List.range_succ,List.filter_append];congr 1;by_cases h:We N.length (bQ N) i k=true<;>simp[h]
theorem Xq(up:Up N.length (bQ N)){i:Nat}:(akF (i+1)).filter (We N.length (bQ N) i)=[]:=by
 refine List.filter_eq_nil_iff.2 λx a=>?_;have a:=akX.1 a;unfold We;simp only[decide_eq_true_eq];rintro⟨b,c,d⟩;have:=up x b c;omega
theorem HI(t:RT h m A B D N most)(p:RW h w m O N own){k:Bs 32}(q:∀h',Ext h h'->R (TV.i (place k N)).val h'):
 Cl 286 [.ptr (PT w),.bytes 32 k] h R:=by
 apply nq;refine aa λd v1 a e=>⟨_,(p.var.ext a).ah rfl,k,v1.bytes,fA (t.ext a) λc b=>⟨_,rfl,_,((p.var.ext a).ext b).ah rfl,?_⟩⟩;have:=pQ k N;exact ID (λh=>ω) λ_=>q c (a.trans b)
theorem Xr(t:RT h m A B D N most)(p:RW h w m O N own){k:Bs 32}(q:∀h',Ext h h'->R (TV.i (mV N own k)).val h'):
 Cl 247 [.ptr (PT w),.bytes 32 k] h R:=by
 apply nr;refine aa λf v1 c g=>⟨k,v1.bytes,HI (t.ext c) (p.ext c) λd e=>⟨_,rfl,?_⟩⟩;have a:=c.trans e;have i:=pQ k N;refine ID (λb=>⟨O,(p.var.ext a).ah rfl,qL (p.o.ext a).elems b (iO own ω) ?_⟩) λb=>?_
 ·have:=q d a;unfold mV at this;rw[if_pos b]at this;exact this
 ·have:=q d a;unfold mV at this;rw[if_neg b]at this;exact this
end
end Gate
namespace Gate
structure Sep(h:af)(F:Nat->Nat->Prop):Prop where
 qx:∀j k i,F j i->F k i->j=k
 lt:∀j i,F j i->i<h.size
def nT(F:Nat->Nat->Prop)(j:Nat)(S:Nat->Prop):Nat->Nat->Prop:=λk=>if k=j then S else F k
def dm(F:Nat->Nat->Prop)(i:Nat):Prop:=∃k,F k i
section
variable{h h':af}{F:Nat->Nat->Prop}{S S':Nat->Prop}{j k:Nat}
theorem bY:nT F j S j=S:=if_pos rfl
theorem aB(q:k≠j):nT F j S k=F k:=if_neg q
theorem Sep.off(s:Sep h F)(q:k≠j):∀i,F k i->¬F j i:=λ_ a b=>q (s.qx _ _ _ a b)
theorem Sep.ext(s:Sep h F)(x:Ext h h'):Sep h' F:=⟨s.qx,λj i a=>by have:=s.lt j i a;have:=x.size;omega⟩
theorem Sep.step(s:Sep h F)(st:Step (F j) h S' h')(lt:∀i,S' i->i<h'.size):Sep h' (nT F j S'):=by
 have new:∀k i,k≠j->F k i->¬S' i:=λk i m g n=>by
  rcases st.new i n with l|l
  ·exact m (s.qx _ _ _ g l)
  ·have:=s.lt k i g;omega
 refine⟨λa b i c e=>?_,λa i c=>?_⟩
 ·by_cases d:a=j
  ·by_cases f:b=j
   ·rw[d,f]
   ·rw[d,bY]at c;rw[aB f]at e;exact absurd c (new b i f e)
  ·by_cases f:b=j
   ·rw[f,bY]at e;rw[aB d]at c;exact absurd e (new a i d c)
   ·rw[aB d]at c;rw[aB f]at e;exact s.qx _ _ _ c e
 ·by_cases d:a=j
  ·rw[d,bY]at c;exact lt i c
  ·rw[aB d]at c;have:=s.lt a i c;have:=st.only.size;omega
theorem Step.all(st:Step (F j) h S' h'):Step (dm F) h (dm (nT F j S')) h':=
 ⟨st.only.mono λi b=>⟨j,b⟩,λi⟨k,a⟩=>by
  by_cases e:k=j
  ·rw[e,bY]at a;exact(st.new i a).imp (λx=>⟨j,x⟩) id
  ·rw[aB e]at a;exact .inl ⟨k,a⟩⟩
theorem Sep.made{lo:Nat->Nat}(q:∀j i,F j i->lo j<=i/\i<lo (j+1))(mono:∀j,lo j<=lo (j+1))(top:∀j,lo j<=h.size):Sep h F:=by
 have up:∀a d,lo a<=lo (a+d):=λa d=>by
  induction d with
  |zero=>exact akr _
  |succ d c=>exact Nat.le_trans c (mono _)
 refine⟨λa b i e f=>?_,λj i g=>by have:=(q j i g).2;have:=top (j+1);omega⟩;have m:=q a i e;have n:=q b i f;rcases Nat.lt_trichotomy a b with k|l|k
 ·have:=up (a+1) (b-(a+1));rw[show a+1+(b-(a+1))=b by omega]at this;omega
 ·exact l
 ·have:=up (b+1) (a-(b+1));rw[show b+1+(a-(b+1))=a by omega]at this;omega
end
end Gate
namespace Gate
open Pool (zH)
section
variable{R:Rq}{h h':af}{b r:Nat}{A:Sl}{L:List Nd}{most:Int}
def CM(slot most:Int):Prop:=1<=most/\most<=256/\0<=slot/\slot<=1073741824
theorem aah{root:Bs 32}{slot:Int}(q:CM slot most):rz [⟨root,slot,-1⟩] most:=by
 have one:∀(i:Nat)(x:Nd),([⟨root,slot,-1⟩]:List Nd)[i]? =some x->i=0/\x=⟨root,slot,-1⟩:=λi x a=>by
  cases i with
  |zero=>exact⟨rfl,by simpa using a.symm⟩
  |succ i=>simp at a
 unfold CM at q
 exact⟨by simp,λx a=>by rw[(one 0 x a).2],λi x a b=>by have:=(one i x a).1;omega,by simp,λx a=>by rw[List.mem_singleton.1 a];exact q.2.2,
  λi x y a b=>by have:=(one i x a).1;omega,by simp;omega,⟨q.1,q.2.1⟩⟩
theorem Fw{root:Bs 32}{slot:Int}(B:¬CM slot most->∀h',Ext h h'->R (akx [.ptr none,.i 1]).val h')
 (G:CM slot most->∀h' b r A,AP h' b r A [⟨root,slot,-1⟩] most->Ext h h'->(∀i,lH b r A i->h.size<=i)->R (akx [.ptr (PT b),.i 0]).val h'):
 Cl 141 [.bytes 32 root,.i slot,.i most] h R:=by
 apply JS;delta eG Dq jL EW EV cr fW d_ bJ bA fD;refine aa λa v1 z k=>?_;intro F C;have n:¬CM slot most->R (akx [.ptr none,.i 1]).val a:=λH=>B H a z;refine ID (λs=>n (λf=>by have:=f.1;omega)) λd=>akB.2 ⟨λs=>n (λf=>by have:=f.2.1;omega),λQ=>ID (λs=>n (λf=>by have:=f.2.2.1;omega)) λS=>akB.2 ⟨λs=>n (λf=>by have:=f.2.2.2;omega),λT=>?_⟩⟩;have can:CM slot most:=⟨ω,ω,ω,ω⟩;refine C (none,0) a ?_;clear C F n B
 have t:∀{g:af}{q m:Nat},Ext a g->g[q]? =some (row (akj [(⟨root,slot,-1⟩:Nd).tv]) 69)->mj kR vI g m [(root,0)]->q≠m->a.size<=q->a.size<=m->
  Bind (iW g (.agg [.slice (Sl.mk (some (akC q 0)) 1 1),.map (some m),.i most]) 168) λI=>R (TV.val (.bg [.ptr (some (akC g.size 0)),.i 0])) I:=by
  intro g q m p D J K U E;refine aa λL v4 u V=>G can L g.size m _ ⟨v4,?_,J.ext u,aah can,⟨?_,?_⟩⟩ ((z.trans p).trans u) ?_
  ·have:Vc.Own 69 34 g (Sl.mk (some (akC q 0)) 1 1) (nds [⟨root,slot,-1⟩]):=⟨Zs _,rfl,akr _,.inr ⟨q,[],rfl,by rw[D];simp[nds],by simp⟩⟩;exact this.ext u
  ·rintro⟨l,o,v⟩;cases o;have:=kO D;simp only at v;omega
  ·rintro⟨l,o,v⟩;cases o;exact K v
  ·rintro i (rfl|rfl|⟨l,o,rfl⟩)
   ·have:=p.size;omega
   ·omega
   ·cases o;simp only;omega
 have put:∀{g:af}{m:Nat}{P:af->Prop},Ext a g->a.size<=m->mj kR vI g m []->(∀d,mj kR vI d m [(root,0)]->ag (·=m) g d->Ext a d->d.size=g.size->P d)->
  ∃es c,g[m]? =some (bX es c)/\dH ctx (.array 32 5) es/\Bind (g.setIfInBounds m (bX (jb (.bytes 32 root) (.i 0) c es) (fJ (.bytes 32 root) c es))) P:=
  λp E M N=>M.put Vf root 0 λd j f1 k=>N d j f1 (akm p f1 λi O=>by subst O;exact E) k
 refine⟨root,v1.bytes,root,v1.bytes,?_⟩;have w:=akl a (row (akj [(⟨root,slot,-1⟩:Nd).tv]) 69);have xb:=akl a (bX [] 0);have x:=akl (a.push (row (akj [(⟨root,slot,-1⟩:Nd).tv]) 69)) (bX [] 0);have y:=akl (a.push (bX [] 0)) (row (akj [(⟨root,slot,-1⟩:Nd).tv]) 69)
 refine⟨⟨w,w.trans x,put (w.trans x) (by simp) (mj.new _) λd j f1 e k=>⟨e,t e ?_ j (by simp) (akr _) (by simp)⟩⟩,xb,
  ⟨xb.trans y,put (xb.trans y) (akr _) ((mj.new a).ext y) λd j f1 e k=>⟨e,t e ?_ j (by simp) (by simp) (akr _)⟩⟩,
  put xb (akr _) (mj.new a) λd j f1 e k=>⟨e,e.trans (akl _ _),t (e.trans (akl _ _)) ?_ (j.ext (akl _ _)) ?_ e.size (akr _)⟩⟩
 ·exact(f1.same _ (by simp;omega) (by simp)).trans ((x.same _ (by simp)).trans (cO _ _))
 ·exact(f1.same _ (by simp) (by simp)).trans (cO _ _)
 ·exact cO _ _
 ·rw[k];simp
end
end Gate
namespace Peers
def get(k:Int):List (Int×Int)->Option Int
 |[]=>none
 |e::es=>if k=e.1 then some e.2 else get k es
def put(k v:Int):List (Int×Int)->List (Int×Int)
 |[]=>[(k,v)]
 |e::es=>if k=e.1 then(e.1,v)::es else e::put k v es
def drop(k:Int):List (Int×Int)->List (Int×Int)
 |[]=>[]
 |e::es=>if k=e.1 then es else e::drop k es
def keys(L:List (Int×Int)):List Int:=L.map (·.1)
def score(L:List (Int×Int))(k:Int):Int:=(get k L).getD 0
theorem get_mem{L:List (Int×Int)}(q:(keys L).Nodup){k v:Int}:get k L=some v↔(k,v)∈L:=by
 induction L with
 |nil=>simp[get]
 |cons e es c=>
  have b:e.1∉keys es/\(keys es).Nodup:=by simp_all [keys]
  unfold get;by_cases h:k=e.1
  ·rw[if_pos h];constructor
   ·grind
   ·intro a;rcases akG.1 a with a|a
    ·grind
    ·exfalso;exact b.1 (aki.2 ⟨_,a,h⟩)
  grind
theorem get_none{L:List (Int×Int)}{k:Int}:get k L=none↔k∉keys L:=by
 induction L with
 |nil=>simp[get,keys]
 |cons e es a=>
  unfold get;by_cases h:k=e.1
  ·rw[if_pos h];simp[keys,h]
  ·rw[if_neg h,a];simp[keys,h]
theorem RB{L L':List (Int×Int)}(q:L.Perm L')(A:(keys L).Nodup)(k:Int):get k L=get k L':=by
 have a:=(q.map _).nodup_iff.1 A;cases h:get k L with
 |some v=>exact((get_mem a).2 (q.mem_iff.1 ((get_mem A).1 h))).symm
 |none=>
  cases b:get k L' with
  |none=>rfl
  |some v=>
   have:=(get_mem A).2 (q.mem_iff.2 ((get_mem a).1 b));simp_all
theorem oL{L L':List (Int×Int)}(q:L.Perm L')(A:(keys L).Nodup)(k:Int):score L k=score L' k:=by
 grind [RB,score]
theorem uI{L:List (Int×Int)}(q:(keys L).Nodup)(k:Int):drop k L=L.filter (λe=>decide (e.1≠k)):=by
 induction L with
 |nil=>rfl
 |cons e es c=>
  have a:e.1∉keys es/\(keys es).Nodup:=by simp_all [keys]
  unfold drop;by_cases h:k=e.1
  ·rw[if_pos h,List.filter_cons_of_neg (by simp[h])];refine(List.filter_eq_self.2 λx b=>?_).symm;simp only[decide_eq_true_eq];intro d;exact a.1 (aki.2 ⟨x,b,ω⟩)
  grind
theorem kY{L:List (Int×Int)}(q:(keys L).Nodup)(k v:Int):(put k v L).Perm ((k,v)::drop k L):=by
 induction L with
 |nil=>rfl
 |cons e es a=>
  have b:=by simpa[keys]using q
  unfold put drop;by_cases h:k=e.1
  ·simp_all
  ·rw[if_neg h,if_neg h];exact((a b.2).cons e).trans (List.Perm.swap ..)
theorem Nf{L L':List (Int×Int)}(q:L.Perm L')(A:(keys L).Nodup)(k:Int):(drop k L).Perm (drop k L'):=by
 grind [uI,keys]
theorem RC{L L':List (Int×Int)}(A:L.Perm L')(q:(keys L).Nodup)(k v:Int):(put k v L).Perm (put k v L'):=by
 have a:=(A.map _).nodup_iff.1 q;exact(kY q k v).trans (((Nf A q k).cons _).trans (kY a k v).symm)
theorem kZ{L:List (Int×Int)}(q:(keys L).Nodup){k:Int}{e:Int×Int}:e∈drop k L↔e∈L/\e.1≠k:=by
 simp_all [uI]
theorem r_{L:List (Int×Int)}(q:(keys L).Nodup)(k:Int):(keys (drop k L)).Nodup:=by
 rw[uI q];exact List.Nodup.sublist (List.Sublist.map _ List.filter_sublist) q
theorem Fx{L:List (Int×Int)}(q:(keys L).Nodup)(k:Int):k∉keys (drop k L):=by
 intro h;obtain⟨e,a,b⟩:=aki.1 h;simp_all [kZ]
theorem Kw{L:List (Int×Int)}(q:(keys L).Nodup)(k v:Int):(keys (put k v L)).Nodup:=by
 have a:=(kY q k v).map (·.1);refine a.nodup_iff.2 ?_;simp only[aky,akP];exact⟨Fx q k,r_ q k⟩
theorem acs{L:List (Int×Int)}(q:(keys L).Nodup)(k v x:Int):get x (put k v L)=if x=k then some v else get x L:=by
 rw[RB (kY q k v) (Kw q k v)];have e:get x ((k,v)::drop k L)=if x=k then some v else get x (drop k L):=rfl
 rw[e];by_cases h:x=k
 ·simp_all
 ·rw[if_neg h,if_neg h];cases a:get x L with
  |none=>
   rw[get_none]at a⊢;intro b;obtain⟨e,c,d⟩:=aki.1 b;exact a (aki.2 ⟨e,((kZ q).1 c).1,d⟩)
  |some w=>simp_all [r_,kZ,get_mem]
theorem aai{L:List (Int×Int)}(q:(keys L).Nodup)(k x:Int):get x (drop k L)=if x=k then none else get x L:=by
 by_cases h:x=k
 ·rw[if_pos h,get_none,h];exact Fx q k
 ·rw[if_neg h];cases a:get x L with
  |none=>
   rw[get_none]at a⊢;intro b;obtain⟨e,c,d⟩:=aki.1 b;exact a (aki.2 ⟨e,((kZ q).1 c).1,d⟩)
  |some w=>simp_all [r_,kZ,get_mem]
theorem drop_length{L:List (Int×Int)}{k:Int}(h:k∈keys L):(drop k L).length+1=L.length:=by
 induction L with
 |nil=>simp[keys]at h
 |cons e es b=>
  unfold drop;by_cases a:k=e.1
  ·simp_all
  ·rw[if_neg a];simp only[akZ]
   have:k∈keys es:=by
    simp only[keys,aky,akG]at h;rcases h with h|h
    ·exact absurd h a
    ·exact h
   have:=b this;omega
theorem D9{L:List (Int×Int)}{k v:Int}:(put k v L).length=if k∈keys L then L.length else L.length+1:=by
 induction L with
 |nil=>rfl
 |cons e es d=>
  unfold put;by_cases a:k=e.1
  ·rw[if_pos a,if_pos (by simp[keys,a])];rfl
  ·rw[if_neg a];simp only[akZ,d];by_cases b:k∈keys es
   ·rw[if_pos b,if_pos (by simp only[keys,aky,akG];exact .inr b)]
   ·rw[if_neg b,if_neg (by simp only[keys,aky,akG];rintro(c|c);exact a c;exact b c)]
def rI(L:List (Int×Int))(w:Int):Prop:=w∈keys L/\∀x∈keys L,score L w<score L x\/score L w=score L x/\w<=x
theorem rI.unique{L:List (Int×Int)}{w q:Int}(h:rI L w)(A:rI L q):w=q:=by
 have a:=h.2 q A.1;have b:=A.2 w h.1;omega
theorem rI.perm{L L':List (Int×Int)}{w:Int}(q:L.Perm L')(A:(keys L).Nodup)(h:rI L w):rI L' w:=by
 refine⟨(q.map (·.1)).mem_iff.1 h.1,λx a=>?_⟩;rw[<-oL q A,<-oL q A];exact h.2 x ((q.map (·.1)).mem_iff.2 a)
def leI(x y:Int):Bool:=decide (x<=y)
def IS(L:List (Int×Int)):List Int:=(keys L).mergeSort leI
theorem Ng(a b c:Int)(h:leI a b=true)(k:leI b c=true):leI a c=true:=by
 unfold leI at*
 grind
theorem Nh(a b:Int):(leI a b||leI b a)=true:=by
 unfold leI
 grind
theorem xu(L:List (Int×Int)):(IS L).Perm (keys L):=List.mergeSort_perm _ _
theorem sY(L:List (Int×Int)):(IS L).Pairwise (λx y=>x<=y):=by
 have:=List.pairwise_mergeSort Ng Nh (keys L);exact this.imp λh=>by simpa[leI]using h
theorem kW:∀{a b:List Int},a.Perm b->a.Pairwise (λx y=>x<=y)->b.Pairwise (λx y=>x<=y)->a=b:=by
 intro a b c d e;exact c.eq_of_pairwise (λx y _ _ f g=>ω) d e
theorem GK{L L':List (Int×Int)}(q:L.Perm L'):IS L=IS L':=
 kW ((xu L).trans ((q.map _).trans (xu L').symm)) (sY L) (sY L')
theorem Kx(L:List (Int×Int)):(IS L).length=L.length:=by
 rw[(xu L).length_eq];simp[keys]
def yW(d:Int)(e:Int×Int):Option (Int×Int):=if 0<=e.2+d then none else some (e.1,e.2+d)
def tick(d:Int)(L:List (Int×Int)):List (Int×Int):=L.filterMap (yW d)
theorem Ky{d:Int}{L:List (Int×Int)}{e:Int×Int}:e∈tick d L↔(e.1,e.2-d)∈L/\e.2<0:=by
 unfold tick;rw[List.mem_filterMap];constructor
 ·grind [yW]
 ·rintro⟨a,b⟩;refine⟨_,a,?_⟩;simp_all [if_neg,yW]
theorem Xs{d:Int}{L:List (Int×Int)}(q:(keys L).Nodup):(keys (tick d L)).Nodup:=by
 induction L with
 |nil=>exact q
 |cons e es a=>
  have f:e.1∉keys es/\(keys es).Nodup:=by simp_all [keys]
  have a:=a f.2;unfold tick at a⊢;rw[akV];unfold yW;split
  ·exact a
  ·rename_i b c;split at c
   ·cases c
   ·cases c;simp only[keys,aky,akP];refine⟨λg=>?_,a⟩;obtain⟨x,h,i⟩:=aki.1 g;have:=(Ky).1 h;exact f.1 (aki.2 ⟨_,this.1,i⟩)
theorem Xt{d:Int}{L L':List (Int×Int)}(q:L.Perm L'):(tick d L).Perm (tick d L'):=q.filterMap _
theorem BZ(d:Int)(L:List (Int×Int)):(tick d L).length<=L.length:=List.length_filterMap_le _ _
end Peers
end Go.Proofs.YtennbinbffdimaaGreat
namespace Go.Proofs
open Go.Shelf
def Tryz.keysA_ren:Go.Shelf.Ren:=⟨λ|7=>154|10=>216|n=>n,λ|23=>213|26=>3|3=>3|28=>225|0=>0|27=>224|33=>43|4=>4|n=>n,λ|n=>n⟩
theorem Tryz.keysA:Go.Proofs.SlLaysZI.n7 Tryz.prog Tryz.keysA_ren:={
 mixed:=κ
 f7:=⟨Tryz.f154.name,δ,Tryz.func154.trans (congrArg some κ)⟩
 f10:=⟨Tryz.f216.name,δ,Tryz.func216.trans (congrArg some κ)⟩
 t0:=Tryz.underlying0
 a0:=Tryz.isAgg0
 z0:=Tryz.sizeOf0
 v0:=Tryz.zeroValue0
 t4:=Tryz.underlying4
 a4:=Tryz.isAgg4
 z4:=Tryz.sizeOf4
 v4:=Tryz.zeroValue4
 t23:=Tryz.underlying213
 a23:=Tryz.isAgg213
 z23:=Tryz.sizeOf213
 v23:=Tryz.zeroValue213
 t26:=Tryz.underlying3
 a26:=Tryz.isAgg3
 z26:=Tryz.sizeOf3
 v26:=Tryz.zeroValue3
 t27:=Tryz.underlying224
 a27:=Tryz.isAgg224
 z27:=Tryz.sizeOf224
 v27:=Tryz.zeroValue224
 t28:=Tryz.underlying225
 a28:=Tryz.isAgg225
 z28:=Tryz.sizeOf225
 v28:=Tryz.zeroValue225
 t33:=Tryz.underlying43
 a33:=Tryz.isAgg43
 z33:=Tryz.sizeOf43
 v33:=Tryz.zeroValue43}
def Tryz.sortedA_ren:Go.Shelf.Ren:=⟨λ|6=>153|8=>214|9=>215|11=>271|13=>273|12=>272|23=>310|24=>311|14=>301|15=>302|16=>303|17=>304|18=>305|19=>306|20=>307|21=>308|22=>309|25=>329|26=>330|27=>331|28=>332|29=>333|30=>334|31=>341|n=>n,λ|26=>3|28=>225|24=>92|0=>0|3=>3|37=>88|48=>288|50=>53|4=>4|40=>372|39=>371|45=>169|5=>5|9=>9|51=>397|55=>401|57=>408|58=>409|33=>43|n=>n,λ|n=>n⟩
theorem Tryz.sortedA:Go.Proofs.SlLaysZI.n6 Tryz.prog Tryz.sortedA_ren:={
 mixed:=κ
 f6:=⟨Tryz.f153.name,δ,Tryz.func153.trans (congrArg some κ)⟩
 f8:=⟨Tryz.f214.name,δ,Tryz.func214.trans (congrArg some κ)⟩
 f11:=⟨Tryz.f271.name,δ,Tryz.func271.trans (congrArg some κ)⟩
 t0:=Tryz.underlying0
 a0:=Tryz.isAgg0
 z0:=Tryz.sizeOf0
 v0:=Tryz.zeroValue0
 t24:=Tryz.underlying92
 a24:=Tryz.isAgg92
 z24:=Tryz.sizeOf92
 v24:=Tryz.zeroValue92
 t26:=Tryz.underlying3
 a26:=Tryz.isAgg3
 z26:=Tryz.sizeOf3
 v26:=Tryz.zeroValue3
 t28:=Tryz.underlying225
 a28:=Tryz.isAgg225
 z28:=Tryz.sizeOf225
 v28:=Tryz.zeroValue225
 i26:=κ}
def Tryz.sortA_ren:Go.Shelf.Ren:=⟨λ|5=>215|8=>273|7=>272|19=>310|20=>311|10=>301|11=>302|12=>303|13=>304|14=>305|15=>306|16=>307|17=>308|18=>309|30=>329|31=>330|32=>331|33=>332|34=>333|35=>334|40=>341|n=>n,λ|23=>92|25=>3|3=>3|32=>88|22=>92|0=>0|44=>288|46=>53|4=>4|36=>372|35=>371|41=>169|5=>5|9=>9|53=>397|57=>401|63=>408|64=>409|n=>n,λ|n=>n⟩
theorem Tryz.sortA:Go.Proofs.SlLaysM.n5 Tryz.prog Tryz.sortA_ren:={
 mixed:=κ
 f5:=⟨Tryz.f215.name,δ,Tryz.func215.trans (congrArg some κ)⟩
 f7:=⟨Tryz.f272.name,δ,Tryz.func272.trans (congrArg some κ)⟩
 f8:=Tryz.func273.trans (congrArg some κ)
 f10:=⟨Tryz.f301.name,δ,Tryz.func301.trans (congrArg some κ)⟩
 f11:=⟨Tryz.f302.name,δ,Tryz.func302.trans (congrArg some κ)⟩
 f12:=⟨Tryz.f303.name,δ,Tryz.func303.trans (congrArg some κ)⟩
 f13:=⟨Tryz.f304.name,δ,Tryz.func304.trans (congrArg some κ)⟩
 f14:=⟨Tryz.f305.name,δ,Tryz.func305.trans (congrArg some κ)⟩
 f15:=⟨Tryz.f306.name,δ,Tryz.func306.trans (congrArg some κ)⟩
 f16:=⟨Tryz.f307.name,δ,Tryz.func307.trans (congrArg some κ)⟩
 f17:=⟨Tryz.f308.name,δ,Tryz.func308.trans (congrArg some κ)⟩
 f18:=⟨Tryz.f309.name,δ,Tryz.func309.trans (congrArg some κ)⟩
 f19:=Tryz.func310.trans (congrArg some κ)
 f20:=Tryz.func311.trans (congrArg some κ)
 f30:=⟨Tryz.f329.name,δ,Tryz.func329.trans (congrArg some κ)⟩
 f31:=Tryz.func330.trans (congrArg some κ)
 f32:=Tryz.func331.trans (congrArg some κ)
 f33:=⟨Tryz.f332.name,δ,Tryz.func332.trans (congrArg some κ)⟩
 f34:=⟨Tryz.f333.name,δ,Tryz.func333.trans (congrArg some κ)⟩
 f35:=⟨Tryz.f334.name,δ,Tryz.func334.trans (congrArg some κ)⟩
 f40:=⟨Tryz.f341.name,δ,Tryz.func341.trans (congrArg some κ)⟩
 t0:=Tryz.underlying0
 a0:=Tryz.isAgg0
 z0:=Tryz.sizeOf0
 v0:=Tryz.zeroValue0
 t3:=Tryz.underlying3
 a3:=Tryz.isAgg3
 z3:=Tryz.sizeOf3
 v3:=Tryz.zeroValue3
 t4:=Tryz.underlying4
 a4:=Tryz.isAgg4
 z4:=Tryz.sizeOf4
 v4:=Tryz.zeroValue4
 t5:=Tryz.underlying5
 a5:=Tryz.isAgg5
 z5:=Tryz.sizeOf5
 v5:=Tryz.zeroValue5
 t9:=Tryz.underlying9
 a9:=Tryz.isAgg9
 z9:=Tryz.sizeOf9
 v9:=Tryz.zeroValue9
 t22:=Tryz.underlying92
 a22:=Tryz.isAgg92
 z22:=Tryz.sizeOf92
 v22:=Tryz.zeroValue92
 t23:=Tryz.underlying92
 a23:=Tryz.isAgg92
 z23:=Tryz.sizeOf92
 v23:=Tryz.zeroValue92
 t25:=Tryz.underlying3
 a25:=Tryz.isAgg3
 z25:=Tryz.sizeOf3
 v25:=Tryz.zeroValue3
 t32:=Tryz.underlying88
 a32:=Tryz.isAgg88
 z32:=Tryz.sizeOf88
 v32:=Tryz.zeroValue88
 t35:=Tryz.underlying371
 a35:=Tryz.isAgg371
 z35:=Tryz.sizeOf371
 v35:=Tryz.zeroValue371
 t36:=Tryz.underlying372
 a36:=Tryz.isAgg372
 z36:=Tryz.sizeOf372
 v36:=Tryz.zeroValue372
 t41:=Tryz.underlying169
 a41:=Tryz.isAgg169
 z41:=Tryz.sizeOf169
 v41:=Tryz.zeroValue169
 t44:=Tryz.underlying288
 a44:=Tryz.isAgg288
 z44:=Tryz.sizeOf288
 v44:=Tryz.zeroValue288
 t46:=Tryz.underlying53
 a46:=Tryz.isAgg53
 z46:=Tryz.sizeOf53
 v46:=Tryz.zeroValue53
 t53:=Tryz.underlying397
 a53:=Tryz.isAgg397
 z53:=Tryz.sizeOf397
 v53:=Tryz.zeroValue397
 t57:=Tryz.underlying401
 a57:=Tryz.isAgg401
 z57:=Tryz.sizeOf401
 v57:=Tryz.zeroValue401
 t63:=Tryz.underlying408
 a63:=Tryz.isAgg408
 z63:=Tryz.sizeOf408
 v63:=Tryz.zeroValue408
 t64:=Tryz.underlying409
 a64:=Tryz.isAgg409
 z64:=Tryz.sizeOf409
 v64:=Tryz.zeroValue409}
end Go.Proofs
namespace Go.Proofs.YtennbinbffdimaaGreat
open Go Go.Vc
namespace Peers
def dL(n:Int):TV:=.int .i64 n
def dn(es:List (Int×Int×Nat)):List (TV×TV×Nat):=es.map λe=>(.int .i64 e.1,.int .i64 e.2.1,e.2.2)
def abs(es:List (Int×Int×Nat)):List (Int×Int):=es.map λe=>(e.1,e.2.1)
def yX(es:List (Int×Int×Nat))(c:Nat):Prop:=(∀e∈es,e.2.2<c)/\(es.map (·.2.2)).Nodup
def B4(h:af)(r:Nat)(L:List (Int×Int)):Prop:=∃es c,h[r]? =some (bX (dn es) c)/\abs es=L/\yX es c
theorem B4.ext{h q:af}{r:Nat}{L:List (Int×Int)}(m:B4 h r L)(e:Ext h q):B4 q r L:=by
 obtain⟨es,c,a,b⟩:=m;exact⟨es,c,by rw[e.same r (akU.1 a).1,a],b⟩
theorem B4.only{S:Nat->Prop}{h q:af}{r:Nat}{L:List (Int×Int)}(m:B4 h r L)(o:ag S h q)(A:¬S r):B4 q r L:=by
 obtain⟨es,c,a,b⟩:=m;exact⟨es,c,by rw[o.same r (akU.1 a).1 A,a],b⟩
theorem B4.lt{h:af}{r:Nat}{L:List (Int×Int)}(m:B4 h r L):r<h.size:=by
 obtain⟨es,c,a,b⟩:=m
 grind
theorem mW(es:List (Int×Int×Nat)):dH ctx (.int .i64) (dn es):=by
 intro e a;obtain⟨x,_,rfl⟩:=aki.1 a;rfl
theorem B6(k:Int):∀es:List (Int×Int×Nat),eE (.int .i64 k) (dn es)=(get k (abs es)).map (akE .i64)
 |[]=>rfl
 |e::es=>by
  have a:=B6 k es;unfold dn abs at a⊢;simp only[aky,eE,get,jR,decide_eq_true_eq]
  grind
theorem acu(k:Int)(es:List (Int×Int×Nat)):Lz (.int .i64 k) (dn es)=(get k (abs es)).isSome:=by
 simp[B6,Lz]
theorem Kz(k:Int)(es:List (Int×Int×Nat)):V5 (eE (.int .i64 k) (dn es)) (.int .i64 0)=.int .i64 (score (abs es) k):=by
 unfold V5 score;rw[B6];cases get k (abs es)<;>rfl
theorem acv(k v:Int){c:Nat}{es:List (Int×Int×Nat)}(q:yX es c):
 ∃i,jb (.int .i64 k) (.int .i64 v) c (dn es)=dn i/\abs i=put k v (abs es)/\yX i (fJ (.int .i64 k) c (dn es)):=by
 have key:∀es:List (Int×Int×Nat),(∃d,jb (.int .i64 k) (.int .i64 v) c (dn es)=dn d/\abs d=put k v (abs es)/\
  ((get k (abs es)=none/\d.map (·.2.2)=es.map (·.2.2)++[c])\/(get k (abs es)≠none/\d.map (·.2.2)=es.map (·.2.2)))):=by
  intro es
  induction es with
  |nil=>exact⟨[(k,v,c)],rfl,rfl,.inl ⟨rfl,rfl⟩⟩
  |cons e es n=>
   obtain⟨d,j,l,f⟩:=n;have d1:dn (e::es)=(.int .i64 e.1,.int .i64 e.2.1,e.2.2)::dn es:=rfl;have d2:abs (e::es)=(e.1,e.2.1)::abs es:=rfl;rw[d1,d2];simp only[jb,put,get,jR,decide_eq_true_eq];by_cases h:k=e.1
   ·rw[if_pos h,if_pos h,if_pos h];exact⟨(e.1,v,e.2.2)::es,rfl,rfl,.inr ⟨by simp,rfl⟩⟩
   ·rw[if_neg h,if_neg h,if_neg h,j,<-l];refine⟨e::d,rfl,rfl,?_⟩;simp_all
 obtain⟨d,j,l,f⟩:=key es;refine⟨d,j,l,?_⟩
 have o:fJ (.int .i64 k) c (dn es)=match get k (abs es)with|some _=>c|none=>c+1:=by
  grind [get,fJ,B6,abs]
 rw[o];have r:∀e∈d,e.2.2∈d.map (·.2.2):=λe g=>aki.2 ⟨e,g,rfl⟩
 have s:∀x∈es.map (·.2.2),x<c:=λx p=>by
  obtain⟨e,g,rfl⟩:=aki.1 p;exact q.1 e g
 rcases f with⟨f,m⟩|⟨f,m⟩
 ·rw[f];refine⟨λe g=>?_,?_⟩
  ·grind
  ·rw[m];refine List.nodup_append.2 ⟨q.2,by simp,λa t b u=>?_⟩
   grind
 ·cases w:get k (abs es)with
  |none=>simp_all
  |some v=>
   refine⟨λe g=>?_,by rw[m];exact q.2⟩
   grind
theorem RD(k:Int){c:Nat}:∀{es:List (Int×Int×Nat)},yX es c->∃a,fN (.int .i64 k) (dn es)=dn a/\abs a=drop k (abs es)/\yX a c/\a.Sublist es
 |[],q=>⟨[],rfl,rfl,q,List.Sublist.refl _⟩
 |e::es,q=>by
  have f:yX es c:=⟨λx b=>q.1 x (ak0 _ b),(akP.1 q.2).2⟩;obtain⟨g,i,j,m,l⟩:=RD k f;have d1:dn (e::es)=(.int .i64 e.1,.int .i64 e.2.1,e.2.2)::dn es:=rfl;have d2:abs (e::es)=(e.1,e.2.1)::abs es:=rfl;rw[d1,d2];simp only[fN,drop,jR,decide_eq_true_eq];by_cases h:k=e.1
  ·grind
  ·rw[if_neg h,if_neg h,i,<-j];have d:=l.cons_cons e;refine⟨e::g,rfl,rfl,⟨λx b=>q.1 x (d.mem b),q.2.sublist (d.map _)⟩,d⟩
theorem aet(m:Nat):AnyZI.SortsIn Tryz.prog Tryz.sortedA_ren Fence.wide m:=
 ⟨λa off cap b W c d e=>callsIn_wide.2 (AnyM.slices_Sort_int Tryz.sortA a off cap b W c d e),
  λp cap W=>callsIn_wide.2 (AnyM.slices_Sort_int_none Tryz.sortA p cap W)⟩
def acw:Value->Option (DataW Unit×List MemPlace):=λ_=>some (.nil,[])
theorem aeu{q:TypeId}(A:Tryz.prog.underlying q=some (.int .i64))(x:Int×Int×Nat)(B:(akH .i64 x.1).wf=true):
 WideElems.rd Tryz.prog q acw ⟨(akE .i64 x.1).val,(akE .i64 x.2.1).val,x.2.2⟩=some (.int .i64 x.1,.nil):=by
 unfold WideElems.rd;have:=Maps.keyOf_int_mk A B;simp only[TV.val];rw[this];rfl
theorem owns{w:World}{r c:Nat}{es:List (Int×Int×Nat)}(q:w.heap[r]? =some (bX (dn es) c))(A:yX es c)(E:(keys (abs es)).Nodup)(B:∀k∈keys (abs es),(akH .i64 k).wf=true)(G:es.length<=maxLen):
 ∃D:DataW Unit,w.ownsMap Tryz.prog 3 acw r es.length D/\Maps.size D=es.length/\(Go.intKeys D).Perm (keys (abs es)):=by
 have b:bX (dn es) c=.map (es.map λx=>⟨(akE .i64 x.1).val,(akE .i64 x.2.1).val,x.2.2⟩).toArray c:=by
  simp[aks,bX,dn]
 rw[b]at q;have d:=Tryz.underlying3
 have e:=λx a=>
  aeu d x (B _ (aki.2 ⟨_,aki.2 ⟨x,a,rfl⟩,rfl⟩))
 refine⟨_,⟨_,c,q,⟨by simp_all,⟨?_,?_,?_⟩,?_⟩,by simp,rfl⟩,?_,?_⟩
 ·intro x a;simp only[aki]at a;obtain⟨y,f,rfl⟩:=a;exact A.1 y f
 ·simp only[aks];exact A.2
 ·simp only[aks]
  have:(akN ((λx:MapEntry=>x.key)∘λx:Int×Int×Nat=>⟨(akE .i64 x.1).val,(akE .i64 x.2.1).val,x.2.2⟩) es)=(keys (abs es)).map (λk=>Value.int .i64 k):=by
   unfold keys abs;simp only[aks];rfl
  grind
 ·grind
 ·simp[length_sorted,Maps.size_eq]
 ·have g:(akN (WideElems.rg Tryz.prog 3 acw) (es.map λx=>⟨(akE .i64 x.1).val,(akE .i64 x.2.1).val,x.2.2⟩))=es.map λx=>(akH .i64 x.1,DataW.nil):=by
   rw[aks];refine List.map_congr_left λx a=>?_;simp only[Function.comp,WideElems.rg];rw[e x a];rfl
  rw[g];have h:=(WideShapes.sorted_perm (es.map λx=>((akH .i64 x.1,DataW.nil):Lit×DataW Unit))).map (λp=>Go.intOf p.1);refine h.trans ?_;rw[aks];unfold keys abs;rw[aks];rfl
section
variable{R:Value->af->Prop}{h:af}
def Up(A:Sl)(n:Nat):Prop:=∀l,A.a=some l->n<=l.b
theorem RE{r:Nat}{L:List (Int×Int)}(m:B4 h r L)(G:(keys L).Nodup)(H:∀k∈keys L,(akH .i64 k).wf=true)(A:L.length<1000000)
 (B:∀d s,Ext h d->Vc.Own 3 1 d s ((IS L).map dL)->Up s h.size->R (TV.slice s).val d):
 bC Tryz.prog 154 (ak.vals [.map (some r)]) h λv f=>∃o:One,v=(TV.one o).val/\bC Tryz.prog 153 (ak.vals [.one o]) f R:=by
 obtain⟨es,c,n,rfl,F⟩:=m;have ac:es.length=(abs es).length:=by simp[abs]
 intro w I;subst I;have J:=callsIn_wide.1 (AnyZI.keys_in Tryz.keysA Fence.wide 5 trivial rfl (some r) w);refine J.mono λe w1 K=>?_;obtain⟨M,rfl⟩:=K;refine⟨⟨rfl,rfl,rfl,λe=>by cases e⟩,_,M,⟨_,rfl⟩,rfl,?_⟩;intro W i;have N:=(akU.1 n).1
 have O:W.heap[r]? =some (bX (dn es) c):=by
  rw[i];exact(akl w.heap _).same r N▸n
 have P:es.length<=maxLen:=by unfold maxLen;omega
 obtain⟨D,Q,ad,ae⟩:=owns O F G H P;have al:W.heap.size=w.heap.size+1:=by simp_all
 have S:=AnyZI.keys_gives {Tryz.keysA with} Fence.wide 2 trivial rfl ω w.heap.size r es.length D W ω (by
  rw[cell?_eq];unfold ng;have am:W.heap=w.heap.push (.cells #[.map (some r)] (Tryz.keysA_ren.t 23)):=i
  grind) Q
 have T:=AnyZI.sorted_in Tryz.sortedA Fence.wide 5 trivial trivial trivial trivial rfl ω (aet _) (enters_of Tryz.func215 (by rfl) rfl) 216 #[.pointer (some ⟨w.heap.size,0,none⟩)] trivial (enters_of Tryz.func216 (by rfl) rfl) _ _ ω ω W S;refine(callsIn_wide.1 T).mono λe j U=>?_;obtain⟨v,b,V,hS,p,ao,a⟩:=U
 have u:b.mergeSort (λx y=>decide (x<=y))=IS (abs es):=by
  refine kW ?_ ?_ (sY _)
  ·grind [trans,List.mergeSort_perm,xu]
  grind [leI,Ng,Nh,List.pairwise_mergeSort]
 have z:Ext w.heap W.heap:=by rw[i];exact akl _ _
 have C:Ext W.heap j.heap:=⟨a.size,a.block⟩;have ap:b.length=(IS (abs es)).length:=by rw[<-u,(List.mergeSort_perm _ _).length_eq]
 refine⟨⟨a.os,a.tape,a.output,λe=>by cases e⟩,v,V,?_⟩;rw[u]at p
 have X:∀l:List Int,akj (l.map dL)=l.map (λq=>Value.int .i64 q):=λl=>by
  induction l with
  |nil=>rfl
  |cons x xs Y=>simp only[aky,akj,Y];rfl
 rcases p.2 with⟨rfl,h0⟩|⟨g,cap,Z,rfl,hg,ab,f,h2,h3,E⟩
 ·have:IS (abs es)=[]:=List.eq_nil_of_length_eq_zero ω;have:=B j.heap Sl.nil (z.trans C) (by simp_all [Vc.Own.nil]) (λl A=>by cases A);exact this
 ·refine B j.heap ⟨some ⟨g,0⟩,b.length,cap⟩ (z.trans C) ⟨?_,by simp_all,f,.inr ⟨g,Z.toList.drop b.length,rfl,?_,?_⟩⟩ ?_
  ·intro t ht;obtain⟨x,_,rfl⟩:=aki.1 ht;rfl
  ·rw[ab,X];rw[Nat.mul_one]at E;have:=E.symm;rw[this,List.take_append_drop];rfl
  ·simp_all
  ·intro l A
   grind
end
end Peers
namespace Peers
structure Good(L:List (Int×Int)):Prop where
 one:(keys L).Nodup
 fit:∀k∈keys L,(akH .i64 k).wf=true
 low:∀e∈L,-1048576<=e.2/\e.2<0
def Valid(most bH decay:Int):Prop:=1<=most/\most<=16/\1<=bH/\bH<=1048576/\1<=decay/\decay<=1048576
structure Pe(h:af)(b r:Nat)(L:List (Int×Int))(most bH decay gone:Int):Prop where
 var:Var 215 h b (.agg [.map (some r),.i most,.i bH,.i decay,.i gone])
 map:B4 h r L
 good:Good L
 len:(L.length:Int)<=most
 cfg:Valid most bH decay
section
variable{R:Rq}{h h':af}{b r:Nat}{L:List (Int×Int)}{most bH decay gone:Int}
theorem Pe.ext(p:Pe h b r L most bH decay gone)(e:Ext h h'):Pe h' b r L most bH decay gone:=⟨p.var.ext e,p.map.ext e,p.good,p.len,p.cfg⟩
theorem Pe.only{S:Nat->Prop}(p:Pe h b r L most bH decay gone)(o:ag S h h')(q:¬S b)(A:¬S r):Pe h' b r L most bH decay gone:=⟨p.var.only o q,p.map.only o A,p.good,p.len,p.cfg⟩
theorem Pe.ne(p:Pe h b r L most bH decay gone):b≠r:=by
 rintro rfl;obtain⟨es,c,a,_⟩:=p.map;have:=p.var;unfold Var at this;rw[a]at this;cases this
theorem CN(g:Good L)(k:Int):-1048576<=score L k/\score L k<=0:=by
 unfold score;cases a:get k L with
 |none=>simp
 |some v=>
  have:=g.low _ ((get_mem g.one).1 a)
  grind
theorem ir{n top:Int}(q:R (akn (decide (1<=n/\n<=top))).val h):Cl 146 [.i n,.i top] h R:=by
 apply Fy;refine ID (λa=>?_) λa=>?_
 ·have:decide (1<=n/\n<=top)=decide (n<=top):=by simp_all
  rw[this]at q;exact q
 simp_all
theorem Fw(A:Valid most bH decay->∀h',Ext h h'->Pe h' (h.size+1) h.size [] most bH decay 0->R (akk (some ⟨h.size+1,0⟩)).val h')(q:¬Valid most bH decay->R (akk none).val h):
 Cl 78 [.i most,.i bH,.i decay] h R:=by
 apply Ir;refine ir ⟨_,rfl,?_⟩;refine akt (λc=>q (λa=>?_)) (λc=>?_)
 ·simp only[Bool.not_eq_true',decide_eq_false_iff_not]at c;exact c ⟨a.1,a.2.1⟩
 refine ir ⟨_,rfl,?_⟩;refine akt (λb=>q (λa=>?_)) (λb=>?_)
 ·simp only[Bool.not_eq_true',decide_eq_false_iff_not]at b;exact b ⟨a.2.2.1,a.2.2.2.1⟩
 refine ir ⟨_,rfl,?_⟩;refine akt (λd=>q (λa=>?_)) (λd=>?_)
 ·simp only[Bool.not_eq_true',decide_eq_false_iff_not]at d;exact d a.2.2.2.2
 simp only[Bool.not_eq_false',decide_eq_true_eq]at c b d;have a:Valid most bH decay:=⟨c.1,c.2,b.1,b.2,d.1,d.2⟩;have l:=akl h (bX [] 0);have m:(h.push (bX [] 0)).size=h.size+1:=by simp
 unfold cL;obtain⟨b,n,g,j,r⟩:=DN (h.push (bX [] 0)) (.agg [.map (some h.size),.i most,.i bH,.i decay,.i 0]) 215;rw[n];rw[m]at g⊢;have o:B4 (h.push (bX [] 0)) h.size []:=⟨[],0,by simp[dn],rfl,(λe f=>by cases f),akY⟩;exact A a b (l.trans j) ⟨g,o.ext j,⟨akY,(λk p=>by cases p),(λe f=>by cases f)⟩,by grind,a⟩
theorem D_(p:Pe h b r L most bH decay gone){k:Int}(q:R (TV.i (score L k)).val h):Cl 87 [.ptr (PT b),.i k] h R:=by
 apply xw;obtain⟨es,c,a,rfl,_⟩:=p.map;refine akz ⟨some r,p.var.ah rfl,dn es,c,a,mW es,_,Kz k es,q⟩
theorem RF(p:Pe h b r L most bH decay gone){k:Int}(q:R (akn (decide (score L k<=-bH))).val h):Cl 147 [.ptr (PT b),.i k] h R:=by
 apply vn;have a:=p.cfg;unfold Valid at a;refine akQ ⟨bH,p.var.ah rfl,D_ p ⟨_,rfl,akp _,?_⟩⟩;rw[wrap_i64 ω ω];have:0-bH=-bH:=ω;rw[this];exact q
theorem KA(p:Pe h b r L most bH decay gone)(q:∀h' s,Ext h h'->Vc.Own 3 1 h' s ((IS L).map dL)->Up s h.size->R (TV.slice s).val h'):
 Cl 85 [.ptr (PT b)] h R:=by
 apply xz;have c:=p.len;have a:=p.cfg;unfold Valid at a;refine akz ⟨some r,p.var.ah rfl,?_⟩;refine(RE p.map p.good.one p.good.fit ω λh' s x o u=>⟨s,rfl,q h' s x o u⟩)
theorem ints_at{h:af}{A:Sl}{l:List Int}(e:aj 1 h A (l.map dL)){i:Int}(q:0<=i)(E:i<l.length){K:Go.Vc.Loc->Prop}
 (B:∀p x,l[i.toNat]? =some x->ah h p.b (p.o+i.toNat*1) (.i x)->K p):0<=i/\i<A.len/\Nn A.a K:=by
 have b:=e.len;rw[ako]at b;refine e.read q ω λp t _ a c=>?_;rw[akW,Option.map_eq_some_iff]at a;obtain⟨x,d,rfl⟩:=a;exact B p x d c
theorem Xu{l:List Int}(q:l.Pairwise (λx y=>x<=y)){i j:Nat}{x y:Int}(A:i<=j)(B:l[i]? =some x)(E:l[j]? =some y):x<=y:=by
 obtain⟨a,rfl⟩:=akS.1 B;obtain⟨b,rfl⟩:=akS.1 E;rcases Nat.lt_or_eq_of_le A with h|h
 ·exact List.pairwise_iff_getElem.1 q i j a b h
 ·subst h;exact akw _
theorem TY(p:Pe h b r L most bH decay gone)(G:L≠[])(H:∀h' w,Ext h h'->rI L w->R (TV.i w).val h'):Cl 151 [.ptr (PT b)] h R:=by
 apply xA;delta gK iZ Ti yh gI bK aT bA;refine KA p λI s u o _=>⟨s,rfl,?_⟩;have X:=Kx L;have Y:=List.length_pos_iff.2 G;have J:=o.len;rw[ako]at J;have Z:=p.len;have K:=p.cfg;unfold Valid at K;have M:=sY L;have v:∀x,x∈IS L↔x∈keys L:=λx=>(xu L).mem_iff;refine ints_at o.elems ω ω λl n N O=>⟨n,O,?_⟩
 refine⟨λd A=>0<=d.2/\d.2<=(IS L).length/\Ext I A/\(∃q:Nat,(IS L)[q]? =some d.1/\q<max d.2 1)/\(∀(j:Nat)(x:Int),j<d.2->(IS L)[j]? =some x->score L d.1<score L x\/score L d.1=score L x/\d.1<=x),
  λd _=>((IS L).length-d.2).toNat,⟨by simp,by simp,akp _,⟨0,N,ω⟩,λj x g=>ω⟩,?_⟩
 rintro⟨a,i⟩ A ⟨B,P,x,⟨q,k,Q⟩,m⟩;simp only at B P k Q m⊢;have t:=(p.ext u).ext x;refine ID (λS=>?_) λS=>?_
 ·refine ints_at (o.ext x).elems B ω λl' y C T=>⟨y,T,?_⟩;obtain⟨es,c,D,U,_⟩:=t.map;have E:=Kz y es;have F:=Kz a es;rw[U]at E F;refine⟨some r,t.var.ah rfl,dn es,c,D,mW es,_,E,some r,t.var.ah rfl,dn es,c,D,mW es,_,F,?_⟩;rw[wrap_i64 ω ω];have V:q<=i.toNat:=ω;have ab:=Xu M V k C;refine ID (λW=>⟨⟨ω,ω,x,⟨i.toNat,C,ω⟩,λj z g f=>?_⟩,ω⟩) λW=>⟨⟨ω,ω,x,⟨q,k,ω⟩,λj z g f=>?_⟩,ω⟩
  ·by_cases e:j=i
   ·grind
   ·have:=m j z ω f;omega
  ·by_cases e:j=i
   ·grind
   ·exact m j z ω f
 ·refine H _ a (u.trans x) ⟨(v a).1 (akO k),λz f=>?_⟩;obtain⟨j,g,rfl⟩:=List.getElem_of_mem ((v z).2 f);exact m j _ ω (akv g)
def lower(s pts:Int):Int:=mx (s-mn pts 1048576) (-1048576)
theorem B7{s pts:Int}(q:-1048576<=s/\s<=0)(A:0<pts):-1048576<=lower s pts/\lower s pts<0:=by
 grind [mn,lower,mx]
def lN(most:Int)(L:List (Int×Int))(k pts:Int)(L':List (Int×Int))(g:Int):Prop:=
 (pts<=0/\L'=L/\g=0)\/
 (0<pts/\(k∈keys L\/(L.length:Int)<most)/\g=0/\L'=put k (lower (score L k) pts) L)\/
 (0<pts/\k∉keys L/\most<=L.length/\g=1/\∃w,rI L w/\L'=put k (lower 0 pts) (drop w L))
theorem Good.put(g:Good L){k v:Int}(q:(akH .i64 k).wf=true)(A:-1048576<=v/\v<0):Good (Peers.put k v L):=by
 have c:=kY g.one k v;refine⟨Kw g.one k v,λx d=>?_,λe a=>?_⟩
 ·have:=(c.map (·.1)).mem_iff.1 d;simp only[aky,akG]at this;rcases this with rfl|b
  ·exact q
  ·obtain⟨e,a,rfl⟩:=aki.1 b;exact g.fit _ (aki.2 ⟨e,((kZ g.one).1 a).1,rfl⟩)
 ·have:=c.mem_iff.1 a;rcases akG.1 this with rfl|b
  ·exact A
  ·exact g.low _ ((kZ g.one).1 b).1
theorem Good.drop(g:Good L)(k:Int):Good (Peers.drop k L):=
 ⟨r_ g.one k,λx b=>by
  obtain⟨e,a,rfl⟩:=aki.1 b;exact g.fit _ (aki.2 ⟨e,((kZ g.one).1 a).1,rfl⟩),λe a=>g.low _ ((kZ g.one).1 a).1⟩
theorem sZ{h:af}{r:Nat}{o:Obj}:ag (·=r) h (h.setIfInBounds r o):=
 ⟨by simp,λi a b=>by grind⟩
theorem y_{h:af}{r:Nat}{o:Obj}(q:r<h.size):(h.setIfInBounds r o)[r]? =some o:=by grind
theorem B4.put{es:List (Int×Int×Nat)}{c:Nat}{k v:Int}(q:r<h.size)(A:yX es c):B4 (h.setIfInBounds r (bX (jb (.i k) (.i v) c (dn es)) (fJ (.i k) c (dn es)))) r (Peers.put k v (abs es)):=by
 obtain⟨a,b,d,e⟩:=acv k v A;rw[b];exact⟨a,_,y_ q,d,e⟩
theorem B4.drop{es:List (Int×Int×Nat)}{c:Nat}{k:Int}(q:r<h.size)(A:yX es c):B4 (h.setIfInBounds r (bX (fN (.i k) (dn es)) c)) r (Peers.drop k (abs es)):=by
 obtain⟨a,b,d,e,_⟩:=RD k A;rw[b];exact⟨a,_,y_ q,d,e⟩
theorem aev{T:TypeId}{h:af}{b i:Nat}{ts:List TV}(v:Var T h b (.agg ts))(q:∀t∈ts,t.size=1)(A:i<ts.length){t:TV}(B:t.size=1)(E:∀ts:List TV,(∀t∈ts,t.size=1)->i<ts.length->(akj ts).take i++t.cells++(akj ts).drop (i+1)=akj (ts.set i t)):
 gT h b i 1/\∃q,t.put h b i=q/\Var T q b (.agg (ts.set i t))/\ag (·=b) h q/\q.size=h.size:=by
 have c:(akj ts).length=ts.length:=by simp_all [Nat.mul_one,ak.bG]
 have a:i+t.size<=(TV.agg ts).cells.length:=by grind [TV.cells]
 refine⟨iH v ω,_,rfl,?_,gV v a,gW v a⟩
 grind [Var,jJ,TV.cells]
theorem Xv(p:Pe h b r L most bH decay gone){k pts:Int}(hk:(akH .i64 k).wf=true)(hg:0<=gone/\gone<1000000)
 (O:∀h' L' g,lN most L k pts L' g->Pe h' b r L' most bH decay (gone+g)->ag (λi=>i=b\/i=r) h h'->R (akx []).val h'):Cl 81 [.ptr (PT b),.i k,.i pts] h R:=by
 apply yY;delta MJ uu wv Ti EV fP cE aT bA;have u:=p.cfg;unfold Valid at u;have a0:=p.len;intro J hJ;refine ID (λN=>O h L 0 (.inl ⟨N,rfl,rfl⟩) (by simp_all) (ag.refl _ _)) λN=>hJ _ _ ?_;intro J2 ab
 have last:∀(l:af)(s:List (Int×Int))(g:Int),Pe l b r s most bH decay (gone+g)->ag (λi=>i=b\/i=r) h l->lN most L k pts (Peers.put k (lower (score s k) pts) s) g->
  (k∈keys s\/s.length<most)->J2 PUnit.unit l:=by
  intro l s g j A hf B;refine ab _ _ ?_;have C:=j.map.lt;obtain⟨es,c,m,rfl,P⟩:=j.map;have ac:=CN j.good k;refine⟨some r,j.var.ah rfl,some r,j.var.ah rfl,dn es,c,m,mW es,_,Kz k es,dn es,c,m,mW es,?_⟩;have a1:0<mn pts 1048576/\mn pts 1048576<=1048576:=by grind [mn]
  rw[wrap_i64 ω ω];have ad:=B7 (pts:=pts) ac ω;have x:=sZ (h:=l) (r:=r) (o:=bX (jb (.i k) (.i (lower (score (abs es) k) pts)) c (dn es)) (fJ (.i k) c (dn es)));refine O _ _ g hf ⟨j.var.only x j.ne,B4.put C P,j.good.put hk ad,?_,p.cfg⟩ (A.trans (x.mono λi q=>.inr q));have a2:=j.len
  grind [absurd,D9]
 obtain⟨es,c,m,Q,P⟩:=p.map;have A:=Kz k es;refine⟨some r,p.var.ah rfl,dn es,c,m,mW es,_,A,?_⟩;have S:=acu k es;rw[Q]at S;rw[S]
 have T:(get k L).isSome=true↔k∈keys L:=by
  cases ae:get k L with
  |none=>grind [get_none]
  |some v=>simp only[Option.isSome_some,true_iff];exact aki.2 ⟨_,(get_mem p.good.one).1 ae,rfl⟩
 intro J3 U
 have V:=λB=>
  U _ _ (akz (last h L 0 (by grind) (ag.refl _ _) (.inr (.inl ⟨ω,B,rfl,rfl⟩)) B))
 refine akt (λD=>?_) (λD=>V (.inl (T.1 (by grind))));have W:k∉keys L:=λE=>by rw[T.2 E]at D;cases D
 have al:(dn es).length=L.length:=by rw[<-Q];simp[dn,abs]
 refine⟨some r,p.var.ah rfl,dn es,c,m,most,p.var.ah rfl,?_⟩;rw[al];by_cases y:most<=(L.length:Int)
 ·dsimp only;rw[decide_eq_true y];refine U _ _ (akQ ⟨some r,p.var.ah rfl,?_⟩);refine TY p (by rintro rfl;simp at y;omega) λl w F X=>⟨w,rfl,F,?_⟩;have j:=p.ext F;have C:=j.map.lt;obtain⟨z,G,am,ao,ap⟩:=j.map;refine⟨dn z,G,am,mW z,?_⟩;have x:=sZ (h:=l) (r:=r) (o:=bX (fN (.i w) (dn z)) G);have m2:=B4.drop (k:=w) C ap;have Y:=j.var.only x j.ne;refine⟨gone,Y.ah rfl,?_⟩
  obtain⟨w3,H,e3,v3,Z,s3⟩:=aev (i:=4) (t:=.i (gone+1)) Y (by simp[akK]) (by simp) rfl (λts l q=>by
   match ts,l,q with
   |[a,b,c,d,e],l,_=>
    have g:∀t∈[a,b,c,d,e],t.cells.length=1:=λt I=>by rw[TV.ai];exact l t I
    obtain⟨a',ha⟩:=akD.1 (g a (by simp));obtain⟨b',m⟩:=akD.1 (g b (by simp));obtain⟨c',u⟩:=akD.1 (g c (by simp));obtain⟨d',K⟩:=akD.1 (g d (by simp));obtain⟨e',M⟩:=akD.1 (g e (by simp));simp[akj,ha,m,u,K,M]
   |a::b::c::d::e::f::ar,l,_=>
    have g:∀t∈a::b::c::d::e::f::ar,t.cells.length=1:=λt I=>by rw[TV.ai];exact l t I
    obtain⟨a',ha⟩:=akD.1 (g a (by simp));obtain⟨b',m⟩:=akD.1 (g b (by simp));obtain⟨c',u⟩:=akD.1 (g c (by simp));obtain⟨d',K⟩:=akD.1 (g d (by simp));obtain⟨e',M⟩:=akD.1 (g e (by simp));simp[akj,ha,m,u,K,M])
  refine⟨w3,?_⟩;rw[wrap_i64 (n:=gone+1) ω ω];have aw:(TV.i (gone+1)).put (l.setIfInBounds r (bX (fN (.i w) (dn z)) G)) b (0+4)=H:=e3;rw[aw];have a3:=drop_length (X.1)
  have aE:score (Peers.drop w L) k=0:=by
   unfold score;rw[aai p.good.one];split
   ·rfl
   ·rw[get_none.2 W];rfl
  have p3:Pe H b r (Peers.drop w L) most bH decay (gone+1):=
   ⟨v3,by rw[<-ao];exact m2.only Z (λE=>j.ne E.symm),p.good.drop w,ω,p.cfg⟩
  refine last H (Peers.drop w L) 1 p3 (((ag.an F).trans (x.mono λi q=>.inr q)).trans (Z.mono λi q=>.inl q)) ?_ (.inr ω);rw[aE];exact .inr (.inr ⟨ω,W,y,rfl,w,X,rfl⟩)
 ·dsimp only;rw[decide_eq_false y];exact V (.inr ω)
end
end Peers
namespace Peers
theorem tc{α q:Type}{f g:α->Option q}:∀{l:List α},(∀x∈l,f x=g x)->l.filterMap f=l.filterMap g
 |[],_=>rfl
 |x::l,h=>by
  rw[akV,akV,h x (List.mem_cons_self ..),tc (λy a=>h y (ak0 _ a))]
def p_(d:Int)(e:Int×Int×Nat):Option (Int×Int×Nat):=if 0<=e.2.1+d then none else some (e.1,e.2.1+d,e.2.2)
def part(d:Int)(s:Nat->Bool)(es:List (Int×Int×Nat)):List (Int×Int×Nat):=es.filterMap λe=>if s e.2.2 then p_ d e else some e
def more(s:Nat->Bool)(b:Nat):Nat->Bool:=λn=>s n||decide (n=b)
theorem CO{d:Int}{e y:Int×Int×Nat}(h:p_ d e=some y):y.1=e.1/\y.2.2=e.2.2:=by
 unfold p_ at h
 grind
theorem KB{d:Int}{s:Nat->Bool}{es:List (Int×Int×Nat)}{y:Int×Int×Nat}(h:y∈part d s es):∃e∈es,y.1=e.1/\y.2.2=e.2.2/\(s e.2.2=false->y=e):=by
 obtain⟨e,a,b⟩:=List.mem_filterMap.1 h;refine⟨e,a,?_⟩;cases c:s e.2.2 with
 |true=>
  rw[c]at b
  grind [CO]
 |false=>
  simp_all
theorem Xw{d:Int}{s:Nat->Bool}{b:Nat}:∀{es:List (Int×Int×Nat)},(∀e∈es,e.2.2≠b)->part d (more s b) es=part d s es:=by
 intro es h;refine tc λe a=>?_;have:more s b e.2.2=s e.2.2:=by unfold more;grind
 grind
theorem Xx(k:Int)(e:Int×Int×Nat)(es:List (Int×Int×Nat))(h:k≠e.1):fN (.i k) (dn (e::es))=(.i e.1,.i e.2.1,e.2.2)::fN (.i k) (dn es):=by
 have d1:dn (e::es)=(.i e.1,.i e.2.1,e.2.2)::dn es:=rfl;rw[d1];simp only[fN,jR,decide_eq_true_eq,if_neg h]
theorem aaj(k v:Int)(c:Nat)(e:Int×Int×Nat)(es:List (Int×Int×Nat))(h:k≠e.1):jb (.i k) (.i v) c (dn (e::es))=(.i e.1,.i e.2.1,e.2.2)::jb (.i k) (.i v) c (dn es):=by
 have d1:dn (e::es)=(.i e.1,.i e.2.1,e.2.2)::dn es:=rfl;rw[d1];simp only[jb,jR,decide_eq_true_eq,if_neg h]
theorem Ni{d:Int}{s:Nat->Bool}{x:Int×Int×Nat}{c:Nat}(A:s x.2.2=false):∀{es:List (Int×Int×Nat)},x∈es->(keys (abs es)).Nodup->(es.map (·.2.2)).Nodup->
 (p_ d x=none->fN (.i x.1) (dn (part d s es))=dn (part d (more s x.2.2) es))/\
 (∀y,p_ d x=some y->jb (.i x.1) (.i y.2.1) c (dn (part d s es))=dn (part d (more s x.2.2) es)):=by
 intro es
 induction es with
 |nil=>simp_all
 |cons e es r=>
  intro t F u;have l:e.1∉keys (abs es)/\(keys (abs es)).Nodup:=by simp_all [keys,abs]
  have g:=akP.1 u
  have b:∀s,part d s (e::es)=(match(if s e.2.2 then p_ d e else some e)with|some y=>y::part d s es|none=>part d s es):=λs=>by
   unfold part;rw[akV];cases(if s e.2.2 then p_ d e else some e)<;>rfl
  rcases akG.1 t with rfl|j
  ·have v:part d (more s x.2.2) es=part d s es:=Xw λe w B=>g.1 (aki.2 ⟨e,w,B⟩);have k:more s x.2.2 x.2.2=true:=by unfold more;simp
   rw[b s,b (more s x.2.2),A,k,v];simp only[Bool.false_eq_true,if_false];have d1:dn (x::part d s es)=(.i x.1,.i x.2.1,x.2.2)::dn (part d s es):=rfl;refine⟨λa=>?_,λy a=>?_⟩
   ·simp_all [fN,jR]
   ·obtain⟨C,D⟩:=CO a;rw[a,d1];have d2:dn (y::part d s es)=(.i y.1,.i y.2.1,y.2.2)::dn (part d s es):=rfl;simp only[jb,jR,decide_eq_true_eq,if_true];rw[d2,C,D]
  ·have m:x.1≠e.1:=by
    intro h;exact l.1 (aki.2 ⟨(x.1,x.2.1),aki.2 ⟨x,j,rfl⟩,h⟩)
   have E:e.2.2≠x.2.2:=by
    intro h;exact g.1 (aki.2 ⟨x,j,h.symm⟩)
   have k:more s x.2.2 e.2.2=s e.2.2:=by unfold more;rw[decide_eq_false E,Bool.or_false]
   obtain⟨n,o⟩:=r j l.2 g.2;rw[b s,b (more s x.2.2),k];cases f:(if s e.2.2 then p_ d e else some e)with
   |none=>exact⟨n,o⟩
   |some y=>
    have p:y.1=e.1:=by
     cases q:s e.2.2 with
     |true=>rw[q,if_pos rfl]at f;exact(CO f).1
     |false=>rw[q,if_neg (by simp)]at f;cases f;rfl
    simp only;refine⟨λa=>?_,λz a=>?_⟩
    ·rw[Xx _ _ _ (by rw[p];exact m),n a];rfl
    ·rw[aaj _ _ _ _ _ (by rw[p];exact m),o z a];rfl
theorem Xy(d:Int)(es:List (Int×Int×Nat)):part d (λ_=>false) es=es:=by
 unfold part;simp
theorem aak{d:Int}{s:Nat->Bool}{es:List (Int×Int×Nat)}(h:∀e∈es,s e.2.2=true):abs (part d s es)=tick d (abs es):=by
 unfold part tick abs;rw[List.map_filterMap,List.filterMap_map];refine tc λe a=>?_;rw[h e a,if_pos rfl];unfold p_ yW
 grind
theorem Is{es:List (Int×Int×Nat)}{x:Int×Int×Nat}(q:x∈es):get x.1 (abs es)≠none:=by
 intro a;rw[get_none]at a;exact a (aki.2 ⟨(x.1,x.2.1),aki.2 ⟨x,q,rfl⟩,rfl⟩)
section
variable{R:Rq}{h h':af}{b r:Nat}{L:List (Int×Int)}{most bH decay gone:Int}
def O5(q:Nat)(es:List (Int×Int×Nat))(h:af):Nat:=match h[q]? with
 |some (.mapIter _ _ seen _)=>(es.filter λe=>!seen.contains e.2.2).length
 |_=>0
theorem Xz{es:List (Int×Int×Nat)}{seen:Array Nat}{x:Int×Int×Nat}(q:x∈es)(A:seen.contains x.2.2=false):
 (es.filter λe=>!(seen.push x.2.2).contains e.2.2).length<(es.filter λe=>!seen.contains e.2.2).length:=by
 induction es with
 |nil=>cases q
 |cons e es a=>
  have b:∀es:List (Int×Int×Nat),(es.filter λe=>!(seen.push x.2.2).contains e.2.2).length<=(es.filter λe=>!seen.contains e.2.2).length:=λes=>by
   induction es with
   |nil=>simp
   |cons e es a=>
    grind
  grind
theorem contains_push(seen:Array Nat)(b n:Nat):(seen.push b).contains n=more (λn=>seen.contains n) b n:=by
 unfold more;rw[Bool.eq_iff_iff,Bool.or_eq_true,decide_eq_true_eq,Array.contains_iff_mem,Array.contains_iff_mem,Array.mem_push]
theorem Good.tick(g:Good L)(q:1<=decay):Good (Peers.tick decay L):=by
 refine⟨Xs g.one,λx b=>?_,λe a=>?_⟩
 ·obtain⟨e,a,rfl⟩:=aki.1 b;exact g.fit _ (aki.2 ⟨_,(Ky.1 a).1,rfl⟩)
 ·obtain⟨c,d⟩:=Ky.1 a;have:=g.low _ c;omega
theorem XA(p:Pe h b r L most bH decay gone)(hr:∀h',Pe h' b r (tick decay L) most bH decay gone->ag (λi=>i=b\/i=r) h h'->R (akx []).val h'):
 Cl 102 [.ptr (PT b)] h R:=by
 apply yZ;delta MJ uu zP U_ Dk EV fP LP aT;have ab:=p.cfg;unfold Valid at ab;have ac:=p.map.lt;have a4:=p.var.lt;have ad:=p.ne;have C:=p.good;obtain⟨es,c,O,D,k⟩:=p.map;have P:(keys (abs es)).Nodup:=by rw[D];exact C.one
 refine akz ⟨some r,p.var.ah rfl,dn es,c,O,?_⟩;have Q:=akl h (.mapIter (some r) c #[] c);refine⟨λ_ l=>∃seen,l[h.size]? =some (.mapIter (some r) c seen c)/\l[r]? =some (bX (dn (part decay (λn=>seen.contains n) es)) c)/\ag (λi=>i=r) h l,λ_ l=>O5 h.size es l,⟨#[],by simp,?_,ag.an Q⟩,?_⟩
 ·rw[Q.same r ac,O]
  have:part decay (λn=>(#[]:Array Nat).contains n) es=es:=by
   have e:(λn=>(#[]:Array Nat).contains n)=λ_=>false:=by funext n;simp
   rw[e,Xy]
  rw[this]
 rintro _ a ⟨seen,E,F,g⟩;have S:=p.var.only g ad
 have T:∀y∈part decay (λn=>seen.contains n) es,y.2.2<c:=λy m=>by
  obtain⟨e,j,_,d,_⟩:=KB m;rw[d];exact k.1 e j
 have U:∀f:List (Int×Int×Nat),(f.map (·.2.2)).Nodup->((part decay (λn=>seen.contains n) f).map (·.2.2)).Nodup:=λf=>by
  induction f with
  |nil=>intro _;exact akY
  |cons e f ih=>
   intro G;obtain⟨n1,n2⟩:=akP.1 G
   have hp:part decay (λn=>seen.contains n) (e::f)=(match(if seen.contains e.2.2 then p_ decay e else some e)with|some y=>y::part decay (λn=>seen.contains n) f|none=>part decay (λn=>seen.contains n) f):=by
    unfold part;rw[akV];cases(if seen.contains e.2.2 then p_ decay e else some e)<;>rfl
   rw[hp];cases H:(if seen.contains e.2.2 then p_ decay e else some e)with
   |none=>grind
   |some y=>
    have m:y.2.2=e.2.2:=by
     split at H
     ·exact(CO H).2
     ·cases H;rfl
    simp only[aky,akP];refine⟨λq=>?_,ih n2⟩;obtain⟨z,hz,d⟩:=aki.1 q;obtain⟨e',ae,_,u,_⟩:=KB hz;exact n1 (aki.2 ⟨e',ae,by rw[<-u,d,m]⟩)
 refine⟨rfl,r,c,c,seen,dn (part decay (λn=>seen.contains n) es),c,E,F,λe j=>?_,akr _,λal=>?_,λe j t=>?_⟩
 ·obtain⟨y,m,rfl⟩:=aki.1 j;exact T y m
 ·
  have am:∀e∈es,seen.contains e.2.2=true:=λe j=>by
   cases V:seen.contains e.2.2 with
   |true=>rfl
   |false=>
    have ao:e∈part decay (λn=>seen.contains n) es:=List.mem_filterMap.2 ⟨e,j,by show(if seen.contains e.2.2=true then p_ decay e else some e)=some e;rw[V,if_neg (by simp)]⟩;have:=al _ (aki.2 ⟨e,ao,rfl⟩);rw[<-V];exact this
  refine hr a ⟨S,⟨_,c,F,?_,⟨T,U es k.2⟩⟩,C.tick ω,?_,p.cfg⟩ (g.mono λi w=>.inr w)
  ·rw[aak am,D]
  ·have a:=BZ decay L;have d:=p.len;omega
 ·obtain⟨x,q,rfl⟩:=aki.1 j;simp only at t;obtain⟨e0,A,_,ap,ar⟩:=KB q;have aw:x=e0:=ar (by rw[<-ap];exact t);subst aw;have aE:h.size<a.size:=(akU.1 E).1;have B:=sZ (h:=a) (r:=h.size) (o:=.mapIter (some r) c (seen.push x.2.2) c)
  have I:(a.setIfInBounds h.size (.mapIter (some r) c (seen.push x.2.2) c))[r]? =some (bX (dn (part decay (λn=>seen.contains n) es)) c):=by
   rw[B.same r (by have:=g.size;omega) ω,F]
  have W:(a.setIfInBounds h.size (.mapIter (some r) c (seen.push x.2.2) c))[h.size]? =some (.mapIter (some r) c (seen.push x.2.2) c):=y_ aE;have J:=S.only B ω
  have a0:ag (λi=>i=r) h (a.setIfInBounds h.size (.mapIter (some r) c (seen.push x.2.2) c)):=
   ⟨Nat.le_trans g.size B.size,λi w G=>(B.same i (Nat.lt_of_lt_of_le w g.size) ω).trans (g.same i w G)⟩
  have a5:(a.setIfInBounds h.size (.mapIter (some r) c (seen.push x.2.2) c)).size=a.size:=by simp
  generalize a.setIfInBounds h.size (.mapIter (some r) c (seen.push x.2.2) c)=d at*;refine⟨rfl,r,c,seen,dn (part decay (λn=>seen.contains n) es),c,(.i x.1,.i x.2.1,x.2.2),W,I,aki.2 ⟨x,q,rfl⟩,?_,x.1,rfl,x.2.1,rfl,decay,J.ah rfl,?_⟩
  ·have:(dn (part decay (λn=>seen.contains n) es)).map (λx=>x.2.2)=(part decay (λn=>seen.contains n) es).map (·.2.2):=by
    unfold dn;rw[aks];rfl
   rw[this];exact U es k.2
  have a1:=C.low (x.1,x.2.1) (by rw[<-D];exact aki.2 ⟨x,A,rfl⟩);simp only at a1;dsimp only;rw[wrap_i64 (n:=x.2.1+decay) ω ω]
  have X:(λn=>(seen.push x.2.2).contains n)=more (λn=>seen.contains n) x.2.2:=by
   funext n;exact contains_push seen x.2.2 n
  have a2:r<d.size:=by have:=g.size;omega
  have Y:∀o:Obj,o=bX (dn (part decay (λn=>(seen.push x.2.2).contains n) es)) c->
   (∃seen,(d.setIfInBounds r o)[h.size]? =some (.mapIter (some r) c seen c)/\(d.setIfInBounds r o)[r]? =some (bX (dn (part decay (λn=>seen.contains n) es)) c)/\ag (λi=>i=r) h (d.setIfInBounds r o))/\O5 h.size es (d.setIfInBounds r o)<O5 h.size es a:=by
   rintro o rfl;have Z:=sZ (h:=d) (r:=r) (o:=bX (dn (part decay (λn=>(seen.push x.2.2).contains n) es)) c);have K:=Z.same h.size ω ω;rw[W]at K;refine⟨⟨seen.push x.2.2,K,y_ a2,a0.trans Z⟩,?_⟩;unfold O5;rw[K,E];exact Xz A t
  refine ID (λM=>?_) λM=>?_
  ·refine⟨some r,J.ah rfl,dn (part decay (λn=>seen.contains n) es),c,I,mW _,?_⟩;have N:p_ decay x=none:=by unfold p_;rw[if_pos M]
   have:=(Ni (c:=c) (s:=λn=>seen.contains n) t A P k.2).1 N;rw[this,<-X];exact Y _ rfl
  ·refine⟨some r,J.ah rfl,dn (part decay (λn=>seen.contains n) es),c,I,mW _,?_⟩;have N:p_ decay x=some (x.1,x.2.1+decay,x.2.2):=by unfold p_;rw[if_neg M]
   have u:=(Ni (c:=c) (s:=λn=>seen.contains n) t A P k.2).2 _ N;simp only at u
   have a3:fJ (.i x.1) c (dn (part decay (λn=>seen.contains n) es))=c:=by
    unfold fJ;rw[B6];have:=Is q;cases hg:get x.1 (abs (part decay (λn=>seen.contains n) es))with
    |none=>exact absurd hg this
    |some v=>rfl
   rw[u,a3,<-X];exact Y _ rfl
end
end Peers
namespace Clock
def CI(T:TypeId)(h:af)(b:Nat)(n w:Int):Prop:=h[b]? =some (row [.i n,.i w] T)
theorem CI.now{T:TypeId}{h:af}{b:Nat}{n w:Int}(q:CI T h b n w):ah h b 0 (.i n):=yb q rfl
theorem CI.win{T:TypeId}{h:af}{b:Nat}{n w:Int}(q:CI T h b n w):ah h b 1 (.i w):=yb q rfl
theorem CI.lt{T:TypeId}{h:af}{b:Nat}{n w:Int}(q:CI T h b n w):b<h.size:=kO q
theorem CI.only{T:TypeId}{h q:af}{b:Nat}{n w:Int}{S:Nat->Prop}(A:CI T h b n w)(B:ag S h q)(E:¬S b):CI T q b n w:=by
 have a:=A.lt;unfold CI at*;rw[B.same b a E,A]
theorem CI.ext{T:TypeId}{h q:af}{b:Nat}{n w:Int}(A:CI T h b n w)(e:Ext h q):CI T q b n w:=by
 have a:=A.lt;unfold CI at*;rw[e.same b a,A]
def fB(w:Int):Int:=mn (mx w 1) 64
theorem CP(w:Int):1<=fB w/\fB w<=64:=by unfold fB mn mx;omega
section
variable{R:Rq}{h:af}{b:Nat}{n w:Int}
theorem Fg{q:Int}(A:∀a,CI 217 a h.size 0 (fB q)->Ext h a->a.size=h.size+1->R (akk (PT h.size)).val a):Cl 79 [.i q] h R:=by
 apply Iu;delta nH fW fD;exact A _ (vT _ _ _) (vU _ _ _) (sy _ _ _)
theorem Fz(q:CI 217 h b n w)(A:R (TV.i n).val h):Cl 98 [.ptr (PT b)] h R:=by
 apply nK;delta aD dJ dX aT bA;exact jS q.now A
theorem XB(q:CI 217 h b n w)(B:n<1073741824)(E:0<=n)(A:∀a,CI 217 a b (n+1) w->ag (·=b) h a->a.size=h.size->R (akn true).val a):Cl 101 [.ptr (PT b)] h R:=by
 apply jl;delta wv aO cE fE lq;refine jS q.now ?_;rw[akB];refine⟨λc=>ω,λ_=>?_⟩;refine jS q.now ?_;refine⟨iH q (by simp),?_⟩;rw[wrap_i64 ω ω];exact A _ (jJ q (by simp[akK])) (gV q (by simp[akK])) (gW q (by simp[akK]))
theorem aal(q:CI 217 h b n w)(A:1073741824<=n)(B:R (akn false).val h):Cl 101 [.ptr (PT b)] h R:=by
 apply jl;delta wv aO cE fE lq;refine jS q.now ?_;exact ID (λ_=>B) λa=>absurd A a
theorem yl(q:CI 217 h b n w)(B:0<=n)(E:n<=1073741824)(G:1<=w)(H:w<=64)(A:R (TV.i (mx (n-w) 0)).val h):Cl 107 [.ptr (PT b)] h R:=by
 apply xB;delta aD dX bA;refine jS q.now ?_;refine jS q.win ?_;rw[wrap_i64 ω ω];exact A
def vt(n q slot:Int):Bool:=decide (q<slot)&&decide (slot<=n)
theorem sI(B:CI 217 h b n w){A slot:Int}(q:R (akn (vt n A slot)).val h):Cl 263 [.ptr (PT b),.i A,.i slot] h R:=by
 apply xC;delta aO lq;refine akQ ?_;unfold vt at q;refine akt (λa=>?_) (λa=>?_)
 ·refine jS B.now ?_;rw[a]at q;exact q
 ·rw[a]at q;exact q
def zS(n w slot:Int):Bool:=decide (mx (n-w) 0<=slot)&&decide (slot<=mn (n+1) 1073741824)
theorem XC(A:CI 217 h b n w)(B:0<=n)(E:n<=1073741824)(G:1<=w)(H:w<=64){slot:Int}(q:R (akn (zS n w slot)).val h):Cl 262 [.ptr (PT b),.i slot] h R:=by
 apply za;delta fk aO cE lq;refine akQ ?_;refine yl A B E G H ⟨_,rfl,?_⟩;unfold zS at q;refine akt (λa=>?_) (λa=>?_)
 ·refine jS A.now ?_;rw[a]at q;rw[wrap_i64 ω ω];exact q
 ·rw[a]at q;exact q
theorem CG{q:Int}(A:∀a,CI 183 a h.size 0 (fB q)->Ext h a->a.size=h.size+1->R (akk (PT h.size)).val a):Cl 95 [.i q] h R:=by
 apply Ar;delta nH fW fD;refine ID (λb=>?_) λb=>akB.2 ⟨λc=>?_,λc=>?_⟩
 ·have e:fB q=1:=by unfold fB mn mx;omega
  rw[e]at A;exact A _ (vT _ _ _) (vU _ _ _) (sy _ _ _)
 ·have e:fB q=64:=by unfold fB mn mx;omega
  rw[e]at A;exact A _ (vT _ _ _) (vU _ _ _) (sy _ _ _)
 ·have e:fB q=q:=by unfold fB mn mx;omega
  rw[e]at A;exact A _ (vT _ _ _) (vU _ _ _) (sy _ _ _)
theorem Ea(q:CI 183 h b n w)(B:n<1073741824)(E:0<=n)(A:∀a,CI 183 a b (n+1) w->ag (·=b) h a->a.size=h.size->R (akn true).val a):Cl 108 [.ptr (PT b)] h R:=by
 apply jA;delta wv aO cE fE lq;refine jS q.now ?_;rw[akB];refine⟨λc=>ω,λ_=>?_⟩;refine jS q.now ?_;refine⟨iH q (by simp),?_⟩;rw[wrap_i64 ω ω];exact A _ (jJ q (by simp[akK])) (gV q (by simp[akK])) (gW q (by simp[akK]))
theorem XD(q:CI 183 h b n w)(A:n=1073741824)(B:R (akn false).val h):Cl 108 [.ptr (PT b)] h R:=by
 apply jA;delta wv aO cE fE lq;refine jS q.now ?_;exact ID (λ_=>B) λa=>absurd A a
theorem HK(q:CI 183 h b n w)(B:0<=n)(E:n<=1073741824)(G:1<=w)(H:w<=64)(A:R (TV.i (mx (n-w) 0)).val h):Cl 114 [.ptr (PT b)] h R:=by
 apply qg;delta aD dX bA;refine jS q.now ?_;refine jS q.win ?_;refine ID (λa=>?_) λa=>?_
 ·have e:mx (n-w) 0=0:=by unfold mx;omega
  rw[e]at A;exact A
 ·have e:mx (n-w) 0=n-w:=by unfold mx;omega
  rw[e]at A;refine jS q.now ?_;refine jS q.win ?_;rw[wrap_i64 ω ω];exact A
theorem RH(B:CI 183 h b n w){A slot:Int}(q:R (akn (vt n A slot)).val h):Cl 183 [.ptr (PT b),.i A,.i slot] h R:=by
 apply qh;delta aO lq;unfold vt at q;refine akt (λa=>?_) (λa=>?_)
 ·refine jS B.now ?_;rw[a]at q;exact q
 ·rw[a]at q;exact q
theorem TZ(A:CI 183 h b n w)(B:0<=n)(E:n<=1073741824)(G:1<=w)(H:w<=64){slot:Int}(I:slot<=9223372036854775807)(q:R (akn (zS n w slot)).val h):Cl 184 [.ptr (PT b),.i slot] h R:=by
 apply qN;delta fk aO lq;refine HK A B E G H ⟨_,rfl,?_⟩;refine ID (λa=>?_) λa=>?_
 ·refine jS A.now ?_;have d:0<=slot:=by unfold mx at a;omega
  rw[wrap_i64 ω ω];refine ID (λc=>?_) λc=>?_
  ·have e:zS n w slot=decide (slot<=1073741824):=by
    unfold zS;rw[decide_eq_true a,akL];exact decide_eq_decide.2 (by unfold mn;omega)
   rw[e]at q;exact q
  ·have e:zS n w slot=false:=by
    unfold zS;rw[decide_eq_true a,akL];exact decide_eq_false (by unfold mn;omega)
   rw[e]at q;exact q
 ·have e:zS n w slot=false:=by
   unfold zS;rw[decide_eq_false a,Bool.false_and]
  rw[e]at q;exact q
end
end Clock
namespace Gate
open Pool (It WL dV)
open Peers (Pe)
section
variable{h h':af}{b w tb o n:Nat}{L:List Nd}{most quota bH decay gone:Int}{own:Nat->Int}{t:Tb}{I:List It}{P:List (Int×Int)}{S Q:Nat->Prop}{T:TypeId}
def l9(h:af)(b:Nat)(L:List Nd)(most:Int)(S:Nat->Prop):Prop:=∃r A,AP h b r A L most/\S=lH b r A
def eZ(h:af)(w tb:Nat)(L:List Nd)(own:Nat->Int)(S:Nat->Prop):Prop:=∃O X B G,WT h w tb O X B G L own/\S=iN w O X B G
def Eb(h:af)(b:Nat)(t:Tb)(n:Nat)(S:Nat->Prop):Prop:=∃r a c d,Kb h b r a c d t n/\S=uY b r a c d
def k9(T:TypeId)(h:af)(o:Nat)(I:List It)(most quota:Int)(S:Nat->Prop):Prop:=∃b A,WL T h o b A I most quota/\S=λi=>i=o\/dV b A i
def VH(h:af)(b:Nat)(P:List (Int×Int))(most bH decay gone:Int)(S:Nat->Prop):Prop:=∃r,Pe h b r P most bH decay gone/\S=λi=>i=b\/i=r
theorem l9.only(p:l9 h b L most S)(f:ag Q h h')(q:∀i,S i->¬Q i):l9 h' b L most S:=by
 obtain⟨r,A,p,rfl⟩:=p;exact⟨r,A,p.only f q,rfl⟩
theorem eZ.only(p:eZ h w tb L own S)(f:ag Q h h')(q:∀i,S i->¬Q i):eZ h' w tb L own S:=by
 obtain⟨O,X,B,G,p,rfl⟩:=p;exact⟨O,X,B,G,WP.only p f q,rfl⟩
theorem Eb.only(p:Eb h b t n S)(f:ag Q h h')(q:∀i,S i->¬Q i):Eb h' b t n S:=by
 obtain⟨r,a,c,d,p,rfl⟩:=p;exact⟨r,a,c,d,p.only f q,rfl⟩
theorem k9.only(p:k9 T h o I most quota S)(f:ag Q h h')(q:∀i,S i->¬Q i):k9 T h' o I most quota S:=by
 obtain⟨b,A,p,rfl⟩:=p;exact⟨b,A,p.only f (q _ (.inl rfl)) λi a=>q _ (.inr a),rfl⟩
theorem VH.only(p:VH h b P most bH decay gone S)(f:ag Q h h')(q:∀i,S i->¬Q i):VH h' b P most bH decay gone S:=by
 obtain⟨r,p,rfl⟩:=p;exact⟨r,p.only f (q _ (.inl rfl)) (q _ (.inr rfl)),rfl⟩
theorem l9.lt(p:l9 h b L most S):∀i,S i->i<h.size:=by
 obtain⟨r,A,p,rfl⟩:=p;exact λi a=>p.lt a
theorem eZ.lt(p:eZ h w tb L own S):∀i,S i->i<h.size:=by
 obtain⟨O,X,B,G,p,rfl⟩:=p;exact λi a=>WP.lt p a
theorem Eb.lt(p:Eb h b t n S):∀i,S i->i<h.size:=by
 obtain⟨r,c,d,e,p,rfl⟩:=p;exact λi a=>p.lt a
theorem k9.lt(p:k9 T h o I most quota S):∀i,S i->i<h.size:=by
 obtain⟨b,A,p,rfl⟩:=p;rintro i (rfl|a)
 ·exact p.var.lt
 ·exact p.pl.lt a
theorem VH.lt(p:VH h b P most bH decay gone S):∀i,S i->i<h.size:=by
 obtain⟨r,p,rfl⟩:=p;rintro i (rfl|rfl)
 ·exact p.var.lt
 ·exact p.map.lt
end
end Gate
namespace Gate
open Go Go.Vc Board
section
variable{R:Rq}{h:af}{c:Cf}{L:List Vd}
theorem ir{n m:Int}(q:R (akn (tH n m)).val h):Cl 139 [.i n,.i m] h R:=by
 apply GL;unfold tH at q;refine ID (λa=>?_) λa=>?_
 ·rw[decide_eq_true a]at q;exact q
 simp_all
theorem KC{v:Vd}(q:∀d,Ext h d->R (akn (Q8 v)).val d):Cl 199 [v.tv] h R:=by
 apply xD v.cF v.key;refine aa λe v1 f g=>⟨v.cF,v1.ah rfl,?_⟩;have c:=q e f;unfold Q8 at c;refine ID (λa=>?_) λa=>?_
 ·rw[decide_eq_true a,akL]at c;refine⟨v.cF,v1.ah rfl,ID (λb=>?_) λb=>?_⟩
  ·rw[decide_eq_true b]at c;exact⟨v.key,v1.ah rfl,ir ⟨_,rfl,c⟩⟩
  simp_all
 simp_all
theorem Nj{v:Vd}{s:Int}:pV (v::L) s=if Q8 v=true/\s+v.cF<4611686018427387904 then pV L (s+v.cF)else none:=rfl
theorem XE{v:Vd}(q:Q8 v=true):0<=v.cF/\v.cF<4611686018427387904:=by
 simp_all [Bool.and_eq_true,Q8,decide_eq_true_eq]
theorem RI{s:Sl}(e:aj 2 h s (jx L))(E:s.len<100000)(q:∀f,Ext h f->R (akx [.i ((pV L 0).getD 0),.bool (pV L 0).isSome]).val f):Cl 138 [.slice s] h R:=by
 apply Dc;delta Hs bK bA;have el:=by have:=e.len;rwa [ako]at this
 refine⟨λσ o=>0<=σ.2.2.2/\σ.2.2.2<=s.len/\Ext h o/\0<=σ.2.2.1/\σ.2.2.1<4611686018427387904/\pV L 0=pV (L.drop σ.2.2.2.toNat) σ.2.2.1,λσ _=>(s.len-σ.2.2.2).toNat,⟨akw 0,by simp_all,akp _,akw 0,δ,rfl⟩,?_⟩;rintro⟨D,F,t,i⟩ p ⟨g,r,c,t0,t1,a⟩;dsimp only at g r t0 t1 a⊢;refine ID (λj=>?_) λj=>?_
 ·refine E_ (e.ext c) g ω λx u=>aa λG v w H=>aH v rfl λI v4 y J=>?_;have z:=c.trans (akm w y λi j=>ω);rw[BD u,Nj]at a;refine⟨x.cF,x.key,⟨v4.ah rfl,v4.ah rfl⟩,KC λk d=>⟨_,rfl,?_⟩⟩;have l:=z.trans d;have stop:pV L 0=none->R (akx [.i 0,.bool false]).val k:=λA=>by have:=q k l;rw[A]at this;exact this
  refine akt (λb=>stop ?_) λb=>⟨x.cF,(v4.ext d).ah rfl,?_⟩
  ·rw[a,if_neg (λm=>by rw[m.1]at b;cases b)]
  ·have ok:Q8 x=true:=by simpa using b
   have st:=XE ok;dsimp only;rw[wrap_i64 (n:=t+x.cF) ω ω,wrap_i64 (n:=i+1) ω ω];refine ID (λB=>stop ?_) λB=>⟨x.cF,(v4.ext d).ah rfl,?_⟩
   ·rw[a,if_neg (λm=>ω)]
   ·dsimp only;rw[wrap_i64 (n:=t+x.cF) ω ω];refine⟨⟨Ω,Ω,l,Ω,Ω,?_⟩,Ω⟩;rw[if_pos ⟨ok,ω⟩]at a;show pV L 0=pV (L.drop (i+1).toNat) (t+x.cF);rw[show(i+1).toNat=i.toNat+1 by omega];exact a
 ·have C:i.toNat=L.length:=ω;rw[C,List.drop_length]at a;have:=q p c;rw[a]at this;exact this
theorem L0{s:Sl}(e:aj 2 h s (jx L))(A:∀v∈L,v.cF<9223372036854775808)(E:s.len<100000)(q:∀f,Ext h f->R (akx [.i ((pV L 0).getD 0),.bool (pV L 0).isSome]).val f):Cl 163 [.slice s] h R:=by
 apply wO;delta Hs dz bK bA;have el:=by have:=e.len;rwa [ako]at this
 refine⟨λσ p=>0<=σ.2.2.2/\σ.2.2.2<=s.len/\Ext h p/\0<=σ.2.2.1/\σ.2.2.1<4611686018427387904/\pV L 0=pV (L.drop σ.2.2.2.toNat) σ.2.2.1,λσ _=>(s.len-σ.2.2.2).toNat,⟨akw 0,by simp_all,akp _,akw 0,δ,rfl⟩,?_⟩;rintro⟨D,F,t,i⟩ b ⟨g,r,c,t0,t1,a⟩;dsimp only at g r t0 t1 a⊢;refine ID (λj=>?_) λj=>?_
 ·refine E_ (e.ext c) g ω λx k=>?_;refine aa λl u w G=>aH u rfl λd v4 y H=>?_;have m:=c.trans (akm w y λi j=>ω);rw[BD k,Nj]at a;have stop:pV L 0=none->R (akx [.i 0,.bool false]).val d:=λo=>by have:=q d m;rw[o]at this;exact this
  have no:Q8 x=false->R (akx [.i 0,.bool false]).val d:=λo=>stop (by simp_all);refine⟨x.cF,v4.ah rfl,ID (λz=>no ?_) λz=>⟨x.key,v4.ah rfl,ID (λb=>no ?_) λb=>⟨x.key,v4.ah rfl,ID (λl=>no ?_) λl=>⟨x.cF,v4.ah rfl,?_⟩⟩⟩⟩
  ·simp_all [Q8,decide_eq_false]
  ·simp_all [tH,Q8,decide_eq_false]
  ·simp_all [tH,Q8,decide_eq_false]
  ·have I:=A x (akO k);dsimp only;rw[bW (n:=x.cF) ω ω,bW ω ω,wrap_i64 ω ω];refine ID (λB=>stop ?_) λB=>⟨⟨ω,ω,m,ω,ω,?_⟩,ω⟩
   ·grind
   ·have ok:Q8 x=true:=by
     unfold Q8 tH
     grind
    grind
 ·have C:i.toNat=L.length:=ω;rw[C,List.drop_length]at a;have:=q b c;rw[a]at this;rw[wrap_i64 ω ω];exact this
theorem O6{s:Sl}{l:List Bool}{v:Bool}(e:aj 1 h s (aY l))(A:l.length<100000)(q:∀n:Int,(0<=n↔v∈l)->R (TV.i n).val h):Cl 200 [.slice s,.bool v] h R:=by
 apply iG;delta iZ nj gI bK;have el:=by have:=e.len;rwa [ako]at this
 refine⟨λσ d=>0<=σ.2/\σ.2<=s.len/\d=h/\v∉l.take σ.2.toNat,λσ _=>(s.len-σ.2).toNat,⟨akw 0,ω,rfl,by simp⟩,?_⟩;rintro⟨f,i⟩ d ⟨g,o,rfl,b⟩;refine ID (λk=>?_) λk=>?_
 ·refine kD e g ω λx j=>akt (λa=>?_) λa=>?_
  ·have a:v=x:=by simpa using a
   subst a;exact q i ⟨λ_=>akO j,λ_=>g⟩
  ·have a:v≠x:=by simpa using a
   rw[wrap_i64 (n:=i+1) ω ω];refine⟨⟨Ω,Ω,rfl,?_⟩,Ω⟩;show v∉l.take (i+1).toNat;rw[show(i+1).toNat=i.toNat+1 by omega,aU j,List.mem_append,List.mem_singleton];rintro(c|c)
   ·exact b c
   ·exact a c
 ·rw[List.take_of_length_le ω]at b;exact q (-1) ⟨λp=>ω,λm=>absurd m b⟩
theorem KD{s:Sl}{l:List Bool}{v:Bool}(e:aj 1 h s (aY l))(q:l.length<100000)(A:R (akn (decide (v∈l))).val h):Cl 140 [.slice s,.bool v] h R:=by
 apply gD;refine O6 e q λn a=>⟨n,rfl,?_⟩;simp_all
def IZ(c:Cf)(n:Nat):List Bool:=[tH c.ep 32,tH c.aQ (min 16 n),tH c.no 256,tH c.eV 64,tH c.eH 64,tH c.quo 64,tH c.pe 16,tH c.iy 256,tH c.win 64,tH c.bH 1048576,tH c.dec 1048576]
theorem O7:uz c L=((pV L 0).isSome&&tH L.length 64&&!decide (false∈IZ c L.length)):=by
 unfold uz IZ;generalize tH c.ep 32=a;generalize tH c.aQ (min 16 L.length)=b;generalize tH c.no 256=d;generalize tH c.eV 64=e;generalize tH c.eH 64=f;generalize tH c.quo 64=g;generalize tH c.pe 16=h;generalize tH c.iy 256=i;generalize tH c.win 64=j;generalize tH c.bH 1048576=k;generalize tH c.dec 1048576=l;cases a<;>cases b<;>cases d<;>cases e<;>cases f<;>cases g<;>cases h<;>cases i<;>cases j<;>cases k<;>cases l<;>rfl
theorem KE(e:aj 2 h c.vals (jx L))(A:c.vals.len<100000)(q:∀g,Ext h g->R (akn (uz c L)).val g):Cl 74 [c.tv] h R:=by
 apply Ec c.vals c.ep c.aQ c.no c.eV c.eH c.quo c.pe c.iy c.win c.bH c.dec;delta gz nG jN fH Ds aO dx d_ bK aT bA lq fD;have el:=by have:=e.len;rwa [ako]at this
 refine aa λr v1 j s=>?_;intro u l;refine⟨c.vals,v1.ah rfl,RI (e.ext j) A λi k=>⟨_,_,rfl,?_⟩⟩;have a:=v1.ext k;rw[O7]at q;have f:=λg m=>q g ((j.trans k).trans m);refine akt (λb=>?_) λb=>?_
 ·have b:=by simpa using b
  have:=f i (akp _);rw[b]at this;exact this
 ·have b:(pV L 0).isSome=true:=by simpa using b
  rw[b,akL]at f;refine⟨c.vals,a.ah rfl,ir ⟨_,rfl,?_⟩⟩;rw[<-el];refine akt (λd=>?_) λd=>?_
  ·have d:tH L.length 64=false:=by simpa using d
   have:=f i (akp _);rw[d]at this;exact this
  ·have d:tH L.length 64=true:=by simpa using d
   rw[d,akL]at f;refine l false i ?_;refine⟨_,a.ah rfl,_,a.ah rfl,c.vals,a.ah rfl,_,a.ah rfl,_,a.ah rfl,_,a.ah rfl,_,a.ah rfl,_,a.ah rfl,_,a.ah rfl,_,a.ah rfl,_,a.ah rfl,_,a.ah rfl,?_⟩;refine ir ⟨_,rfl,akp _,ir ⟨_,rfl,akp _,ir ⟨_,rfl,akp _,ir ⟨_,rfl,akp _,ir ⟨_,rfl,akp _,ir ⟨_,rfl,akp _,ir ⟨_,rfl,akp _,ir ⟨_,rfl,akp _,ir ⟨_,rfl,akp _,ir ⟨_,rfl,akp _,ir ⟨_,rfl,?_⟩⟩⟩⟩⟩⟩⟩⟩⟩⟩⟩;have n:mn 16 (c.vals.len:Int)=min 16 (L.length:Int):=by rw[Mq,el]
   rw[n]
   have o:=Vc.Own.new (T:=4) (sz:=1) i (aY (IZ c L.length)) (λt p=>by
    obtain⟨x,_,rfl⟩:=aki.1 p;rfl)
   exact KD o.elems (by simp[IZ]) ⟨_,rfl,f _ (akl _ _)⟩
theorem RJ(el:L.length=c.vals.len):Can c L↔(∃s,pV L 0=some s)/\∀k,k<12->∀x y,(Board.eA c)[2*k]? =some x->(Board.eA c)[2*k+1]? =some y->1<=x/\x<=y:=by
 constructor
 ·intro a;refine⟨a.tot,λk f x y d e=>?_⟩;have g:=a.aQ;have j:=a.len;have h:=Mq 16 c.vals.len;have f:k=0\/k=1\/k=2\/k=3\/k=4\/k=5\/k=6\/k=7\/k=8\/k=9\/k=10\/k=11:=ω;rcases f with rfl|rfl|rfl|rfl|rfl|rfl|rfl|rfl|rfl|rfl|rfl|rfl<;>injection d with d<;>injection e with e<;>subst d<;>subst e
  ·exact a.ep
  ·omega
  ·exact a.no
  ·exact a.eV
  ·exact a.eH
  ·exact a.quo
  ·exact a.pe
  ·exact a.iy
  ·exact a.win
  ·exact a.bH
  ·exact a.dec
  ·omega
 ·rintro⟨i,b⟩;have h:=Mq 16 c.vals.len;have g:=b 1 δ c.aQ (mn 16 c.vals.len) rfl rfl;have l:=b 11 δ c.vals.len 64 rfl rfl;exact⟨i,ω,b 0 δ _ _ rfl rfl,ω,b 2 δ _ _ rfl rfl,b 3 δ _ _ rfl rfl,b 4 δ _ _ rfl rfl,b 5 δ _ _ rfl rfl,b 6 δ _ _ rfl rfl,b 7 δ _ _ rfl rfl,b 8 δ _ _ rfl rfl,b 9 δ _ _ rfl rfl,b 10 δ _ _ rfl rfl⟩
theorem vu(e:aj 2 h c.vals (jx L))(q:∀v∈L,v.cF<9223372036854775808)(hv:c.vals.len<100000)(G:∀o,Ext h o->R (akn (uz c L)).val o):Cl 96 [c.tv] h R:=by
 apply yz c.vals c.ep c.aQ c.no c.eV c.eH c.quo c.pe c.iy c.win c.bH c.dec;delta gz jM iM mq bK lq;have F:=by have:=e.len;rwa [ako]at this
 refine aa λh1 v1 N s1=>?_;refine⟨c.vals,c.ep,c.aQ,c.no,c.eV,c.eH,c.quo,c.pe,c.iy,c.win,c.bH,c.dec,v1.at,?_⟩;refine Fa λO s2 p H=>⟨_,rfl,?_⟩;have d:=N.trans H;have el:=iP p;have P:(Board.eA c).length=24:=rfl
 have stop:=λw o z=>by
  have A:uz c L=false:=by
   cases A:uz c L with
   |false=>rfl
   |true=>exact absurd (mR.1 A) w
  have:=G o z
  rwa [A]at this
 refine⟨λσ I=>0<=σ.2/\σ.2<=24/\σ.2%2=0/\I=O/\(∀k:Nat,2*k<σ.2.toNat->∀x y,(Board.eA c)[2*k]? =some x->(Board.eA c)[2*k+1]? =some y->1<=x/\x<=y),λσ _=>((24:Int)-σ.2).toNat,
  ⟨akw 0,δ,δ,rfl,λj Q=>by simp at Q⟩,?_⟩
 rintro⟨f,i⟩ I ⟨B,S,T,rfl,r⟩;dsimp only at B S T r⊢;refine ID (λU=>?_) λU=>?_
 ·have t:2*(i.toNat/2)=i.toNat:=ω;have u:(i+1).toNat=2*(i.toNat/2)+1:=ω;have no:∀x y,(Board.eA c)[i.toNat]? =some x->(Board.eA c)[(i+1).toNat]? =some y->¬(1<=x/\x<=y)->¬Can c L:=λx y g V w l=>w (((RJ F).1 l).2 (i.toNat/2) ω x y (by rw[t];exact g) (by rw[<-u];exact V));obtain⟨W,X⟩:∃y,(Board.eA c)[(i+1).toNat]? =some y:=⟨_,akv (by rw[P];omega)⟩;refine gB p B ω λx g=>ID (λY=>stop (no x W g X ω) _ d) λY=>?_;rw[wrap_i64 (n:=i+1) ω ω,wrap_i64 (n:=i+2) ω ω];refine gB p B ω λz m=>gB p (i:=i+1) ω ω λy J=>ID (λZ=>stop (no z y m J ω) _ d) λZ=>?_;rw[g]at m;injection m with m;subst m;refine⟨⟨Ω,Ω,Ω,rfl,λk q=>?_⟩,Ω⟩;by_cases ab:2*k<i.toNat
  ·exact r k ab
  ·have q:2*k<(i+2).toNat:=q;have ac:k=i.toNat/2:=ω;subst ac;rw[t,<-t,<-u,t];intro a b C D;rw[g]at C;rw[J]at D;injection C with C;injection D with D;omega
 ·refine⟨c.vals,(v1.ext H).ah rfl,L0 (e.ext d) q ω λK M=>⟨_,_,rfl,?_⟩⟩;have u:i.toNat=24:=ω;rw[u]at r;cases E:pV L 0 with
  |none=>exact stop (λl=>by obtain⟨s,hs⟩:=l.tot;rw[hs]at E;cases E) K (d.trans M)
  |some s=>
   have l:Can c L:=(RJ F).2 ⟨⟨s,E⟩,λk q=>r k ω⟩;have:=G K (d.trans M);rw[mR.2 l]at this;exact this
end
end Gate
namespace Gate
open Go Go.Vc Board
section
variable{R:Rq}{h:af}{c:Cf}{L:List Vd}
theorem acy(n:Int):(WJ n).length=4:=gA 4 _
theorem T0{v:Vd}:(qF v).length=9+v.key.length:=by
 grind [qF,gA,aku]
theorem xF:∀(l:List Int),(l.flatMap WJ).length=4*l.length
 |[]=>rfl
 |n::l=>by rw[List.flatMap_cons,aku,acy,xF l,akZ];omega
theorem uJ:∀(l:List Vd),(∀v∈l,v.key.length<=32)->(l.flatMap qF).length<=41*l.length
 |[],_=>akr 0
 |v::l,h=>by
  have b:=h v (List.mem_cons_self);have c:=uJ l λx a=>h x (ak0 _ a);rw[List.flatMap_cons,aku,T0,akZ];omega
theorem CQ{α q:Type}{f:α->List q}{l:List α}{x:α}:(l++[x]).flatMap f=l.flatMap f++f x:=by simp
theorem aam{Q Q':Nat->Prop}{s:Sl}{bs:LU}(r:Row Q h s bs)(q:∀i,Q i->Q' i):Row Q' h s bs:=⟨r.own,λl a=>q _ (r.uT l a),λi b=>q _ (r.new i b)⟩
theorem RK(e:aj 2 h c.vals (jx L))(q:c.vals.len<=64)(E:∀v∈L,v.key.length<=32)(M:∀D,Ext h D->R (akR (qG c L)).val D):Cl 202 [c.tv] h R:=by
 apply Dd c.vals c.ep c.aQ c.no c.eV c.eH c.quo c.pe c.iy c.win c.bH c.dec;delta gz nG fH gZ tM jr nY dD eW dz aN bK aT bA;have el:=by have:=e.len;rwa [ako]at this
 refine aa λb v1 N s1=>?_;refine⟨_,v1.ah rfl,_,v1.ah rfl,_,v1.ah rfl,_,v1.ah rfl,_,v1.ah rfl,_,v1.ah rfl,_,v1.ah rfl,_,v1.ah rfl,_,v1.ah rfl,_,v1.ah rfl,_,v1.ah rfl,c.vals,v1.ah rfl,?_⟩
 have F:=Vc.Own.new (T:=3) b (ints (kH c L.length)) (λt O=>by
  obtain⟨x,_,rfl⟩:=aki.1 O;rfl)
 have P:akj [TV.i c.ep,TV.i c.aQ,TV.i c.no,TV.i c.eV,TV.i c.eH,TV.i c.quo,TV.i c.pe,TV.i c.iy,TV.i c.win,TV.i c.bH,TV.i c.dec,TV.i c.vals.len]=akj (ints (kH c L.length)):=by rw[<-el];rfl
 dsimp only;rw[P];have u:=akl b (Vc.row (akj (ints (kH c L.length))) 3);have Q:(b.push (Vc.row (akj (ints (kH c L.length))) 3)).size=b.size+1:=by simp
 generalize b.push (Vc.row (akj (ints (kH c L.length))) 3)=G at F u Q⊢;have U:=N.trans u;have V:Row (λi=>b.size<i) G Sl.nil []:=⟨Vc.Own.nil _ _ _,(λl q=>by cases q),λi a=>ω⟩;refine⟨λσ g=>0<=σ.2/\σ.2<=12/\Row (λi=>b.size<i) g σ.1 (((kH c L.length).take σ.2.toNat).flatMap WJ)/\ag (λi=>b.size<i) G g,λσ _=>(12-σ.2).toNat,⟨akw 0,δ,V,ag.refl _ _⟩,?_⟩;rintro⟨s,i⟩ W ⟨m,H,w,o⟩;have X:=akm U o λi a=>ω;refine ID (λa=>?_) λa=>?_
 ·have a:=a;have Y:=(F.only o (λl q=>by grind)).elems;obtain⟨x,p⟩:∃x,(kH c L.length)[i.toNat]? =some x:=⟨_,akv (show i.toNat<(kH c L.length).length by show i.toNat<12;omega)⟩;have Z:=Y.get _ rfl i.toNat (.i x) (by simp_all);refine⟨m,a,x,Z,?_⟩;refine ia w (by grind [xF,ak1,min]) δ λd s4 f o4=>⟨_,rfl,?_⟩;rw[wrap_i64 ω ω];refine⟨⟨ω,ω,?_,o.trans o4⟩,by grind⟩;show Row _ _ _ (((kH c L.length).take (i+1).toNat).flatMap WJ);rw[show(i+1).toNat=i.toNat+1 by omega,aU p,CQ];exact f
 ·have y:i.toNat=(kH c L.length).length:=by show i.toNat=12;have:¬i<12:=a;omega
  rw[y,List.take_length]at w;have v3:Var 24 W h.size c.tv:=(v1.ext u).only o ω;refine⟨c.vals,v3.ah rfl,?_⟩;refine⟨λσ g=>0<=σ.2/\σ.2<=c.vals.len/\Row (λi=>b.size<i) g σ.1 ((kH c L.length).flatMap WJ++(L.take σ.2.toNat).flatMap qF)/\Ext h g,λσ _=>((c.vals.len:Int)-σ.2).toNat,⟨akw 0,Ω,by simpa using w,X⟩,?_⟩;rintro⟨s,i⟩ d ⟨m,H,f,z⟩;dsimp only at m H f⊢;refine ID (λa=>?_) λa=>?_
  ·refine E_ (e.ext z) m ω λx p=>aa λh5 v5 x5 s5=>aH v5 (t:=x.tv) rfl λr v6 o6 s6=>?_;have I:Ext d r:=akm x5 o6 λi a=>ω;have j:=f.ext I;have j:Row (λi=>b.size<i/\i≠d.size) r s ((kH c L.length).flatMap WJ++(L.take i.toNat).flatMap qF):=⟨j.own,λl q=>⟨j.uT l q,λhc=>by have:=f.own.lt l q;omega⟩,λi a=>⟨j.new i a,ω⟩⟩;have kx:=E x (akO p);have tl:=uJ (L.take i.toNat) λv hv=>E v (List.mem_of_mem_take hv);rw[ak1]at tl
   have l6:((kH c L.length).flatMap WJ++(L.take i.toNat).flatMap qF).length<=48+41*64:=by
    rw[aku,xF];show 4*12+_<=_;omega
   have A:Var 137 (Vc.keeps (·=d.size) r) d.size x.tv:=v6.keeps (S:=(·=d.size)) rfl;refine⟨Vc.keeps (·=d.size) r,jT,_,A.ah rfl,_,A.ah rfl,_,A.ah rfl,?_⟩;refine ia (k:=8) j ω δ λh7 s7 r7 B=>⟨_,rfl,vV B (λi a C=>C.2 a),?_⟩;refine ia (k:=1) r7 (by rw[aku,gA];omega) δ λh8 s8 J K=>⟨_,rfl,vV (B.trans K) (λi a C=>C.2 a),M3 ?_⟩;refine Gp J (by rw[aku,aku,gA,gA];omega) λs9 h9 r9 f9 b9=>?_;have f9:=J.cut f9;rw[wrap_i64 (n:=i+1) ω ω];refine⟨⟨Ω,Ω,?_,akm (z.trans I) ((B.trans K).trans f9) λi a=>ω⟩,Ω⟩;show Row _ _ _ ((kH c L.length).flatMap WJ++(L.take (i+1).toNat).flatMap qF);rw[show(i+1).toNat=i.toNat+1 by omega,aU p,CQ];have:=aam r9 (Q':=λi=>b.size<i) λi a=>a.1;rw[show qF x=(yo (akq .u64 x.cF) 8++yo (akq .u64 (x.key.length:Int)) 1)++x.key from rfl];simp only[List.append_assoc]at this⊢;exact this
  ·have y:i.toNat=L.length:=ω;rw[y,List.take_length]at f;exact⟨_,f.str,M d z⟩
theorem KF(q:∀v∈L,v.key.length<=32):(qG c L).length<=48+41*L.length:=by
 have:=uJ L q;unfold qG;rw[aku];show 4*12+_<=_;omega
theorem O8(n:Int)(k:Nat):MV (akq .u64 n) k=yo (akq .u64 n) k:=BF k _ (gC n).1 (gC n).2
theorem XF(el:L.length=c.vals.len)(k:Nat)(q:k<12):∃x,(Board.eA c)[2*k]? =some x/\(kH c L.length)[k]? =some x:=by
 have q:k=0\/k=1\/k=2\/k=3\/k=4\/k=5\/k=6\/k=7\/k=8\/k=9\/k=10\/k=11:=ω;rcases q with rfl|rfl|rfl|rfl|rfl|rfl|rfl|rfl|rfl|rfl|rfl|rfl<;>first|exact⟨_,rfl,rfl⟩|exact⟨_,rfl,by rw[el];rfl⟩
theorem jE(e:aj 2 h c.vals (jx L))(O:c.vals.len<=64)(q:∀v∈L,v.key.length<=32)(A:∀r,Ext h r->R (akR (qG c L)).val r):Cl 157 [c.tv] h R:=by
 apply xE c.vals c.ep c.aQ c.no c.eV c.eH c.quo c.pe c.iy c.win c.bH c.dec;delta gz tM dz bK bA;have el:=by have:=e.len;rwa [ako]at this
 refine aa λP v1 B Q=>?_;refine⟨c.vals,c.ep,c.aQ,c.no,c.eV,c.eH,c.quo,c.pe,c.iy,c.win,c.bH,c.dec,v1.at,?_⟩;refine Fa λC S s u=>⟨_,rfl,?_⟩;have D:=B.trans u;have T:=iP s;have U:(Board.eA c).length=24:=rfl;refine⟨λσ l=>0<=σ.2/\σ.2<=24/\σ.2%2=0/\Ext C l/\σ.1=((kH c L.length).take (σ.2.toNat/2)).flatMap WJ,λσ _=>(24-σ.2).toNat,⟨akw 0,δ,δ,akp _,rfl⟩,?_⟩;rintro⟨t,i⟩ V ⟨b,m,E,f,a⟩;dsimp only at b m E a⊢;refine ID (λg=>?_) λg=>?_
 ·refine gB (s.ext f) b ω λx j=>bL 4 _ _ _ δ λo d=>⟨_,rfl,?_,?_⟩
  ·grind [dN,xF,ak1,min]
  ·rw[wrap_i64 ω ω];refine⟨⟨ω,ω,ω,f.trans d,?_⟩,ω⟩;obtain⟨y,k,F⟩:=XF el (i.toNat/2) ω;rw[show 2*(i.toNat/2)=i.toNat by omega,j]at k;injection k with k;subst k;rw[show(i+2).toNat/2=i.toNat/2+1 by omega,aU F,CQ,a,O8];rfl
 ·have p:i.toNat/2=(kH c L.length).length:=by show _=12;omega
  rw[p]at a;refine⟨c.vals,(v1.ext (u.trans f)).ah rfl,?_⟩;refine⟨λσ l=>0<=σ.2/\σ.2<=c.vals.len/\Ext h l/\σ.1=(kH c L.length).flatMap WJ++(L.take σ.2.toNat).flatMap qF,λσ _=>(c.vals.len-σ.2).toNat,⟨akw 0,ω,D.trans f,by simpa using a⟩,?_⟩;rintro⟨t,i⟩ o ⟨b,m,d,a⟩;dsimp only at b m a⊢;refine ID (λg=>?_) λg=>?_
  ·refine E_ (e.ext d) b ω λx j=>aa λW G H X=>aH G (t:=x.tv) rfl λI v6 J Y=>?_;have K:Ext o I:=akm H J λi g=>ω;have Z:=q x (akO j);have M:=uJ (L.take i.toNat) λv N=>q v (List.mem_of_mem_take N);rw[ak1]at M
   have l6:t.length<=48+41*64:=by
    rw[a,aku,xF];show 4*12+_<=_;omega
   refine⟨_,v6.ah rfl,_,v6.ah rfl,_,v6.ah rfl,?_⟩;refine bL 8 _ _ _ δ λh7 w=>⟨_,rfl,w,by rw[dN];omega,?_⟩;refine bL 1 _ _ _ δ λh8 z=>⟨_,rfl,z,by rw[aku,dN,dN];omega,by rw[aku,aku,dN,dN];omega,?_⟩;rw[wrap_i64 (n:=i+1) ω ω];refine⟨⟨Ω,Ω,((d.trans K).trans w).trans z,?_⟩,Ω⟩;show _=(kH c L.length).flatMap WJ++(L.take (i+1).toNat).flatMap qF;rw[show(i+1).toNat=i.toNat+1 by omega,aU j,CQ,a,O8,O8];rw[show qF x=(yo (akq .u64 x.cF) 8++yo (akq .u64 (x.key.length:Int)) 1)++x.key from rfl];simp only[List.append_assoc]
  ·have p:i.toNat=L.length:=ω;rw[p,List.take_length]at a;have:=A o d;rw[<-show t=qG c L from a]at this;exact this
theorem Ee:yA.length=6:=δ
theorem T1(e:aj 2 h c.vals (jx L))(A:c.vals.len<=64)(q:∀v∈L,v.key.length<=32)(B:∀a,Ext h a->R (akI 32 (wP c L)).val a):Cl 142 [c.tv] h R:=by
 apply Ed c.vals c.ep c.aQ c.no c.eV c.eH c.quo c.pe c.iy c.win c.bH c.dec;have el:=by have:=e.len;rwa [ako]at this
 refine aa λu v1 b w=>aa λx n d y=>?_;refine⟨c.vals,c.ep,c.aQ,c.no,c.eV,c.eH,c.quo,c.pe,c.iy,c.win,c.bH,c.dec,(v1.ext d).at,?_⟩;have f:=b.trans d;have z:=KF (c:=c) q;refine RK (e.ext f) A q λg j=>⟨_,rfl,?_⟩;have k:=akl g (row (akj [akR yA,akR (qG c L)]) 9);refine pT (ts:=[yA,qG c L]) ?_ ?_ (by simp) λC l=>⟨_,rfl,?_⟩
 ·exact(Vc.Own.new g [akR yA,akR (qG c L)] (λt m=>by
   simp only[akG,List.not_mem_nil,or_false]at m;rcases m with rfl|rfl<;>rfl)).elems
 ·simp only[List.flatten_cons,List.flatten_nil,List.append_nil,aku,Ee];omega
 ·have o:[yA,qG c L].flatten=yA++qG c L:=by simp
  rw[o];refine aH (((n.ext j).ext k).ext l) (t:=.bytes 32 (wP c L)) wI λp r s D=>⟨_,r.bytes,?_⟩;exact B p (akm (((f.trans j).trans k).trans l) s λi E=>by have:=b.size;omega)
theorem cW(e:aj 2 h c.vals (jx L))(A:c.vals.len<=64)(q:∀v∈L,v.key.length<=32)(B:∀a,Ext h a->R (akI 32 (wP c L)).val a):Cl 89 [c.tv] h R:=by
 apply zb c.vals c.ep c.aQ c.no c.eV c.eH c.quo c.pe c.iy c.win c.bH c.dec;have el:=by have:=e.len;rwa [ako]at this
 refine aa λo v1 j p=>aa λr k b t=>?_;refine⟨c.vals,c.ep,c.aQ,c.no,c.eV,c.eH,c.quo,c.pe,c.iy,c.win,c.bH,c.dec,(v1.ext b).at,?_⟩;have d:=j.trans b;have u:=KF (c:=c) q;refine jE (e.ext d) A q λw f=>⟨_,rfl,?_,?_⟩
 ·show((yA.length+_:Nat):Int)<=_
  grind [Ee]
 ·refine lI (s:=yA++qG c L) (by grind [Ee,aku]) λx g=>⟨_,rfl,?_⟩;refine aH ((k.ext f).ext g) wI λl m n y=>⟨_,m.bytes,?_⟩;exact B l (akm ((d.trans f).trans g) n λi z=>ω)
end
end Gate
namespace Gate
open Board (Vd Cf jx)
open Pool (It WL dV)
open Peers (Pe)
structure Ad where
 tr:Nat
 we:Nat
 ta:Nat
 bk:Nat
 kd:Nat
 wt:Nat
 wh:Nat
 kz:Nat
def GM(c:Cf)(a:Ad):TV:=.agg [c.tv,.ptr (PT a.tr),.ptr (PT a.we),.ptr (PT a.ta)]
def O9(c:Cf)(a:Ad)(left:Int):TV:=.agg [c.tv,.ptr (PT a.kz),.agg [.ptr (PT a.bk),.ptr (PT a.kd),.ptr (PT a.wt),.ptr (PT a.wh)],.i left]
structure aR(h:af)(g:Nat)(a:Ad)(c:Cf)(V:List Vd)(s:St)(Fp:Nat->Nat->Prop):Prop where
 sep:Sep h Fp
 tree:l9 h a.tr s.N c.no (Fp 0)
 FP:eZ h a.we a.tr s.N (bZ (aL V) s.tb s.N) (Fp 1)
 gH:Eb h a.ta s.tb V.length (Fp 2)
 bk:Var 164 h a.bk (GM c a)
 f3:Fp 3=(·=a.bk)
 kids:k9 172 h a.kd s.kids c.eV c.quo (Fp 4)
 wait:k9 212 h a.wt s.wait c.eH c.quo (Fp 5)
 who:VH h a.wh s.sc c.pe c.bH c.dec s.gone (Fp 6)
 kz:Clock.CI 217 h a.kz s.now (Clock.fB c.win)
 f7:Fp 7=(·=a.kz)
 var:Var 147 h g (O9 c a s.left)
 f8:Fp 8=(·=g)
 vals:aj 2 h c.vals (jx V)
 off:∀k i,Fp k i->¬In c.vals i
 can:Can c V
section
variable{R:Rq}{h h':af}{g:Nat}{a:Ad}{c:Cf}{V:List Vd}{s:St}{Fp:Nat->Nat->Prop}
theorem TV.ck{S:Nat->Prop}{h h':af}(e:ag S h h'){s:Sl}{sz:Nat}{ts:List TV}(q:aj sz h s ts)(A:∀i,In s i->¬S i):aj sz h' s ts:=
 ⟨q.len,q.nil,λl a i t b=>TV.UU e (A l.b ⟨l,a,rfl⟩) (q.get l a i t b)⟩
theorem aR.only{Q:Nat->Prop}(p:aR h g a c V s Fp)(f:ag Q h h')(q:∀k i,Fp k i->¬Q i)(A:∀i,In c.vals i->¬Q i):aR h' g a c V s Fp:=
 ⟨⟨p.sep.qx,λj i b=>by have:=p.sep.lt j i b;have:=f.size;omega⟩,p.tree.only f (q 0),p.FP.only f (q 1),p.gH.only f (q 2),p.bk.only f (q 3 _ (by rw[p.f3])),p.f3,p.kids.only f (q 4),p.wait.only f (q 5),p.who.only f (q 6),
   p.kz.only f (q 7 _ (by rw[p.f7])),p.f7,p.var.only f (q 8 _ (by rw[p.f8])),p.f8,TV.ck f p.vals A,p.off,p.can⟩
theorem aR.ext(p:aR h g a c V s Fp)(x:Ext h h'):aR h' g a c V s Fp:=p.only (Q:=λ_=>False) (.an x) (λ_ _ _ b=>b) λ_ _ b=>b
theorem Nk(e:aj 2 h c.vals (jx V))(k:Can c V)
 (M:∀h' tr we b d g j y z C,Var 164 h' d (.agg [c.tv,.ptr (PT tr),.ptr (PT we),.ptr (PT b)])->l9 h' tr (iq c V).N c.no y->eZ h' we tr (iq c V).N (λ_=>0) z->Eb h' b (iQ V.length c.ep) V.length C->
  Ext h h'->(∀i,y i->h.size<=i/\i<g)->(∀i,z i->g<=i/\i<j)->(∀i,C i->j<=i/\i<d)->h.size<=g->g<=j->j<=d->d<h'.size->R (akk (PT d)).val h'):
 Cl 75 [c.tv] h R:=by
 apply Iv c.vals c.ep c.aQ c.no c.eV c.eH c.quo c.pe c.iy c.win c.bH c.dec;delta nH nG nE fH uR tL fW aN bJ bK aT bA fD;have el:V.length=c.vals.len:=by have:=e.len;rwa [ako]at this
 have kl:=k.len;have keys:=wS k;refine aa λh1 v1 o s1=>?_;refine⟨c.vals,c.ep,c.aQ,c.no,c.eV,c.eH,c.quo,c.pe,c.iy,c.win,c.bH,c.dec,v1.at,?_⟩;refine KE (e.ext o) ω λK p=>⟨_,rfl,?_⟩;rw[mR.2 k];have q:Var 24 K h.size c.tv:=v1.ext p;have D:=o.trans p;refine akz ⟨c.vals,c.ep,c.aQ,c.no,c.eV,c.eH,c.quo,c.pe,c.iy,c.win,c.bH,c.dec,q.at,c.no,q.ah rfl,?_⟩;refine T1 (e.ext D) ω (λv L=>(keys v L).2) λh3 l=>⟨_,rfl,l,?_⟩;have P:=D.trans l;have z1:=o.size;have z2:=p.size;have z3:=l.size;refine Fw (λs=>absurd ⟨k.no.1,k.no.2,δ,δ⟩ s) λ_ E tr r A t u Q=>⟨_,_,rfl,?_⟩;have v4:Var 24 E h.size c.tv:=q.ext (l.trans u);refine⟨c.vals,c.ep,c.aQ,c.no,c.eV,c.eH,c.quo,c.pe,c.iy,c.win,c.bH,c.dec,v4.at,c.vals,v4.ah rfl,c.ep,v4.ah rfl,?_⟩;refine MQ t λT w O S B G U m W=>⟨_,rfl,m,?_⟩;rw[<-el];refine Xn (λs=>absurd ⟨ω,ω,k.ep.1,k.ep.2⟩ s) λ_ X b F H I J x f Y=>⟨_,rfl,f,?_⟩;refine aa λZ v7 n s7=>?_;rw[show((V.length:Int)).toNat=V.length by omega]at x;have z4:=u.size;have z5:=m.size;have z6:=f.size
 refine M Z tr w b X.size E.size T.size (lH tr r A) (iN w O S B G) (uY b F H I J) v7 ⟨r,A,t.ext ((m.trans f).trans n),rfl⟩ ⟨O,S,B,G,WP.ext U (f.trans n),rfl⟩ ⟨F,H,I,J,x.ext n,rfl⟩
  ((((P.trans u).trans m).trans f).trans n) (λi a=>⟨by have:=Q i a;omega,t.lt a⟩) (λi a=>W i a) (λi a=>⟨Y i a,x.lt a⟩) ω z5 z6 ω
end
end Gate
namespace Gate
open Board (Vd Cf jx)
open Pool (It WL dV)
open Peers (Pe)
structure KH(lo:Nat)(h:af)(c:Cf)(V:List Vd)(a:Ad)(m1 m2:Nat)(S0 S1 S2:Nat->Prop):Prop where
 var:Var 164 h a.bk (GM c a)
 tree:l9 h a.tr (iq c V).N c.no S0
 FP:eZ h a.we a.tr (iq c V).N (λ_=>0) S1
 gH:Eb h a.ta (iQ V.length c.ep) V.length S2
 r0:∀i,S0 i->lo<=i/\i<m1
 r1:∀i,S1 i->m1<=i/\i<m2
 r2:∀i,S2 i->m2<=i/\i<a.bk
 l0:lo<=m1
 l1:m1<=m2
 l2:m2<=a.bk
section
variable{R:Rq}{h h':af}{g lo m1 m2:Nat}{a:Ad}{c:Cf}{V:List Vd}{s:St}{S0 S1 S2 S4 S5 S6:Nat->Prop}
theorem KH.ext(p:KH lo h c V a m1 m2 S0 S1 S2)(x:Ext h h'):KH lo h' c V a m1 m2 S0 S1 S2:=
 ⟨p.var.ext x,p.tree.only (.an x) (λ_ _ b=>b),p.FP.only (.an x) (λ_ _ b=>b),p.gH.only (.an x) (λ_ _ b=>b),p.r0,p.r1,p.r2,p.l0,p.l1,p.l2⟩
theorem k9.ext{T:TypeId}{o:Nat}{q:List It}{most quota:Int}{S:Nat->Prop}(p:k9 T h o q most quota S)(x:Ext h h'):k9 T h' o q most quota S:=p.only (.an x) λ_ _ a=>a
theorem VH.ext{b:Nat}{P:List (Int×Int)}{most q A gone:Int}{S:Nat->Prop}(p:VH h b P most q A gone S)(x:Ext h h'):VH h' b P most q A gone S:=p.only (.an x) λ_ _ a=>a
theorem RM{b i:Nat}(q:dV b Sl.nil i):i=b:=by
 rcases q with a|a
 ·exact a
 ·exact(q8 a).elim
def Two(n:Nat)(S:Nat->Prop):Prop:=∀i,S i->n<=i/\i<n+2
theorem adE{n q:Int}(k:1<=n/\n<=64)(A:1<=q/\q<=64)(B:∀h' S,k9 172 h' (h.size+1) [] n q S->Two h.size S->Ext h h'->h'.size=h.size+2->R (akk (some ⟨h.size+1,0⟩)).val h'):Cl 76 [.i n,.i q] h R:=
 Pool.Xc (λb=>absurd ⟨k.1,k.2,A.1,A.2⟩ b) λ_ h' w x z=>B h' _ ⟨_,_,w,rfl⟩ (λi c=>by
  rcases c with a|a
  ·omega
  ·have:=RM a;omega) x z
theorem adF{n q:Int}(k:1<=n/\n<=64)(A:1<=q/\q<=64)(B:∀h' S,k9 212 h' (h.size+1) [] n q S->Two h.size S->Ext h h'->h'.size=h.size+2->R (akk (some ⟨h.size+1,0⟩)).val h'):Cl 77 [.i n,.i q] h R:=
 Pool.Xd (λb=>absurd ⟨k.1,k.2,A.1,A.2⟩ b) λ_ h' w x z=>B h' _ ⟨_,_,w,rfl⟩ (λi c=>by
  rcases c with a|a
  ·omega
  ·have:=RM a;omega) x z
theorem adG{n b d:Int}(k:Peers.Valid n b d)(q:∀h' S,VH h' (h.size+1) [] n b d 0 S->Two h.size S->Ext h h'->R (akk (some ⟨h.size+1,0⟩)).val h'):Cl 78 [.i n,.i b,.i d] h R:=
 Peers.Fw (λ_ h' x p=>q h' _ ⟨_,p,rfl⟩ (λi c=>ω) x) λa=>absurd k a
structure acA(lo:Nat)(h:af)(c:Cf)(V:List Vd)(a:Ad)(m1 m2 k4 k5 k6:Nat)(S0 S1 S2 S4 S5 S6:Nat->Prop):Prop where
 b:KH lo h c V a m1 m2 S0 S1 S2
 kids:k9 172 h a.kd [] c.eV c.quo S4
 wait:k9 212 h a.wt [] c.eH c.quo S5
 who:VH h a.wh [] c.pe c.bH c.dec 0 S6
 r4:Two k4 S4
 r5:Two k5 S5
 r6:Two k6 S6
 l4:a.bk<k4
 l5:k4+2<=k5
 l6:k5+2<=k6
def partsOf(S0 S1 S2 S4 S5 S6:Nat->Prop)(a:Ad)(g:Nat):Nat->Nat->Prop
 |0=>S0
 |1=>S1
 |2=>S2
 |3=>(·=a.bk)
 |4=>S4
 |5=>S5
 |6=>S6
 |7=>(·=a.kz)
 |8=>(·=g)
 |_=>λ_=>False
theorem acA.gate{A B q:Nat}(p:acA lo h c V a m1 m2 A B q S0 S1 S2 S4 S5 S6)(G:q+2<=a.kz)(H:a.kz<g)
 (E:Clock.CI 217 h a.kz 0 (Clock.fB c.win))(var:Var 147 h g (O9 c a 0))(vals:aj 2 h c.vals (jx V))(off:∀i,In c.vals i->i<lo)(can:Can c V):
 aR h g a c V (iq c V) (partsOf S0 S1 S2 S4 S5 S6 a g):=by
 have l:=var.lt;have d:=p.b.l0;have e:=p.b.l1;have f:=p.b.l2;have m:=p.l4;have n:=p.l5;have o:=p.l6;refine⟨?_,p.b.tree,?_,p.b.gH,p.b.var,rfl,p.kids,p.wait,p.who,E,rfl,var,rfl,vals,?_,can⟩
 ·refine Sep.made (lo:=λ|0=>lo|1=>m1|2=>m2|3=>a.bk|4=>A|5=>B|6=>q|7=>a.kz|8=>g|_=>g+1) ?_ ?_ ?_
  ·intro j i b
   match j,b with
   |0,b=>exact p.b.r0 i b
   |1,b=>exact p.b.r1 i b
   |2,b=>exact p.b.r2 i b
   |3,b=>have b:i=a.bk:=b;show a.bk<=i/\i<A;omega
   |4,b=>have:=p.r4 i b;show A<=i/\i<B;omega
   |5,b=>have:=p.r5 i b;show B<=i/\i<q;omega
   |6,b=>have:=p.r6 i b;show q<=i/\i<a.kz;omega
   |7,b=>have b:i=a.kz:=b;show a.kz<=i/\i<g;omega
   |8,b=>have b:i=g:=b;show g<=i/\i<g+1;omega
   |_+9,b=>exact b.elim
  ·intro j
   match j with
   |0=>exact d
   |1=>exact e
   |2=>exact f
   |3=>show a.bk<=A;omega
   |4=>show A<=B;omega
   |5=>show B<=q;omega
   |6=>show q<=a.kz;omega
   |7=>show a.kz<=g;omega
   |8=>show g<=g+1;omega
   |_+9=>exact akr _
  ·intro j
   match j with
   |0=>show lo<=_;omega
   |1=>show m1<=_;omega
   |2=>show m2<=_;omega
   |3=>show a.bk<=_;omega
   |4=>show A<=_;omega
   |5=>show B<=_;omega
   |6=>show q<=_;omega
   |7=>show a.kz<=_;omega
   |8=>show g<=_;omega
   |_+9=>show g+1<=_;omega
 ·show eZ h a.we a.tr (iq c V).N (bZ (aL V) (iQ V.length c.ep) (iq c V).N) S1;rw[WK];exact p.b.FP
 ·intro j i b k;have:=off i k
  match j,b with
  |0,b=>have:=p.b.r0 i b;omega
  |1,b=>have:=p.b.r1 i b;omega
  |2,b=>have:=p.b.r2 i b;omega
  |3,b=>have b:i=a.bk:=b;omega
  |4,b=>have:=p.r4 i b;omega
  |5,b=>have:=p.r5 i b;omega
  |6,b=>have:=p.r6 i b;omega
  |7,b=>have b:i=a.kz:=b;omega
  |8,b=>have b:i=g:=b;omega
  |_+9,b=>exact b.elim
end
end Gate
namespace Gate
open Board (Vd Cf jx aq)
open Pool (It WL dV)
open Peers (Pe)
theorem RN:(ctx.ti 137).bytes=24:=κ
theorem acB:(ctx.ti 137).size=2:=κ
theorem aan:(ctx.ti 137).z.size=2:=κ
def aao(a:Ad):TV:=.agg [.ptr (PT a.bk),.ptr (PT a.kd),.ptr (PT a.wt),.ptr (PT a.wh)]
section
variable{R:Rq}{h h':af}{g lo m1 m2:Nat}{a:Ad}{c:Cf}{V:List Vd}{s:St}{S0 S1 S2 S4 S5 S6:Nat->Prop}
theorem KH.only{Q:Nat->Prop}(p:KH lo h c V a m1 m2 S0 S1 S2)(f:ag Q h h')(q:∀i,lo<=i->i<=a.bk->¬Q i):KH lo h' c V a m1 m2 S0 S1 S2:=
 have l0:=p.l0;have l1:=p.l1;have l2:=p.l2
 ⟨p.var.only f (q _ ω (akr _)),p.tree.only f (λi b=>by have:=p.r0 i b;grind),p.FP.only f (λi b=>by have:=p.r1 i b;grind),p.gH.only f (λi b=>by have:=p.r2 i b;grind),p.r0,p.r1,p.r2,l0,l1,l2⟩
theorem aap(k:Can c V):Peers.Valid c.pe c.bH c.dec:=⟨k.pe.1,k.pe.2,k.bH.1,k.bH.2,k.dec.1,k.dec.2⟩
theorem Nl(e:aj 2 h c.vals (jx V))(hl:c.vals.len<100000)(a7:uz c V=false->∀h',Ext h h'->R (akx [.ptr none,.i 1]).val h')
 (hr:Can c V->∀h' g a s Fp,aR h' g a {c with vals:=s} V (iq c V) Fp->Ext h h'->(∀k i,Fp k i->h.size<=i)->(∀i,In s i->h.size<=i)->R (akx [.ptr (PT g),.i 0]).val h'):
 Cl 19 [c.tv] h R:=by
 apply KG c.vals c.ep c.aQ c.no c.eV c.eH c.quo c.pe c.iy c.win c.bH c.dec;refine aa λS v1 x1 s1=>?_;refine⟨c.vals,c.ep,c.aQ,c.no,c.eV,c.eH,c.quo,c.pe,c.iy,c.win,c.bH,c.dec,v1.at,?_⟩;refine KE (e.ext x1) hl λU x2=>⟨_,rfl,?_⟩;have v2:=v1.ext x2;have ac:=x1.trans x2;refine akt (λhb=>?_) λhb=>?_
 ·simp_all
 have k:=mR.1 (by simpa using hb);have z2:=x2.size;have on:=Vc.Own.new (T:=137) (sz:=2) U [] (λt ht=>by cases ht);have Z:=akl U (row (akj []) 137);refine⟨c.vals,(v2.ext Z).ah rfl,?_⟩;refine oW acB aan (by simp[RN]) δ (by grind [RN]) on ((e.ext ac).ext Z) (λu hu=>by obtain⟨v,_,rfl⟩:=aki.1 hu;rfl) (λu hu=>by obtain⟨v,_,rfl⟩:=aki.1 hu;rfl) λD h3 o3 ao f3 b3=>?_;have x3:=ao rfl;have v3:Var 24 h3 h.size c.tv:=(v2.ext Z).ext x3;have ap:=(ac.trans Z).trans x3;rw[List.nil_append]at o3;have ar:∀i,In D i->i<h3.size:=λi d=>o3.g_ i d
 have ad:∀i,In D i->h.size+1<=i:=λi⟨l,hl,d⟩=>by
  rcases b3 l hl with⟨l',S,aw⟩|S
  ·cases S;simp only at aw;omega
  ·have h9:U.size+1<=l.b:=by simpa using S
   omega
 refine aI (i:=0) (t:=.slice D) (t0:=.slice c.vals) v3 rfl rfl rfl rfl λw v4 f4 z4=>?_;have ae:Ext h w:=akm ap f4 λi d=>ω;have e4:aj 2 w D (jx V):=TV.ck f4 o3.elems λi d=>by have:=ad i d;omega
 have v4:Var 24 w h.size {c with vals:=D}.tv:=v4;have k':Can {c with vals:=D} V:=⟨k.tot,k.len,k.ep,k.aQ,k.no,k.eV,k.eH,k.quo,k.pe,k.iy,k.win,k.bH,k.dec⟩;intro J HJ;refine⟨D,c.ep,c.aQ,c.no,c.eV,c.eH,c.quo,c.pe,c.iy,c.win,c.bH,c.dec,v4.at,c.eV,v4.ah rfl,c.quo,v4.ah rfl,c.eH,v4.ah rfl,c.quo,v4.ah rfl,c.pe,v4.ah rfl,c.bH,v4.ah rfl,c.dec,v4.ah rfl,?_⟩;have a8:h.size<=w.size:=ae.size
 have al:∀(b:af)(lo q tr we m f C wt W m1 m2 z G k6:Nat)(S0 S1 S2 S4 S5 S6:Nat->Prop),Ext w b->w.size<=lo->Var 143 b q (aao ⟨tr,we,m,f,C,wt,W,0⟩)->
  acA lo b {c with vals:=D} V ⟨tr,we,m,f,C,wt,W,0⟩ m1 m2 z G k6 S0 S1 S2 S4 S5 S6->k6+2<=b.size->
  J (some ⟨f,0⟩,c.eV,c.quo,some ⟨C,0⟩,c.eH,c.quo,some ⟨wt,0⟩,c.pe,c.bH,c.dec,some ⟨W,0⟩,some ⟨q,0⟩) b:=by
  intro b lo q tr we m f C wt W m1 m2 z G k6 S0 S1 S2 S4 S5 S6 xh Q K p aE;have vh:Var 24 b h.size {c with vals:=D}.tv:=v4.ext xh;refine HJ _ b ⟨D,c.ep,c.aQ,c.no,c.eV,c.eH,c.quo,c.pe,c.iy,c.win,c.bH,c.dec,vh.at,c.win,vh.ah rfl,_,_,_,_,K.at,?_⟩;refine Clock.Fg λo a0 A z5=>⟨_,rfl,A,aa λx v6 n s6=>?_⟩;have M:=A.trans n
  have L:acA lo x {c with vals:=D} V ⟨tr,we,m,f,C,wt,W,b.size⟩ m1 m2 z G k6 S0 S1 S2 S4 S5 S6:=
   ⟨⟨p.b.var.ext M,(p.b.ext M).tree,(p.b.ext M).FP,(p.b.ext M).gH,p.b.r0,p.b.r1,p.b.r2,p.b.l0,p.b.l1,p.b.l2⟩,p.kids.ext M,p.wait.ext M,p.who.ext M,p.r4,p.r5,p.r6,p.l4,p.l5,p.l6⟩
  have gate:=L.gate (g:=o.size) aE (by show b.size<o.size;omega) (a0.ext n) v6 ((e4.ext xh).ext M) (λi d=>by have:=ar i d;omega) k';refine hr k x o.size _ D _ gate ((ae.trans xh).trans M) (λj i d=>?_) λi d=>by have:=ad i d;omega
  have:=gate.sep.lt j i d;have a9:=xh.size
  match j,d with
  |0,d=>have:=p.b.r0 i d;omega
  |1,d=>have:=p.b.r1 i d;have:=p.b.l0;omega
  |2,d=>have:=p.b.r2 i d;have:=p.b.l0;have:=p.b.l1;omega
  |3,d=>have d:i=f:=d;have:=p.b.l0;have:=p.b.l1;have:=p.b.l2;simp only at this;omega
  |4,d=>have:=p.r4 i d;have:=p.b.l0;have:=p.b.l1;have:=p.b.l2;have:=p.l4;simp only at*;omega
  |5,d=>have:=p.r5 i d;have:=p.b.l0;have:=p.b.l1;have:=p.b.l2;have:=p.l4;have:=p.l5;simp only at*;omega
  |6,d=>have:=p.r6 i d;have:=p.b.l0;have:=p.b.l1;have:=p.b.l2;have:=p.l4;have:=p.l5;have:=p.l6;simp only at*;omega
  |7,d=>have d:i=b.size:=d;omega
  |8,d=>have d:i=o.size:=d;omega
  |_+9,d=>exact d.elim
 have kc:1<=c.eV/\c.eV<=64:=k.eV;have vp:=aap k
 have t78:∀(b:af)(lo q tr we m f C wt m1 m2 z G:Nat)(S0 S1 S2 S4 S5:Nat->Prop),Ext w b->w.size<=lo->w.size<=q->(q<lo\/f<q)->(q<z\/z+2<=q)->(q<G\/G+2<=q)->Var 143 b q (.agg [.ptr none,.ptr none,.ptr none,.ptr none])->
  KH lo b {c with vals:=D} V ⟨tr,we,m,f,0,0,0,0⟩ m1 m2 S0 S1 S2->k9 172 b C [] c.eV c.quo S4->k9 212 b wt [] c.eH c.quo S5->Two z S4->Two G S5->f<z->z+2<=G->G+2<=b.size->
  Cl 78 [.i c.pe,.i c.bH,.i c.dec] b λv E=>∃(H:OL),v=(akk H).val/\gT E q 0 4/\Bind (TV.put E q 0 (.agg [.ptr (PT f),.ptr (PT C),.ptr (PT wt),.ptr H])) λF=>J (some ⟨f,0⟩,c.eV,c.quo,some ⟨C,0⟩,c.eH,c.quo,some ⟨wt,0⟩,c.pe,c.bH,c.dec,H,some ⟨q,0⟩) F:=by
  intro b lo q tr we m f C wt m1 m2 z G S0 S1 S2 S4 S5 xh Q hq c1 c2 c3 K X pk pw r4 r5 l4 l5 l6;have ql:=K.lt;refine adG vp λE S6 L N B=>⟨_,rfl,?_⟩;have z7:=B.size;refine aq (t:=aao ⟨tr,we,m,f,C,wt,b.size+1,0⟩) (K.ext B) rfl rfl λF v8 f8 z8=>?_;refine al F lo q tr we m f C wt (b.size+1) m1 m2 z G b.size S0 S1 S2 S4 S5 S6 (akm (xh.trans B) f8 λi d=>?_) Q v8 ?_ ?_
  ·omega
  ·have y:=(X.ext B).only f8 λi S U=>by simp only at U;omega
   refine⟨⟨y.var,y.tree,y.FP,y.gH,y.r0,y.r1,y.r2,y.l0,y.l1,y.l2⟩,(pk.ext B).only f8 λi d=>by have:=r4 i d;omega,(pw.ext B).only f8 λi d=>by have:=r5 i d;omega,L.only f8 λi d=>by have:=N i d;omega,r4,r5,N,l4,l5,l6⟩
  ·obtain⟨r,pp,_⟩:=L;have:=pp.var.lt;omega
 have t77:∀(b:af)(lo q tr we m f C m1 m2 z:Nat)(S0 S1 S2 S4:Nat->Prop),Ext w b->w.size<=lo->w.size<=q->(q<lo\/f<q)->(q<z\/z+2<=q)->Var 143 b q (.agg [.ptr none,.ptr none,.ptr none,.ptr none])->
  KH lo b {c with vals:=D} V ⟨tr,we,m,f,0,0,0,0⟩ m1 m2 S0 S1 S2->k9 172 b C [] c.eV c.quo S4->Two z S4->f<z->z+2<=b.size->
  Cl 77 [.i c.eH,.i c.quo] b λv x=>∃(O:OL),v=(akk O).val/\Ext b x/\
   Cl 78 [.i c.pe,.i c.bH,.i c.dec] x λv E=>∃(H:OL),v=(akk H).val/\gT E q 0 4/\Bind (TV.put E q 0 (.agg [.ptr (PT f),.ptr (PT C),.ptr O,.ptr H])) λF=>J (some ⟨f,0⟩,c.eV,c.quo,some ⟨C,0⟩,c.eH,c.quo,O,c.pe,c.bH,c.dec,H,some ⟨q,0⟩) F:=by
  intro b lo q tr we m f C m1 m2 z S0 S1 S2 S4 xh Q hq c1 c2 K X pk r4 l4 l5;have ql:=K.lt;refine adF k.eH k.quo λx S5 L N n z6=>⟨_,rfl,n,?_⟩;exact t78 x lo q tr we m f C (b.size+1) m1 m2 z b.size S0 S1 S2 S4 S5 (xh.trans n) Q hq c1 c2 ω (K.ext n) (X.ext n) (pk.ext n) L r4 N l4 ω ω
 have t76:∀(b:af)(lo q tr we m f m1 m2:Nat)(S0 S1 S2:Nat->Prop),Ext w b->w.size<=lo->w.size<=q->(q<lo\/f<q)->Var 143 b q (.agg [.ptr none,.ptr none,.ptr none,.ptr none])->
  KH lo b {c with vals:=D} V ⟨tr,we,m,f,0,0,0,0⟩ m1 m2 S0 S1 S2->f<b.size->
  Cl 76 [.i c.eV,.i c.quo] b λv o=>∃(p1:OL),v=(akk p1).val/\Ext b o/\
  Cl 77 [.i c.eH,.i c.quo] o λv x=>∃(O:OL),v=(akk O).val/\Ext o x/\
   Cl 78 [.i c.pe,.i c.bH,.i c.dec] x λv E=>∃(H:OL),v=(akk H).val/\gT E q 0 4/\Bind (TV.put E q 0 (.agg [.ptr (PT f),.ptr p1,.ptr O,.ptr H])) λF=>J (some ⟨f,0⟩,c.eV,c.quo,p1,c.eH,c.quo,O,c.pe,c.bH,c.dec,H,some ⟨q,0⟩) F:=by
  intro b lo q tr we m f m1 m2 S0 S1 S2 xh Q hq c1 K X P;have ql:=K.lt;refine adE k.eV k.quo λo S4 p5 r5 A z5=>⟨_,rfl,A,?_⟩;exact t77 o lo q tr we m f (b.size+1) m1 m2 b.size S0 S1 S2 S4 (xh.trans A) Q hq c1 ω (K.ext A) (X.ext A) p5 r5 P ω
 refine⟨?_,?_⟩
 ·refine Nk e4 k' λo tr we m f m1 m2 S0 S1 S2 v5 a1 a2 a3 A r0 r1 r2 l0 l1 l2 P=>⟨_,rfl,A,⟨?_,?_⟩⟩
  all_goals have ab:KH w.size o {c with vals:=D} V ⟨tr,we,m,f,0,0,0,0⟩ m1 m2 S0 S1 S2:=⟨v5,a1,a2,a3,r0,r1,r2,l0,l1,l2⟩
  all_goals have z5:=A.size
  ·refine adE k.eV k.quo λx S4 L N n z6=>⟨_,rfl,n,⟨?_,?_⟩⟩
   ·refine adF k.eH k.quo λE S5 p7 r7 B z7=>⟨_,rfl,B,⟨?_,?_⟩⟩
    ·refine adG vp λF S6 p8 r8 I=>⟨_,rfl,aa λh9 v9 x9 s9=>⟨x9,?_⟩⟩;have z8:=I.size;refine aq (t:=aao ⟨tr,we,m,f,o.size+1,x.size+1,E.size+1,0⟩) v9 rfl rfl λam v10 f10 a'=>?_;have Y:Ext F am:=akm x9 f10 λi d=>ω;have y:=((((ab.ext n).ext B).ext I).ext Y);obtain⟨r,pp,hS⟩:=p8;have ba:=pp.var.lt;refine al am w.size F.size tr we m f (o.size+1) (x.size+1) (E.size+1) m1 m2 o.size x.size E.size S0 S1 S2 S4 S5 S6 ((((A.trans n).trans B).trans I).trans Y) (akr _) v10 ?_ ω;exact⟨⟨y.var,y.tree,y.FP,y.gH,y.r0,y.r1,y.r2,y.l0,y.l1,y.l2⟩,((L.ext B).ext I).ext Y,(p7.ext I).ext Y,VH.ext ⟨r,pp,hS⟩ Y,N,r7,r8,P,ω,ω⟩
    ·refine aa λF v8 I s8=>⟨I,?_⟩;exact t78 F w.size E.size tr we m f (o.size+1) (x.size+1) m1 m2 o.size x.size S0 S1 S2 S4 S5 (((A.trans n).trans B).trans I) (akr _) ω ω ω ω v8 (((ab.ext n).ext B).ext I) ((L.ext B).ext I) (p7.ext I) N r7 P ω ω
   ·refine aa λE v7 B s7=>⟨B,?_⟩;exact t77 E w.size x.size tr we m f (o.size+1) m1 m2 o.size S0 S1 S2 S4 ((A.trans n).trans B) (akr _) ω ω ω v7 ((ab.ext n).ext B) (L.ext B) N P ω
  ·refine aa λx v6 n s6=>⟨n,?_⟩;exact t76 x w.size o.size tr we m f m1 m2 S0 S1 S2 (A.trans n) (akr _) ω ω v6 (ab.ext n) ω
 ·refine aa λo v5 A s5=>⟨A,?_⟩;refine Nk (e4.ext A) k' λx tr we m f m1 m2 S0 S1 S2 v6 a4 a5 a6 n r0 r1 r2 l0 l1 l2 P=>⟨_,rfl,n,?_⟩;exact t76 x o.size w.size tr we m f m1 m2 S0 S1 S2 (A.trans n) A.size (akr _) ω (v5.ext n) ⟨v6,a4,a5,a6,r0,r1,r2,l0,l1,l2⟩ P
end
end Gate
namespace Gate
open Board (Vd Cf jx aq)
open Pool (It WL dV)
open Peers (Pe)
structure Pt where
 n:Int
 o:Int
 e:Int
 p:Int
 v:Int
 m:Int
def Pt.tv(x:Pt):TV:=.agg [.i x.n,.i x.o,.i x.e,.i x.p,.i x.v,.i x.m]
def Pt.zero:Pt:=⟨0,0,0,0,0,0⟩
def afv(x:Pt):Int:=96*x.n+384*(x.o+x.e)+16*x.p+64*x.v+64*x.m
def xN(x:Pt):Int:=akq .i64 (afv x)
def ac2(x y:Pt):Bool:=decide (x.n<=y.n)&&(decide (x.o<=y.o)&&(decide (x.e<=y.e)&&(decide (x.p<=y.p)&&(decide (x.v<=y.v)&&decide (x.m<=y.m)))))
def eR(c:Cf)(V:List Vd):Pt:=if uz c V=true then⟨c.no,c.eV,c.eH,c.pe,V.length,V.length*(c.win/c.ep+2)⟩else Pt.zero
theorem aer(n:Int):akq .i64 n=(n+9223372036854775808)%18446744073709551616-9223372036854775808:=by
 unfold akq;simp only[IntKind.signed,IntKind.bits,akL];split
 ·rename_i a;have a:=of_decide_eq_true a;have b:(2:Int)^64=18446744073709551616:=δ;have c:(2:Int)^(64-1)=9223372036854775808:=δ;rw[b,c]at a;rw[b];omega
 ·rename_i a;have a:¬_:=λh=>a (decide_eq_true h);have b:(2:Int)^64=18446744073709551616:=δ;have c:(2:Int)^(64-1)=9223372036854775808:=δ;rw[b,c]at a;rw[b];omega
section
variable{R:Rq}{h h':af}{g:Nat}{a:Ad}{c:Cf}{V:List Vd}{s:St}{Fp:Nat->Nat->Prop}{x y:Pt}
theorem aeW(q:∀h',Ext h h'->R (akn (ac2 x y)).val h'):Cl 22 [x.tv,y.tv] h R:=by
 apply G6 x.n x.o x.e x.p x.v x.m y.n y.o y.e y.p y.v y.m;delta aO aN lq;refine aa λe v1 f n=>aa λb a c o=>?_;have v1:Var 34 b h.size x.tv:=v1.ext c;have a:Var 34 b e.size y.tv:=a;have d:=q b (f.trans c);unfold ac2 at d
 have step:∀{A:Prop}[Decidable A]{B:Bool}{K:Prop},R (akn (decide A&&B)).val b->(R (akn B).val b->K)->If (decide A) K (R (akn false).val b):=λ{A} _{B}{K} q g=>by
  refine ID (λh=>g ?_) λh=>?_
  ·rw[decide_eq_true h,akL]at q;exact q
  ·rw[decide_eq_false h,Bool.false_and]at q;exact q
 exact⟨_,v1.ah rfl,_,a.ah rfl,step d λi=>⟨_,v1.ah rfl,_,a.ah rfl,step i λj=>⟨_,v1.ah rfl,_,a.ah rfl,step j λk=>⟨_,v1.ah rfl,_,a.ah rfl,step k λl=>⟨_,v1.ah rfl,_,a.ah rfl,step l λm=>⟨_,v1.ah rfl,_,a.ah rfl,m⟩⟩⟩⟩⟩⟩
theorem acz(q:∀h',Ext h h'->R (TV.i (xN x)).val h'):Cl 24 [x.tv] h R:=by
 apply abb x.n x.o x.e x.p x.v x.m;delta nY aN;refine aa λa v1 b c=>?_;have v1:Var 34 a h.size x.tv:=v1;refine⟨_,v1.ah rfl,_,v1.ah rfl,_,v1.ah rfl,_,v1.ah rfl,_,v1.ah rfl,_,v1.ah rfl,?_⟩
 have e:akq .i64 (akq .i64 (akq .i64 (akq .i64 (akq .i64 (96*x.n)+akq .i64 (384*akq .i64 (x.o+x.e)))+akq .i64 (16*x.p))+akq .i64 (64*x.v))+akq .i64 (64*x.m))=xN x:=by
  unfold xN afv;simp only[aer];omega
 dsimp only;rw[e];exact q a b
theorem acn(e:aj 2 h c.vals (jx V))(A:c.vals.len<100000)(B:∀h',Ext h h'->R (eR c V).tv.val h'):Cl 23 [c.tv] h R:=by
 apply acY c.vals c.ep c.aQ c.no c.eV c.eH c.quo c.pe c.iy c.win c.bH c.dec;delta aeU fH nY aN bK;have el:V.length=c.vals.len:=by have:=e.len;rwa [ako]at this
 refine aa λg v1 j w=>aa λr l m x=>?_;have v1:Var 24 r h.size c.tv:=v1.ext m;have o:=j.trans m;refine⟨c.vals,c.ep,c.aQ,c.no,c.eV,c.eH,c.quo,c.pe,c.iy,c.win,c.bH,c.dec,v1.at,?_⟩;refine KE (e.ext o) A λp f=>⟨_,rfl,?_⟩;have d:Var 24 p h.size c.tv:=v1.ext f;have z:=j.size
 have q:∀(y:Pt)(a:af),y=eR c V->Var 34 a g.size y.tv->ag (·=g.size) p a->R y.tv.val a:=λy a s v4 f4=>by
  rw[s];exact B a (akm (o.trans f) f4 λi C=>ω)
 refine akt (λb=>?_) λb=>?_
 ·have b:uz c V=false:=by simpa using b
  refine aq (t:=Pt.zero.tv) (l.ext f) rfl rfl λa v4 f4 u=>⟨_,_,_,_,_,_,v4.at,q Pt.zero a ?_ v4 f4⟩;unfold eR;rw[b];rfl
 ·have b:uz c V=true:=by simpa using b
  have k:=mR.1 b;have D:=k.len;have E:=k.ep;have F:=k.win;have v:Int.tdiv c.win c.ep=c.win/c.ep:=Int.tdiv_eq_ediv_of_nonneg ω;have G:0<=c.win/c.ep:=Int.ediv_nonneg ω ω
  have H:c.win/c.ep<=64:=by
   have:=Int.ediv_le_self c.ep (show 0<=c.win by omega);omega
  have I:(V.length:Int)*(c.win/c.ep+2)<=64*66:=Int.mul_le_mul ω ω ω ω;have J:0<=(V.length:Int)*(c.win/c.ep+2):=Int.mul_nonneg ω ω;refine⟨c.vals,d.ah rfl,_,d.ah rfl,_,d.ah rfl,_,d.ah rfl,_,d.ah rfl,_,d.ah rfl,c.ep,d.ah rfl,ω,?_⟩;rw[v,<-el,wrap_i64 (n:=c.win/c.ep) ω ω,wrap_i64 (n:=c.win/c.ep+2) ω ω,wrap_i64 (n:=(V.length:Int)*(c.win/c.ep+2)) ω ω];refine aq (t:=(Pt.mk c.no c.eV c.eH c.pe V.length (V.length*(c.win/c.ep+2))).tv) (l.ext f) rfl rfl λa v4 f4 u=>⟨_,_,_,_,_,_,v4.at,q _ a ?_ v4 f4⟩;unfold eR;rw[if_pos b]
theorem agm(q:∀h',Ext h h'->R (TV.i (xN x)).val h'):Cl 166 [.fn (.func 24) [] [],x.tv] h R:=by
 apply ac4 ⟨.func (.func 24) #[] #[],by rfl⟩ x.n x.o x.e x.p x.v x.m;delta Ww aT;refine aa λa v1 b e=>?_;have v1:Var 34 a h.size x.tv:=v1;exact⟨_,_,_,_,_,_,v1.at,24,#[],#[],rfl,bP.LI κ,acz (x:=x) λc d=>⟨_,rfl,q c (b.trans d)⟩⟩
theorem abv(e:aj 2 h c.vals (jx V))(q:c.vals.len<100000)(A:∀h',Ext h h'->R (TV.i (xN (eR c V))).val h'):Cl 38 [c.tv] h R:=by
 apply acT c.vals c.ep c.aQ c.no c.eV c.eH c.quo c.pe c.iy c.win c.bH c.dec;delta dJ aT;refine aa λj v1 a k=>?_;refine⟨c.vals,c.ep,c.aQ,c.no,c.eV,c.eH,c.quo,c.pe,c.iy,c.win,c.bH,c.dec,v1.at,?_⟩;apply acU ⟨.func (.func 23) #[] #[],by rfl⟩ c.vals c.ep c.aQ c.no c.eV c.eH c.quo c.pe c.iy c.win c.bH c.dec;delta Ww dJ aT;refine aa λl d b m=>?_;refine⟨c.vals,c.ep,c.aQ,c.no,c.eV,c.eH,c.quo,c.pe,c.iy,c.win,c.bH,c.dec,d.at,23,#[],#[],rfl,bP.LI κ,acn (c:=c) (V:=V) (e.ext (a.trans b)) q λn f=>?_⟩;exact⟨_,_,_,_,_,_,rfl,agm (x:=eR c V) λg i=>⟨_,rfl,_,rfl,A g (((a.trans b).trans f).trans i)⟩⟩
def bN(t:Tb)(n:Nat):Int:=(((akF n).filter λ(i:Nat)=>(eB t (i:Int)).isSome).length:Int)
def cc(s:St):Pt:=⟨s.N.length,s.kids.length,s.wait.length,s.sc.length,bN s.tb 64,s.tb.first.length⟩
theorem abQ(t:Tb)(n:Nat):bN t (n+1)=if(eB t (n:Int)).isSome=true then bN t n+1 else bN t n:=by
 unfold bN;rw[List.range_succ,List.filter_append,aku];by_cases a:(eB t (n:Int)).isSome=true
 ·simp[a]
 ·simp[a]
theorem acV(t:Tb)(n:Nat):0<=bN t n/\bN t n<=n:=by
 unfold bN;have:=List.length_filter_le (λi:Nat=>(eB t (i:Int)).isSome) (akF n);rw[List.length_range]at this;omega
theorem KI(t:Tb)(i:Int):(kI t i).2=(eB t i).isSome:=by
 unfold kI;cases eB t i<;>rfl
theorem aR.book(p:aR h g a c V s Fp){K:Rq}(q:K (akk (PT a.bk)).val h):Cl 32 [.ptr (PT g)] h K:=by
 apply qi;delta C1;exact akz ⟨_,p.var.ah rfl,q⟩
theorem aR.agZ(p:aR h g a c V s Fp){K:Rq}(q:K (akk (PT a.kd)).val h):Cl 36 [.ptr (PT g)] h K:=by
 apply mc;delta C1;exact akz ⟨_,p.var.ah rfl,q⟩
theorem aR.early(p:aR h g a c V s Fp){K:Rq}(q:K (akk (PT a.wt)).val h):Cl 51 [.ptr (PT g)] h K:=by
 apply nL;delta C1;exact akz ⟨_,p.var.ah rfl,q⟩
theorem aR.aaq(p:aR h g a c V s Fp){K:Rq}(q:K (akk (PT a.wh)).val h):Cl 52 [.ptr (PT g)] h K:=by
 apply nM;delta C1;exact akz ⟨_,p.var.ah rfl,q⟩
theorem aR.Dy(p:aR h g a c V s Fp){K:Rq}(q:K (akk (PT a.tr)).val h):Cl 33 [.ptr (PT a.bk)] h K:=by
 apply As;delta C1;exact akz ⟨_,p.bk.ah rfl,q⟩
theorem aR.aew(p:aR h g a c V s Fp){K:Rq}(q:K (akk (PT a.ta)).val h):Cl 69 [.ptr (PT a.bk)] h K:=by
 apply zc;delta C1;exact akz ⟨_,p.bk.ah rfl,q⟩
theorem acX(p:aR h g a c V s Fp)(B:∀h',Ext h h'->R (cc s).tv.val h'):Cl 21 [.ptr (PT g)] h R:=by
 apply ada;delta aeU aF fk uR cu cE aN bK aT;refine aa λW v1 x X=>?_;have b:=p.ext x;obtain⟨r,A,F,Y⟩:=b.tree;obtain⟨Z,kA,G,hK⟩:=b.kids;obtain⟨wb,wA,H,hW⟩:=b.wait;obtain⟨pr,I,hP⟩:=b.who;obtain⟨tr,La,Ou,ps,gH,hT⟩:=b.gH;refine b.book ⟨_,rfl,b.Dy ⟨_,rfl,Bw F ⟨_,rfl,b.agZ ⟨_,rfl,Pool.Xg G ⟨_,rfl,b.early ⟨_,rfl,Pool.Nb H ⟨_,rfl,b.aaq ⟨_,rfl,?_⟩⟩⟩⟩⟩⟩⟩⟩;refine Peers.KA I λl m d J _=>⟨_,rfl,?_⟩;have ol:=J.len;rw[ako,Peers.Kx]at ol;have o:=b.ext d;refine o.book ⟨_,rfl,o.aew ⟨_,rfl,Ty (gH.ext d) ⟨_,rfl,?_⟩⟩⟩;refine aa λh3 K L s3=>aq (t:=(Pt.mk s.N.length s.kids.length s.wait.length m.len 0 s.tb.first.length).tv) K rfl rfl λz v4 f4 s4=>?_;have C:Ext l z:=akm L f4 λi e=>ω;have z2:=d.size;have ab:Var 34 z h.size Pt.zero.tv:=(v1.ext d).ext C;refine⟨λi D=>0<=i/\i<=64/\Var 34 D l.size (Pt.mk s.N.length s.kids.length s.wait.length m.len (bN s.tb i.toNat) s.tb.first.length).tv/\Ext l D,λi _=>(64-i).toNat,⟨akw 0,δ,v4,C⟩,?_⟩;rintro i h5 ⟨i0,i1,j,f⟩;refine ID (λe=>?_) λe=>?_
 ·have E:=o.ext f;refine E.book ⟨_,rfl,E.aew ⟨_,rfl,CD ((gH.ext d).ext f) λq M=>⟨_,_,_,_,rfl,?_⟩⟩⟩;refine aa λh7 N O s7=>aq (t:=(kI s.tb i).1.tv) N rfl rfl λP v8 f8 s8=>?_;have Q:Ext q P:=akm O f8 λi e=>ω;have u:=M.trans Q;have v:=j.ext u;have nn:=acV s.tb i.toNat;have k:=abQ s.tb i.toNat;rw[show((i.toNat:Nat):Int)=i by omega,<-KI]at k;rw[wrap_i64 (n:=i+1) ω ω];refine akt (λw=>?_) λw=>?_
  ·rw[if_pos w]at k;refine⟨_,v.ah rfl,?_⟩;dsimp only;rw[wrap_i64 (n:=bN s.tb i.toNat+1) ω ω];refine aI (i:=4) (t:=.i (bN s.tb i.toNat+1)) (t0:=.i (bN s.tb i.toNat)) v rfl rfl rfl rfl λh9 S f9 s9=>?_;refine⟨⟨ω,ω,?_,akm (f.trans u) f9 λi e=>akM (Eq.symm e)⟩,Ω⟩;rw[show(i+1).toNat=i.toNat+1 by omega,k];exact S
  ·rw[if_neg (by rw[w];decide)]at k;refine⟨⟨ω,ω,?_,f.trans u⟩,Ω⟩;rw[show(i+1).toNat=i.toNat+1 by omega,k];exact v
 ·have T:i.toNat=64:=ω;rw[T]at j;have U:(Pt.mk s.N.length s.kids.length s.wait.length m.len (bN s.tb 64) s.tb.first.length)=cc s:=by unfold cc;rw[<-ol]
  rw[U]at j;generalize cc s=y at j B;refine⟨y.n,y.o,y.e,y.p,y.v,y.m,j.at,?_⟩;refine aq (t:=y.tv) ((v1.ext d).ext f) rfl rfl λq v6 f6 s6=>⟨y.n,y.o,y.e,y.p,y.v,y.m,v6.at,?_⟩;exact B q (akm ((x.trans d).trans f) f6 λi e=>akM (Eq.symm e))
end
end Gate
namespace Gate
open Board (Vd Cf jx aq wI)
open Pool (It WL dV)
open Peers (Pe)
section
variable{R:Rq}{h h':af}{g:Nat}{a:Ad}{c:Cf}{V:List Vd}{s:St}{Fp:Nat->Nat->Prop}
def bT(s:St):Nd:=(c8 s.N 0).1
theorem Ef(p:aR h g a c V s Fp)(q:∀h',Ext h h'->R (akx [.bytes 32 (bT s).root,.i (bT s).slot]).val h'):Cl 116 [.ptr (PT g)] h R:=by
 apply Au;delta cQ uR bz eU bJ aT bA;refine aa λz v1 k B=>?_;have e:=p.ext k;obtain⟨r,A,u,C⟩:=e.tree;refine⟨_,e.var.ah rfl,e.Dy ⟨_,rfl,dg u λb f=>⟨_,_,_,_,rfl,?_⟩⟩⟩;refine aa λD v w E=>aq (t:=(bT s).tv) v rfl rfl λj v4 f4 F=>?_;have l:Ext b j:=akm w f4 λi d=>akM (Eq.symm d);have G:=f.size;have m:Var 69 (Vc.keeps (·=b.size) j) b.size (bT s).tv:=v4.keeps (S:=(·=b.size)) rfl;refine⟨Vc.keeps (·=b.size) j,jT,(bT s).root,m.at.1,(bT s).slot,m.at.2.1,?_⟩;refine aH ((v1.ext f).ext l) (t:=.bytes 32 (bT s).root) wI λn x f5 H=>?_;have y:Ext h n:=akm ((k.trans f).trans l) f5 λi d=>akM (Eq.symm d);exact⟨vV f5 (λi d o=>by have d:i=b.size:=d;have o:i=h.size:=o;omega),_,x.bytes,q n y⟩
def fK(c:Cf)(s:St)(kind slot:Int):Bool:=if kind=1 then Clock.vt s.now (bT s).slot slot else Clock.zS s.now (Clock.fB c.win) slot
theorem T2{m:Board.Ms}(p:aR h g a c V s Fp)(n0:0<=s.now)(A:s.now<=1073741824)(q:∀h',Ext h h'->R (akn (fK c s m.kind m.slot)).val h'):Cl 205 [.ptr (PT g),m.tv] h R:=by
 apply Av (PT g) m.kind m.slot m.target m.ax m.body m.bits m.tag;delta dK iM i_ cu aN eU bJ aT;refine aa λr v1 d C=>?_;have b:=p.ext d;have l:=Clock.CP c.win;refine⟨m.kind,v1.at.1,akt (λe=>?_) λe=>?_⟩
 ·have f:m.kind≠1:=by simpa using e
  have j:fK c s m.kind m.slot=Clock.zS s.now (Clock.fB c.win) m.slot:=if_neg f;rw[j]at q;exact⟨_,b.var.ah rfl,m.slot,v1.at.2.1,Clock.XC b.kz n0 A l.1 l.2 ⟨_,rfl,q r d⟩⟩
 ·have f:m.kind=1:=by simpa using e
  have j:fK c s m.kind m.slot=Clock.vt s.now (bT s).slot m.slot:=if_pos f;rw[j]at q;refine Ef b λu v=>⟨_,_,rfl,aa λD w x E=>aH w (t:=.bytes 32 (bT s).root) wI λn v4 f4 F=>?_⟩;have y:Ext u n:=akm x f4 λi z=>akM (Eq.symm z);have k:=v.trans y;have o:=b.ext k;have B:=v1.ext k;exact⟨_,o.var.ah rfl,m.slot,B.at.2.1,Clock.sI o.kz ⟨_,rfl,q n (d.trans k)⟩⟩
def iu(v:Int):Int:=if v=4\/v=5 then 4 else if v=6\/v=9 then 1 else if v=7\/v=10 then 3 else if v=8 then 5 else 0
theorem RO{v:Int}(A:R (TV.i (iu v)).val h):Cl 82 [.i v] h R:=by
 apply FA;delta dX bA;have go:∀n:Int,iu v=n->R (TV.i n).val h:=λn g=>by rw[<-g];exact A
 intro s o;refine ID (λe=>o _ h ?_) λe=>o _ h ?_
 ·rw[decide_eq_true e];exact akQ (go 4 (if_pos (.inl e)))
 ·refine ID (λj=>go 4 (if_pos (.inr j))) λj=>?_;intro t p;have a:¬(v=4\/v=5):=λb=>b.elim e j;refine ID (λc=>p _ h ?_) λc=>p _ h ?_
  ·rw[decide_eq_true c];exact akQ (go 1 (by unfold iu;rw[if_neg a,if_pos (.inl c)]))
  ·refine ID (λk=>go 1 (by unfold iu;rw[if_neg a,if_pos (.inr k)])) λk=>?_;have d:¬(v=6\/v=9):=λb=>b.elim c k;refine ID (λf=>?_) λf=>?_
   ·have r:=go 3 (by unfold iu;rw[if_neg a,if_neg d,if_pos (.inl f)]);exact ID (λ_=>r) λg=>absurd f g
   ·refine ID (λl=>go 3 (by unfold iu;rw[if_neg a,if_neg d,if_pos (.inr l)])) λl=>?_;have q:¬(v=7\/v=10):=λb=>b.elim f l;exact ID (λm=>go 5 (by unfold iu;rw[if_neg a,if_neg d,if_neg q,if_pos m])) λm=>go 0 (by unfold iu;rw[if_neg a,if_neg d,if_neg q,if_neg m])
end
end Gate
namespace Gate
open Board (Vd Cf jx aq wI)
open Pool (It WL dV has jC)
open Peers (Pe)
section
variable{R:Rq}{h h':af}{g:Nat}{a:Ad}{c:Cf}{V:List Vd}{s:St}{Fp:Nat->Nat->Prop}
theorem afO{l:Go.Vc.Loc}:gq Tryz.prog h 84 (akk (some l)).val "Len" 83 (akk (some l)).val:=Bi bP (e:=172) κ κ jC κ
theorem afP{l:Go.Vc.Loc}:gq Tryz.prog h 84 (akk (some l)).val "Has" 37 (akk (some l)).val:=Bi bP (e:=172) κ κ jC κ
theorem e_len{l:Go.Vc.Loc}:gq Tryz.prog h 97 (akk (some l)).val "Len" 84 (akk (some l)).val:=Bi bP (e:=212) κ κ jC κ
theorem afQ{l:Go.Vc.Loc}:gq Tryz.prog h 97 (akk (some l)).val "Has" 371 (akk (some l)).val:=Bi bP (e:=212) κ κ jC κ
theorem OS(r:Bs 32):has r []=false:=rfl
def iD(s:St)(kind:Int)(r:Bs 32):Bool:=if kind=1 then decide (0<=place r s.N)||has r s.kids else has r s.wait
theorem T3{m:Board.Ms}{r:Bs 32}(p:aR h g a c V s Fp)(q:∀h',Ext h h'->R (akn (iD s m.kind r)).val h'):Cl 207 [.ptr (PT g),m.tv,.bytes 32 r] h R:=by
 apply Aw (PT g) m.kind m.slot m.target m.ax m.body m.bits m.tag;delta eG Zn dK js iM aO dx cr fE bz aN bJ aT lq;refine aa λG v1 E H=>aa λj k w I=>?_;have d:=E.trans w;have b:=p.ext d;have l:=v1.ext w;obtain⟨J,A,F,K⟩:=b.tree;obtain⟨L,M,x,N⟩:=b.kids;obtain⟨O,P,y,Q⟩:=b.wait;have z:∀{B:List It},¬((0:Int)<(B.length:Int))->B=[]:=λi=>List.eq_nil_of_length_eq_zero ω;refine⟨_,b.var.ah rfl,?_⟩;intro S C;refine⟨m.kind,l.at.1,ID (λf=>?_) λf=>?_⟩
 ·refine⟨_,b.var.ah rfl,C _ j ?_⟩;have n:iD s m.kind r=(decide (0<=place r s.N)||has r s.kids):=if_pos f;rw[n]at q;refine⟨m.kind,l.at.1,ID (λ_=>?_) λi=>absurd f i⟩;refine⟨_,b.var.ah rfl,r,k.bytes,b.Dy ⟨_,rfl,akp _,dM F λD e=>⟨_,rfl,?_⟩⟩⟩;refine ID (λo=>?_) λo=>?_
  ·have:=q D (d.trans e);rw[decide_eq_true o,Bool.true_or]at this;exact this
  ·rw[decide_eq_false o,Bool.false_or]at q;refine⟨_,_,_,_,rfl,afO,Pool.Xg (x.ext e) ⟨_,rfl,?_⟩⟩;refine ID (λ_=>⟨r,(k.ext e).bytes,_,_,_,_,rfl,afP,Pool.Xe (x.ext e) λt u=>⟨_,rfl,q t ((d.trans e).trans u)⟩⟩) λv=>?_;have:=q D (d.trans e);rw[z v,OS]at this;exact this
 ·have n:iD s m.kind r=has r s.wait:=if_neg f;rw[n]at q;refine C _ j ⟨m.kind,l.at.1,ID (λi=>absurd i f) λ_=>?_⟩;refine⟨_,_,_,_,rfl,e_len,Pool.Nb y ⟨_,rfl,?_⟩⟩;refine ID (λ_=>⟨r,k.bytes,_,_,_,_,rfl,afQ,Pool.Xf y λt u=>⟨_,rfl,q t (d.trans u)⟩⟩) λv=>?_;have:=q j d;rw[z v,OS]at this;exact this
end
end Gate
namespace Board
noncomputable def Ay(slot:Int)(n:Nat):List Int:=(sorted slot n).map ij.who
theorem GN(slot:Int)(n:Nat):(Ay slot n).Perm ((akF n).map λ(i:Nat)=>(i:Int)):=by
 have:=(sorted_perm slot n).map ij.who;unfold Tu at this;rw[aks]at this;exact this
theorem T5(slot:Int)(n:Nat):(Ay slot n).Nodup:=by
 rw[(GN slot n).nodup_iff];exact List.Pairwise.map _ (λa b(h:a≠b)=>ω) List.nodup_range
theorem aar{slot:Int}{n:Nat}{x:Int}(h:x∈Ay slot n):0<=x/\x<n:=by
 have:=(GN slot n).mem_iff.1 h;obtain⟨i,a,rfl⟩:=aki.1 this;have:=akX.1 a;omega
theorem RP(slot:Int)(n:Nat):(Ay slot n).length=n:=by rw[(GN slot n).length_eq];simp
theorem aas{n:Nat}{aQ slot:Int}(q:0<=slot)(A:slot<=1073741824):mem n aQ slot=(Ay slot n).take (min (max aQ 0) (n:Int)).toNat:=by
 unfold mem Ay;rw[if_neg ω,List.map_take]
theorem VI{n:Nat}{aQ slot:Int}(h:slot<0\/1073741824<slot):mem n aQ slot=[]:=by
 unfold mem;rw[if_pos h]
theorem VJ:∀(l:List Int)(k x:Int),x∉l->idx l x k=-1
 |[],_,_,_=>rfl
 |y::q,k,x,h=>by
  rw[idx,if_neg (λe=>h (by rw[e];exact List.mem_cons_self ..)),VJ q _ x (λa=>h (ak0 _ a))]
section
variable{R:Rq}{h:af}{c:Cf}
theorem td{b:Nat}(v:Var 24 h b c.tv){K:Sl->Int->Int->Int->Int->Int->Int->Int->Int->Int->Int->Int->Prop}(U:K c.vals c.ep c.aQ c.no c.eV c.eH c.quo c.pe c.iy c.win c.bH c.dec):
 ∃(s:Sl),∃(n q A B E G H I J M O:Int),(ah h b 0 (bu s)/\ah h b 1 (.i n)/\ah h b 2 (.i q)/\ah h b 3 (.i A)/\ah h b 4 (.i B)/\ah h b 5 (.i E)/\ah h b 6 (.i G)/\ah h b 7 (.i H)/\
  ah h b 8 (.i I)/\ah h b 9 (.i J)/\ah h b 10 (.i M)/\ah h b 11 (.i O))/\K s n q A B E G H I J M O:=
 ⟨c.vals,c.ep,c.aQ,c.no,c.eV,c.eH,c.quo,c.pe,c.iy,c.win,c.bH,c.dec,v.at,U⟩
end
end Board
end Go.Proofs.YtennbinbffdimaaGreat

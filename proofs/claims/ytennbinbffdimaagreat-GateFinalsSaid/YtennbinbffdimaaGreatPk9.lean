/- Texts that the proof needs, joined. -/
import Derived.Shelf.SlIterI.Nil
import Derived.Shelf.SortM.Plain
import Derived.Shelf.SortM.SortNone
import Derived.Ground.GgzProg
import Derived.Ground.SlgmProg
import Derived.Test.YtennbinbffdimaaGreatProg
import Derived.Test.YtennbinbffdimaaGreatPk5
import Derived.Test.YtennbinbffdimaaGreatPk8
set_option maxRecDepth 100000
open Go.Vc.ak renaming cells->akr
open List renaming mem_map->aks,length_map->aku,getElem?_eq_getElem->aky,map_map->akD,length_append->akE,map_cons->akF,take_length->akH,length_eq_one_iff->akN,length_filter_le->akP,mem_cons->akR,getElem?_eq_some_iff->akS,range->akT,mem_of_getElem?->akU,append_nil->akX,getElem?_map->akY,map->akZ,replicate->ak0,map_append->ak4,nodup_cons->ak6,length_take->ala,mem_cons_of_mem->alc,mem_cons_self->ald,filterMap_cons->ale,map_nil->alh,length_range->ali,nodup_nil->alj,mem_singleton->alm,length_cons->aln
open Go.Vc.ag renaming cut->akt,an->ak9
open Go.Vc.Ext renaming refl->akv,push->akw
open Go.Vc.Bs renaming zero->akx
open Int renaming le_refl->akz,toNat_natCast->akQ
open Go.Vc.TV renaming bg->akA,bool->akB,bytes->akG,int->akJ,ptr->akL,size->ak1,slice->ak2,str->ak7,put->alg
open Go.Vc.If renaming split->akC,dec->akK,no->akO,yes->akW
open Nat renaming le_refl->akI,le_trans->ak3,le_of_eq->alb,sub_le->alk
open Go.Vc.Loc renaming mk->akM
open Go.Lit renaming int->akV
open Array renaming getElem?_eq_some_iff->ak5
open Go.IntKind renaming wrap->ak8
open Bool renaming true_and->alf
namespace Go.Proofs.YtennbinbffdimaaGreat
open Go Go.Vc
namespace Pool
open Board (Dm Ms dF bw bh bB aq fR cv gF cW j9 wI aY aU pX)
theorem Ko{d e:Dm}(h:Board.Rn d=some e)(q:0<=d.body/\d.body<18446744073709551616):0<=e.body/\e.body<18446744073709551616:=by
 obtain⟨rfl,_⟩:=Board.Fj h;exact q
theorem Kq{s:LU}{d:Dm}(h:dF s=some d)(b:Sl):j9 (d.ms b):=by
 have a:(0:Int)<=0/\(0:Int)<18446744073709551616:=δ;unfold dF at h;split at h
 ·cases h
 split at h
 ·split at h
  ·have:=Board.VB (s:=(s.drop 39).take 8) (by simp_all);exact Ko h ⟨by simp_all,by grind⟩
  grind
 split at h
 ·split at h
  ·exact Ko h a
  grind
 split at h
 ·split at h
  ·cases h
  ·exact Ko h a
 grind
section
variable{R:Rq}{h:af}{m:Nat}{A:Sl}{M L:List It}{most quota:Int}
theorem Ip{s:LU}(B:s.length<1000)(q:∀a b ok,aj 1 a b (aY (lK s).row)->Ext h a->(∀l,b.a=some l->h.size<=l.b/\l.b<a.size)->R (akA [((lK s).ms b).tv,.bool ok]).val a):
 Cl 175 [.str s] h R:=by
 refine gF B (λc a x=>?_) λd a b f e x g=>?_
 ·have:=q a Sl.nil false;rw[Nc c]at this;exact this (aj.Bf 1 a) x λl i=>by cases i
 ·have:=q a b true;rw[rY f]at this;exact this e x g
structure fq(m:Nat)(A:Sl)(h:af)(A':Sl)(h':af):Prop where
 only:ag (·=m) h h'
 new:∀l,A'.a=some l->(∃l',A.a=some l'/\l'.b=l.b)\/h.size<=l.b
theorem fq.an{q:af}(x:Ext h q):fq m A h A q:=⟨ak9 x,λl a=>.inl ⟨l,a,rfl⟩⟩
theorem fq.trans{A' B:Sl}{E q:af}(g:fq m A h A' E)(k:fq m A' E B q):fq m A h B q:=by
 refine⟨g.only.trans k.only,λl b=>?_⟩;have:=g.only.size;rcases k.new l b with⟨c,a,q⟩|a
 ·rcases g.new c a with⟨l2,d,e⟩|d<;>simp_all
 omega
theorem OX(r:RL h m A M most quota){peer:Int}{text:LU}(hm:1<=most)(O:most<=64)(U:(M.length:Int)<=most)(ht:text.length<1000)
 (W:∀K A',RL K m A' (dY (λk=>decide (k=1)) most quota peer text M).2.2 most quota->fq m A h A' K->R (akA [.i (dY (λk=>decide (k=1)) most quota peer text M).1,.bytes 32 (dY (λk=>decide (k=1)) most quota peer text M).2.1]).val K):
 Cl 188 [.ptr (PT m),.i peer,.str text] h R:=by
 apply Am;delta eG jY Hr Hq cQ abS dx EU bz aN eU bJ bA fD;have a1:=r.var.lt;refine aa λh1 v1 T s1=>?_
 have ap:∀n,Ext h1 n->dY (λk=>decide (k=1)) most quota peer text M=(5,akx 32,M)->
  gT n h.size 0 32/\Bind (alg n h.size 0 (akG 32 (akx 32))) λV=>∃(b:Bs 32),av V h.size 0 32 b/\R (akA [.i 5,.bytes 32 b]).val V:=by
  intro n X he;refine aq (v1.ext X) rfl rfl λu z f5 Y=>⟨_,z.bytes,?_⟩;rw[he]at W;have f:=akt (T.trans X) f5 λi o=>ω;exact W u A (r.ext f) (.an f)
 refine gF ω (λar Z F=>?_) λd Z bs G e2 F _=>?_
 ·refine⟨_,_,_,_,_,_,_,_,rfl,aa λh3 L N s3=>aq (t0:=bh.tv) L cv fR λy v4 f4 s4=>?_⟩;have H:=akt N f4 λi o=>ω;intro J HJ;exact akW (ap y (F.trans H) (CH ar))
 refine⟨_,_,_,_,_,_,_,_,rfl,aa λh3 L N s3=>aq (t0:=bh.tv) L cv fR λy v4 f4 s4=>?_⟩;have H:=akt N f4 λi o=>ω;have ab:=F.trans H;have I:=T.trans ab;intro J HJ;have z2:=F.size;refine akO ⟨d.kind,v4.ah rfl,akC (λhk=>?_) λhk=>?_⟩
 ·grind [IW,decide_eq_false]
 have aw:decide (d.kind=1)=true:=by simp_all
 refine HJ 0 y ?_;intro J2 aE;have ac:=Fs (most:=most) (quota:=quota) (peer:=peer) (S:=M) (want:=λk=>decide (k=1)) G aw
 have P:∀(n:af)(q:Nat)(A':Sl)(a:OL×Int×Bs 32×Int×Bs 32×LU×Int×OL×Int),a.2.2.2.2.2.2.2=(some ⟨q,0⟩,(cV most quota (bq d peer text) M).1)->
  Var 82 n q (cV most quota (bq d peer text) M).2.1.tv->RL n m A' (cV most quota (bq d peer text) M).2.2 most quota->fq m A y A' n->J2 a n:=by
  intro n q A' a ha vq p g;refine aE a n ?_;dsimp only;rw[ha];refine⟨_,jF vq,?_⟩;have a0:=(v1.ext ab).only g.only ω;refine aq a0 rfl wI λu z f5 Y=>⟨_,z.bytes,?_⟩;have new:∀l,A'.a=some l->(∃v,A.a=some v/\v.b=l.b)\/y.size<=l.b:=g.new
  have g5:fq m A h A' u:=⟨⟨by have:=g.only.size;omega,λi o B=>by
   rw[f5.same i (by have:=g.only.size;omega) ω,g.only.same i ω B,I.same i o]⟩,λl c=>by
   rcases new l c with e|e
   ·exact .inl e
   ·exact .inr ω⟩
  have C:∀l,A'.a=some l->l.b≠h.size:=λl c=>by
   rcases new l c with⟨v,e,ad⟩|e
   ·have:=r.low v e;omega
   ·omega
  have p5:RL u m A' (cV most quota (bq d peer text) M).2.2 most quota:=⟨p.var.only f5 ω,p.el.only f5 C,p.cap,p.apart,λl c=>by have:=p.low l c;omega,p.iz⟩;have:=W u A' (by rw[ac];exact p5) g5;rw[ac]at this;exact this
 have ae:=oF G;have al:=Board.lY (pX G);have am:=Kq G bs;have e4:=e2.ext H;have v4:Var 58 y Z.size (d.ms bs).tv:=v4;refine⟨d.slot,v4.ah rfl,bB v4 ⟨d.target,v4.at.2.2.1,⟨?_,?_⟩⟩⟩
 ·refine cW (m:=d.ms bs) e4 ae al am λu f=>⟨_,rfl,f,⟨?_,?_⟩⟩
  ·refine bL (x:=bq d peer text) ((r.ext I).ext f) hm O U λQ A' p6 f6 n6=>⟨_,_,_,_,_,_,rfl,?_⟩;refine aa λh7 v7 x7 s7=>⟨x7,aq (t0:=It.zero.tv) v7 (t:=(cV most quota (bq d peer text) M).2.1.tv) (It.size _).symm rfl λw D f8 s8=>?_⟩;have ao:Ext Q w:=akt x7 f8 λi o=>ω;exact P w _ A' _ rfl D (p6.ext ao) ((fq.an f).trans (fq.trans ⟨f6,n6⟩ (.an ao)))
  ·refine aa λQ v6 s s6=>⟨s,?_⟩;refine bL (x:=bq d peer text) (((r.ext I).ext f).ext s) hm O U λh7 A' j f7 E=>⟨_,_,_,_,_,_,rfl,?_⟩;have z5:=f.size
   have C:∀l,A'.a=some l->l.b≠u.size:=λl c=>by
    rcases E l c with⟨v,e,ad⟩|e
    ·have:=r.low v e;omega
    ·omega
   refine aq (t0:=It.zero.tv) (v6.only f7 ω) (t:=(cV most quota (bq d peer text) M).2.1.tv) (It.size _).symm rfl λw D f8 s8=>?_;have p8:RL w m A' (cV most quota (bq d peer text) M).2.2 most quota:=⟨j.var.only f8 ω,j.el.only f8 C,j.cap,j.apart,λl c=>by have:=j.low l c;omega,j.iz⟩;refine P w _ A' _ rfl D p8 ((fq.an f).trans ⟨⟨by have:=f7.size;omega,λi o B=>?_⟩,λl c=>?_⟩)
   ·have:=f7.size;rw[f8.same i ω ω,f7.same i ω B,s.same i o]
   ·rcases E l c with e|e
    ·exact .inl e
    ·exact .inr ω
 ·refine aa λu z f Y=>⟨f,?_⟩;refine cW (m:=d.ms bs) (e4.ext f) ae al am λQ s=>⟨_,rfl,s,?_⟩;have z6:=s.size;refine bL (x:=bq d peer text) (((r.ext I).ext f).ext s) hm O U λh7 A' j f7 E=>⟨_,_,_,_,_,_,rfl,?_⟩
  have C:∀l,A'.a=some l->l.b≠y.size:=λl c=>by
   rcases E l c with⟨v,e,ad⟩|e
   ·have:=r.low v e;omega
   ·omega
  refine aq (t0:=It.zero.tv) ((z.ext s).only f7 ω) (t:=(cV most quota (bq d peer text) M).2.1.tv) (It.size _).symm rfl λw D f8 s8=>?_;have p8:RL w m A' (cV most quota (bq d peer text) M).2.2 most quota:=⟨j.var.only f8 ω,j.el.only f8 C,j.cap,j.apart,λl c=>by have:=j.low l c;omega,j.iz⟩;refine P w _ A' _ rfl D p8 ⟨⟨by have:=f7.size;omega,λi o B=>?_⟩,λl c=>?_⟩
  ·have:=f7.size;rw[f8.same i ω ω,f7.same i ω B,s.same i ω,f.same i o]
  ·rcases E l c with e|e
   ·exact .inl e
   ·exact .inr ω
theorem OY(r:RL h m A M most quota){peer:Int}{text:LU}(hm:1<=most)(O:most<=64)(U:(M.length:Int)<=most)(ht:text.length<1000)
 (W:∀K A',RL K m A' (dY (λk=>!decide (k=1)) most quota peer text M).2.2 most quota->fq m A h A' K->R (akA [.i (dY (λk=>!decide (k=1)) most quota peer text M).1,.bytes 32 (dY (λk=>!decide (k=1)) most quota peer text M).2.1]).val K):
 Cl 187 [.ptr (PT m),.i peer,.str text] h R:=by
 apply An;delta eG jY Hr Hq cQ abS dx EU bz aN eU bJ bA fD;have a1:=r.var.lt;refine aa λh1 v1 T s1=>?_
 have ap:∀n,Ext h1 n->dY (λk=>!decide (k=1)) most quota peer text M=(5,akx 32,M)->
  gT n h.size 0 32/\Bind (alg n h.size 0 (akG 32 (akx 32))) λV=>∃(b:Bs 32),av V h.size 0 32 b/\R (akA [.i 5,.bytes 32 b]).val V:=by
  intro n X he;refine aq (v1.ext X) rfl rfl λu z f5 Y=>⟨_,z.bytes,?_⟩;rw[he]at W;have f:=akt (T.trans X) f5 λi o=>ω;exact W u A (r.ext f) (.an f)
 refine gF ω (λar Z F=>?_) λd Z bs G e2 F _=>?_
 ·refine⟨_,_,_,_,_,_,_,_,rfl,aa λh3 L N s3=>aq (t0:=bh.tv) L cv fR λy v4 f4 s4=>?_⟩;have H:=akt N f4 λi o=>ω;intro J HJ;exact akW (ap y (F.trans H) (CH ar))
 refine⟨_,_,_,_,_,_,_,_,rfl,aa λh3 L N s3=>aq (t0:=bh.tv) L cv fR λy v4 f4 s4=>?_⟩;have H:=akt N f4 λi o=>ω;have ab:=F.trans H;have I:=T.trans ab;intro J HJ;have z2:=F.size;refine akO ⟨d.kind,v4.ah rfl,akC (λhk=>?_) λhk=>?_⟩
 ·grind [IW]
 have aw:(!decide (d.kind=1))=true:=by simp_all
 refine HJ 0 y ?_;intro J2 aE;have ac:=Fs (most:=most) (quota:=quota) (peer:=peer) (S:=M) (want:=λk=>!decide (k=1)) G aw
 have P:∀(n:af)(q:Nat)(A':Sl)(a:OL×Int×Bs 32×Int×Bs 32×LU×Int×OL×Int),a.2.2.2.2.2.2.2=(some ⟨q,0⟩,(cV most quota (bq d peer text) M).1)->
  Var 82 n q (cV most quota (bq d peer text) M).2.1.tv->RL n m A' (cV most quota (bq d peer text) M).2.2 most quota->fq m A y A' n->J2 a n:=by
  intro n q A' a ha vq p g;refine aE a n ?_;dsimp only;rw[ha];refine⟨_,jF vq,?_⟩;have a0:=(v1.ext ab).only g.only ω;refine aq a0 rfl wI λu z f5 Y=>⟨_,z.bytes,?_⟩;have new:∀l,A'.a=some l->(∃v,A.a=some v/\v.b=l.b)\/y.size<=l.b:=g.new
  have g5:fq m A h A' u:=⟨⟨by have:=g.only.size;omega,λi o B=>by
   rw[f5.same i (by have:=g.only.size;omega) ω,g.only.same i ω B,I.same i o]⟩,λl c=>by
   rcases new l c with e|e
   ·exact .inl e
   ·exact .inr ω⟩
  have C:∀l,A'.a=some l->l.b≠h.size:=λl c=>by
   rcases new l c with⟨v,e,ad⟩|e
   ·have:=r.low v e;omega
   ·omega
  have p5:RL u m A' (cV most quota (bq d peer text) M).2.2 most quota:=⟨p.var.only f5 ω,p.el.only f5 C,p.cap,p.apart,λl c=>by have:=p.low l c;omega,p.iz⟩;have:=W u A' (by rw[ac];exact p5) g5;rw[ac]at this;exact this
 have ae:=oF G;have al:=Board.lY (pX G);have am:=Kq G bs;have e4:=e2.ext H;have v4:Var 58 y Z.size (d.ms bs).tv:=v4;refine⟨d.slot,v4.ah rfl,bB v4 ⟨d.target,v4.at.2.2.1,⟨?_,?_⟩⟩⟩
 ·refine cW (m:=d.ms bs) e4 ae al am λu f=>⟨_,rfl,f,⟨?_,?_⟩⟩
  ·refine bL (x:=bq d peer text) ((r.ext I).ext f) hm O U λQ A' p6 f6 n6=>⟨_,_,_,_,_,_,rfl,?_⟩;refine aa λh7 v7 x7 s7=>⟨x7,aq (t0:=It.zero.tv) v7 (t:=(cV most quota (bq d peer text) M).2.1.tv) (It.size _).symm rfl λw D f8 s8=>?_⟩;have ao:Ext Q w:=akt x7 f8 λi o=>ω;exact P w _ A' _ rfl D (p6.ext ao) ((fq.an f).trans (fq.trans ⟨f6,n6⟩ (.an ao)))
  ·refine aa λQ v6 s s6=>⟨s,?_⟩;refine bL (x:=bq d peer text) (((r.ext I).ext f).ext s) hm O U λh7 A' j f7 E=>⟨_,_,_,_,_,_,rfl,?_⟩;have z5:=f.size
   have C:∀l,A'.a=some l->l.b≠u.size:=λl c=>by
    rcases E l c with⟨v,e,ad⟩|e
    ·have:=r.low v e;omega
    ·omega
   refine aq (t0:=It.zero.tv) (v6.only f7 ω) (t:=(cV most quota (bq d peer text) M).2.1.tv) (It.size _).symm rfl λw D f8 s8=>?_;have p8:RL w m A' (cV most quota (bq d peer text) M).2.2 most quota:=⟨j.var.only f8 ω,j.el.only f8 C,j.cap,j.apart,λl c=>by have:=j.low l c;omega,j.iz⟩;refine P w _ A' _ rfl D p8 ((fq.an f).trans ⟨⟨by have:=f7.size;omega,λi o B=>?_⟩,λl c=>?_⟩)
   ·have:=f7.size;rw[f8.same i ω ω,f7.same i ω B,s.same i o]
   ·rcases E l c with e|e
    ·exact .inl e
    ·exact .inr ω
 ·refine aa λu z f Y=>⟨f,?_⟩;refine cW (m:=d.ms bs) (e4.ext f) ae al am λQ s=>⟨_,rfl,s,?_⟩;have z6:=s.size;refine bL (x:=bq d peer text) (((r.ext I).ext f).ext s) hm O U λh7 A' j f7 E=>⟨_,_,_,_,_,_,rfl,?_⟩
  have C:∀l,A'.a=some l->l.b≠y.size:=λl c=>by
   rcases E l c with⟨v,e,ad⟩|e
   ·have:=r.low v e;omega
   ·omega
  refine aq (t0:=It.zero.tv) ((z.ext s).only f7 ω) (t:=(cV most quota (bq d peer text) M).2.1.tv) (It.size _).symm rfl λw D f8 s8=>?_;have p8:RL w m A' (cV most quota (bq d peer text) M).2.2 most quota:=⟨j.var.only f8 ω,j.el.only f8 C,j.cap,j.apart,λl c=>by have:=j.low l c;omega,j.iz⟩;refine P w _ A' _ rfl D p8 ⟨⟨by have:=f7.size;omega,λi o B=>?_⟩,λl c=>?_⟩
  ·have:=f7.size;rw[f8.same i ω ω,f7.same i ω B,s.same i ω,f.same i o]
  ·rcases E l c with e|e
   ·exact .inl e
   ·exact .inr ω
theorem E8:(ctx.ti 82).bytes=96:=κ
theorem OB:(ctx.ti 82).size=67:=κ
theorem OC:(ctx.ti 82).z.size=67:=κ
theorem lZ{i:Nat}{x:It}(pred:It->Bool)(q:L[i]? =some x):(L.take (i+1)).filter pred=(L.take i).filter pred++if pred x=true then[x]else[]:=by
 rw[aU q]
 grind
theorem VE{s:Sl}{x:It}{K:Sl->af->Prop}(o:Vc.Own 82 67 h s (qw L))(B:L.length<1000)
 (q:∀a b,Vc.Own 82 67 b a (qw (L++[x]))->ag (In s) h b->(∀l,a.a=some l->(∃c,s.a=some c/\c.b=l.b)\/h.size<=l.b)->K a b):
 ∃new,cn (h.push (Vc.row (akr [x.tv]) 82)) (Sl.mk (some (Vc.Loc.mk h.size 0)) 1 1) 67 new/\(∀v∈new,bU v=true)/\au ctx 82 s 1 new (h.push (Vc.row (akr [x.tv]) 82)) K:=by
 have d:=o.len;rw[aku]at d;refine cD OB OC (by rw[E8];decide) (by rw[E8];omega) o (It.size x) (It.plain x) λa b g e f=>q a b ?_ e f;simp_all
theorem Kr(r:RL h m A M most quota){t:Sl}(o:Vc.Own 82 67 h t (qw L))(q:L.length<900)(B:∀l,t.a=some l->l.b≠m){K:af->Prop}
 (E:∀a,RL a m t L most quota->ag (·=m) h a->K a):gT h m 0 1/\Bind (alg h m 0 (ak2 t)) K:=by
 refine aI (i:=0) r.var rfl rfl rfl rfl λa c b d=>E a ⟨c,o.elems.only b B,o.cap,B,λl q=>by have:=o.lt l q;omega,q⟩ b
theorem lI(r:RL h m A M most quota){k:Bs 32}(W:∀D A' t,RL D m A' (M.filter λx=>!decide (x.fr=k)) most quota->fq m A h A' D->Vc.Own 82 67 D t (qw (M.filter λx=>decide (x.fr=k)))->(∀l,t.a=some l->h.size<=l.b)->R (ak2 t).val D):
 Cl 250 [.ptr (PT m),.bytes 32 k] h R:=by
 apply BW;delta kU aJ wu cr dD bz bJ bK;have ac:=r.iz;have hm:=r.var.lt;refine aa λJ v1 p s1=>⟨A,(r.var.ext p).ah rfl,?_⟩;have r1:=r.ext p;have el:=r1.el.len;rw[aku]at el
 refine⟨λσ K=>0<=σ.2.2/\σ.2.2<=M.length/\Ext J K/\(∀l,σ.1.a=some l->J.size<=l.b)/\(∀l,σ.2.1.a=some l->J.size<=l.b)/\(∀i,In σ.1 i->¬In σ.2.1 i)/\Vc.Own 82 67 K σ.1 (qw ((M.take σ.2.2.toNat).filter λx=>decide (x.fr=k)))/\Vc.Own 82 67 K σ.2.1 (qw ((M.take σ.2.2.toNat).filter λx=>!decide (x.fr=k))),
  λσ _=>(M.length-σ.2.2).toNat,⟨akz 0,by simp_all,akv _,(λl a=>by cases a),(λl a=>by cases a),(λi⟨l,a,_⟩=>by cases a),Vc.Own.nil _ _ _,Vc.Own.nil _ _ _⟩,?_⟩
 rintro⟨t,u,i⟩ h2 ⟨S,V,g,v,w,ap,y,z⟩;dsimp only at S V g v w ap y z⊢;have z2:=g.size;refine ID (λd=>?_) λd=>?_
 ·refine gE (r1.el.ext g) S ω λl x _ b=>?_;refine aa λT X Y s3=>aH X rfl λE v4 f4 s4=>?_;have f:=akt Y f4 λi d=>ω;refine⟨x.fr,aeg v4,k,((v1.ext g).ext f).bytes,?_⟩;have Z:decide (x.fr.1=k.1)=decide (x.fr=k):=decide_eq_decide.2 ⟨λe=>Bs.ext' e,λe=>by rw[e]⟩;dsimp only;rw[Z];have F:(i+1).toNat=i.toNat+1:=ω;have G:=lZ (λx=>decide (x.fr=k)) b;have H:=lZ (λx=>!decide (x.fr=k)) b;have ad:((M.take i.toNat).filter λx=>decide (x.fr=k)).length<=M.length:=ak3 (akP ..) (by simp_all);have ae:((M.take i.toNat).filter λx=>!decide (x.fr=k)).length<=M.length:=ak3 (akP ..) (by simp_all);have U:∀{s:Sl}{L:List It},Vc.Own 82 67 E s (qw L)->∀i,In s i->i<E.size:=λo i⟨l,a,d⟩=>by have:=o.lt l a;omega
  refine akC (λI=>?_) λI=>?_
  ·rw[if_pos I]at G;rw[if_neg (by simp_all),akX]at H;refine rG v4 (VE (y.ext f) ω λN h8 O f8 B=>?_);rw[wrap_i64 ω ω]
   have P:∀i,In N i->In t i\/E.size<=i:=λi⟨l,a,d⟩=>by
    rcases B l a with⟨q,c,Q⟩|c
    ·exact .inl ⟨q,c,ω⟩
    omega
   refine⟨⟨Ω,Ω,akt (g.trans f) f8 λj⟨l,a,hj⟩=>by have:=v l a;omega,λl a=>?_,w,λi d b=>?_,?_,?_⟩,Ω⟩
   ·rcases B l a with⟨q,c,Q⟩|c
    ·have:=v q c;omega
    ·omega
   ·rcases P i d with C|C
    ·exact ap i C b
    ·have:=U (z.ext f) i b;omega
   ·try dsimp only
    rw[F,G];exact O
   ·try dsimp only
    rw[F,H];exact(z.ext f).only f8 λl a b=>ap _ b ⟨l,a,rfl⟩
  ·rw[if_neg (by rw[I];decide),akX]at G;rw[if_pos (by rw[I];rfl)]at H;refine rG v4 (VE (z.ext f) ω λN h8 O f8 B=>?_);rw[wrap_i64 (n:=i+1) ω ω]
   have P:∀i,In N i->In u i\/E.size<=i:=λi⟨l,a,d⟩=>by
    rcases B l a with⟨q,c,Q⟩|c
    ·exact .inl ⟨q,c,ω⟩
    ·exact .inr ω
   refine⟨⟨Ω,Ω,akt (g.trans f) f8 λj⟨l,a,hj⟩=>by have:=w l a;omega,v,λl a=>?_,λi d b=>?_,?_,?_⟩,Ω⟩
   ·rcases B l a with⟨q,c,Q⟩|c
    ·have:=w q c;omega
    ·omega
   ·rcases P i b with C|C
    ·exact ap i d C
    ·have:=U (y.ext f) i d;omega
   ·try dsimp only
    rw[F,G];exact(y.ext f).only f8 λl a b=>ap _ ⟨l,a,rfl⟩ b
   ·try dsimp only
    rw[F,H];exact O
 ·have ab:i.toNat=M.length:=ω;rw[ab,akH]at y z;have al:(M.filter λx=>!decide (x.fr=k)).length<=M.length:=akP ..;refine Kr (r1.ext g) z ω (λl a=>by have:=w l a;have:=p.size;omega) λT r3 f3=>?_;refine W T u t r3 ⟨(ak9 (p.trans g)).trans f3,λl a=>.inr (by have:=w l a;have:=p.size;omega)⟩ (y.only f3 λl a=>by have:=v l a;have:=p.size;omega) λl a=>by have:=v l a;have:=p.size;omega
theorem OZ(r:RL h m A M most quota){n:Int}(B:∀k A',RL k m A' (M.filter λx=>!decide (x.slot<=n)) most quota->fq m A h A' k->R (TV.i ((M.filter λx=>decide (x.slot<=n)).length:Int)).val k):
 Cl 119 [.ptr (PT m),.i n] h R:=by
 apply yQ;delta aJ dD bK;have J:=r.iz;have K:=r.var.lt;refine⟨A,r.var.ah rfl,?_⟩;have el:=r.el.len;rw[aku]at el
 refine⟨λσ q=>0<=σ.2.2/\σ.2.2<=M.length/\Ext h q/\(∀l,σ.1.a=some l->h.size<=l.b)/\σ.2.1=(((M.take σ.2.2.toNat).filter λx=>decide (x.slot<=n)).length:Nat)/\Vc.Own 82 67 q σ.1 (qw ((M.take σ.2.2.toNat).filter λx=>!decide (x.slot<=n))),
  λσ _=>(M.length-σ.2.2).toNat,⟨akz 0,by simp_all,akv _,(λl a=>by cases a),rfl,Vc.Own.nil _ _ _⟩,?_⟩
 rintro⟨u,c,i⟩ L ⟨s,z,b,e,f,d⟩;dsimp only at s z b e f d⊢;have N:=b.size;refine ID (λt=>?_) λt=>?_
 ·refine gE (r.el.ext b) s ω λl x _ v=>?_;refine aa λw C D O=>aH C rfl λP v4 f4 Q=>?_;have g:=akt D f4 λi t=>ω;have y:(i+1).toNat=i.toNat+1:=ω;have o:=lZ (λx=>decide (x.slot<=n)) v;have p:=lZ (λx=>!decide (x.slot<=n)) v;have S:((M.take i.toNat).filter λx=>decide (x.slot<=n)).length<=M.length:=ak3 (akP ..) (by simp_all);have T:((M.take i.toNat).filter λx=>!decide (x.slot<=n)).length<=M.length:=ak3 (akP ..) (by simp_all);refine⟨x.slot,oz v4,ID (λE=>?_) λE=>?_⟩
  ·rw[if_neg (by grind),akX]at o;rw[if_pos (by grind)]at p;refine rG v4 (VE (d.ext g) ω λU V W f8 F=>?_);rw[wrap_i64 ω ω];refine⟨⟨ω,ω,akt (b.trans g) f8 λj⟨l,a,X⟩=>by simp_all,λl a=>?_,?_,?_⟩,ω⟩
   ·rcases F l a with⟨Y,G,Z⟩|G<;>grind
   ·simp_all
   simp_all
  ·rw[if_pos (by grind)]at o;rw[if_neg (by simp;omega),akX]at p;rw[wrap_i64 (n:=i+1) ω ω,wrap_i64 (n:=c+1) ω ω];refine⟨⟨Ω,Ω,b.trans g,e,?_,?_⟩,Ω⟩
   ·try dsimp only
    rw[y,o,f,akE,List.length_singleton];omega
   ·try dsimp only
    rw[y,p];exact d.ext g
 ·have H:i.toNat=M.length:=ω;rw[H,akH]at f d;have ab:(M.filter λx=>!decide (x.slot<=n)).length<=M.length:=akP ..;refine Kr (r.ext b) d ω (λl a=>by have:=e l a;omega) λw I f3=>?_;rw[f];exact B w u I ⟨(ak9 b).trans f3,λl a=>.inr (e l a)⟩
theorem LY(r:RL h m A M most quota)(q:∀c t,Vc.Own 52 32 c t (rts (M.map It.root))->Ext h c->Dv h t->R (ak2 t).val c):Cl 127 [.ptr (PT m)] h R:=by
 apply xl;delta aJ U2 jr dD eW bJ bK;have z:=r.iz;refine⟨A,r.var.ah rfl,?_⟩;have el:=r.el.len;rw[aku]at el
 refine⟨λσ e=>0<=σ.2/\σ.2<=M.length/\Ext h e/\(∀l,σ.1.a=some l->h.size<=l.b)/\Vc.Own 52 32 e σ.1 (rts ((M.take σ.2.toNat).map It.root)),λσ _=>(M.length-σ.2).toNat,
  ⟨akz 0,ω,akv _,(λl d=>by cases d),Vc.Own.nil _ _ _⟩,?_⟩
 rintro⟨t,i⟩ k ⟨n,B,a,o,b⟩;refine ID (λf=>?_) λf=>?_
 ·refine gE (r.el.ext a) n ω λl x _ p=>?_;refine aa λC s u D=>aH s rfl λE v4 f4 F=>?_;have g:=akt u f4 λi f=>ω;refine⟨x.root,jF v4,?_⟩;have v:=b.len;rw[aku,aku,ala]at v;refine cD GI CJ (by rw[pq];decide) (by rw[pq];omega) (b.ext g) eM Dw λt8 G H f8 I=>?_;rw[wrap_i64 ω ω];have w:=akt (a.trans g) f8 λj⟨l,d,J⟩=>by simp_all
  have K:=a.size;refine⟨⟨ω,ω,w,λl d=>?_,?_⟩,by grind⟩
  ·grind
  ·rw[show(i+1).toNat=i.toNat+1 by omega,aU p];simp_all
 ·have y:i.toNat=M.length:=ω;rw[y,akH]at b;exact q k t b a o
theorem HE{s t:Sl}{L K:List (Bs 32)}(e:aj 32 h s (rts L))(k:aj 32 h t (rts K))(B:L.length<100000)(q:R (akB (decide (L=K))).val h):Cl 124 [.slice s,.slice t] h R:=by
 apply yR;delta jM aO mq fE bK lq;have es:=by have:=e.len;rwa [aku]at this
 have C:=by have:=k.len;rwa [aku]at this
 refine akC (λa=>?_) λa=>?_
 ·have c:L≠K:=λb=>by
   simp_all
  rw[decide_eq_false c]at q;exact q
 have v:L.length=K.length:=by
  grind
 refine⟨λσ l=>0<=σ.2/\σ.2<=s.len/\l=h/\L.take σ.2.toNat=K.take σ.2.toNat,λσ _=>(s.len-σ.2).toNat,⟨akz 0,ω,rfl,rfl⟩,?_⟩;rintro⟨f,i⟩ l ⟨m,D,rfl,d⟩;refine ID (λo=>?_) λo=>?_
 ·refine e.read m o λE t1 F p w=>?_;rw[akY]at p;obtain⟨x,g,rfl⟩:=Option.map_eq_some_iff.1 p;refine⟨x,w,k.read m ω λl2 t2 G r z=>?_⟩;rw[akY]at r;obtain⟨y,u,rfl⟩:=Option.map_eq_some_iff.1 r;refine⟨y,z,?_⟩;refine akC (λa=>?_) λa=>?_
  ·have j:x≠y:=λb=>by rw[b]at a;simp at a
   have c:L≠K:=λb=>by rw[b,u]at g;exact j (Option.some.inj g).symm
   rw[decide_eq_false c]at q;exact q
  ·have j:x=y:=Bs.ext' (by simpa using a);rw[wrap_i64 (n:=i+1) ω ω];refine⟨⟨Ω,Ω,rfl,?_⟩,Ω⟩
   try dsimp only
   rw[show(i+1).toNat=i.toNat+1 by omega,aU g,aU u,d,j]
 ·have A:i.toNat=L.length:=ω;have H:i.toNat=K.length:=ω;rw[A,akH,v,akH]at d;rw[decide_eq_true d]at q;exact q
end
end Pool
namespace Gate
open Board (aq wI)
open Pool (rts eM Dw pq GI CJ)
theorem sG:(ctx.ti 3).bytes=8:=κ
theorem MR:(ctx.ti 3).size=1:=κ
theorem Gs:(ctx.ti 3).z.size=1:=κ
section
variable{R:Rq}{h h':af}{s:Sl}{L:List (Bs 32)}{l:List Int}
theorem pE:(rts L).length=L.length:=by grind
theorem TR{x:Bs 32}{K:Sl->af->Prop}(o:Vc.Own 52 32 h s (rts L))(q:L.length<100000)(E:∀a h',Vc.Own 52 32 h' a (rts (L++[x]))->ag (In s) h h'->(∀i,In a i->In s i\/h.size<=i)->K a h'):
 ∃new,cn (h.push (row (akr [akG 32 x]) 52)) (Sl.mk (some (Vc.Loc.mk h.size 0)) 1 1) 32 new/\(∀v∈new,bU v=true)/\au ctx 52 s 1 new (h.push (row (akr [akG 32 x]) 52)) K:=by
 have c:=o.len;rw[pE]at c;refine cD GI CJ (by rw[pq];decide) (by rw[pq];omega) o eM Dw λa h' g d e=>E a h' (by simp_all) d λi⟨l,q,j⟩=>?_;rcases e l q with⟨f,b,k⟩|b
 ·exact .inl ⟨f,b,ω⟩
 omega
theorem acr{x:Int}{K:Sl->af->Prop}(o:Vc.Own 3 1 h s (eA l))(q:l.length<100000)(E:∀a h',Vc.Own 3 1 h' a (eA (l++[x]))->ag (In s) h h'->(∀i,In a i->In s i\/h.size<=i)->K a h'):
 ∃new,cn (h.push (row (akr [TV.i x]) 3)) (Sl.mk (some (Vc.Loc.mk h.size 0)) 1 1) 1 new/\(∀v∈new,bU v=true)/\au ctx 3 s 1 new (h.push (row (akr [TV.i x]) 3)) K:=by
 have c:=o.len;rw[aku]at c;refine cD MR Gs (by rw[sG];decide) (by rw[sG];omega) o rfl rfl λa h' g d e=>E a h' (by simp_all) d λi⟨l,q,j⟩=>?_;rcases e l q with⟨f,b,k⟩|b
 ·exact .inl ⟨f,b,ω⟩
 omega
theorem lM(e:aj 32 h s (rts L)){i:Int}(E:0<=i){x:Bs 32}(q:L[i.toNat]? =some x){K:Bs 32->Prop}(H:K x):0<=i/\i<(s.len:Int)/\Nn s.a λl=>∃b,av h l.b (l.o+i.toNat*32) 32 b/\K b:=by
 have c:=e.len;have:=(akS.1 q).1;rw[pE]at c;refine e.read E ω λl t _ a d=>?_;rw[akY,q]at a;cases a;exact⟨x,d,H⟩
theorem qL(e:aj 1 h s (eA l)){i:Int}(E:0<=i){x:Int}(q:l[i.toNat]? =some x){K:Int->Prop}(H:K x):0<=i/\i<(s.len:Int)/\Nn s.a λl=>∃n,ah h l.b (l.o+i.toNat*1) (.i n)/\K n:=by
 have b:=e.len;have:=(akS.1 q).1;rw[aku]at b;refine e.read E ω λp t _ a c=>?_;rw[akY,q]at a;cases a;exact⟨x,c,H⟩
end
def yS(N:List Nd)(x:Nd):Bs 32:=if x.par<0 then akx 32 else((N[x.par.toNat]?).map Nd.root).getD (akx 32)
def LZ(N:List Nd):List (Bs 32):=N.map (yS N)
theorem CK{N:List Nd}{y z:Nd}(q:y.par<N.length):yS (N++[z]) y=yS N y:=by
 grind [List.getElem?_append_left,yS]
theorem aae{N:List Nd}{most:Int}(o:rz N most){y:Nd}(q:y∈N):y.par<N.length:=by
 obtain⟨i,a,rfl⟩:=List.getElem_of_mem q;have q:=aky a;by_cases b:0<i
 ·have:=(o.up i _ q b).2;omega
 ·have:i=0:=ω;subst this;rw[o.first _ q];omega
theorem Xk{N:List Nd}{most:Int}(o:rz N most){x:Nd}(q:x.par<N.length):LZ (N++[x])=LZ N++[yS N x]:=by
 unfold LZ;rw[ak4,akF,alh,CK q];congr 1;exact List.map_congr_left λy a=>CK (aae o a)
theorem IY{N:List Nd}{x y:Nd}(q:0<=x.par)(h:N[x.par.toNat]? =some y):yS N x=y.root:=by
 simp_all [if_neg,yS]
structure RT(h:af)(m:Nat)(A B D:Sl)(N:List Nd)(most:Int):Prop where
 var:Var 130 h m (.agg [.slice A,.slice B,.slice D,.i most])
 a:Vc.Own 52 32 h A (rts (N.map Nd.root))
 b:Vc.Own 3 1 h B (eA (N.map Nd.slot))
 d:Vc.Own 52 32 h D (rts (LZ N))
 ok:rz N most
 ne:¬In A m/\¬In B m/\¬In D m
 ab:∀i,In A i->¬In B i
 ad:∀i,In A i->¬In D i
 bd:∀i,In B i->¬In D i
def Dx(m:Nat)(A B D:Sl)(i:Nat):Prop:=i=m\/In A i\/In B i\/In D i
section
variable{R:Rq}{h h':af}{m:Nat}{A B D:Sl}{N:List Nd}{most:Int}
theorem RT.only{S:Nat->Prop}(p:RT h m A B D N most)(f:ag S h h')(q:∀i,Dx m A B D i->¬S i):RT h' m A B D N most:=
 ⟨p.var.only f (q m (.inl rfl)),p.a.keep f λi a=>q i (.inr (.inl a)),p.b.keep f λi a=>q i (.inr (.inr (.inl a))),p.d.keep f λi a=>q i (.inr (.inr (.inr a))),p.ok,p.ne,p.ab,p.ad,p.bd⟩
theorem RT.ext(p:RT h m A B D N most)(x:Ext h h'):RT h' m A B D N most:=p.only (S:=λ_=>False) (.an x) λ_ _ a=>a
theorem RT.lt(p:RT h m A B D N most){i:Nat}(q:Dx m A B D i):i<h.size:=by
 rcases q with rfl|q|q|q
 ·exact p.var.lt
 ·exact p.a.g_ i q
 ·exact p.b.g_ i q
 ·exact p.d.g_ i q
theorem RT.la(p:RT h m A B D N most):A.len=N.length:=by have:=p.a.len;simp_all
theorem RT.lb(p:RT h m A B D N most):B.len=N.length:=by have:=p.b.len;simp_all
theorem RT.ld(p:RT h m A B D N most):D.len=N.length:=by have:=p.d.len;rw[pE]at this;unfold LZ at this;rw[aku]at this;omega
theorem yT{i:Nat}{x:Nd}(h:N[i]? =some x):(N.map Nd.root)[i]? =some x.root:=by simp_all
theorem CL{i:Nat}{x:Nd}(h:N[i]? =some x):(N.map Nd.slot)[i]? =some x.slot:=by simp_all
theorem VF{i:Nat}{x:Nd}(h:N[i]? =some x):(LZ N)[i]? =some (yS N x):=by simp_all [LZ,akY]
theorem fA(p:RT h m A B D N most){k:Bs 32}(q:∀h',Ext h h'->R (TV.i (place k N)).val h'):Cl 73 [.ptr (PT m),.bytes 32 k] h R:=by
 apply qK;delta kU aJ iZ nj cr gI bz eU bJ bK;have G:=p.la;have H:=p.ok.len;have I:=p.ok.most;refine aa λo v1 g J=>⟨A,(p.var.ext g).ah rfl,?_⟩;refine⟨λσ r=>0<=σ.2/\σ.2<=N.length/\Ext o r/\∀j:Nat,j<σ.2->∀y,N[j]? =some y->y.root≠k,λσ _=>(N.length-σ.2).toNat,⟨akz 0,ω,akv _,λj b=>ω⟩,?_⟩;rintro⟨z,i⟩ s ⟨t,K,c,u⟩;have d:=g.trans c;refine ID (λe=>?_) λe=>?_
 ·obtain⟨x,l⟩:∃x,N[i.toNat]? =some x:=⟨_,aky ω⟩;refine lM ((p.a.ext d).elems) t (yT l) ?_;refine aa λL v w M=>aq v eM.symm (eM.trans eM.symm) λC v4 f4 O=>?_;have f:=akt w f4 λi e=>alb (Eq.symm e);refine⟨_,v4.bytes,_,((v1.ext c).ext f).bytes,?_⟩;dsimp only;rw[Gb _ _];refine ID (λa=>?_) λa=>?_
  ·have:=gX p.ok.nodup l;rw[a,show(i.toNat:Nat)=i by omega]at this;rw[<-this];exact q C (d.trans f)
  ·rw[wrap_i64 ω ω];refine⟨⟨ω,ω,c.trans f,λj b y n=>?_⟩,ω⟩
   grind
 ·have E:=lV.2 λF=>by
   obtain⟨y,n,a⟩:=aks.1 F;obtain⟨j,b,rfl⟩:=List.getElem_of_mem n;exact u j ω _ (aky b) a
  have:=q s d;rw[(pQ k N).2.2 E]at this;exact this
def upI(N:List Nd)(i:Int):Int:=if 0<i/\i<N.length then((N[i.toNat]?).map Nd.par).getD (-1)else-1
theorem TS{i:Int}{x:Nd}(E:0<i)(q:N[i.toNat]? =some x):upI N i=x.par:=by
 have:=(akS.1 q).1;unfold upI
 grind
theorem Rw(p:RT h m A B D N most){i:Int}(q:∀h',Ext h h'->R (TV.i (upI N i)).val h'):Cl 285 [.ptr (PT m),.i i] h R:=by
 apply ua;delta aJ js nj dJ bJ bK aT;have g:=p.la;have b:¬(0<i/\i<N.length)->upI N i=-1:=λj=>by simp_all [if_neg,upI]
 refine ID (λd=>?_) λd=>⟨A,p.var.ah rfl,ID (λe=>?_) λe=>⟨D,p.var.ah rfl,?_⟩⟩
 ·have:=q h (akv _);rw[b ω]at this;exact this
 ·have:=q h (akv _);rw[b ω]at this;exact this
 ·obtain⟨x,a⟩:∃x,N[i.toNat]? =some x:=⟨_,aky ω⟩;have f:=p.ok.up i.toNat x a ω;obtain⟨y,c⟩:∃y,N[x.par.toNat]? =some y:=⟨_,aky ω⟩;refine lM p.d.elems ω (VF a) (fA p λk l=>⟨_,rfl,?_⟩);rw[IY f.1 c,gX p.ok.nodup c,show(x.par.toNat:Nat)=x.par by omega,<-TS ω a];simp_all
theorem GJ{root:Bs 32}{slot:Int}(E:1<=most/\most<=256)(O:0<=slot/\slot<=1073741824)
 (H:∀h' m A B D,RT h' m A B D [⟨root,slot,-1⟩] most->Ext h h'->(∀i,Dx m A B D i->h.size<=i)->R (akA [.ptr (PT m),.bool true]).val h'):
 Cl 160 [.bytes 32 root,.i slot,.i most] h R:=by
 apply Ao;delta Dr Bo C2 cr d_ bz eU bJ aT fD;refine aa λb v1 p P=>ID (λh=>ω) λ_=>akK.2 ⟨λh=>ω,λ_=>ID (λh=>ω) λ_=>akK.2 ⟨λh=>ω,λ_=>⟨root,v1.bytes,?_⟩⟩⟩;have q:=Vc.Own.new (T:=52) (sz:=32) b (rts [root]) (λt w=>by simp_all [rts,eM]);have z:akr [akG 32 root]=akr (rts [root]):=rfl;dsimp only;rw[z];have r:=akw b (row (akr (rts [root])) 52);have C:(b.push (row (akr (rts [root])) 52)).size=b.size+1:=by simp
 generalize b.push (row (akr (rts [root])) 52)=c at q r C⊢;have s:=Vc.Own.new (T:=3) c (eA [slot]) (Gm _);have F:akr [TV.i slot]=akr (eA [slot]):=rfl;rw[F];have g:=akw c (row (akr (eA [slot])) 3);have G:(c.push (row (akr (eA [slot])) 3)).size=c.size+1:=by simp
 generalize c.push (row (akr (eA [slot])) 3)=d at s g G⊢;have u:=Vc.Own.new (T:=52) (sz:=32) d (rts [akx 32]) (λt w=>by simp_all [rts,eM]);have I:akr [akG 32 (akx 32)]=akr (rts [akx 32]):=rfl;rw[I];have e:=akw d (row (akr (rts [akx 32])) 52);have J:(d.push (row (akr (rts [akx 32])) 52)).size=d.size+1:=by simp
 generalize d.push (row (akr (rts [akx 32])) 52)=K at u e J⊢;refine aa λL M f Q=>?_;have S:∀{n k j i:Nat},In (Sl.mk (some (Vc.Loc.mk n 0)) k j) i->i=n:=λ⟨l,U,a⟩=>by grind
 have ok:rz [⟨root,slot,-1⟩] most:=⟨by simp,λx o=>by grind,λi x o N=>by
  grind,by simp,λx o=>by simp_all,λi x y o N=>by
  grind,by grind,E⟩
 refine H L K.size _ _ _ ⟨M,((q.ext g).ext e).ext f,(s.ext e).ext f,u.ext f,ok,⟨λa=>?_,λa=>?_,λa=>?_⟩,λi a v=>?_,λi a v=>?_,λi a v=>?_⟩ (((((p.trans r).trans g).trans e)).trans f) λi a=>?_
 ·grind
 ·grind
 ·grind
 ·grind
 ·grind
 ·grind
 ·have:=p.size;rcases a with rfl|a|a|a<;>grind
theorem Xl(p:RT h m A B D N most){root parent:Bs 32}{slot:Int}
 (hr:∀h' A' B' D',RT h' m A' B' D' (gw N most root parent slot) most->Step (Dx m A B D) h (Dx m A' B' D') h'->R (TV.i (nV N most root parent slot)).val h'):
 Cl 249 [.ptr (PT m),.bytes 32 root,.bytes 32 parent,.i slot] h R:=by
 apply sV;delta q7 eG aJ aD jX C2 cr jW bz dX bJ bK aT bA;have la:=p.la;have hm:=p.ok.most
 have j:∀{e:Int}{q:af},Ext h q->nV N most root parent slot=e->e≠0->R (TV.i e).val q:=λ{e q} x he d=>by
  have:=hr q A B D;unfold gw at this;rw[he,if_neg d]at this;exact this (p.ext x) (.an x)
 refine aa λg v1 x1 s1=>aa λh2 P s s2=>⟨root,(v1.ext s).bytes,?_⟩;have l:=x1.trans s;refine fA (p.ext l) λh3 v=>⟨_,rfl,ID (λK=>j (l.trans v) (by unfold nV;rw[if_pos K]) δ) λK=>⟨parent,(P.ext v).bytes,?_⟩⟩;have Q:=l.trans v;refine fA (p.ext Q) λw S=>⟨_,rfl,?_⟩;have n:=Q.trans S;have y:=v.trans S;have f:=p.ext n;intro J T;refine ID (λd=>j n ?_ δ) λhp=>⟨B,f.var.ah rfl,?_⟩
 ·simp_all [nV,if_neg,nodeAt]
 obtain⟨k,u,q1,q2,q3,q4,q5⟩:=fG (r:=parent) (L:=N) ω;have M:N[(place parent N).toNat]? =some u:=by simp_all
 have ao:nodeAt N (place parent N)=some u:=by unfold nodeAt;rw[if_pos ω];exact M
 have z:nV N most root parent slot=if slot<=u.slot\/1073741824<slot then 5 else if most<=N.length then 6 else 0:=by
  unfold nV;rw[if_neg K,ao]
 refine qL f.b.elems ω (CL M) (ID (λU=>j n (by rw[z,if_pos (.inl U)]) δ) λU=>akK.2 ⟨λV=>j n (by rw[z,if_pos (.inr V)]) δ,λV=>T 0 w ?_⟩);clear T J;refine⟨A,f.var.ah rfl,most,f.var.ah rfl,ID (λhf=>j n (by rw[z,if_neg ω,if_pos ω]) δ) λhf=>?_⟩;have W:nV N most root parent slot=0:=by rw[z,if_neg ω,if_neg ω]
 clear j;have X:gw N most root parent slot=N++[⟨root,slot,place parent N⟩]:=by unfold gw;rw[if_pos W]
 rw[W,X]at hr;have Y:=p.ok.add (root:=root) (parent:=parent) (slot:=slot);rw[X]at Y;have ap:yS N ⟨root,slot,place parent N⟩=parent:=by rw[IY (by simp only;omega) M];exact q4
 have Z:=Xk p.ok (x:=⟨root,slot,place parent N⟩) (by simp only;omega);rw[ap]at Z;have aw:=l.size;have aE:=y.size;have z2:=s.size;have lt:=λi(a:Dx m A B D i)=>p.lt a;have w1:Var 52 w h.size (.bytes 32 root):=(v1.ext s).ext y;have w2:Var 52 w g.size (.bytes 32 parent):=P.ext y;refine⟨A,f.var.ah rfl,root,w1.bytes,akw _ _,TR f.a (by rw[aku];omega) λA' h5 a5 f5 C=>?_⟩;have v5:Var 130 h5 m (.agg [.slice A,.slice B,.slice D,.i most]):=f.var.only f5 p.ne.1;have b5:=f.b.keep f5 λi a c=>p.ab i c a;have d5:=f.d.keep f5 λi a c=>p.ad i c a;have u5:Var 52 h5 g.size (.bytes 32 parent):=w2.only f5 λa=>by have:=lt _ (.inr (.inl a));omega
 have E:¬In A' m:=λa=>by
  rcases C m a with b|b
  ·exact p.ne.1 b
  ·have:=lt m (.inl rfl);omega
 refine aI v5 (i:=0) (t:=.slice A') rfl rfl rfl rfl λo v6 f6 s6=>?_;have v6:Var 130 o m (.agg [.slice A',.slice B,.slice D,.i most]):=v6;have a6:=a5.keep f6 λi a e=>E ((show i=m from e)▸a);have b6:=b5.keep f6 λi a e=>p.ne.2.1 ((show i=m from e)▸a);have d6:=d5.keep f6 λi a e=>p.ne.2.2 ((show i=m from e)▸a);have u6:Var 52 o g.size (.bytes 32 parent):=u5.only f6 (show¬g.size=m by have:=lt m (.inl rfl);omega);refine⟨B,v6.ah rfl,acr b6 (by rw[aku];omega) λB' h7 b7 f7 F=>?_⟩;have a0:w.size<=o.size:=by have:=f5.size;have:=f6.size;omega
 have ab:∀i,In A' i->¬In B i:=λi a c=>by
  rcases C i a with b|b
  ·exact p.ab i b c
  ·have:=lt i (.inr (.inr (.inl c)));omega
 have v7:Var 130 h7 m (.agg [.slice A',.slice B,.slice D,.i most]):=v6.only f7 p.ne.2.1;have a7:=a6.keep f7 ab;have d7:=d6.keep f7 λi a c=>p.bd i c a;have u7:Var 52 h7 g.size (.bytes 32 parent):=u6.only f7 λa=>by have:=lt _ (.inr (.inr (.inl a)));omega
 have O:¬In B' m:=λa=>by
  rcases F m a with b|b
  ·exact p.ne.2.1 b
  ·have:=lt m (.inl rfl);omega
 refine aI v7 (i:=1) (t:=.slice B') rfl rfl rfl rfl λG H f8 s8=>?_;have H:Var 130 G m (.agg [.slice A',.slice B',.slice D,.i most]):=H;have a8:=a7.keep f8 λi a e=>E ((show i=m from e)▸a);have b8:=b7.keep f8 λi a e=>O ((show i=m from e)▸a);have d8:=d7.keep f8 λi a e=>p.ne.2.2 ((show i=m from e)▸a);have u8:Var 52 G g.size (.bytes 32 parent):=u7.only f8 (show¬g.size=m by have:=lt m (.inl rfl);omega);refine⟨D,H.ah rfl,parent,u8.bytes,akw _ _,TR d8 (by unfold LZ;rw[aku];omega) λD' b d9 f9 I=>?_⟩;have a1:o.size<=G.size:=by have:=f7.size;have:=f8.size;omega
 have ac:∀i,In A' i->¬In D i:=λi a c=>by
  rcases C i a with b|b
  ·exact p.ad i b c
  ·have:=lt i (.inr (.inr (.inr c)));omega
 have ad:∀i,In B' i->¬In D i:=λi a c=>by
  rcases F i a with b|b
  ·exact p.bd i b c
  ·have:=lt i (.inr (.inr (.inr c)));omega
 have v9:Var 130 b m (.agg [.slice A',.slice B',.slice D,.i most]):=H.only f9 p.ne.2.2;have a9:=a8.keep f9 ac;have b9:=b8.keep f9 ad
 have ae:¬In D' m:=λa=>by
  rcases I m a with b|b
  ·exact p.ne.2.2 b
  ·have:=lt m (.inl rfl);omega
 refine aI v9 (i:=2) (t:=.slice D') rfl rfl rfl rfl λal v10 f10 a2=>?_;have v10:Var 130 al m (.agg [.slice A',.slice B',.slice D',.i most]):=v10;have am:∀i,In A' i->i<o.size:=a6.g_;have ar:∀i,In B' i->i<G.size:=b8.g_;refine hr al A' B' D' ⟨v10,?_,?_,?_,Y,⟨E,O,ae⟩,λi a c=>?_,λi a c=>?_,λi a c=>?_⟩ ⟨⟨?_,?_⟩,?_⟩
 ·rw[ak4];exact a9.keep f10 λi a e=>E ((show i=m from e)▸a)
 ·rw[ak4];exact b9.keep f10 λi a e=>O ((show i=m from e)▸a)
 ·rw[Z];exact d9.keep f10 λi a e=>ae ((show i=m from e)▸a)
 ·rcases F i c with b|b
  ·exact ab i a b
  ·have:=am i a;omega
 ·rcases I i c with b|b
  ·exact ac i a b
  ·have:=am i a;omega
 ·rcases I i c with b|b
  ·exact ad i a b
  ·have:=ar i a;omega
 ·have:=f9.size;have:=f10.size;omega
 ·intro i a d;have:=f5.size;have:=f6.size;have:=f7.size;have:=f8.size;have:=f9.size
  rw[f10.same i ω (λe=>d (.inl e)),f9.same i ω (λc=>d (.inr (.inr (.inr c)))),f8.same i ω (λe=>d (.inl e)),f7.same i ω (λc=>d (.inr (.inr (.inl c)))),f6.same i ω (λe=>d (.inl e)),
   f5.same i ω (λc=>d (.inr (.inl c))),y.same i ω,l.same i a]
 ·rintro i (rfl|a|a|a)
  ·exact .inl (.inl rfl)
  ·exact(C i a).imp (λh=>.inr (.inl h)) λh=>ω
  ·exact(F i a).imp (λh=>.inr (.inr (.inl h))) λh=>ω
  ·exact(I i a).imp (λh=>.inr (.inr (.inr h))) λh=>ω
end
end Gate
namespace Gate
def BX(N:List Nd)(most:Int)(out:List Nd)(i:Int):List Nd:=
 if 0<=place (c8 N (c8 N i).1.par).1.root out then gw out most (c8 N i).1.root (c8 N (c8 N i).1.par).1.root (c8 N i).1.slot else out
def kQ(N:List Nd)(most:Int)(k:Nat):Nat->List Nd
 |0=>[⟨(c8 N (k:Int)).1.root,(c8 N (k:Int)).1.slot,-1⟩]
 |d+1=>BX N most (kQ N most k d) ((k+1+d:Nat):Int)
def eX(N:List Nd)(most:Int)(k:Nat):List Nd:=kQ N most k (N.length-(k+1))
def eC(N:List Nd)(k j:Nat):List Nat:=(akT j).filter (bO (bQ N) k)
def HF(N:List Nd)(i:Nat):Bs 32:=((N[i]?).map Nd.root).getD (akx 32)
def slI(N:List Nd)(i:Nat):Int:=((N[i]?).map Nd.slot).getD 0
def Ap(N:List Nd):List (Bs 32×Int×Bs 32):=N.map λx=>(x.root,x.slot,yS N x)
def Ks(N:List Nd)(k i:Nat):Bs 32×Int×Bs 32:=(HF N i,slI N i,if i=k then akx 32 else HF N (bQ N i))
section
variable{N:List Nd}{most:Int}
theorem oG{i:Nat}{x:Nd}(h:N[i]? =some x):HF N i=x.root:=by unfold HF;rw[h];rfl
theorem Kt{i:Nat}{x:Nd}(h:N[i]? =some x):slI N i=x.slot:=by unfold slI;rw[h];rfl
theorem O4(o:rz N most){i j:Nat}(q:i<N.length)(A:j<N.length)(h:HF N i=HF N j):i=j:=by
 have a:N[i]? =some N[i]:=aky q;have b:N[j]? =some N[j]:=aky A;rw[oG a,oG b]at h;have c:=ye o.nodup a;have d:=ye o.nodup b;rw[h,d]at c;exact(Option.some.inj c).symm
theorem Xm(o:rz N most){x:Nd}(q:x.par<N.length):Ap (N++[x])=Ap N++[(x.root,x.slot,yS N x)]:=by
 unfold Ap;rw[ak4,akF,alh,CK q];congr 1;exact List.map_congr_left λy a=>by rw[CK (aae o a)]
theorem BY:(Ap N).length=N.length:=by simp[Ap]
theorem yU{k j:Nat}:eC N k (j+1)=eC N k j++if bO (bQ N) k j=true then[j]else[]:=by
 unfold eC;rw[List.range_succ,List.filter_append];congr 1;by_cases h:bO (bQ N) k j=true<;>simp[h]
theorem Rx(o:rz N most){k:Nat}(q:k<N.length):eC N k (k+1)=[k]:=by
 rw[yU,if_pos (pO k)]
 have:eC N k k=[]:=List.filter_eq_nil_iff.2 λx a=>by
  have a:=List.mem_range.1 a;intro h;have:=Bg o.tree x ω h;omega
 rw[this];rfl
theorem rZ{k j i:Nat}:i∈eC N k j↔i<j/\bO (bQ N) k i=true:=by
 unfold eC;rw[List.mem_filter,List.mem_range]
theorem sW{i:Nat}{x:Nd}(h:N[i]? =some x):c8 N (i:Int)=(x,true):=ig ω (by rw[akQ];exact h)
theorem HG(o:rz N most){k:Nat}(q:k<N.length):∀d,k+1+d<=N.length->rz (kQ N most k d) most/\Ap (kQ N most k d)=(eC N k (k+1+d)).map (Ks N k)
 |0,_=>by
  have a:N[k]? =some N[k]:=aky q;have hl:=o.len;have b:=o.most;have e:kQ N most k 0=[⟨N[k].root,N[k].slot,-1⟩]:=by unfold kQ;rw[sW a]
  rw[e]
  refine⟨⟨by simp,λx a=>by simp at a;rw[<-a],λi x a G=>by
   have:=(akS.1 a).1;simp at this;omega,by simp,λx z=>by simp at z;rw[z];exact o.slots N[k] (List.getElem_mem q),λi x y a G=>by
   have:=(akS.1 a).1;simp at this;omega,by simp;omega,b⟩,?_⟩
  rw[Nat.add_zero,Rx o q];unfold Ap Ks;simp only[akF,alh,if_true,oG a,Kt a];rfl
 |d+1,hd=>by
  obtain⟨ok,c⟩:=HG o q d ω;obtain⟨j,A⟩:∃j,j=k+1+d:=⟨_,rfl⟩;have g:j<N.length:=ω;have a:N[j]? =some N[j]:=aky g;have H:=o.up j _ a ω;have l:N[j].par.toNat<N.length:=ω;have m:N[N[j].par.toNat]? =some N[N[j].par.toNat]:=aky l;have par:bQ N j=N[j].par.toNat:=yf a;obtain⟨out,r⟩:∃out,out=kQ N most k d:=⟨_,rfl⟩;have e:kQ N most k (d+1)=BX N most out (j:Int):=by rw[r,A];rfl
  rw[e,show k+1+(d+1)=j+1 by omega,yU];rw[<-r,<-A]at c;rw[<-r]at ok;have I:(c8 N (j:Int)).1=N[j]:=by rw[sW a]
  have J:(c8 N N[j].par).1=N[N[j].par.toNat]:=by rw[ig H.1 m]
  have K:out.map Nd.root=(eC N k j).map (HF N):=by
   have:=congrArg (akZ λt:Bs 32×Int×Bs 32=>t.1) c;unfold Ap at this;rw[akD,akD]at this;exact this
  have s:∀i,i<N.length->(HF N i∈out.map Nd.root↔i<j/\bO (bQ N) k i=true):=λi L=>by
   rw[K,aks];constructor
   ·rintro⟨i',M,O⟩;have P:=rZ.1 M;have:=O4 o ω L O;rw[<-this];exact P
   ·exact λh=>⟨i,rZ.2 h,rfl⟩
  have Wf:bO (bQ N) k j=bO (bQ N) k N[j].par.toNat:=by
   rw[fO o.tree g,par];have:¬j=k:=ω;simp[this];omega
  unfold BX;rw[I,J,<-oG m];by_cases f:0<=place (HF N N[j].par.toNat) out
  ·rw[if_pos f];have Q:HF N N[j].par.toNat∈out.map Nd.root:=Classical.byContradiction λn=>by have:=lV.2 n;omega
   have R:=((s _ l).1 Q).2;obtain⟨p,u,q1,B,v,C,q5⟩:=fG f
   have S:¬0<=place N[j].root out:=λh=>by
    have b:N[j].root∈out.map Nd.root:=Classical.byContradiction λn=>by have:=lV.2 n;omega
    rw[<-oG a]at b;have:=((s _ g).1 b).1;omega
   have T:nodeAt out (place (HF N N[j].par.toNat) out)=some u:=by unfold nodeAt;rw[if_pos f,B,akQ];exact v
   have D:(u.root,u.slot,yS out u)∈Ap out:=aks.2 ⟨u,akU v,rfl⟩;rw[c]at D;obtain⟨i,U,w⟩:=aks.1 D;have ab:=rZ.1 U;unfold Ks at w;have E:HF N i=u.root:=congrArg (λt=>t.1) w;have V:slI N i=u.slot:=congrArg (λt=>t.2.1) w;rw[C]at E;have W:=O4 o ω l E
   have ac:u.slot<N[j].slot:=by
    rw[<-V,W,Kt m];exact o.later j _ _ a ω m
   have ad:=(o.slots _ (List.getElem_mem g)).2;have ae:out.length=(eC N k j).length:=by rw[<-BY,c,aku]
   have al:(eC N k j).length<=j:=by
    have:=akP (bO (bQ N) k) (akT j)
    rwa [ali]at this
   have am:=o.len
   have X:nV out most N[j].root (HF N N[j].par.toNat) N[j].slot=0:=by
    unfold nV;rw[if_neg S,T];simp only;rw[if_neg ω,if_neg ω]
   have F:=ok.add (root:=N[j].root) (parent:=HF N N[j].par.toNat) (slot:=N[j].slot);have Y:gw out most N[j].root (HF N N[j].par.toNat) N[j].slot=out++[⟨N[j].root,N[j].slot,place (HF N N[j].par.toNat) out⟩]:=by unfold gw;rw[if_pos X]
   rw[Y]at F⊢;refine⟨F,?_⟩;rw[Xm ok (by simp only;omega),c,Wf,if_pos R,ak4];congr 1;simp only[akF,alh];unfold Ks;rw[if_neg (show¬j=k by omega),par,oG a,Kt a,IY (y:=u) (by simp only;omega) (by simp only;rw[B,akQ];exact v),C]
  ·rw[if_neg f]
   have Z:¬bO (bQ N) k j=true:=λh=>by
    rw[Wf]at h;have b:=(s _ l).2 ⟨ω,h⟩
    exact f (Classical.byContradiction λn=>by
     have:=lV.1 (show place (HF N N[j].par.toNat) out<0 by omega);exact this b)
   rw[if_neg Z,akX];exact⟨ok,c⟩
theorem oH(o:rz N most){k:Nat}(q:k<N.length):rz (eX N most k) most/\Ap (eX N most k)=(eC N k N.length).map (Ks N k):=by
 have:=HG o q (N.length-(k+1)) ω
 rwa [show k+1+(N.length-(k+1))=N.length by omega]at this
theorem HH(o:rz N most){k:Nat}(q:k<N.length):(eX N most k).map Nd.root=(eC N k N.length).map (HF N):=by
 have:=congrArg (akZ λt:Bs 32×Int×Bs 32=>t.1) (oH o q).2;unfold Ap at this;rw[akD,akD]at this;exact this
theorem Ry(o:rz N most){k:Nat}(q:k<N.length):(eX N most k).map Nd.slot=(eC N k N.length).map (slI N):=by
 have:=congrArg (akZ λt:Bs 32×Int×Bs 32=>t.2.1) (oH o q).2;unfold Ap at this;rw[akD,akD]at this;exact this
theorem TT(o:rz N most){k:Nat}(q:k<N.length):LZ (eX N most k)=(eC N k N.length).map λi=>if i=k then akx 32 else HF N (bQ N i):=by
 have:=congrArg (akZ λt:Bs 32×Int×Bs 32=>t.2.2) (oH o q).2;unfold Ap at this;rw[akD,akD]at this;exact this
end
end Gate
namespace Gate
open Pool (zH)
def mU(L:List Nd)(own:Nat->Int):Bs 32:=((L[uq L.length (bQ L) (dh L own) (c7 L) 0]?).map Nd.root).getD (akx 32)
def mV(L:List Nd)(f:Nat->Int)(r:Bs 32):Int:=if 0<=place r L then f (place r L).toNat else 0
section
variable{R:Rq}{h h':af}{w tb r:Nat}{O S B G A:Sl}{L:List Nd}{most:Int}{own:Nat->Int}
theorem TU(p:WT h w tb O S B G L own)(t:AP h tb r A L most)(E:∀h',Ext h h'->R (akG 32 (mU L own)).val h'):Cl 190 [.ptr (PT w)] h R:=by
 apply vl;delta aJ zM wq Dn gK cQ yh cu bz eU bJ bK aT fD;have m:=t.ok.Gf;obtain⟨k,f⟩:∃k,k=uq L.length (bQ L) (dh L own) (c7 L) 0:=⟨_,rfl⟩;have z:k<L.length:=f▸II t.ok.tree t.ok.names _ 0 m;have e:L[k]? =some L[k]:=aky z;obtain⟨x,C⟩:∃x,x=L[k]:=⟨_,rfl⟩;rw[<-C]at e;have D:mU L own=x.root:=by unfold mU;rw[<-f,e];rfl
 have F:Ow L own 0=(k:Int):=by unfold Ow;rw[<-f]
 refine aa λn v1 g U=>akO ?_;intro H o;have j:=p.ext g;have t1:=t.ext g
 have s:∀(a:OL×OL×OL×Sl×Int×Bool×OL×Bool)(b:af)(q:Nat),a.2.2.2.2.2.2.1=some ⟨q,0⟩->Ext n b->Var 69 b q x.tv->H a b:=by
  intro a b q I u J;refine o a b ?_;dsimp only;rw[I];refine⟨x.root,J.at.1,aH (v1.ext u) (t:=.bytes 32 x.root) rfl λK M f5 V=>⟨_,M.bytes,?_⟩⟩;rw[<-D];exact E K (akt (g.trans u) f5 λi v=>ω)
 clear o;refine⟨some ⟨tb,0⟩,j.var.ah rfl,G,j.var.ah rfl,ic j.f (akz 0) (iO (Ow L own) (i:=0) m) ?_⟩;rw[F];refine⟨dg t1 λy c=>⟨_,_,_,_,rfl,?_⟩,aa λy N c W=>⟨c,dg (t1.ext c) λP d=>⟨_,_,_,_,rfl,?_⟩⟩⟩
 ·rw[ig (i:=(k:Int)) ω e];refine aa λP Q d X=>⟨d,aH Q (t:=x.tv) rfl λl v4 f4 T=>?_⟩;exact s _ l y.size rfl (c.trans (akt d f4 λi v=>ω)) v4
 ·rw[ig (i:=(k:Int)) ω e];refine aH (N.ext d) (t:=x.tv) rfl λl v4 f4 T=>?_;exact s _ l n.size rfl (akt (c.trans d) f4 λi v=>ω) v4
def aes(h:af)(f:Vc.One)(g:Nat->Int)(n:Nat):Prop:=∃(k:Nat)(first cap:Array Value),f.v=.func (.func k) first cap/\NZ Tryz.prog k/\
 ∀(h':af)(i:Nat)(R:Rq),Ext h h'->i<n->R (TV.i (g i)).val h'->bC Tryz.prog k (first.toList++ak.vals [.i (i:Int)]++cap.toList) h' R
theorem IT(p:WT h w tb O S B G L own)(t:AP h tb r A L most){f:Vc.One}{g:Nat->Int}(E:aes h f g L.length){k:Bs 32}(q:∀h',Ext h h'->R (TV.i (mV L g k)).val h'):
 Cl 191 [.ptr (PT w),.bytes 32 k,.one f] h R:=by
 apply yV;delta aJ aD gL Ww cr jW bz dX bJ bK aT bA;refine aa λn v1 a o=>akO ⟨some ⟨tb,0⟩,(p.var.ext a).ah rfl,k,v1.bytes,dM (t.ext a) λb e=>⟨_,rfl,ID (λc=>?_) λc=>?_⟩⟩
 ·have d:=a.trans e;have p2:=p.ext d;have lo:=p2.lo;rw[yq]at lo;have s:=pQ k L;refine⟨O,p2.var.ah rfl,ID (λ_=>?_) λu=>ω⟩;obtain⟨j,first,cap,i,l,m⟩:=E;refine⟨j,first,cap,i,l,?_⟩;rw[show place k L=(((place k L).toNat:Nat):Int) by omega];refine m b (place k L).toNat _ d ω ⟨_,rfl,?_⟩;have:=q b d;unfold mV at this;rw[if_pos c]at this;exact this
 ·have:=q b (a.trans e);unfold mV at this;rw[if_neg c]at this;exact this
theorem adD(p:WT h w tb O S B G L own)(t:AP h tb r A L most){k:Bs 32}(q:∀h',Ext h h'->R (TV.i (mV L (dh L own) k)).val h'):Cl 122 [.ptr (PT w),.bytes 32 k] h R:=by
 apply sX;delta Vb wD cr dJ fW bz bJ aT fD;refine aa λo v1 e s=>aa λu j b v=>⟨some ⟨w,0⟩,(v1.ext b).ah rfl,k,j.bytes,?_⟩;have a:=e.trans b;refine IT (f:=⟨(TV.fn (.func 192) [] [.ptr (PT h.size)]).val,rfl⟩) (g:=dh L own) (p.ext a) (t.ext a) ⟨192,#[],#[(akL (PT h.size)).val],rfl,bP.LI κ,λh' i R' c x l=>?_⟩ λm n=>⟨_,rfl,q m (a.trans n)⟩;have d:=(p.ext a).ext c;show Cl 192 [.i (i:Int),.ptr (PT h.size)] h' R';apply qM;delta mw dJ aT;exact⟨some ⟨w,0⟩,((v1.ext b).ext c).ah rfl,S,d.var.ah rfl,ic d.s ω (iO (dh L own) (i:=((i:Int)).toNat) ω) l⟩
theorem aaf(p:WT h w tb O S B G L own)(t:AP h tb r A L most){k:Bs 32}(q:∀h',Ext h h'->R (TV.i (mV L own k)).val h'):Cl 245 [.ptr (PT w),.bytes 32 k] h R:=by
 apply xm;delta Vb wD cr dJ fW bz bJ aT fD;refine aa λo v1 e s=>aa λu j b v=>⟨some ⟨w,0⟩,(v1.ext b).ah rfl,k,j.bytes,?_⟩;have a:=e.trans b;refine IT (f:=⟨(TV.fn (.func 284) [] [.ptr (PT h.size)]).val,rfl⟩) (g:=own) (p.ext a) (t.ext a) ⟨284,#[],#[(akL (PT h.size)).val],rfl,bP.LI κ,λh' i R' c x l=>?_⟩ λm n=>⟨_,rfl,q m (a.trans n)⟩;have d:=(p.ext a).ext c;show Cl 284 [.i (i:Int),.ptr (PT h.size)] h' R';apply uc;delta mw dJ aT;exact⟨some ⟨w,0⟩,((v1.ext b).ext c).ah rfl,O,d.var.ah rfl,ic d.o ω (iO own (i:=((i:Int)).toNat) ω) l⟩
end
end Gate
namespace Gate
open Pool (zH)
open Board (Vt)
theorem gR(z:TV):∀n,cq z n=akr (ak0 n z)
 |0=>rfl
 |n+1=>by rw[List.replicate_succ];simp only[cq,akr,gR z n]
theorem Rz(h:af):∀n,BJ h (ak0 n none) (ak0 n none)
 |0=>.nil
 |n+1=>.cons trivial (Rz h n)
section
variable{R:Rq}{h h':af}
def Fu(v q:Int):Prop:=1<=v/\v<=64/\1<=q/\q<=32
theorem Xn{v A:Int}(B:¬Fu v A->R (akL none).val h)
 (M:Fu v A->∀h' b r u w C,Kb h' b r u w C (iQ v.toNat A) v.toNat->Ext h h'->(∀i,uY b r u w C i->h.size<=i)->R (akL (PT b)).val h'):
 Cl 144 [.i v,.i A] h R:=by
 apply Iq;delta E1 EZ zN jL Bp tL Ib Ia fD;refine ID (λn=>B (λj=>by have:=j.1;omega)) λD=>akK.2 ⟨λn=>B (λj=>by have:=j.2.1;omega),λE=>ID (λn=>B (λj=>by have:=j.2.2.1;omega)) λg3=>akK.2 ⟨λn=>B (λj=>by have:=j.2.2.2;omega),λg4=>?_⟩⟩;have can:Fu v A:=⟨ω,ω,ω,ω⟩
 have K:∀(g:af)(c d f:Nat),Ext h g->g[c]? =some (row (cq (akL none) v.toNat) 198)->g[d]? =some (row (cq (akB false) v.toNat) 4)->g[f]? =some (bX [] 0)->h.size<=c/\h.size<=d/\h.size<=f/\c≠d/\c≠f/\d≠f->
  Bind (iW g (.agg [.i A,.slice (Sl.mk (some (akM c 0)) v.toNat v.toNat),.slice (Sl.mk (some (akM d 0)) v.toNat v.toNat),.map (some f)]) 202) λL=>R (TV.val (.ptr (some (akM g.size 0)))) L:=by
  rintro g c d f F G H I ⟨N,O,P,Q,S,T⟩;have l1:=kO G;have l2:=kO H;have l3:=(ak5.1 I).1;refine aa λU v4 k s4=>?_
  have V:Vc.Own 198 1 g (Sl.mk (some (akM c 0)) v.toNat v.toNat) (ZO (ak0 v.toNat none)):=
   ⟨λt o=>by obtain⟨x,_,rfl⟩:=aks.1 o;rfl,by simp,akI _,.inr ⟨c,[],rfl,by rw[G,gR];simp[ZO],by simp⟩⟩
  have lo:Vc.Own 4 1 g (Sl.mk (some (akM d 0)) v.toNat v.toNat) (WM (ak0 v.toNat false)):=
   ⟨λt o=>by obtain⟨x,_,rfl⟩:=aks.1 o;rfl,by simp,akI _,.inr ⟨d,[],rfl,by rw[H,gR];simp[WM],by simp⟩⟩
  have W:mj kM kR g f []:=⟨[],0,by rw[I];simp[mh],rfl,(λe X=>by cases X),alj⟩;have inl:∀i,In (Sl.mk (some (akM c 0)) v.toNat v.toNat) i->i=c:=λi⟨l,p,a⟩=>by cases p;exact a.symm
  have m:∀i,In (Sl.mk (some (akM d 0)) v.toNat v.toNat) i->i=d:=λi⟨l,p,a⟩=>by cases p;exact a.symm
  have J:∀q,some q∉ak0 v.toNat (none:Option Nat):=λq s=>by simp[List.mem_replicate]at s
  refine M can U g.size f _ _ (ak0 v.toNat none) ⟨v4,V.ext k,Rz _ _,lo.ext k,W.ext k,Q9 ⟨ω,ω⟩ ⟨ω,ω⟩,⟨λa=>?_,λa=>?_⟩,⟨λa=>?_,λa=>?_⟩,λi a Y=>?_,λq s=>absurd s (J q)⟩ (F.trans k) ?_
  ·have:=inl _ a;omega
  ·exact S (inl _ a).symm
  ·have:=m _ a;omega
  ·exact T (m _ a).symm
  ·exact Q ((inl i a).symm.trans (m i Y))
  ·rintro i (rfl|rfl|a|a|a)
   ·exact F.size
   ·exact P
   ·rw[inl i a];exact N
   ·rw[m i a];exact O
   ·exact absurd a (J i)
 have Z:∀x y z:Obj,Ext h (((h.push x).push y).push z):=λx y z=>((akw h x).trans (akw _ y)).trans (akw _ z);have E:∀x y z:Obj,(((h.push x).push y).push z)[((h.push x).push y).size]? =some z:=λx y z=>cO _ _;have D:∀x y z:Obj,(((h.push x).push y).push z)[(h.push x).size]? =some y:=λx y z=>((akw ((h.push x).push y) z).same _ (by simp)).trans (cO _ _);have g0:∀x y z:Obj,(((h.push x).push y).push z)[h.size]? =some x:=λx y z=>((akw ((h.push x).push y) z).same _ (by simp;omega)).trans (((akw (h.push x) y).same _ (by simp)).trans (cO _ _))
 repeat' apply And.intro
 all_goals first
  |omega
  |(refine K _ _ _ _ (Z _ _ _) ?_ ?_ ?_ ?_<;>first|exact g0 _ _ _|exact D _ _ _|exact E _ _ _|(simp only[Array.size_push];omega))
end
end Gate
end Go.Proofs.YtennbinbffdimaaGreat
namespace Go.Vc
open Go
theorem least{p:Nat->Prop}(h:∃n,p n):∃n,p n/\∀m,m<n->¬p m:=by
 obtain⟨n,a⟩:=h
 induction n using Nat.strongRecOn with
 |_ n b=>
  grind
open Classical in
theorem Loop.less{σ:Type}{q:σ}{E:af}{round:σ->af->(σ->af->Prop)->Prop}(S:Nat->σ->af->Prop){n0:Nat}(H:S n0 q E)
 (I:∀n s h(G:σ->af->Prop),S n s h->(∀m a h',m<n->S m a h'->G a h')->round s h G):Loop q E round:=by
 refine⟨λs h=>∃n,S n s h,λs h=>if c:∃n,S n s h then Classical.choose (least c)else 0,⟨n0,H⟩,λs h d=>?_⟩;have e:=Classical.choose_spec (least d);refine I _ s h _ e.1 λm a h' f b=>⟨⟨m,b⟩,?_⟩;have g:∃n,S n a h':=⟨m,b⟩
 grind
end Go.Vc
namespace Go.Proofs.YtennbinbffdimaaGreat
open Go Go.Vc
namespace Gate
open Board (aq wI)
open Pool (rts eM Dw D6)
structure RW(h:af)(w m:Nat)(O:Sl)(N:List Nd)(own:Nat->Int):Prop where
 var:Var 263 h w (.agg [.ptr (PT m),.slice O,.i N.length])
 o:Vc.Own 3 1 h O (eA (gO N.length own))
theorem aag{f:Nat->Int}(l:List Nat)(h:∀x∈l,0<=f x)(j:Nat):0<=((l.take j).map f).sum/\((l.take j).map f).sum<=(l.map f).sum:=by
 induction l generalizing j with
 |nil=>simp
 |cons x l a=>
  cases j with
  |zero=>
   have:=(Vp h);simp_all
  |succ j=>
   grind
theorem take_succ{α:Type}{l:List α}{j:Nat}{x:α}(h:l[j]? =some x):l.take (j+1)=l.take j++[x]:=by
 grind [List.take_add_one]
abbrev Xo(l:List Nat):List Int:=l.map λ(k:Nat)=>(k:Int)
theorem aeV{l:List Nat}{k:Nat}{z:Int}(h:z=k):Xo (l++[k])=Xo l++[z]:=by simp_all
section
variable{R:Rq}{h h':af}{w m:Nat}{O A B D:Sl}{N:List Nd}{most:Int}{own:Nat->Int}
theorem RW.ext(p:RW h w m O N own)(x:Ext h h'):RW h' w m O N own:=⟨p.var.ext x,p.o.ext x⟩
theorem Ku(p:RT h m A B D N most)(q:∀h' w O,RW h' w m O N (λ_=>0)->Ext h h'->(∀i,i=w\/In O i->h.size<=i)->¬In O w->R (akL (PT w)).val h'):
 Cl 181 [.ptr (PT m)] h R:=by
 apply Aq;delta Va aJ bK bA fD;have g:=p.la;have c:=p.ok.len;have s:=p.ok.most;refine⟨A,p.var.ah rfl,A,p.var.ah rfl,ω,ω,ω,ω,akw _ _,?_⟩;have b:=Vc.Own.new (T:=3) h (eA (gO N.length λ_=>0)) (Gm _)
 have j:cq (TV.i 0) (Int.toNat A.len)=akr (eA (gO N.length λ_=>0)):=by
  simp_all [gO,ali,akQ,gR,eA,List.map_const']
 rw[j];have k:(eA (gO N.length λ_=>0)).length=A.len:=by grind
 rw[k]at b;have d:=akw h (row (akr (eA (gO N.length λ_=>0))) 3);have n:(h.push (row (akr (eA (gO N.length λ_=>0))) 3)).size=h.size+1:=by simp
 generalize h.push (row (akr (eA (gO N.length λ_=>0))) 3)=o at b d n⊢;refine aa λr e f t=>?_;rw[g]at e b;refine q r o.size _ ⟨e,b.ext f⟩ (d.trans f) (λi a=>?_) λa=>?_
 ·rcases a with rfl|⟨l,c,a⟩<;>grind
 ·obtain⟨l,c,a⟩:=a
  grind
theorem Xp{i k:Nat}:(akT (k+1)).filter (We N.length (bQ N) i)=(akT k).filter (We N.length (bQ N) i)++if We N.length (bQ N) i k=true then[k]else[]:=by
 rw[List.range_succ,List.filter_append];congr 1;by_cases h:We N.length (bQ N) i k=true<;>simp[h]
theorem RA{n:Nat}{par:Nat->Nat}{k:Nat}:(kids n par k).length<=n:=by
 grind [akT,We,ali,kids,akP]
theorem Xq(up:Up N.length (bQ N)){i:Nat}:(akT (i+1)).filter (We N.length (bQ N) i)=[]:=by
 refine List.filter_eq_nil_iff.2 λx a=>?_;have a:=List.mem_range.1 a;unfold We;simp only[decide_eq_true_eq];rintro⟨b,c,d⟩;have:=up x b c;omega
theorem Kv(t:RT h m A B D N most)(p:RW h w m O N own){i:Nat}(E:i<N.length)
 (q:∀h' s,Vc.Own 3 1 h' s (eA (Xo (kids N.length (bQ N) i)))->Ext h h'->R (ak2 s).val h'):
 Cl 289 [.ptr (PT w),.i (i:Int)] h R:=by
 apply oI;delta sD cE dD eW;have F:=t.ok.len;have G:=t.ok.most;have up:=t.ok.tree;rw[wrap_i64 ω ω]
 refine⟨λσ n=>i+1<=σ.2/\σ.2<=N.length/\Ext h n/\(∀j,In σ.1 j->h.size<=j)/\Vc.Own 3 1 n σ.1 (eA (Xo ((akT σ.2.toNat).filter (We N.length (bQ N) i)))),λσ _=>(N.length-σ.2).toNat,
  ⟨akz _,ω,akv _,(λj d=>(q8 d).elim),?_⟩,?_⟩
 ·rw[show((i:Int)+1).toNat=i+1 by omega,Xq up];exact Vc.Own.nil ..
 rintro⟨s,k⟩ o ⟨r,u,a,lo,b⟩;dsimp only at r u lo b⊢;refine⟨_,(p.var.ext a).ah rfl,ID (λv=>⟨_,(p.var.ext a).ah rfl,Rw (t.ext a) λH e=>⟨_,rfl,?_⟩⟩) λv=>?_⟩
 ·obtain⟨x,f⟩:∃x,N[k.toNat]? =some x:=⟨_,aky ω⟩;have I:=t.ok.up k.toNat x f ω;rw[TS ω f];have c:=Xp (N:=N) (i:=i) (k:=k.toNat)
  have y:We N.length (bQ N) i k.toNat=decide (x.par=i):=by
   unfold We;rw[yf f]
   grind
  rw[y]at c;rw[wrap_i64 ω ω];have g:=a.trans e;refine ID (λl=>?_) λl=>?_
  ·rw[decide_eq_true l,if_pos rfl]at c
   have J:=by
    have:=akP (We N.length (bQ N) i) (akT k.toNat)
    rwa [ali]at this
   refine acr (b.ext e) (by grind) λK L M f3 z=>?_;refine⟨⟨ω,ω,akt g f3 lo,λj d=>?_,?_⟩,ω⟩
   ·rcases z j d with C|C
    ·simp_all
    ·have:=g.size;omega
   grind
  ·rw[decide_eq_false l,if_neg δ,akX]at c;refine⟨⟨ω,ω,g,lo,?_⟩,ω⟩;rw[show(k+1).toNat=k.toNat+1 by omega,c];exact b.ext e
 ·rw[show k.toNat=N.length by omega]at b;exact q o s b a
theorem xo(t:RT h m A B D N most)(p:RW h w m O N own)(pos:∀i,i<N.length->0<=own i)(E:tot N.length own<4611686018427387904):∀(d i:Nat),i<N.length->N.length-i<=d->∀(q:af),Ext h q->∀(R:Rq),(∀h',Ext q h'->R (TV.i (dh N own i)).val h')->
 Cl 290 [.ptr (PT w),.i (i:Int)] q R
 |0,i,a,F,_,_,_,_=>ω
 |d+1,i,a,F,q,r,R,G=>by
  apply pZ;delta q7 aJ iZ cu gI bK aT;have up:=t.ok.tree;have U:=t.ok.len;have V:=t.ok.most;have u:=p.ext r;have all:=λk(c:k<N.length)=>Vk up pos c;have step:=YS up own a;have H:=aag (f:=dh N own) (kids N.length (bQ N) i) (λx I=>(all x (ew.1 I).2.1).1);have full:=(all i a).2;have W:=pos i a;refine⟨O,u.var.ah rfl,qL u.o.elems ω (iO own ω) (Kv (t.ext r) u a λJ s v y=>⟨_,rfl,?_⟩)⟩;have ol:=v.len;rw[aku,aku]at ol;have K:=r.trans y;have L:dh N own i=own i+((kids N.length (bQ N) i).map (dh N own)).sum:=step;have X:dh N own i<=tot N.length own:=full;refine⟨λσ g=>0<=σ.2/\σ.2<=s.len/\Ext J g/\σ.1=own i+(((kids N.length (bQ N) i).take σ.2.toNat).map (dh N own)).sum,λσ _=>(s.len-σ.2).toNat,⟨akz 0,ω,akv _,by simp⟩,?_⟩;rintro⟨M,j⟩ g ⟨z,j1,l,o⟩;dsimp only at z j1 o⊢;refine ID (λP=>?_) λP=>?_
  ·obtain⟨k,c⟩:∃k,(kids N.length (bQ N) i)[j.toNat]? =some k:=⟨_,aky ω⟩;obtain⟨Q,C,Y⟩:=ew.1 (akU c);have Z:=up k Q C;have S:(Xo (kids N.length (bQ N) i))[j.toNat]? =some k:=by simp_all
   refine qL (v.ext l).elems z S (xo t p pos E d k C ω g (K.trans l) _ λh4 T=>⟨_,rfl,?_⟩);have b:=H (j.toNat+1)
   have e:M+dh N own k=own i+(((kids N.length (bQ N) i).take (j.toNat+1)).map (dh N own)).sum:=by
    rw[take_succ c,ak4,o]
    grind
   have kf:=RA (n:=N.length) (par:=bQ N) (k:=i);dsimp only;rw[e,wrap_i64 ω ω,wrap_i64 ω ω];exact⟨⟨ω,ω,l.trans T,by grind⟩,ω⟩
  ·rw[show j.toNat=(kids N.length (bQ N) i).length by omega,akH]at o;have:=G g (y.trans l);rw[L,<-o]at this;exact this
theorem HI(t:RT h m A B D N most)(p:RW h w m O N own){k:Bs 32}(q:∀h',Ext h h'->R (TV.i (place k N)).val h'):
 Cl 286 [.ptr (PT w),.bytes 32 k] h R:=by
 apply nq;refine aa λd v1 a e=>⟨_,(p.var.ext a).ah rfl,k,v1.bytes,fA (t.ext a) λc b=>⟨_,rfl,_,((p.var.ext a).ext b).ah rfl,?_⟩⟩;have:=pQ k N;exact ID (λh=>ω) λ_=>q c (a.trans b)
theorem Xr(t:RT h m A B D N most)(p:RW h w m O N own){k:Bs 32}(q:∀h',Ext h h'->R (TV.i (mV N own k)).val h'):
 Cl 247 [.ptr (PT w),.bytes 32 k] h R:=by
 apply nr;refine aa λf v1 c g=>⟨k,v1.bytes,HI (t.ext c) (p.ext c) λd e=>⟨_,rfl,?_⟩⟩;have a:=c.trans e;have i:=pQ k N;refine ID (λb=>⟨O,(p.var.ext a).ah rfl,qL (p.o.ext a).elems b (iO own ω) ?_⟩) λb=>?_
 ·have:=q d a;unfold mV at this;rw[if_pos b]at this;exact this
 ·have:=q d a;unfold mV at this;rw[if_neg b]at this;exact this
def Fv(N:List Nd)(own:Nat->Int)(k:Bs 32):Bs 32×Bool:=
 if 0<=place k N then match iL N.length (bQ N) (dh N own) (c7 N) (place k N).toNat with
  |some b=>(((N[b]?).map Nd.root).getD (akx 32),true)
  |none=>(akx 32,false)
 else(akx 32,false)
theorem TW(t:RT h m A B D N most)(p:RW h w m O N own)(pos:∀i,i<N.length->0<=own i)(M:tot N.length own<4611686018427387904){k:Bs 32}(hr:∀h',Ext h h'->R (akA [.bytes 32 (Fv N own k).1,.bool (Fv N own k).2]).val h'):
 Cl 251 [.ptr (PT w),.bytes 32 k] h R:=by
 apply oJ;delta cQ iZ mw cu cr gI jW bz eU bJ bK aT;have g:=t.ok.len;have hm:=t.ok.most;refine aa λL v1 x1 s1=>aa λh2 v2 x2 s2=>⟨k,(v1.ext x2).bytes,?_⟩;have X:=x1.trans x2;refine HI (t.ext X) (p.ext X) λh3 x3=>⟨_,rfl,?_⟩;have P:=X.trans x3;have v3:=v2.ext x3;have hp:=pQ k N
 have ac:∀f,Ext h3 f->Fv N own k=(akx 32,false)->gT f L.size 0 32/\Vc.Bind (alg f L.size 0 (akG 32 (akx 32))) λh=>∃b:Bs 32,av h L.size 0 32 b/\R (akA [.bytes 32 b,.bool false]).val h:=λf Q e=>by
  refine aq (v3.ext Q) eM.symm (eM.trans eM.symm) λz v5 f5 s5=>⟨_,v5.bytes,?_⟩;have:=hr z (akt (P.trans Q) f5 λi C=>ω);rw[e]at this;exact this
 refine ID (λG=>ac h3 (akv _) (by unfold Fv;rw[if_neg ω])) λG=>?_;obtain⟨i,C,ao⟩:∃i:Nat,place k N=(i:Int)/\i<N.length:=⟨(place k N).toNat,ω,ω⟩
 have H:Fv N own k=match iL N.length (bQ N) (dh N own) (c7 N) i with
  |some b=>(((N[b]?).map Nd.root).getD (akx 32),true)
  |none=>(akx 32,false):=by
  unfold Fv;rw[if_pos ω,C,akQ]
 rw[C];refine Kv (t.ext P) (p.ext P) ao λh4 s Y Z=>⟨_,rfl,?_⟩;have ap:=P.trans Z;have ol:=Y.len;rw[aku,aku]at ol;obtain⟨d,S⟩:∃d,d=kids N.length (bQ N) i:=⟨_,rfl⟩;rw[<-S]at Y ol;have lt:∀x∈d,x<N.length:=λx q=>by rw[S]at q;exact(ew.1 q).2.1
 have ad:∀(j:Nat)(b:Nat),(d.take j).foldl (cZ (dh N own) (c7 N)) none=some b->b<N.length:=by
  intro j
  have key:∀(l:List Nat)(o:Option Nat),(∀x∈l,x<N.length)->(∀b,o=some b->b<N.length)->∀b,l.foldl (cZ (dh N own) (c7 N)) o=some b->b<N.length:=by
   intro l
   induction l with
   |nil=>intro o _ u b a;exact u b a
   |cons x l ih=>
    intro o g u b a;refine ih _ (λy hy=>g y (alc _ hy)) (λc E=>?_) b a;unfold cZ at E;split at E
    ·cases E;exact g _ (ald ..)
    ·split at E
     ·cases E;exact g _ (ald ..)
     ·rename_i y _;exact u c (by rw[<-E])
  exact key _ none (λx q=>lt x (List.mem_of_mem_take q)) (λb a=>by cases a)
 refine⟨λσ f=>0<=σ.2/\σ.2<=s.len/\Ext h4 f/\σ.1=nk ((d.take σ.2.toNat).foldl (cZ (dh N own) (c7 N)) none),λσ _=>((s.len:Int)-σ.2).toNat,⟨akz 0,by dsimp only;omega,akv _,rfl⟩,?_⟩;rintro⟨T,j⟩ z ⟨j0,j1,I,a⟩;dsimp only at j0 j1 a⊢;have r:=ap.trans I;have p5:=p.ext r;have t5:=t.ext r;refine ID (λhj=>?_) λhj=>?_
 ·obtain⟨x,q⟩:∃x,d[j.toNat]? =some x:=⟨_,aky ω⟩;have xN:=lt x (akU q);have ar:(Xo d)[j.toNat]? =some (x:Int):=by rw[akY,q];rfl
  have st:(d.take (j.toNat+1)).foldl (cZ (dh N own) (c7 N)) none=cZ (dh N own) (c7 N) ((d.take j.toNat).foldl (cZ (dh N own) (c7 N)) none) x:=by rw[take_succ q,List.foldl_append];rfl
  have kf:=RA (n:=N.length) (par:=bQ N) (k:=i);rw[<-S]at kf;refine qL (Y.ext I).elems j0 ar ?_;rw[wrap_i64 (n:=j+1) ω ω]
  have go:∀f(v:Int),Ext z f->v=nk (cZ (dh N own) (c7 N) ((d.take j.toNat).foldl (cZ (dh N own) (c7 N)) none) x)->(0<=j+1/\j+1<=(s.len:Int)/\Ext h4 f/\v=nk ((d.take (j+1).toNat).foldl (cZ (dh N own) (c7 N)) none))/\((s.len:Int)-(j+1)).toNat<((s.len:Int)-j).toNat:=λf v Q hv=>
   ⟨⟨ω,ω,I.trans Q,by rw[show(j+1).toNat=j.toNat+1 by omega,st];exact hv⟩,ω⟩
  cases u:(d.take j.toNat).foldl (cZ (dh N own) (c7 N)) none with
  |none=>
   rw[u]at a go;have a:T=-1:=a;exact ID (λ_=>go z x (akv _) rfl) λG=>ω
  |some b=>
   have J:=ad _ _ u;rw[u]at a go;have a:T=(b:Int):=a;rw[a]
   have U:nk (cZ (dh N own) (c7 N) (some b) x)=if SE (dh N own) (c7 N) x b=true then(x:Int)else(b:Int):=by
    unfold cZ;simp only;split<;>rfl
   have ae:N[x]? =some N[x]:=aky xN;have K:N[b]? =some N[b]:=aky J;refine ID (λG=>ω) λ_=>?_;refine xo t p pos M N.length x xN (alk ..) z r _ λh6 x6=>⟨_,rfl,xo t p pos M N.length b J (alk ..) h6 (r.trans x6) _ λh7 x7=>⟨_,rfl,?_⟩⟩;have V:=x6.trans x7;refine ID (λaw=>go h7 _ V ?_) λaE=>?_
   ·rw[U,if_pos (yd.2 (.inl aw))]
   refine xo t p pos M N.length x xN (alk ..) h7 (r.trans V) _ λh8 x8=>⟨_,rfl,xo t p pos M N.length b J (alk ..) h8 ((r.trans V).trans x8) _ λh9 x9=>⟨_,rfl,?_⟩⟩;have W:=(V.trans x8).trans x9;have F:=r.trans W;refine ID (λhe=>?_) λa0=>go h9 _ W ?_
   ·refine⟨_,(p.var.ext F).ah rfl,A,(t.var.ext F).ah rfl,lM (t.a.ext F).elems ω (by rw[akQ];exact yT K) ⟨_,(p.var.ext F).ah rfl,A,(t.var.ext F).ah rfl,lM (t.a.ext F).elems ω (by rw[akQ];exact yT ae) ?_⟩⟩;refine D6 λal am=>⟨_,rfl,?_⟩;have eb:Op.bytesLess N[b].root.l N[x].root.l=Op.bytesLess (c7 N b) (c7 N x):=by rw[vZ K,vZ ae]
    rw[eb];refine akC (λg=>go al _ (W.trans am) ?_) λg=>go al _ (W.trans am) ?_
    ·rw[U,if_pos (yd.2 (.inr ⟨he,g⟩))]
    ·rw[U,if_neg];rw[yd];rintro(h|⟨_,h⟩)
     ·omega
     ·rw[g]at h;cases h
   ·rw[U,if_neg];rw[yd];rintro(h|⟨h,_⟩)<;>omega
 ·rw[show j.toNat=d.length by omega,akH]at a;have hK:d.foldl (cZ (dh N own) (c7 N)) none=iL N.length (bQ N) (dh N own) (c7 N) i:=by rw[S];rfl
  rw[hK]at a;cases ab:iL N.length (bQ N) (dh N own) (c7 N) i with
  |none=>
   rw[ab]at a H;have a:T=-1:=a;exact ID (λ_=>ac z (Z.trans I) H) λG=>ω
  |some b=>
   have J:b<N.length:=ad d.length b (by rw[akH,hK,ab]);rw[ab]at a H;have a:T=(b:Int):=a;have K:N[b]? =some N[b]:=aky J;simp only[K,Option.map_some,Option.getD_some]at H;refine ID (λG=>ω) λ_=>?_;rw[a];refine⟨_,p5.var.ah rfl,A,t5.var.ah rfl,lM t5.a.elems ω (by rw[akQ];exact yT K) ?_⟩;refine aq (t:=.bytes 32 N[b].root) ((v3.ext Z).ext I) eM.symm (eM.trans eM.symm) λh6 v6 f6 s6=>⟨_,v6.bytes,?_⟩;have:=hr h6 (akt r f6 λi C=>by have C:i=L.size:=C;omega);rw[H]at this;exact this
theorem TX(t:RT h m A B D N most)(p:RW h w m O N own)(pos:∀i,i<N.length->0<=own i)(M:tot N.length own<4611686018427387904)(U:∀h',Ext h h'->R (akG 32 (mU N own)).val h'):
 Cl 194 [.ptr (PT w)] h R:=by
 apply oK;delta eG gK cQ i_ yh mw qD bz eU bJ bK;have K:=t.ok.Gf;have up:=t.ok.tree;have v:=t.ok.names;have y:=aky K;refine aa λk v1 c s1=>⟨_,(p.var.ext c).ah rfl,A,(t.var.ext c).ah rfl,lM (t.a.ext c).elems (akz 0) (yT (N:=N) y) ?_⟩;refine aa λh2 L P s2=>aq (t:=.bytes 32 N[0].root) L eM.symm (eM.trans eM.symm) λh3 Q f3 s3=>?_;have z:=akt P f3 λi a=>alb (Eq.symm a);have z1:=c.size;have ab:=z.size
 refine Loop.less (λd _ C=>Ext k C/\∃(i:Nat)(x:Nd),N[i]? =some x/\Var 52 C k.size (.bytes 32 x.root)/\uq N.length (bQ N) (dh N own) (c7 N) i=uq N.length (bQ N) (dh N own) (c7 N) 0/\d=N.length-i)
  ⟨z,0,N[0],y,Q,rfl,rfl⟩ ?_
 rintro d _ h4 G ⟨l,i,x,n,v4,E,rfl⟩ go;have a:=(akS.1 n).1;have S:=gX t.ok.nodup n;have o:=c.trans l;refine⟨_,v4.bytes,TW (t.ext o) (p.ext o) pos M λT g=>⟨_,_,rfl,?_⟩⟩;have V:=o.trans g;refine aa λh6 v6 W s6=>aq (t:=.bytes 32 (Fv N own x.root).1) v6 eM.symm (eM.trans eM.symm) λq F f7 s7=>?_;have j:Ext T q:=akt W f7 λi a=>alb (Eq.symm a);have H:Var 52 q k.size (.bytes 32 x.root):=(v4.ext g).ext j
 have e:Fv N own x.root=match iL N.length (bQ N) (dh N own) (c7 N) i with
  |some b=>(((N[b]?).map Nd.root).getD (akx 32),true)
  |none=>(akx 32,false):=by
  unfold Fv;rw[S,if_pos ω,akQ]
 have f:=MA (s:=dh N own) up v a;cases r:iL N.length (bQ N) (dh N own) (c7 N) i with
 |none=>
  rw[r]at e f;rw[e];refine akW ⟨_,H.bytes,?_⟩;have X:Var 52 q h.size (.bytes 32 (akx 32)):=((v1.ext l).ext g).ext j;refine aq (t:=.bytes 32 x.root) X eM.symm (eM.trans eM.symm) λI u f8 Y=>⟨_,u.bytes,?_⟩;have:=U I (akt (V.trans j) f8 λi a=>alb (Eq.symm a));unfold mU at this;rw[<-E,f]at this;simp only[n,Option.map_some,Option.getD_some]at this;exact this
 |some b=>
  obtain⟨b1,Z,b3⟩:=mK up v r;have J:N[b]? =some N[b]:=aky Z;rw[r]at e f;simp only[J,Option.map_some,Option.getD_some]at e f;rw[e]at F⊢;refine akO ⟨_,F.bytes,?_⟩;refine aq (t:=.bytes 32 N[b].root) H eM.symm (eM.trans eM.symm) λI u f8 Y=>?_;refine go (N.length-b) _ _ ω ⟨?_,b,N[b],J,u,by rw[<-f,E],rfl⟩;exact akt ((l.trans g).trans j) f8 λi a=>alb (Eq.symm a)
end
end Gate
namespace Gate
structure Sep(h:af)(F:Nat->Nat->Prop):Prop where
 qx:∀j k i,F j i->F k i->j=k
 lt:∀j i,F j i->i<h.size
def nT(F:Nat->Nat->Prop)(j:Nat)(S:Nat->Prop):Nat->Nat->Prop:=λk=>if k=j then S else F k
def dm(F:Nat->Nat->Prop)(i:Nat):Prop:=∃k,F k i
section
variable{h h':af}{F:Nat->Nat->Prop}{S S':Nat->Prop}{j k:Nat}
theorem bY:nT F j S j=S:=if_pos rfl
theorem aB(q:k≠j):nT F j S k=F k:=if_neg q
theorem Sep.off(s:Sep h F)(q:k≠j):∀i,F k i->¬F j i:=λ_ a b=>q (s.qx _ _ _ a b)
theorem Sep.ext(s:Sep h F)(x:Ext h h'):Sep h' F:=⟨s.qx,λj i a=>by have:=s.lt j i a;have:=x.size;omega⟩
theorem Sep.step(s:Sep h F)(st:Step (F j) h S' h')(lt:∀i,S' i->i<h'.size):Sep h' (nT F j S'):=by
 have new:∀k i,k≠j->F k i->¬S' i:=λk i m g n=>by
  rcases st.new i n with l|l
  ·exact m (s.qx _ _ _ g l)
  ·have:=s.lt k i g;omega
 refine⟨λa b i c e=>?_,λa i c=>?_⟩
 ·by_cases d:a=j
  ·by_cases f:b=j
   ·rw[d,f]
   ·rw[d,bY]at c;rw[aB f]at e;exact absurd c (new b i f e)
  ·by_cases f:b=j
   ·rw[f,bY]at e;rw[aB d]at c;exact absurd e (new a i d c)
   ·rw[aB d]at c;rw[aB f]at e;exact s.qx _ _ _ c e
 ·by_cases d:a=j
  ·rw[d,bY]at c;exact lt i c
  ·rw[aB d]at c;have:=s.lt a i c;have:=st.only.size;omega
theorem Step.all(st:Step (F j) h S' h'):Step (dm F) h (dm (nT F j S')) h':=
 ⟨st.only.mono λi b=>⟨j,b⟩,λi⟨k,a⟩=>by
  by_cases e:k=j
  ·rw[e,bY]at a;exact(st.new i a).imp (λx=>⟨j,x⟩) id
  ·rw[aB e]at a;exact .inl ⟨k,a⟩⟩
theorem Sep.made{lo:Nat->Nat}(q:∀j i,F j i->lo j<=i/\i<lo (j+1))(mono:∀j,lo j<=lo (j+1))(top:∀j,lo j<=h.size):Sep h F:=by
 have up:∀a d,lo a<=lo (a+d):=λa d=>by
  induction d with
  |zero=>exact akI _
  |succ d c=>exact ak3 c (mono _)
 refine⟨λa b i e f=>?_,λj i g=>by have:=(q j i g).2;have:=top (j+1);omega⟩;have m:=q a i e;have n:=q b i f;rcases Nat.lt_trichotomy a b with k|l|k
 ·have:=up (a+1) (b-(a+1));rw[show a+1+(b-(a+1))=b by omega]at this;omega
 ·exact l
 ·have:=up (b+1) (a-(b+1));rw[show b+1+(a-(b+1))=a by omega]at this;omega
end
end Gate
namespace Gate
open Pool (zH)
section
variable{R:Rq}{h h':af}{b r:Nat}{A:Sl}{L:List Nd}{most:Int}
def CM(slot most:Int):Prop:=1<=most/\most<=256/\0<=slot/\slot<=1073741824
theorem aah{root:Bs 32}{slot:Int}(q:CM slot most):rz [⟨root,slot,-1⟩] most:=by
 have one:∀(i:Nat)(x:Nd),([⟨root,slot,-1⟩]:List Nd)[i]? =some x->i=0/\x=⟨root,slot,-1⟩:=λi x a=>by
  cases i with
  |zero=>exact⟨rfl,by simpa using a.symm⟩
  |succ i=>simp at a
 unfold CM at q
 exact⟨by simp,λx a=>by rw[(one 0 x a).2],λi x a b=>by have:=(one i x a).1;omega,by simp,λx a=>by rw[alm.1 a];exact q.2.2,
  λi x y a b=>by have:=(one i x a).1;omega,by simp;omega,⟨q.1,q.2.1⟩⟩
theorem Fw{root:Bs 32}{slot:Int}(B:¬CM slot most->∀h',Ext h h'->R (akA [.ptr none,.i 1]).val h')
 (H:CM slot most->∀h' b r A,AP h' b r A [⟨root,slot,-1⟩] most->Ext h h'->(∀i,lH b r A i->h.size<=i)->R (akA [.ptr (PT b),.i 0]).val h'):
 Cl 141 [.bytes 32 root,.i slot,.i most] h R:=by
 apply JS;delta eG Dq jL EW EV cr fW d_ bJ bA fD;refine aa λa v1 z k=>?_;intro F C;have n:¬CM slot most->R (akA [.ptr none,.i 1]).val a:=λG=>B G a z;refine ID (λs=>n (λf=>by have:=f.1;omega)) λd=>akK.2 ⟨λs=>n (λf=>by have:=f.2.1;omega),λQ=>ID (λs=>n (λf=>by have:=f.2.2.1;omega)) λS=>akK.2 ⟨λs=>n (λf=>by have:=f.2.2.2;omega),λT=>?_⟩⟩;have can:CM slot most:=⟨ω,ω,ω,ω⟩;refine C (none,0) a ?_;clear C F n B
 have t:∀{g:af}{q m:Nat},Ext a g->g[q]? =some (row (akr [(⟨root,slot,-1⟩:Nd).tv]) 69)->mj kR vI g m [(root,0)]->q≠m->a.size<=q->a.size<=m->
  Bind (iW g (.agg [.slice (Sl.mk (some (akM q 0)) 1 1),.map (some m),.i most]) 168) λI=>R (TV.val (.bg [.ptr (some (akM g.size 0)),.i 0])) I:=by
  intro g q m p D J K U E;refine aa λL v4 u V=>H can L g.size m _ ⟨v4,?_,J.ext u,aah can,⟨?_,?_⟩⟩ ((z.trans p).trans u) ?_
  ·have:Vc.Own 69 34 g (Sl.mk (some (akM q 0)) 1 1) (nds [⟨root,slot,-1⟩]):=⟨Zs _,rfl,akI _,.inr ⟨q,[],rfl,by rw[D];simp[nds],by simp⟩⟩;exact this.ext u
  ·rintro⟨l,o,v⟩;cases o;have:=kO D;simp only at v;omega
  ·rintro⟨l,o,v⟩;cases o;exact K v
  ·rintro i (rfl|rfl|⟨l,o,rfl⟩)
   ·have:=p.size;omega
   ·omega
   ·cases o;simp only;omega
 have put:∀{g:af}{m:Nat}{P:af->Prop},Ext a g->a.size<=m->mj kR vI g m []->(∀d,mj kR vI d m [(root,0)]->ag (·=m) g d->Ext a d->d.size=g.size->P d)->
  ∃es c,g[m]? =some (bX es c)/\dH ctx (.array 32 5) es/\Bind (g.setIfInBounds m (bX (jb (.bytes 32 root) (.i 0) c es) (fJ (.bytes 32 root) c es))) P:=
  λp E M N=>M.put Vf root 0 λd j f1 k=>N d j f1 (akt p f1 λi O=>by subst O;exact E) k
 refine⟨root,v1.bytes,root,v1.bytes,?_⟩;have w:=akw a (row (akr [(⟨root,slot,-1⟩:Nd).tv]) 69);have xb:=akw a (bX [] 0);have x:=akw (a.push (row (akr [(⟨root,slot,-1⟩:Nd).tv]) 69)) (bX [] 0);have y:=akw (a.push (bX [] 0)) (row (akr [(⟨root,slot,-1⟩:Nd).tv]) 69)
 refine⟨⟨w,w.trans x,put (w.trans x) (by simp) (mj.new _) λd j f1 e k=>⟨e,t e ?_ j (by simp) (akI _) (by simp)⟩⟩,xb,
  ⟨xb.trans y,put (xb.trans y) (akI _) ((mj.new a).ext y) λd j f1 e k=>⟨e,t e ?_ j (by simp) (by simp) (akI _)⟩⟩,
  put xb (akI _) (mj.new a) λd j f1 e k=>⟨e,e.trans (akw _ _),t (e.trans (akw _ _)) ?_ (j.ext (akw _ _)) ?_ e.size (akI _)⟩⟩
 ·exact(f1.same _ (by simp;omega) (by simp)).trans ((x.same _ (by simp)).trans (cO _ _))
 ·exact(f1.same _ (by simp) (by simp)).trans (cO _ _)
 ·exact cO _ _
 ·rw[k];simp
end
end Gate
namespace Peers
def get(k:Int):List (Int×Int)->Option Int
 |[]=>none
 |e::es=>if k=e.1 then some e.2 else get k es
def put(k v:Int):List (Int×Int)->List (Int×Int)
 |[]=>[(k,v)]
 |e::es=>if k=e.1 then(e.1,v)::es else e::put k v es
def drop(k:Int):List (Int×Int)->List (Int×Int)
 |[]=>[]
 |e::es=>if k=e.1 then es else e::drop k es
def keys(L:List (Int×Int)):List Int:=L.map (·.1)
def score(L:List (Int×Int))(k:Int):Int:=(get k L).getD 0
theorem get_mem{L:List (Int×Int)}(q:(keys L).Nodup){k v:Int}:get k L=some v↔(k,v)∈L:=by
 induction L with
 |nil=>simp[get]
 |cons e es c=>
  have b:e.1∉keys es/\(keys es).Nodup:=by simpa[keys]using q
  unfold get;by_cases h:k=e.1
  ·rw[if_pos h];constructor
   ·intro a;have:e.2=v:=Option.some.inj a;rw[h,<-this];exact ald ..
   ·intro a;rcases akR.1 a with a|a
    ·rw[<-a]
    ·exfalso;exact b.1 (aks.2 ⟨_,a,h⟩)
  ·rw[if_neg h,c b.2];constructor
   ·exact alc _
   ·intro a;rcases akR.1 a with a|a
    ·exact absurd (by rw[<-a]) h
    ·exact a
theorem get_none{L:List (Int×Int)}{k:Int}:get k L=none↔k∉keys L:=by
 induction L with
 |nil=>simp[get,keys]
 |cons e es a=>
  unfold get;by_cases h:k=e.1
  ·rw[if_pos h];simp[keys,h]
  ·rw[if_neg h,a];simp[keys,h]
theorem RB{L L':List (Int×Int)}(q:L.Perm L')(A:(keys L).Nodup)(k:Int):get k L=get k L':=by
 have a:(keys L').Nodup:=(q.map _).nodup_iff.1 A;cases h:get k L with
 |some v=>exact((get_mem a).2 (q.mem_iff.1 ((get_mem A).1 h))).symm
 |none=>
  cases b:get k L' with
  |none=>rfl
  |some v=>
   have:=(get_mem A).2 (q.mem_iff.2 ((get_mem a).1 b));rw[h]at this;cases this
theorem oL{L L':List (Int×Int)}(q:L.Perm L')(A:(keys L).Nodup)(k:Int):score L k=score L' k:=by
 unfold score;rw[RB q A]
theorem uI{L:List (Int×Int)}(q:(keys L).Nodup)(k:Int):drop k L=L.filter (λe=>decide (e.1≠k)):=by
 induction L with
 |nil=>rfl
 |cons e es c=>
  have b:e.1∉keys es/\(keys es).Nodup:=by simpa[keys]using q
  unfold drop;by_cases h:k=e.1
  ·rw[if_pos h,List.filter_cons_of_neg (by simp[h])];refine(List.filter_eq_self.2 λx a=>?_).symm;simp only[ne_eq,decide_eq_true_eq];intro d;exact b.1 (aks.2 ⟨x,a,by rw[d,h]⟩)
  ·rw[if_neg h,List.filter_cons_of_pos (by simp;exact λa=>h a.symm),c b.2]
theorem kY{L:List (Int×Int)}(q:(keys L).Nodup)(k v:Int):(put k v L).Perm ((k,v)::drop k L):=by
 induction L with
 |nil=>exact List.Perm.refl _
 |cons e es a=>
  have b:e.1∉keys es/\(keys es).Nodup:=by simpa[keys]using q
  unfold put drop;by_cases h:k=e.1
  ·rw[if_pos h,if_pos h,h]
  ·rw[if_neg h,if_neg h];exact((a b.2).cons e).trans (List.Perm.swap ..)
theorem Nf{L L':List (Int×Int)}(q:L.Perm L')(A:(keys L).Nodup)(k:Int):(drop k L).Perm (drop k L'):=by
 have a:(keys L').Nodup:=(q.map _).nodup_iff.1 A;rw[uI A,uI a];exact q.filter _
theorem RC{L L':List (Int×Int)}(A:L.Perm L')(q:(keys L).Nodup)(k v:Int):(put k v L).Perm (put k v L'):=by
 have a:(keys L').Nodup:=(A.map _).nodup_iff.1 q;exact(kY q k v).trans (((Nf A q k).cons _).trans (kY a k v).symm)
theorem kZ{L:List (Int×Int)}(q:(keys L).Nodup){k:Int}{e:Int×Int}:e∈drop k L↔e∈L/\e.1≠k:=by
 rw[uI q];simp
theorem r_{L:List (Int×Int)}(q:(keys L).Nodup)(k:Int):(keys (drop k L)).Nodup:=by
 rw[uI q];exact List.Nodup.sublist (List.Sublist.map _ List.filter_sublist) q
theorem Fx{L:List (Int×Int)}(q:(keys L).Nodup)(k:Int):k∉keys (drop k L):=by
 intro h;obtain⟨e,a,b⟩:=aks.1 h;exact((kZ q).1 a).2 b
theorem Kw{L:List (Int×Int)}(q:(keys L).Nodup)(k v:Int):(keys (put k v L)).Nodup:=by
 have a:=(kY q k v).map (·.1);refine a.nodup_iff.2 ?_;simp only[akF,ak6];exact⟨Fx q k,r_ q k⟩
theorem acs{L:List (Int×Int)}(q:(keys L).Nodup)(k v x:Int):get x (put k v L)=if x=k then some v else get x L:=by
 rw[RB (kY q k v) (Kw q k v)];have e:get x ((k,v)::drop k L)=if x=k then some v else get x (drop k L):=rfl
 rw[e];by_cases h:x=k
 ·rw[if_pos h,if_pos h]
 ·rw[if_neg h,if_neg h];cases a:get x L with
  |none=>
   rw[get_none]at a⊢;intro b;obtain⟨e,c,d⟩:=aks.1 b;exact a (aks.2 ⟨e,((kZ q).1 c).1,d⟩)
  |some w=>exact(get_mem (r_ q k)).2 ((kZ q).2 ⟨(get_mem q).1 a,h⟩)
theorem aai{L:List (Int×Int)}(q:(keys L).Nodup)(k x:Int):get x (drop k L)=if x=k then none else get x L:=by
 by_cases h:x=k
 ·rw[if_pos h,get_none,h];exact Fx q k
 ·rw[if_neg h];cases a:get x L with
  |none=>
   rw[get_none]at a⊢;intro b;obtain⟨e,c,d⟩:=aks.1 b;exact a (aks.2 ⟨e,((kZ q).1 c).1,d⟩)
  |some w=>exact(get_mem (r_ q k)).2 ((kZ q).2 ⟨(get_mem q).1 a,h⟩)
theorem drop_length{L:List (Int×Int)}{k:Int}(h:k∈keys L):(drop k L).length+1=L.length:=by
 induction L with
 |nil=>simp[keys]at h
 |cons e es b=>
  unfold drop;by_cases a:k=e.1
  ·rw[if_pos a];rfl
  ·rw[if_neg a];simp only[aln]
   have:k∈keys es:=by
    simp only[keys,akF,akR]at h;rcases h with h|h
    ·exact absurd h a
    ·exact h
   have:=b this;omega
theorem D9{L:List (Int×Int)}{k v:Int}:(put k v L).length=if k∈keys L then L.length else L.length+1:=by
 induction L with
 |nil=>simp[put,keys]
 |cons e es d=>
  unfold put;by_cases a:k=e.1
  ·rw[if_pos a,if_pos (by simp[keys,a])];rfl
  ·rw[if_neg a];simp only[aln,d];by_cases b:k∈keys es
   ·rw[if_pos b,if_pos (by simp only[keys,akF,akR];exact .inr b)]
   ·rw[if_neg b,if_neg (by simp only[keys,akF,akR];rintro(c|c);exact a c;exact b c)]
def rI(L:List (Int×Int))(w:Int):Prop:=w∈keys L/\∀x∈keys L,score L w<score L x\/score L w=score L x/\w<=x
theorem rI.unique{L:List (Int×Int)}{w q:Int}(h:rI L w)(A:rI L q):w=q:=by
 have a:=h.2 q A.1;have b:=A.2 w h.1;omega
theorem rI.perm{L L':List (Int×Int)}{w:Int}(q:L.Perm L')(A:(keys L).Nodup)(h:rI L w):rI L' w:=by
 refine⟨(q.map (·.1)).mem_iff.1 h.1,λx a=>?_⟩;rw[<-oL q A,<-oL q A];exact h.2 x ((q.map (·.1)).mem_iff.2 a)
def leI(x y:Int):Bool:=decide (x<=y)
def IS(L:List (Int×Int)):List Int:=(keys L).mergeSort leI
theorem Ng(a b c:Int)(h:leI a b=true)(k:leI b c=true):leI a c=true:=by
 unfold leI at*;simp only[decide_eq_true_eq]at*;omega
theorem Nh(a b:Int):(leI a b||leI b a)=true:=by
 unfold leI;simp only[Bool.or_eq_true,decide_eq_true_eq];omega
theorem xu(L:List (Int×Int)):(IS L).Perm (keys L):=List.mergeSort_perm _ _
theorem sY(L:List (Int×Int)):(IS L).Pairwise (λx y=>x<=y):=by
 have:=List.pairwise_mergeSort Ng Nh (keys L);exact this.imp λh=>by simpa[leI]using h
theorem kW:∀{a b:List Int},a.Perm b->a.Pairwise (λx y=>x<=y)->b.Pairwise (λx y=>x<=y)->a=b:=by
 intro a b c d e;exact c.eq_of_pairwise (λx y _ _ f g=>ω) d e
theorem GK{L L':List (Int×Int)}(q:L.Perm L'):IS L=IS L':=
 kW ((xu L).trans ((q.map _).trans (xu L').symm)) (sY L) (sY L')
theorem Kx(L:List (Int×Int)):(IS L).length=L.length:=by
 rw[(xu L).length_eq];simp[keys]
def yW(d:Int)(e:Int×Int):Option (Int×Int):=if 0<=e.2+d then none else some (e.1,e.2+d)
def tick(d:Int)(L:List (Int×Int)):List (Int×Int):=L.filterMap (yW d)
theorem Ky{d:Int}{L:List (Int×Int)}{e:Int×Int}:e∈tick d L↔(e.1,e.2-d)∈L/\e.2<0:=by
 unfold tick;rw[List.mem_filterMap];constructor
 ·rintro⟨x,a,h⟩;unfold yW at h;split at h
  ·cases h
  ·cases h;refine⟨?_,ω⟩;have:x=(x.1,x.2+d-d):=by ext<;>simp
   rw[<-this];exact a
 ·rintro⟨b,c⟩;refine⟨_,b,?_⟩;unfold yW;rw[if_neg (by simp only;omega)];congr 1;ext<;>simp
theorem Xs{d:Int}{L:List (Int×Int)}(q:(keys L).Nodup):(keys (tick d L)).Nodup:=by
 induction L with
 |nil=>exact q
 |cons e es a=>
  have f:e.1∉keys es/\(keys es).Nodup:=by simpa[keys]using q
  have a:=a f.2;unfold tick at a⊢;rw[ale];unfold yW;split
  ·exact a
  ·rename_i b c;split at c
   ·cases c
   ·cases c;simp only[keys,akF,ak6];refine⟨λg=>?_,a⟩;obtain⟨x,h,i⟩:=aks.1 g;have:=(Ky (d:=d) (L:=es) (e:=x)).1 h;exact f.1 (aks.2 ⟨_,this.1,i⟩)
theorem Xt{d:Int}{L L':List (Int×Int)}(q:L.Perm L'):(tick d L).Perm (tick d L'):=q.filterMap _
theorem BZ(d:Int)(L:List (Int×Int)):(tick d L).length<=L.length:=List.length_filterMap_le _ _
end Peers
end Go.Proofs.YtennbinbffdimaaGreat
namespace Go.Proofs
open Go.Shelf
def Tryz.keysA_ren:Go.Shelf.Ren:=⟨λ|7=>154|10=>216|n=>n,λ|23=>213|26=>3|3=>3|28=>225|0=>0|27=>224|33=>43|4=>4|n=>n,λ|n=>n⟩
theorem Tryz.keysA:Go.Proofs.SlLaysZI.n7 Tryz.prog Tryz.keysA_ren:={
 mixed:=κ
 f7:=⟨Tryz.f154.name,δ,Tryz.func154.trans (congrArg some κ)⟩
 f10:=⟨Tryz.f216.name,δ,Tryz.func216.trans (congrArg some κ)⟩
 t0:=Tryz.underlying0
 a0:=Tryz.isAgg0
 z0:=Tryz.sizeOf0
 v0:=Tryz.zeroValue0
 t4:=Tryz.underlying4
 a4:=Tryz.isAgg4
 z4:=Tryz.sizeOf4
 v4:=Tryz.zeroValue4
 t23:=Tryz.underlying213
 a23:=Tryz.isAgg213
 z23:=Tryz.sizeOf213
 v23:=Tryz.zeroValue213
 t26:=Tryz.underlying3
 a26:=Tryz.isAgg3
 z26:=Tryz.sizeOf3
 v26:=Tryz.zeroValue3
 t27:=Tryz.underlying224
 a27:=Tryz.isAgg224
 z27:=Tryz.sizeOf224
 v27:=Tryz.zeroValue224
 t28:=Tryz.underlying225
 a28:=Tryz.isAgg225
 z28:=Tryz.sizeOf225
 v28:=Tryz.zeroValue225
 t33:=Tryz.underlying43
 a33:=Tryz.isAgg43
 z33:=Tryz.sizeOf43
 v33:=Tryz.zeroValue43}
def Tryz.sortedA_ren:Go.Shelf.Ren:=⟨λ|6=>153|8=>214|9=>215|11=>271|13=>273|12=>272|23=>310|24=>311|14=>301|15=>302|16=>303|17=>304|18=>305|19=>306|20=>307|21=>308|22=>309|25=>329|26=>330|27=>331|28=>332|29=>333|30=>334|31=>341|n=>n,λ|26=>3|28=>225|24=>92|0=>0|3=>3|37=>88|48=>288|50=>53|4=>4|40=>372|39=>371|45=>169|5=>5|9=>9|51=>397|55=>401|57=>408|58=>409|33=>43|n=>n,λ|n=>n⟩
theorem Tryz.sortedA:Go.Proofs.SlLaysZI.n6 Tryz.prog Tryz.sortedA_ren:={
 mixed:=κ
 f6:=⟨Tryz.f153.name,δ,Tryz.func153.trans (congrArg some κ)⟩
 f8:=⟨Tryz.f214.name,δ,Tryz.func214.trans (congrArg some κ)⟩
 f11:=⟨Tryz.f271.name,δ,Tryz.func271.trans (congrArg some κ)⟩
 t0:=Tryz.underlying0
 a0:=Tryz.isAgg0
 z0:=Tryz.sizeOf0
 v0:=Tryz.zeroValue0
 t24:=Tryz.underlying92
 a24:=Tryz.isAgg92
 z24:=Tryz.sizeOf92
 v24:=Tryz.zeroValue92
 t26:=Tryz.underlying3
 a26:=Tryz.isAgg3
 z26:=Tryz.sizeOf3
 v26:=Tryz.zeroValue3
 t28:=Tryz.underlying225
 a28:=Tryz.isAgg225
 z28:=Tryz.sizeOf225
 v28:=Tryz.zeroValue225
 i26:=κ}
def Tryz.sortA_ren:Go.Shelf.Ren:=⟨λ|5=>215|8=>273|7=>272|19=>310|20=>311|10=>301|11=>302|12=>303|13=>304|14=>305|15=>306|16=>307|17=>308|18=>309|30=>329|31=>330|32=>331|33=>332|34=>333|35=>334|40=>341|n=>n,λ|23=>92|25=>3|3=>3|32=>88|22=>92|0=>0|44=>288|46=>53|4=>4|36=>372|35=>371|41=>169|5=>5|9=>9|53=>397|57=>401|63=>408|64=>409|n=>n,λ|n=>n⟩
theorem Tryz.sortA:Go.Proofs.SlLaysM.n5 Tryz.prog Tryz.sortA_ren:={
 mixed:=κ
 f5:=⟨Tryz.f215.name,δ,Tryz.func215.trans (congrArg some κ)⟩
 f7:=⟨Tryz.f272.name,δ,Tryz.func272.trans (congrArg some κ)⟩
 f8:=Tryz.func273.trans (congrArg some κ)
 f10:=⟨Tryz.f301.name,δ,Tryz.func301.trans (congrArg some κ)⟩
 f11:=⟨Tryz.f302.name,δ,Tryz.func302.trans (congrArg some κ)⟩
 f12:=⟨Tryz.f303.name,δ,Tryz.func303.trans (congrArg some κ)⟩
 f13:=⟨Tryz.f304.name,δ,Tryz.func304.trans (congrArg some κ)⟩
 f14:=⟨Tryz.f305.name,δ,Tryz.func305.trans (congrArg some κ)⟩
 f15:=⟨Tryz.f306.name,δ,Tryz.func306.trans (congrArg some κ)⟩
 f16:=⟨Tryz.f307.name,δ,Tryz.func307.trans (congrArg some κ)⟩
 f17:=⟨Tryz.f308.name,δ,Tryz.func308.trans (congrArg some κ)⟩
 f18:=⟨Tryz.f309.name,δ,Tryz.func309.trans (congrArg some κ)⟩
 f19:=Tryz.func310.trans (congrArg some κ)
 f20:=Tryz.func311.trans (congrArg some κ)
 f30:=⟨Tryz.f329.name,δ,Tryz.func329.trans (congrArg some κ)⟩
 f31:=Tryz.func330.trans (congrArg some κ)
 f32:=Tryz.func331.trans (congrArg some κ)
 f33:=⟨Tryz.f332.name,δ,Tryz.func332.trans (congrArg some κ)⟩
 f34:=⟨Tryz.f333.name,δ,Tryz.func333.trans (congrArg some κ)⟩
 f35:=⟨Tryz.f334.name,δ,Tryz.func334.trans (congrArg some κ)⟩
 f40:=⟨Tryz.f341.name,δ,Tryz.func341.trans (congrArg some κ)⟩
 t0:=Tryz.underlying0
 a0:=Tryz.isAgg0
 z0:=Tryz.sizeOf0
 v0:=Tryz.zeroValue0
 t3:=Tryz.underlying3
 a3:=Tryz.isAgg3
 z3:=Tryz.sizeOf3
 v3:=Tryz.zeroValue3
 t4:=Tryz.underlying4
 a4:=Tryz.isAgg4
 z4:=Tryz.sizeOf4
 v4:=Tryz.zeroValue4
 t5:=Tryz.underlying5
 a5:=Tryz.isAgg5
 z5:=Tryz.sizeOf5
 v5:=Tryz.zeroValue5
 t9:=Tryz.underlying9
 a9:=Tryz.isAgg9
 z9:=Tryz.sizeOf9
 v9:=Tryz.zeroValue9
 t22:=Tryz.underlying92
 a22:=Tryz.isAgg92
 z22:=Tryz.sizeOf92
 v22:=Tryz.zeroValue92
 t23:=Tryz.underlying92
 a23:=Tryz.isAgg92
 z23:=Tryz.sizeOf92
 v23:=Tryz.zeroValue92
 t25:=Tryz.underlying3
 a25:=Tryz.isAgg3
 z25:=Tryz.sizeOf3
 v25:=Tryz.zeroValue3
 t32:=Tryz.underlying88
 a32:=Tryz.isAgg88
 z32:=Tryz.sizeOf88
 v32:=Tryz.zeroValue88
 t35:=Tryz.underlying371
 a35:=Tryz.isAgg371
 z35:=Tryz.sizeOf371
 v35:=Tryz.zeroValue371
 t36:=Tryz.underlying372
 a36:=Tryz.isAgg372
 z36:=Tryz.sizeOf372
 v36:=Tryz.zeroValue372
 t41:=Tryz.underlying169
 a41:=Tryz.isAgg169
 z41:=Tryz.sizeOf169
 v41:=Tryz.zeroValue169
 t44:=Tryz.underlying288
 a44:=Tryz.isAgg288
 z44:=Tryz.sizeOf288
 v44:=Tryz.zeroValue288
 t46:=Tryz.underlying53
 a46:=Tryz.isAgg53
 z46:=Tryz.sizeOf53
 v46:=Tryz.zeroValue53
 t53:=Tryz.underlying397
 a53:=Tryz.isAgg397
 z53:=Tryz.sizeOf397
 v53:=Tryz.zeroValue397
 t57:=Tryz.underlying401
 a57:=Tryz.isAgg401
 z57:=Tryz.sizeOf401
 v57:=Tryz.zeroValue401
 t63:=Tryz.underlying408
 a63:=Tryz.isAgg408
 z63:=Tryz.sizeOf408
 v63:=Tryz.zeroValue408
 t64:=Tryz.underlying409
 a64:=Tryz.isAgg409
 z64:=Tryz.sizeOf409
 v64:=Tryz.zeroValue409}
end Go.Proofs
namespace Go.Proofs.YtennbinbffdimaaGreat
open Go Go.Vc
namespace Peers
def dL(n:Int):TV:=.int .i64 n
def dn(es:List (Int×Int×Nat)):List (TV×TV×Nat):=es.map λe=>(.int .i64 e.1,.int .i64 e.2.1,e.2.2)
def abs(es:List (Int×Int×Nat)):List (Int×Int):=es.map λe=>(e.1,e.2.1)
def yX(es:List (Int×Int×Nat))(c:Nat):Prop:=(∀e∈es,e.2.2<c)/\(es.map (·.2.2)).Nodup
def B4(h:af)(r:Nat)(L:List (Int×Int)):Prop:=∃es c,h[r]? =some (bX (dn es) c)/\abs es=L/\yX es c
theorem B4.ext{h q:af}{r:Nat}{L:List (Int×Int)}(m:B4 h r L)(e:Ext h q):B4 q r L:=by
 obtain⟨es,c,a,b⟩:=m;exact⟨es,c,by rw[e.same r (ak5.1 a).1,a],b⟩
theorem B4.only{S:Nat->Prop}{h q:af}{r:Nat}{L:List (Int×Int)}(m:B4 h r L)(o:ag S h q)(A:¬S r):B4 q r L:=by
 obtain⟨es,c,a,b⟩:=m;exact⟨es,c,by rw[o.same r (ak5.1 a).1 A,a],b⟩
theorem B4.lt{h:af}{r:Nat}{L:List (Int×Int)}(m:B4 h r L):r<h.size:=by
 obtain⟨es,c,a,b⟩:=m;exact(ak5.1 a).1
theorem mW(es:List (Int×Int×Nat)):dH ctx (.int .i64) (dn es):=by
 intro e a;obtain⟨x,_,rfl⟩:=aks.1 a;rfl
theorem B6(k:Int):∀es:List (Int×Int×Nat),eE (.int .i64 k) (dn es)=(get k (abs es)).map (akJ .i64)
 |[]=>rfl
 |e::es=>by
  have a:=B6 k es;unfold dn abs at a⊢;simp only[akF,eE,get,jR,decide_eq_true_eq];by_cases h:k=e.1
  ·rw[if_pos h,if_pos h];rfl
  ·rw[if_neg h,if_neg h];exact a
theorem acu(k:Int)(es:List (Int×Int×Nat)):Lz (.int .i64 k) (dn es)=(get k (abs es)).isSome:=by
 unfold Lz;rw[B6];simp
theorem Kz(k:Int)(es:List (Int×Int×Nat)):V5 (eE (.int .i64 k) (dn es)) (.int .i64 0)=.int .i64 (score (abs es) k):=by
 unfold V5 score;rw[B6];cases get k (abs es)<;>rfl
theorem acv(k v:Int){c:Nat}{es:List (Int×Int×Nat)}(q:yX es c):
 ∃j,jb (.int .i64 k) (.int .i64 v) c (dn es)=dn j/\abs j=put k v (abs es)/\yX j (fJ (.int .i64 k) c (dn es)):=by
 have key:∀es:List (Int×Int×Nat),(∃f,jb (.int .i64 k) (.int .i64 v) c (dn es)=dn f/\abs f=put k v (abs es)/\
  ((get k (abs es)=none/\f.map (·.2.2)=es.map (·.2.2)++[c])\/(get k (abs es)≠none/\f.map (·.2.2)=es.map (·.2.2)))):=by
  intro es
  induction es with
  |nil=>exact⟨[(k,v,c)],rfl,rfl,.inl ⟨rfl,rfl⟩⟩
  |cons e es p=>
   obtain⟨f,l,m,d⟩:=p;have d1:dn (e::es)=(.int .i64 e.1,.int .i64 e.2.1,e.2.2)::dn es:=rfl;have d2:abs (e::es)=(e.1,e.2.1)::abs es:=rfl;rw[d1,d2];simp only[jb,put,get,jR,decide_eq_true_eq];by_cases h:k=e.1
   ·rw[if_pos h,if_pos h,if_pos h];exact⟨(e.1,v,e.2.2)::es,rfl,rfl,.inr ⟨by simp,rfl⟩⟩
   ·rw[if_neg h,if_neg h,if_neg h,l,<-m];refine⟨e::f,rfl,rfl,?_⟩;rcases d with⟨d,g⟩|⟨d,g⟩
    ·exact .inl ⟨d,by simp[g]⟩
    ·exact .inr ⟨d,by simp[g]⟩
 obtain⟨f,l,m,d⟩:=key es;refine⟨f,l,m,?_⟩
 have r:fJ (.int .i64 k) c (dn es)=match get k (abs es)with|some _=>c|none=>c+1:=by
  unfold fJ;rw[B6];cases get k (abs es)<;>rfl
 rw[r];have o:∀e∈f,e.2.2∈f.map (·.2.2):=λe i=>aks.2 ⟨e,i,rfl⟩
 have n:∀x∈es.map (·.2.2),x<c:=λx s=>by
  obtain⟨e,i,rfl⟩:=aks.1 s;exact q.1 e i
 rcases d with⟨d,g⟩|⟨d,g⟩
 ·rw[d];refine⟨λe i=>?_,?_⟩
  ·have:=o e i;rw[g]at this;rcases List.mem_append.1 this with h|h
   ·exact Nat.lt_succ_of_lt (n _ h)
   ·rw[alm.1 h];exact Nat.lt_succ_self _
  ·rw[g];refine List.nodup_append.2 ⟨q.2,by simp,λa t b u=>?_⟩;rw[alm.1 u];have:=n a t;omega
 ·cases w:get k (abs es)with
  |none=>exact absurd w d
  |some v=>
   refine⟨λe i=>?_,by rw[g];exact q.2⟩;have:=o e i;rw[g]at this;exact n _ this
theorem RD(k:Int){c:Nat}:∀{es:List (Int×Int×Nat)},yX es c->∃a,fN (.int .i64 k) (dn es)=dn a/\abs a=drop k (abs es)/\yX a c/\a.Sublist es
 |[],q=>⟨[],rfl,rfl,q,List.Sublist.refl _⟩
 |e::es,q=>by
  have f:yX es c:=⟨λx b=>q.1 x (alc _ b),(ak6.1 q.2).2⟩;obtain⟨g,i,j,m,l⟩:=RD k f;have d1:dn (e::es)=(.int .i64 e.1,.int .i64 e.2.1,e.2.2)::dn es:=rfl;have d2:abs (e::es)=(e.1,e.2.1)::abs es:=rfl;rw[d1,d2];simp only[fN,drop,jR,decide_eq_true_eq];by_cases h:k=e.1
  ·rw[if_pos h,if_pos h];exact⟨es,rfl,rfl,f,List.sublist_cons_self _ _⟩
  ·rw[if_neg h,if_neg h,i,<-j];have d:=l.cons_cons e;refine⟨e::g,rfl,rfl,⟨λx b=>q.1 x (d.mem b),q.2.sublist (d.map _)⟩,d⟩
theorem aet(m:Nat):AnyZI.SortsIn Tryz.prog Tryz.sortedA_ren Fence.wide m:=
 ⟨λa off cap b W c d e=>callsIn_wide.2 (AnyM.slices_Sort_int Tryz.sortA a off cap b W c d e),
  λp cap W=>callsIn_wide.2 (AnyM.slices_Sort_int_none Tryz.sortA p cap W)⟩
def acw:Value->Option (DataW Unit×List MemPlace):=λ_=>some (.nil,[])
theorem aeu{q:TypeId}(A:Tryz.prog.underlying q=some (.int .i64))(x:Int×Int×Nat)(B:(akV .i64 x.1).wf=true):
 WideElems.rd Tryz.prog q acw ⟨(akJ .i64 x.1).val,(akJ .i64 x.2.1).val,x.2.2⟩=some (.int .i64 x.1,.nil):=by
 unfold WideElems.rd;have:=Maps.keyOf_int_mk (P:=Tryz.prog) A B;simp only[TV.val];rw[this];rfl
theorem owns{w:World}{r c:Nat}{es:List (Int×Int×Nat)}(q:w.heap[r]? =some (bX (dn es) c))(A:yX es c)(B:(keys (abs es)).Nodup)(E:∀k∈keys (abs es),(akV .i64 k).wf=true)(H:es.length<=maxLen):
 ∃D:DataW Unit,w.ownsMap Tryz.prog 3 acw r es.length D/\Maps.size D=es.length/\(Go.intKeys D).Perm (keys (abs es)):=by
 have g:bX (dn es) c=.map (es.map λx=>(⟨(akJ .i64 x.1).val,(akJ .i64 x.2.1).val,x.2.2⟩:MapEntry)).toArray c:=by
  unfold bX dn;rw[akD];rfl
 rw[g]at q;have h:Tryz.prog.underlying 3=some (.int .i64):=Tryz.underlying3
 have f:∀x∈es,WideElems.rd Tryz.prog 3 acw ⟨(akJ .i64 x.1).val,(akJ .i64 x.2.1).val,x.2.2⟩=some (.int .i64 x.1,.nil):=λx d=>
  aeu h x (E _ (aks.2 ⟨_,aks.2 ⟨x,d,rfl⟩,rfl⟩))
 refine⟨_,⟨_,c,q,⟨by simpa using H,⟨?_,?_,?_⟩,?_⟩,by simp,rfl⟩,?_,?_⟩
 ·intro x d;simp only[aks]at d;obtain⟨y,e,rfl⟩:=d;exact A.1 y e
 ·simp only[akD];exact A.2
 ·simp only[akD]
  have:(akZ ((λx:MapEntry=>x.key)∘λx:Int×Int×Nat=>(⟨(akJ .i64 x.1).val,(akJ .i64 x.2.1).val,x.2.2⟩:MapEntry)) es)=(keys (abs es)).map (λk=>Value.int .i64 k):=by
   unfold keys abs;simp only[akD];rfl
  rw[this];exact B.map _ (λa b i j=>i (by injection j))
 ·intro x d;simp only[aks]at d;obtain⟨y,e,rfl⟩:=d;exact⟨_,f y e⟩
 ·rw[Maps.size_eq,length_sorted];simp
 ·have l:(akZ (WideElems.rg Tryz.prog 3 acw) (es.map λx=>(⟨(akJ .i64 x.1).val,(akJ .i64 x.2.1).val,x.2.2⟩:MapEntry)))=es.map λx=>((akV .i64 x.1,DataW.nil):Lit×DataW Unit):=by
   rw[akD];refine List.map_congr_left λx d=>?_;simp only[Function.comp,WideElems.rg];rw[f x d];rfl
  rw[l];have m:=(WideShapes.sorted_perm (es.map λx=>((akV .i64 x.1,DataW.nil):Lit×DataW Unit))).map (λp=>Go.intOf p.1);refine m.trans ?_;rw[akD];unfold keys abs;rw[akD];exact List.Perm.refl _
section
variable{R:Value->af->Prop}{h:af}
def Up(A:Sl)(n:Nat):Prop:=∀l,A.a=some l->n<=l.b
theorem RE{r:Nat}{L:List (Int×Int)}(m:B4 h r L)(I:(keys L).Nodup)(J:∀k∈keys L,(akV .i64 k).wf=true)(A:L.length<1000000)
 (B:∀f s,Ext h f->Vc.Own 3 1 f s ((IS L).map dL)->Up s h.size->R (ak2 s).val f):
 bC Tryz.prog 154 (ak.vals [.map (some r)]) h λv i=>∃o:One,v=(TV.one o).val/\bC Tryz.prog 153 (ak.vals [.one o]) i R:=by
 obtain⟨es,c,n,rfl,K⟩:=m;have al:es.length=(abs es).length:=by simp[abs]
 intro w M;subst M;have N:=callsIn_wide.1 (AnyZI.keys_in Tryz.keysA Fence.wide 5 trivial rfl (some r) w);refine N.mono λe w1 O=>?_;obtain⟨P,rfl⟩:=O;refine⟨⟨rfl,rfl,rfl,λe=>by cases e⟩,_,P,⟨_,rfl⟩,rfl,?_⟩;intro W d;have Q:r<w.heap.size:=(ak5.1 n).1
 have S:W.heap[r]? =some (bX (dn es) c):=by
  rw[d];exact(akw w.heap _).same r Q▸n
 have p:es.length<=maxLen:=by unfold maxLen;omega
 obtain⟨D,T,u,U⟩:=owns S K I J p;have am:W.heap.size=w.heap.size+1:=by rw[d];simp
 have V:=AnyZI.keys_gives (ρ:=Tryz.keysA_ren) {Tryz.keysA with} Fence.wide 2 trivial rfl ω w.heap.size r es.length D W ω (by
  rw[cell?_eq];unfold ng;have X:W.heap=w.heap.push (.cells #[.map (some r)] (Tryz.keysA_ren.t 23)):=d;rw[X];simp) T
 have Y:=AnyZI.sorted_in Tryz.sortedA Fence.wide 5 trivial trivial trivial trivial rfl ω (aet _) (enters_of Tryz.func215 κ rfl) 216 #[.pointer (some ⟨w.heap.size,0,none⟩)] trivial (enters_of Tryz.func216 κ rfl) _ _ (by rw[u];exact p) (by rw[u];omega) W V;refine(callsIn_wide.1 Y).mono λe j Z=>?_;obtain⟨v,a,ab,hS,z,ao,b⟩:=Z
 have C:a.mergeSort (λx y=>decide (x<=y))=IS (abs es):=by
  refine kW ?_ ?_ (sY _)
  ·exact(List.mergeSort_perm _ _).trans ((hS.trans U).trans (xu _).symm)
  ·have:=List.pairwise_mergeSort Ng Nh a;exact this.imp λh=>by simpa[leI]using h
 have E:Ext w.heap W.heap:=by rw[d];exact akw _ _
 have F:Ext W.heap j.heap:=⟨b.size,b.block⟩;have ac:a.length=(IS (abs es)).length:=by rw[<-C,(List.mergeSort_perm _ _).length_eq]
 refine⟨⟨b.os,b.tape,b.output,λe=>by cases e⟩,v,ab,?_⟩;rw[C]at z
 have ad:∀l:List Int,akr (l.map dL)=l.map (λq=>Value.int .i64 q):=λl=>by
  induction l with
  |nil=>rfl
  |cons x xs ih=>simp only[akF,akr,ih];rfl
 rcases z.2 with⟨rfl,h0⟩|⟨g,cap,G,rfl,hg,ae,i,h2,h3,H⟩
 ·have:IS (abs es)=[]:=List.eq_nil_of_length_eq_zero ω;have:=B j.heap Sl.nil (E.trans F) (by rw[this];exact Vc.Own.nil _ _ _) (λl A=>by cases A);exact this
 ·refine B j.heap ⟨some ⟨g,0⟩,a.length,cap⟩ (E.trans F) ⟨?_,by rw[aku];exact ac.symm,i,.inr ⟨g,G.toList.drop a.length,rfl,?_,?_⟩⟩ ?_
  ·intro t ht;obtain⟨x,_,rfl⟩:=aks.1 ht;rfl
  ·rw[ae,ad];unfold row;rw[Nat.mul_one]at H;have:(akZ (λq=>Value.int .i64 q) (IS (abs es)))=G.toList.take a.length:=H.symm;rw[this,List.take_append_drop];rfl
  ·simp only[List.length_drop,Array.length_toList,h3,Nat.mul_one]
  ·intro l A;cases A;simp only;omega
end
end Peers
namespace Peers
structure Good(L:List (Int×Int)):Prop where
 one:(keys L).Nodup
 fit:∀k∈keys L,(akV .i64 k).wf=true
 low:∀e∈L,-1048576<=e.2/\e.2<0
def Valid(most bH decay:Int):Prop:=1<=most/\most<=16/\1<=bH/\bH<=1048576/\1<=decay/\decay<=1048576
structure Pe(h:af)(b r:Nat)(L:List (Int×Int))(most bH decay gone:Int):Prop where
 var:Var 215 h b (.agg [.map (some r),.i most,.i bH,.i decay,.i gone])
 map:B4 h r L
 good:Good L
 len:(L.length:Int)<=most
 cfg:Valid most bH decay
section
variable{R:Rq}{h h':af}{b r:Nat}{L:List (Int×Int)}{most bH decay gone:Int}
theorem Pe.ext(p:Pe h b r L most bH decay gone)(e:Ext h h'):Pe h' b r L most bH decay gone:=⟨p.var.ext e,p.map.ext e,p.good,p.len,p.cfg⟩
theorem Pe.only{S:Nat->Prop}(p:Pe h b r L most bH decay gone)(o:ag S h h')(q:¬S b)(A:¬S r):Pe h' b r L most bH decay gone:=⟨p.var.only o q,p.map.only o A,p.good,p.len,p.cfg⟩
theorem Pe.ne(p:Pe h b r L most bH decay gone):b≠r:=by
 rintro rfl;obtain⟨es,c,a,_⟩:=p.map;have:=p.var;unfold Var at this;rw[a]at this;cases this
theorem CN(g:Good L)(k:Int):-1048576<=score L k/\score L k<=0:=by
 unfold score;cases a:get k L with
 |none=>simp
 |some v=>
  have:=g.low _ ((get_mem g.one).1 a)
  grind
theorem ir{n top:Int}(q:R (akB (decide (1<=n/\n<=top))).val h):Cl 146 [.i n,.i top] h R:=by
 apply Fy;refine ID (λa=>?_) λa=>?_
 ·have:decide (1<=n/\n<=top)=decide (n<=top):=by simp_all
  rw[this]at q;exact q
 simp_all
theorem Fw(A:Valid most bH decay->∀h',Ext h h'->Pe h' (h.size+1) h.size [] most bH decay 0->R (akL (some ⟨h.size+1,0⟩)).val h')(q:¬Valid most bH decay->R (akL none).val h):
 Cl 78 [.i most,.i bH,.i decay] h R:=by
 apply Ir;refine ir ⟨_,rfl,?_⟩;refine akC (λc=>q (λa=>?_)) (λc=>?_)
 ·simp only[Bool.not_eq_true',decide_eq_false_iff_not]at c;exact c ⟨a.1,a.2.1⟩
 refine ir ⟨_,rfl,?_⟩;refine akC (λb=>q (λa=>?_)) (λb=>?_)
 ·simp only[Bool.not_eq_true',decide_eq_false_iff_not]at b;exact b ⟨a.2.2.1,a.2.2.2.1⟩
 refine ir ⟨_,rfl,?_⟩;refine akC (λd=>q (λa=>?_)) (λd=>?_)
 ·simp only[Bool.not_eq_true',decide_eq_false_iff_not]at d;exact d a.2.2.2.2
 simp only[Bool.not_eq_false',decide_eq_true_eq]at c b d;have a:Valid most bH decay:=⟨c.1,c.2,b.1,b.2,d.1,d.2⟩;have l:=akw h (bX [] 0);have m:(h.push (bX [] 0)).size=h.size+1:=by simp
 unfold cL;obtain⟨b,n,g,j,r⟩:=DN (h.push (bX [] 0)) (.agg [.map (some h.size),.i most,.i bH,.i decay,.i 0]) 215;rw[n];rw[m]at g⊢;have o:B4 (h.push (bX [] 0)) h.size []:=⟨[],0,by simp[dn],rfl,(λe f=>by cases f),alj⟩;exact A a b (l.trans j) ⟨g,o.ext j,⟨alj,(λk p=>by cases p),(λe f=>by cases f)⟩,by grind,a⟩
theorem D_(p:Pe h b r L most bH decay gone){k:Int}(q:R (TV.i (score L k)).val h):Cl 87 [.ptr (PT b),.i k] h R:=by
 apply xw;obtain⟨es,c,a,rfl,_⟩:=p.map;refine akO ⟨some r,p.var.ah rfl,dn es,c,a,mW es,_,Kz k es,q⟩
theorem RF(p:Pe h b r L most bH decay gone){k:Int}(q:R (akB (decide (score L k<=-bH))).val h):Cl 147 [.ptr (PT b),.i k] h R:=by
 apply vn;have a:=p.cfg;unfold Valid at a;refine akW ⟨bH,p.var.ah rfl,D_ p ⟨_,rfl,akv _,?_⟩⟩;rw[wrap_i64 ω ω];have:0-bH=-bH:=ω;rw[this];exact q
theorem KA(p:Pe h b r L most bH decay gone)(q:∀h' s,Ext h h'->Vc.Own 3 1 h' s ((IS L).map dL)->Up s h.size->R (ak2 s).val h'):
 Cl 85 [.ptr (PT b)] h R:=by
 apply xz;have c:=p.len;have a:=p.cfg;unfold Valid at a;refine akO ⟨some r,p.var.ah rfl,?_⟩;refine(RE p.map p.good.one p.good.fit ω λh' s x o u=>⟨s,rfl,q h' s x o u⟩)
theorem ints_at{h:af}{A:Sl}{l:List Int}(e:aj 1 h A (l.map dL)){i:Int}(q:0<=i)(E:i<l.length){K:Go.Vc.Loc->Prop}
 (B:∀p x,l[i.toNat]? =some x->ah h p.b (p.o+i.toNat*1) (.i x)->K p):0<=i/\i<A.len/\Nn A.a K:=by
 have b:=e.len;rw[aku]at b;refine e.read q ω λp t _ a c=>?_;rw[akY,Option.map_eq_some_iff]at a;obtain⟨x,d,rfl⟩:=a;exact B p x d c
theorem Xu{l:List Int}(q:l.Pairwise (λx y=>x<=y)){i j:Nat}{x y:Int}(A:i<=j)(B:l[i]? =some x)(E:l[j]? =some y):x<=y:=by
 obtain⟨a,rfl⟩:=akS.1 B;obtain⟨b,rfl⟩:=akS.1 E;rcases Nat.lt_or_eq_of_le A with h|h
 ·exact List.pairwise_iff_getElem.1 q i j a b h
 ·subst h;exact akz _
theorem TY(p:Pe h b r L most bH decay gone)(H:L≠[])(I:∀h' w,Ext h h'->rI L w->R (TV.i w).val h'):Cl 151 [.ptr (PT b)] h R:=by
 apply xA;delta gK iZ Ti yh gI bK aT bA;refine KA p λG s u o _=>⟨s,rfl,?_⟩;have X:=Kx L;have Y:=List.length_pos_iff.2 H;have J:=o.len;rw[aku]at J;have Z:=p.len;have K:=p.cfg;unfold Valid at K;have M:=sY L;have v:∀x,x∈IS L↔x∈keys L:=λx=>(xu L).mem_iff;refine ints_at o.elems ω ω λl n N O=>⟨n,O,?_⟩
 refine⟨λd A=>0<=d.2/\d.2<=(IS L).length/\Ext G A/\(∃q:Nat,(IS L)[q]? =some d.1/\q<max d.2 1)/\(∀(j:Nat)(x:Int),j<d.2->(IS L)[j]? =some x->score L d.1<score L x\/score L d.1=score L x/\d.1<=x),
  λd _=>((IS L).length-d.2).toNat,⟨by simp,by simp,akv _,⟨0,N,ω⟩,λj x g=>ω⟩,?_⟩
 rintro⟨a,i⟩ A ⟨B,P,x,⟨q,k,Q⟩,m⟩;simp only at B P k Q m⊢;have t:=(p.ext u).ext x;refine ID (λS=>?_) λS=>?_
 ·refine ints_at (o.ext x).elems B ω λl' y C T=>⟨y,T,?_⟩;obtain⟨es,c,D,U,_⟩:=t.map;have E:=Kz y es;have F:=Kz a es;rw[U]at E F;refine⟨some r,t.var.ah rfl,dn es,c,D,mW es,_,E,some r,t.var.ah rfl,dn es,c,D,mW es,_,F,?_⟩;rw[wrap_i64 ω ω];have V:q<=i.toNat:=ω;have ab:=Xu M V k C;refine ID (λW=>⟨⟨ω,ω,x,⟨i.toNat,C,ω⟩,λj z g f=>?_⟩,ω⟩) λW=>⟨⟨ω,ω,x,⟨q,k,ω⟩,λj z g f=>?_⟩,ω⟩
  ·by_cases e:j=i
   ·grind
   ·have:=m j z ω f;omega
  ·by_cases e:j=i
   ·grind
   ·exact m j z ω f
 ·refine I _ a (u.trans x) ⟨(v a).1 (akU k),λz f=>?_⟩;obtain⟨j,g,rfl⟩:=List.getElem_of_mem ((v z).2 f);exact m j _ ω (aky g)
def lower(s pts:Int):Int:=mx (s-mn pts 1048576) (-1048576)
theorem B7{s pts:Int}(q:-1048576<=s/\s<=0)(A:0<pts):-1048576<=lower s pts/\lower s pts<0:=by
 grind [mn,lower,mx]
def lN(most:Int)(L:List (Int×Int))(k pts:Int)(L':List (Int×Int))(g:Int):Prop:=
 (pts<=0/\L'=L/\g=0)\/
 (0<pts/\(k∈keys L\/(L.length:Int)<most)/\g=0/\L'=put k (lower (score L k) pts) L)\/
 (0<pts/\k∉keys L/\most<=L.length/\g=1/\∃w,rI L w/\L'=put k (lower 0 pts) (drop w L))
theorem Good.put(g:Good L){k v:Int}(q:(akV .i64 k).wf=true)(A:-1048576<=v/\v<0):Good (Peers.put k v L):=by
 have c:=kY g.one k v;refine⟨Kw g.one k v,λx d=>?_,λe a=>?_⟩
 ·have:=(c.map (·.1)).mem_iff.1 d;simp only[akF,akR]at this;rcases this with rfl|b
  ·exact q
  ·obtain⟨e,a,rfl⟩:=aks.1 b;exact g.fit _ (aks.2 ⟨e,((kZ g.one).1 a).1,rfl⟩)
 ·have:=c.mem_iff.1 a;rcases akR.1 this with rfl|b
  ·exact A
  ·exact g.low _ ((kZ g.one).1 b).1
theorem Good.drop(g:Good L)(k:Int):Good (Peers.drop k L):=
 ⟨r_ g.one k,λx b=>by
  obtain⟨e,a,rfl⟩:=aks.1 b;exact g.fit _ (aks.2 ⟨e,((kZ g.one).1 a).1,rfl⟩),λe a=>g.low _ ((kZ g.one).1 a).1⟩
theorem sZ{h:af}{r:Nat}{o:Obj}:ag (·=r) h (h.setIfInBounds r o):=
 ⟨by simp,λi a b=>by grind⟩
theorem y_{h:af}{r:Nat}{o:Obj}(q:r<h.size):(h.setIfInBounds r o)[r]? =some o:=by grind
theorem B4.put{es:List (Int×Int×Nat)}{c:Nat}{k v:Int}(q:r<h.size)(A:yX es c):B4 (h.setIfInBounds r (bX (jb (.i k) (.i v) c (dn es)) (fJ (.i k) c (dn es)))) r (Peers.put k v (abs es)):=by
 obtain⟨a,b,d,e⟩:=acv k v A;rw[b];exact⟨a,_,y_ q,d,e⟩
theorem B4.drop{es:List (Int×Int×Nat)}{c:Nat}{k:Int}(q:r<h.size)(A:yX es c):B4 (h.setIfInBounds r (bX (fN (.i k) (dn es)) c)) r (Peers.drop k (abs es)):=by
 obtain⟨a,b,d,e,_⟩:=RD k A;rw[b];exact⟨a,_,y_ q,d,e⟩
theorem aev{T:TypeId}{h:af}{b i:Nat}{ts:List TV}(v:Var T h b (.agg ts))(q:∀t∈ts,t.size=1)(A:i<ts.length){t:TV}(B:t.size=1)(E:∀ts:List TV,(∀t∈ts,t.size=1)->i<ts.length->(akr ts).take i++t.cells++(akr ts).drop (i+1)=akr (ts.set i t)):
 gT h b i 1/\∃q,t.put h b i=q/\Var T q b (.agg (ts.set i t))/\ag (·=b) h q/\q.size=h.size:=by
 have c:(akr ts).length=ts.length:=by simp_all [Nat.mul_one,ak.bG]
 have a:i+t.size<=(TV.agg ts).cells.length:=by grind [TV.cells]
 refine⟨iH v ω,_,rfl,?_,gV v a,gW v a⟩
 grind [Var,jJ,TV.cells]
theorem Xv(p:Pe h b r L most bH decay gone){k pts:Int}(hk:(akV .i64 k).wf=true)(hg:0<=gone/\gone<1000000)
 (O:∀h' L' g,lN most L k pts L' g->Pe h' b r L' most bH decay (gone+g)->ag (λi=>i=b\/i=r) h h'->R (akA []).val h'):Cl 81 [.ptr (PT b),.i k,.i pts] h R:=by
 apply yY;delta MJ uu wv Ti EV fP cE aT bA;have u:=p.cfg;unfold Valid at u;have a0:=p.len;intro J hJ;refine ID (λN=>O h L 0 (.inl ⟨N,rfl,rfl⟩) (by simp_all) (ag.refl _ _)) λN=>hJ _ _ ?_;intro J2 ab
 have last:∀(l:af)(s:List (Int×Int))(g:Int),Pe l b r s most bH decay (gone+g)->ag (λi=>i=b\/i=r) h l->lN most L k pts (Peers.put k (lower (score s k) pts) s) g->
  (k∈keys s\/s.length<most)->J2 PUnit.unit l:=by
  intro l s g j A hf B;refine ab _ _ ?_;have C:=j.map.lt;obtain⟨es,c,m,rfl,P⟩:=j.map;have ac:=CN j.good k;refine⟨some r,j.var.ah rfl,some r,j.var.ah rfl,dn es,c,m,mW es,_,Kz k es,dn es,c,m,mW es,?_⟩;have a1:0<mn pts 1048576/\mn pts 1048576<=1048576:=by grind [mn]
  rw[wrap_i64 ω ω];have ad:=B7 (pts:=pts) ac ω;have x:=sZ (h:=l) (r:=r) (o:=bX (jb (.i k) (.i (lower (score (abs es) k) pts)) c (dn es)) (fJ (.i k) c (dn es)));refine O _ _ g hf ⟨j.var.only x j.ne,B4.put C P,j.good.put hk ad,?_,p.cfg⟩ (A.trans (x.mono λi q=>.inr q));have a2:=j.len
  grind [absurd,D9]
 obtain⟨es,c,m,Q,P⟩:=p.map;have A:=Kz k es;refine⟨some r,p.var.ah rfl,dn es,c,m,mW es,_,A,?_⟩;have S:=acu k es;rw[Q]at S;rw[S]
 have T:(get k L).isSome=true↔k∈keys L:=by
  cases ae:get k L with
  |none=>grind [get_none]
  |some v=>simp only[Option.isSome_some,true_iff];exact aks.2 ⟨_,(get_mem p.good.one).1 ae,rfl⟩
 intro J3 U
 have V:=λB=>
  U _ _ (akO (last h L 0 (by grind) (ag.refl _ _) (.inr (.inl ⟨ω,B,rfl,rfl⟩)) B))
 refine akC (λD=>?_) (λD=>V (.inl (T.1 (by grind))));have W:k∉keys L:=λE=>by rw[T.2 E]at D;cases D
 have al:(dn es).length=L.length:=by rw[<-Q];simp[dn,abs]
 refine⟨some r,p.var.ah rfl,dn es,c,m,most,p.var.ah rfl,?_⟩;rw[al];by_cases y:most<=(L.length:Int)
 ·dsimp only;rw[decide_eq_true y];refine U _ _ (akW ⟨some r,p.var.ah rfl,?_⟩);refine TY p (by rintro rfl;simp at y;omega) λl w F X=>⟨w,rfl,F,?_⟩;have j:=p.ext F;have C:=j.map.lt;obtain⟨z,G,am,ao,ap⟩:=j.map;refine⟨dn z,G,am,mW z,?_⟩;have x:=sZ (h:=l) (r:=r) (o:=bX (fN (.i w) (dn z)) G);have m2:=B4.drop (k:=w) C ap;have Y:=j.var.only x j.ne;refine⟨gone,Y.ah rfl,?_⟩
  obtain⟨w3,H,e3,v3,Z,s3⟩:=aev (i:=4) (t:=.i (gone+1)) Y (by simp[ak1]) (by simp) rfl (λts l q=>by
   match ts,l,q with
   |[a,b,c,d,e],l,_=>
    have g:∀t∈[a,b,c,d,e],t.cells.length=1:=λt I=>by rw[TV.ai];exact l t I
    obtain⟨a',ha⟩:=akN.1 (g a (by simp));obtain⟨b',m⟩:=akN.1 (g b (by simp));obtain⟨c',u⟩:=akN.1 (g c (by simp));obtain⟨d',K⟩:=akN.1 (g d (by simp));obtain⟨e',M⟩:=akN.1 (g e (by simp));simp[akr,ha,m,u,K,M]
   |a::b::c::d::e::f::ar,l,_=>
    have g:∀t∈a::b::c::d::e::f::ar,t.cells.length=1:=λt I=>by rw[TV.ai];exact l t I
    obtain⟨a',ha⟩:=akN.1 (g a (by simp));obtain⟨b',m⟩:=akN.1 (g b (by simp));obtain⟨c',u⟩:=akN.1 (g c (by simp));obtain⟨d',K⟩:=akN.1 (g d (by simp));obtain⟨e',M⟩:=akN.1 (g e (by simp));simp[akr,ha,m,u,K,M])
  refine⟨w3,?_⟩;rw[wrap_i64 (n:=gone+1) ω ω];have aw:(TV.i (gone+1)).put (l.setIfInBounds r (bX (fN (.i w) (dn z)) G)) b (0+4)=H:=e3;rw[aw];have a3:=drop_length (X.1)
  have aE:score (Peers.drop w L) k=0:=by
   unfold score;rw[aai p.good.one];split
   ·rfl
   ·rw[get_none.2 W];rfl
  have p3:Pe H b r (Peers.drop w L) most bH decay (gone+1):=
   ⟨v3,by rw[<-ao];exact m2.only Z (λE=>j.ne E.symm),p.good.drop w,ω,p.cfg⟩
  refine last H (Peers.drop w L) 1 p3 (((ak9 F).trans (x.mono λi q=>.inr q)).trans (Z.mono λi q=>.inl q)) ?_ (.inr ω);rw[aE];exact .inr (.inr ⟨ω,W,y,rfl,w,X,rfl⟩)
 ·dsimp only;rw[decide_eq_false y];exact V (.inr ω)
end
end Peers
namespace Peers
theorem tc{α q:Type}{f g:α->Option q}:∀{l:List α},(∀x∈l,f x=g x)->l.filterMap f=l.filterMap g
 |[],_=>rfl
 |x::l,h=>by
  rw[ale,ale,h x (ald ..),tc (λy a=>h y (alc _ a))]
def p_(d:Int)(e:Int×Int×Nat):Option (Int×Int×Nat):=if 0<=e.2.1+d then none else some (e.1,e.2.1+d,e.2.2)
def part(d:Int)(s:Nat->Bool)(es:List (Int×Int×Nat)):List (Int×Int×Nat):=es.filterMap λe=>if s e.2.2 then p_ d e else some e
def more(s:Nat->Bool)(b:Nat):Nat->Bool:=λn=>s n||decide (n=b)
theorem CO{d:Int}{e y:Int×Int×Nat}(h:p_ d e=some y):y.1=e.1/\y.2.2=e.2.2:=by
 unfold p_ at h
 grind
theorem KB{d:Int}{s:Nat->Bool}{es:List (Int×Int×Nat)}{y:Int×Int×Nat}(h:y∈part d s es):∃e∈es,y.1=e.1/\y.2.2=e.2.2/\(s e.2.2=false->y=e):=by
 obtain⟨e,a,b⟩:=List.mem_filterMap.1 h;refine⟨e,a,?_⟩;cases c:s e.2.2 with
 |true=>
  rw[c]at b
  grind [CO]
 |false=>
  simp_all
theorem Xw{d:Int}{s:Nat->Bool}{b:Nat}:∀{es:List (Int×Int×Nat)},(∀e∈es,e.2.2≠b)->part d (more s b) es=part d s es:=by
 intro es h;refine tc λe a=>?_;have:more s b e.2.2=s e.2.2:=by unfold more;grind
 grind
theorem Xx(k:Int)(e:Int×Int×Nat)(es:List (Int×Int×Nat))(h:k≠e.1):fN (.i k) (dn (e::es))=(.i e.1,.i e.2.1,e.2.2)::fN (.i k) (dn es):=by
 have d1:dn (e::es)=(.i e.1,.i e.2.1,e.2.2)::dn es:=rfl;rw[d1];simp only[fN,jR,decide_eq_true_eq,if_neg h]
theorem aaj(k v:Int)(c:Nat)(e:Int×Int×Nat)(es:List (Int×Int×Nat))(h:k≠e.1):jb (.i k) (.i v) c (dn (e::es))=(.i e.1,.i e.2.1,e.2.2)::jb (.i k) (.i v) c (dn es):=by
 have d1:dn (e::es)=(.i e.1,.i e.2.1,e.2.2)::dn es:=rfl;rw[d1];simp only[jb,jR,decide_eq_true_eq,if_neg h]
theorem Ni{d:Int}{s:Nat->Bool}{x:Int×Int×Nat}{c:Nat}(A:s x.2.2=false):∀{es:List (Int×Int×Nat)},x∈es->(keys (abs es)).Nodup->(es.map (·.2.2)).Nodup->
 (p_ d x=none->fN (.i x.1) (dn (part d s es))=dn (part d (more s x.2.2) es))/\
 (∀y,p_ d x=some y->jb (.i x.1) (.i y.2.1) c (dn (part d s es))=dn (part d (more s x.2.2) es)):=by
 intro es
 induction es with
 |nil=>simp_all
 |cons e es r=>
  intro t F u;have l:e.1∉keys (abs es)/\(keys (abs es)).Nodup:=by simp_all [keys,abs]
  have g:=ak6.1 u
  have b:∀s,part d s (e::es)=(match(if s e.2.2 then p_ d e else some e)with|some y=>y::part d s es|none=>part d s es):=λs=>by
   unfold part;rw[ale];cases(if s e.2.2 then p_ d e else some e)<;>rfl
  rcases akR.1 t with rfl|j
  ·have v:part d (more s x.2.2) es=part d s es:=Xw λe w B=>g.1 (aks.2 ⟨e,w,B⟩);have k:more s x.2.2 x.2.2=true:=by unfold more;simp
   rw[b s,b (more s x.2.2),A,k,v];simp only[Bool.false_eq_true,if_false];have d1:dn (x::part d s es)=(.i x.1,.i x.2.1,x.2.2)::dn (part d s es):=rfl;refine⟨λa=>?_,λy a=>?_⟩
   ·simp_all [fN,jR]
   ·obtain⟨C,D⟩:=CO a;rw[a,d1];have d2:dn (y::part d s es)=(.i y.1,.i y.2.1,y.2.2)::dn (part d s es):=rfl;simp only[jb,jR,decide_eq_true_eq,if_true];rw[d2,C,D]
  ·have m:x.1≠e.1:=by
    intro h;exact l.1 (aks.2 ⟨(x.1,x.2.1),aks.2 ⟨x,j,rfl⟩,h⟩)
   have E:e.2.2≠x.2.2:=by
    intro h;exact g.1 (aks.2 ⟨x,j,h.symm⟩)
   have k:more s x.2.2 e.2.2=s e.2.2:=by unfold more;rw[decide_eq_false E,Bool.or_false]
   obtain⟨n,o⟩:=r j l.2 g.2;rw[b s,b (more s x.2.2),k];cases f:(if s e.2.2 then p_ d e else some e)with
   |none=>exact⟨n,o⟩
   |some y=>
    have p:y.1=e.1:=by
     cases q:s e.2.2 with
     |true=>rw[q,if_pos rfl]at f;exact(CO f).1
     |false=>rw[q,if_neg (by simp)]at f;cases f;rfl
    simp only;refine⟨λa=>?_,λz a=>?_⟩
    ·rw[Xx _ _ _ (by rw[p];exact m),n a];rfl
    ·rw[aaj _ _ _ _ _ (by rw[p];exact m),o z a];rfl
theorem Xy(d:Int)(es:List (Int×Int×Nat)):part d (λ_=>false) es=es:=by
 unfold part;simp
theorem aak{d:Int}{s:Nat->Bool}{es:List (Int×Int×Nat)}(h:∀e∈es,s e.2.2=true):abs (part d s es)=tick d (abs es):=by
 unfold part tick abs;rw[List.map_filterMap,List.filterMap_map];refine tc λe a=>?_;rw[h e a,if_pos rfl];unfold p_ yW
 grind
theorem Is{es:List (Int×Int×Nat)}{x:Int×Int×Nat}(q:x∈es):get x.1 (abs es)≠none:=by
 intro a;rw[get_none]at a;exact a (aks.2 ⟨(x.1,x.2.1),aks.2 ⟨x,q,rfl⟩,rfl⟩)
section
variable{R:Rq}{h h':af}{b r:Nat}{L:List (Int×Int)}{most bH decay gone:Int}
def O5(q:Nat)(es:List (Int×Int×Nat))(h:af):Nat:=match h[q]? with
 |some (.mapIter _ _ seen _)=>(es.filter λe=>!seen.contains e.2.2).length
 |_=>0
theorem Xz{es:List (Int×Int×Nat)}{seen:Array Nat}{x:Int×Int×Nat}(q:x∈es)(A:seen.contains x.2.2=false):
 (es.filter λe=>!(seen.push x.2.2).contains e.2.2).length<(es.filter λe=>!seen.contains e.2.2).length:=by
 induction es with
 |nil=>cases q
 |cons e es a=>
  have b:∀es:List (Int×Int×Nat),(es.filter λe=>!(seen.push x.2.2).contains e.2.2).length<=(es.filter λe=>!seen.contains e.2.2).length:=λes=>by
   induction es with
   |nil=>simp
   |cons e es a=>
    grind
  grind
theorem contains_push(seen:Array Nat)(b n:Nat):(seen.push b).contains n=more (λn=>seen.contains n) b n:=by
 unfold more;rw[Bool.eq_iff_iff,Bool.or_eq_true,decide_eq_true_eq,Array.contains_iff_mem,Array.contains_iff_mem,Array.mem_push]
theorem Good.tick(g:Good L)(q:1<=decay):Good (Peers.tick decay L):=by
 refine⟨Xs g.one,λx b=>?_,λe a=>?_⟩
 ·obtain⟨e,a,rfl⟩:=aks.1 b;exact g.fit _ (aks.2 ⟨_,(Ky.1 a).1,rfl⟩)
 ·obtain⟨c,d⟩:=Ky.1 a;have:=g.low _ c;omega
theorem XA(p:Pe h b r L most bH decay gone)(hr:∀h',Pe h' b r (tick decay L) most bH decay gone->ag (λi=>i=b\/i=r) h h'->R (akA []).val h'):
 Cl 102 [.ptr (PT b)] h R:=by
 apply yZ;delta MJ uu zP U_ Dk EV fP LP aT;have ab:=p.cfg;unfold Valid at ab;have ac:=p.map.lt;have a4:=p.var.lt;have ad:=p.ne;have C:=p.good;obtain⟨es,c,O,D,k⟩:=p.map;have P:(keys (abs es)).Nodup:=by rw[D];exact C.one
 refine akO ⟨some r,p.var.ah rfl,dn es,c,O,?_⟩;have Q:=akw h (.mapIter (some r) c #[] c);refine⟨λ_ l=>∃seen,l[h.size]? =some (.mapIter (some r) c seen c)/\l[r]? =some (bX (dn (part decay (λn=>seen.contains n) es)) c)/\ag (λi=>i=r) h l,λ_ l=>O5 h.size es l,⟨#[],by simp,?_,ak9 Q⟩,?_⟩
 ·rw[Q.same r ac,O]
  have:part decay (λn=>(#[]:Array Nat).contains n) es=es:=by
   have e:(λn=>(#[]:Array Nat).contains n)=λ_=>false:=by funext n;simp
   rw[e,Xy]
  rw[this]
 rintro _ a ⟨seen,E,F,g⟩;have S:=p.var.only g ad
 have T:∀y∈part decay (λn=>seen.contains n) es,y.2.2<c:=λy m=>by
  obtain⟨e,j,_,d,_⟩:=KB m;rw[d];exact k.1 e j
 have U:∀f:List (Int×Int×Nat),(f.map (·.2.2)).Nodup->((part decay (λn=>seen.contains n) f).map (·.2.2)).Nodup:=λf=>by
  induction f with
  |nil=>intro _;exact alj
  |cons e f ih=>
   intro G;obtain⟨n1,n2⟩:=ak6.1 G
   have hp:part decay (λn=>seen.contains n) (e::f)=(match(if seen.contains e.2.2 then p_ decay e else some e)with|some y=>y::part decay (λn=>seen.contains n) f|none=>part decay (λn=>seen.contains n) f):=by
    unfold part;rw[ale];cases(if seen.contains e.2.2 then p_ decay e else some e)<;>rfl
   rw[hp];cases H:(if seen.contains e.2.2 then p_ decay e else some e)with
   |none=>grind
   |some y=>
    have m:y.2.2=e.2.2:=by
     split at H
     ·exact(CO H).2
     ·cases H;rfl
    simp only[akF,ak6];refine⟨λq=>?_,ih n2⟩;obtain⟨z,hz,d⟩:=aks.1 q;obtain⟨e',ae,_,u,_⟩:=KB hz;exact n1 (aks.2 ⟨e',ae,by rw[<-u,d,m]⟩)
 refine⟨rfl,r,c,c,seen,dn (part decay (λn=>seen.contains n) es),c,E,F,λe j=>?_,akI _,λal=>?_,λe j t=>?_⟩
 ·obtain⟨y,m,rfl⟩:=aks.1 j;exact T y m
 ·
  have am:∀e∈es,seen.contains e.2.2=true:=λe j=>by
   cases V:seen.contains e.2.2 with
   |true=>rfl
   |false=>
    have ao:e∈part decay (λn=>seen.contains n) es:=List.mem_filterMap.2 ⟨e,j,by show(if seen.contains e.2.2=true then p_ decay e else some e)=some e;rw[V,if_neg (by simp)]⟩;have:=al _ (aks.2 ⟨e,ao,rfl⟩);rw[<-V];exact this
  refine hr a ⟨S,⟨_,c,F,?_,⟨T,U es k.2⟩⟩,C.tick ω,?_,p.cfg⟩ (g.mono λi w=>.inr w)
  ·rw[aak am,D]
  ·have a:=BZ decay L;have d:=p.len;omega
 ·obtain⟨x,q,rfl⟩:=aks.1 j;simp only at t;obtain⟨e0,A,_,ap,ar⟩:=KB q;have aw:x=e0:=ar (by rw[<-ap];exact t);subst aw;have aE:h.size<a.size:=(ak5.1 E).1;have B:=sZ (h:=a) (r:=h.size) (o:=.mapIter (some r) c (seen.push x.2.2) c)
  have I:(a.setIfInBounds h.size (.mapIter (some r) c (seen.push x.2.2) c))[r]? =some (bX (dn (part decay (λn=>seen.contains n) es)) c):=by
   rw[B.same r (by have:=g.size;omega) ω,F]
  have W:(a.setIfInBounds h.size (.mapIter (some r) c (seen.push x.2.2) c))[h.size]? =some (.mapIter (some r) c (seen.push x.2.2) c):=y_ aE;have J:=S.only B ω
  have a0:ag (λi=>i=r) h (a.setIfInBounds h.size (.mapIter (some r) c (seen.push x.2.2) c)):=
   ⟨ak3 g.size B.size,λi w G=>(B.same i (Nat.lt_of_lt_of_le w g.size) ω).trans (g.same i w G)⟩
  have a5:(a.setIfInBounds h.size (.mapIter (some r) c (seen.push x.2.2) c)).size=a.size:=by simp
  generalize a.setIfInBounds h.size (.mapIter (some r) c (seen.push x.2.2) c)=d at*;refine⟨rfl,r,c,seen,dn (part decay (λn=>seen.contains n) es),c,(.i x.1,.i x.2.1,x.2.2),W,I,aks.2 ⟨x,q,rfl⟩,?_,x.1,rfl,x.2.1,rfl,decay,J.ah rfl,?_⟩
  ·have:(dn (part decay (λn=>seen.contains n) es)).map (λx=>x.2.2)=(part decay (λn=>seen.contains n) es).map (·.2.2):=by
    unfold dn;rw[akD];rfl
   rw[this];exact U es k.2
  have a1:=C.low (x.1,x.2.1) (by rw[<-D];exact aks.2 ⟨x,A,rfl⟩);simp only at a1;dsimp only;rw[wrap_i64 (n:=x.2.1+decay) ω ω]
  have X:(λn=>(seen.push x.2.2).contains n)=more (λn=>seen.contains n) x.2.2:=by
   funext n;exact contains_push seen x.2.2 n
  have a2:r<d.size:=by have:=g.size;omega
  have Y:∀o:Obj,o=bX (dn (part decay (λn=>(seen.push x.2.2).contains n) es)) c->
   (∃seen,(d.setIfInBounds r o)[h.size]? =some (.mapIter (some r) c seen c)/\(d.setIfInBounds r o)[r]? =some (bX (dn (part decay (λn=>seen.contains n) es)) c)/\ag (λi=>i=r) h (d.setIfInBounds r o))/\O5 h.size es (d.setIfInBounds r o)<O5 h.size es a:=by
   rintro o rfl;have Z:=sZ (h:=d) (r:=r) (o:=bX (dn (part decay (λn=>(seen.push x.2.2).contains n) es)) c);have K:=Z.same h.size ω ω;rw[W]at K;refine⟨⟨seen.push x.2.2,K,y_ a2,a0.trans Z⟩,?_⟩;unfold O5;rw[K,E];exact Xz A t
  refine ID (λM=>?_) λM=>?_
  ·refine⟨some r,J.ah rfl,dn (part decay (λn=>seen.contains n) es),c,I,mW _,?_⟩;have N:p_ decay x=none:=by unfold p_;rw[if_pos M]
   have:=(Ni (c:=c) (s:=λn=>seen.contains n) t A P k.2).1 N;rw[this,<-X];exact Y _ rfl
  ·refine⟨some r,J.ah rfl,dn (part decay (λn=>seen.contains n) es),c,I,mW _,?_⟩;have N:p_ decay x=some (x.1,x.2.1+decay,x.2.2):=by unfold p_;rw[if_neg M]
   have u:=(Ni (c:=c) (s:=λn=>seen.contains n) t A P k.2).2 _ N;simp only at u
   have a3:fJ (.i x.1) c (dn (part decay (λn=>seen.contains n) es))=c:=by
    unfold fJ;rw[B6];have:=Is q;cases hg:get x.1 (abs (part decay (λn=>seen.contains n) es))with
    |none=>exact absurd hg this
    |some v=>rfl
   rw[u,a3,<-X];exact Y _ rfl
end
end Peers
namespace Clock
def CI(T:TypeId)(h:af)(b:Nat)(n w:Int):Prop:=h[b]? =some (row [.i n,.i w] T)
theorem CI.now{T:TypeId}{h:af}{b:Nat}{n w:Int}(q:CI T h b n w):ah h b 0 (.i n):=yb q rfl
theorem CI.win{T:TypeId}{h:af}{b:Nat}{n w:Int}(q:CI T h b n w):ah h b 1 (.i w):=yb q rfl
theorem CI.lt{T:TypeId}{h:af}{b:Nat}{n w:Int}(q:CI T h b n w):b<h.size:=kO q
theorem CI.only{T:TypeId}{h q:af}{b:Nat}{n w:Int}{S:Nat->Prop}(A:CI T h b n w)(B:ag S h q)(E:¬S b):CI T q b n w:=by
 have a:=A.lt;unfold CI at*;rw[B.same b a E,A]
theorem CI.ext{T:TypeId}{h q:af}{b:Nat}{n w:Int}(A:CI T h b n w)(e:Ext h q):CI T q b n w:=by
 have a:=A.lt;unfold CI at*;rw[e.same b a,A]
def fB(w:Int):Int:=mn (mx w 1) 64
theorem CP(w:Int):1<=fB w/\fB w<=64:=by unfold fB mn mx;omega
section
variable{R:Rq}{h:af}{b:Nat}{n w:Int}
theorem Fg{q:Int}(A:∀a,CI 217 a h.size 0 (fB q)->Ext h a->a.size=h.size+1->R (akL (PT h.size)).val a):Cl 79 [.i q] h R:=by
 apply Iu;delta nH fW fD;exact A _ (vT _ _ _) (vU _ _ _) (sy _ _ _)
theorem Fz(q:CI 217 h b n w)(A:R (TV.i n).val h):Cl 98 [.ptr (PT b)] h R:=by
 apply nK;delta aD dJ dX aT bA;exact jS q.now A
theorem VG(q:R (TV.i 0).val h):Cl 98 [.ptr none] h R:=by
 apply nK;delta aD dJ dX aT bA;exact q
theorem XB(q:CI 217 h b n w)(B:n<1073741824)(E:0<=n)(A:∀a,CI 217 a b (n+1) w->ag (·=b) h a->a.size=h.size->R (akB true).val a):Cl 101 [.ptr (PT b)] h R:=by
 apply jl;delta wv aO cE fE lq;refine jS q.now ?_;rw[akK];refine⟨λc=>ω,λ_=>?_⟩;refine jS q.now ?_;refine⟨iH q (by simp),?_⟩;rw[wrap_i64 ω ω];exact A _ (jJ q (by simp[ak1])) (gV q (by simp[ak1])) (gW q (by simp[ak1]))
theorem aal(q:CI 217 h b n w)(A:1073741824<=n)(B:R (akB false).val h):Cl 101 [.ptr (PT b)] h R:=by
 apply jl;delta wv aO cE fE lq;refine jS q.now ?_;exact ID (λ_=>B) λa=>absurd A a
theorem RG(q:R (akB false).val h):Cl 101 [.ptr none] h R:=by
 apply jl;delta wv aO cE fE lq;exact q
theorem yl(q:CI 217 h b n w)(B:0<=n)(E:n<=1073741824)(H:1<=w)(I:w<=64)(A:R (TV.i (mx (n-w) 0)).val h):Cl 107 [.ptr (PT b)] h R:=by
 apply xB;delta aD dX bA;refine jS q.now ?_;refine jS q.win ?_;rw[wrap_i64 ω ω];exact A
def vt(n q slot:Int):Bool:=decide (q<slot)&&decide (slot<=n)
theorem sI(B:CI 217 h b n w){A slot:Int}(q:R (akB (vt n A slot)).val h):Cl 263 [.ptr (PT b),.i A,.i slot] h R:=by
 apply xC;delta aO lq;refine akW ?_;unfold vt at q;refine akC (λa=>?_) (λa=>?_)
 ·refine jS B.now ?_;rw[a]at q;exact q
 ·rw[a]at q;exact q
def zS(n w slot:Int):Bool:=decide (mx (n-w) 0<=slot)&&decide (slot<=mn (n+1) 1073741824)
theorem XC(A:CI 217 h b n w)(B:0<=n)(E:n<=1073741824)(H:1<=w)(I:w<=64){slot:Int}(q:R (akB (zS n w slot)).val h):Cl 262 [.ptr (PT b),.i slot] h R:=by
 apply za;delta fk aO cE lq;refine akW ?_;refine yl A B E H I ⟨_,rfl,?_⟩;unfold zS at q;refine akC (λa=>?_) (λa=>?_)
 ·refine jS A.now ?_;rw[a]at q;rw[wrap_i64 ω ω];exact q
 ·rw[a]at q;exact q
theorem CG{q:Int}(A:∀a,CI 183 a h.size 0 (fB q)->Ext h a->a.size=h.size+1->R (akL (PT h.size)).val a):Cl 95 [.i q] h R:=by
 apply Ar;delta nH fW fD;refine ID (λb=>?_) λb=>akK.2 ⟨λc=>?_,λc=>?_⟩
 ·have e:fB q=1:=by unfold fB mn mx;omega
  rw[e]at A;exact A _ (vT _ _ _) (vU _ _ _) (sy _ _ _)
 ·have e:fB q=64:=by unfold fB mn mx;omega
  rw[e]at A;exact A _ (vT _ _ _) (vU _ _ _) (sy _ _ _)
 ·have e:fB q=q:=by unfold fB mn mx;omega
  rw[e]at A;exact A _ (vT _ _ _) (vU _ _ _) (sy _ _ _)
theorem Ea(q:CI 183 h b n w)(B:n<1073741824)(E:0<=n)(A:∀a,CI 183 a b (n+1) w->ag (·=b) h a->a.size=h.size->R (akB true).val a):Cl 108 [.ptr (PT b)] h R:=by
 apply jA;delta wv aO cE fE lq;refine jS q.now ?_;rw[akK];refine⟨λc=>ω,λ_=>?_⟩;refine jS q.now ?_;refine⟨iH q (by simp),?_⟩;rw[wrap_i64 ω ω];exact A _ (jJ q (by simp[ak1])) (gV q (by simp[ak1])) (gW q (by simp[ak1]))
theorem XD(q:CI 183 h b n w)(A:n=1073741824)(B:R (akB false).val h):Cl 108 [.ptr (PT b)] h R:=by
 apply jA;delta wv aO cE fE lq;refine jS q.now ?_;exact ID (λ_=>B) λa=>absurd A a
theorem HK(q:CI 183 h b n w)(B:0<=n)(E:n<=1073741824)(H:1<=w)(I:w<=64)(A:R (TV.i (mx (n-w) 0)).val h):Cl 114 [.ptr (PT b)] h R:=by
 apply qg;delta aD dX bA;refine jS q.now ?_;refine jS q.win ?_;refine ID (λa=>?_) λa=>?_
 ·have e:mx (n-w) 0=0:=by unfold mx;omega
  rw[e]at A;exact A
 ·have e:mx (n-w) 0=n-w:=by unfold mx;omega
  rw[e]at A;refine jS q.now ?_;refine jS q.win ?_;rw[wrap_i64 ω ω];exact A
theorem RH(B:CI 183 h b n w){A slot:Int}(q:R (akB (vt n A slot)).val h):Cl 183 [.ptr (PT b),.i A,.i slot] h R:=by
 apply qh;delta aO lq;unfold vt at q;refine akC (λa=>?_) (λa=>?_)
 ·refine jS B.now ?_;rw[a]at q;exact q
 ·rw[a]at q;exact q
theorem TZ(A:CI 183 h b n w)(B:0<=n)(E:n<=1073741824)(H:1<=w)(I:w<=64){slot:Int}(J:slot<=9223372036854775807)(q:R (akB (zS n w slot)).val h):Cl 184 [.ptr (PT b),.i slot] h R:=by
 apply qN;delta fk aO lq;refine HK A B E H I ⟨_,rfl,?_⟩;refine ID (λa=>?_) λa=>?_
 ·refine jS A.now ?_;have d:0<=slot:=by unfold mx at a;omega
  rw[wrap_i64 ω ω];refine ID (λc=>?_) λc=>?_
  ·have e:zS n w slot=decide (slot<=1073741824):=by
    unfold zS;rw[decide_eq_true a,alf];exact decide_eq_decide.2 (by unfold mn;omega)
   rw[e]at q;exact q
  ·have e:zS n w slot=false:=by
    unfold zS;rw[decide_eq_true a,alf];exact decide_eq_false (by unfold mn;omega)
   rw[e]at q;exact q
 ·have e:zS n w slot=false:=by
   unfold zS;rw[decide_eq_false a,Bool.false_and]
  rw[e]at q;exact q
end
end Clock
namespace Gate
open Pool (It WL dV)
open Peers (Pe)
section
variable{h h':af}{b w tb o n:Nat}{L:List Nd}{most quota bH decay gone:Int}{own:Nat->Int}{t:Tb}{I:List It}{P:List (Int×Int)}{S Q:Nat->Prop}{T:TypeId}
def l9(h:af)(b:Nat)(L:List Nd)(most:Int)(S:Nat->Prop):Prop:=∃r A,AP h b r A L most/\S=lH b r A
def eZ(h:af)(w tb:Nat)(L:List Nd)(own:Nat->Int)(S:Nat->Prop):Prop:=∃O X B G,WT h w tb O X B G L own/\S=iN w O X B G
def Eb(h:af)(b:Nat)(t:Tb)(n:Nat)(S:Nat->Prop):Prop:=∃r a c d,Kb h b r a c d t n/\S=uY b r a c d
def k9(T:TypeId)(h:af)(o:Nat)(I:List It)(most quota:Int)(S:Nat->Prop):Prop:=∃b A,WL T h o b A I most quota/\S=λi=>i=o\/dV b A i
def VH(h:af)(b:Nat)(P:List (Int×Int))(most bH decay gone:Int)(S:Nat->Prop):Prop:=∃r,Pe h b r P most bH decay gone/\S=λi=>i=b\/i=r
theorem l9.only(p:l9 h b L most S)(f:ag Q h h')(q:∀i,S i->¬Q i):l9 h' b L most S:=by
 obtain⟨r,A,p,rfl⟩:=p;exact⟨r,A,p.only f q,rfl⟩
theorem eZ.only(p:eZ h w tb L own S)(f:ag Q h h')(q:∀i,S i->¬Q i):eZ h' w tb L own S:=by
 obtain⟨O,X,B,G,p,rfl⟩:=p;exact⟨O,X,B,G,WP.only p f q,rfl⟩
theorem Eb.only(p:Eb h b t n S)(f:ag Q h h')(q:∀i,S i->¬Q i):Eb h' b t n S:=by
 obtain⟨r,a,c,d,p,rfl⟩:=p;exact⟨r,a,c,d,p.only f q,rfl⟩
theorem k9.only(p:k9 T h o I most quota S)(f:ag Q h h')(q:∀i,S i->¬Q i):k9 T h' o I most quota S:=by
 obtain⟨b,A,p,rfl⟩:=p;exact⟨b,A,p.only f (q _ (.inl rfl)) λi a=>q _ (.inr a),rfl⟩
theorem VH.only(p:VH h b P most bH decay gone S)(f:ag Q h h')(q:∀i,S i->¬Q i):VH h' b P most bH decay gone S:=by
 obtain⟨r,p,rfl⟩:=p;exact⟨r,p.only f (q _ (.inl rfl)) (q _ (.inr rfl)),rfl⟩
theorem l9.lt(p:l9 h b L most S):∀i,S i->i<h.size:=by
 obtain⟨r,A,p,rfl⟩:=p;exact λi a=>p.lt a
theorem eZ.lt(p:eZ h w tb L own S):∀i,S i->i<h.size:=by
 obtain⟨O,X,B,G,p,rfl⟩:=p;exact λi a=>WP.lt p a
theorem Eb.lt(p:Eb h b t n S):∀i,S i->i<h.size:=by
 obtain⟨r,c,d,e,p,rfl⟩:=p;exact λi a=>p.lt a
theorem k9.lt(p:k9 T h o I most quota S):∀i,S i->i<h.size:=by
 obtain⟨b,A,p,rfl⟩:=p;rintro i (rfl|a)
 ·exact p.var.lt
 ·exact p.pl.lt a
theorem VH.lt(p:VH h b P most bH decay gone S):∀i,S i->i<h.size:=by
 obtain⟨r,p,rfl⟩:=p;rintro i (rfl|rfl)
 ·exact p.var.lt
 ·exact p.map.lt
end
end Gate
namespace Gate
open Go Go.Vc Board
section
variable{R:Rq}{h:af}{c:Cf}{L:List Vd}
theorem ir{n m:Int}(q:R (akB (tH n m)).val h):Cl 139 [.i n,.i m] h R:=by
 apply GL;unfold tH at q;refine ID (λa=>?_) λa=>?_
 ·rw[decide_eq_true a]at q;exact q
 simp_all
theorem KC{v:Vd}(q:∀d,Ext h d->R (akB (Q8 v)).val d):Cl 199 [v.tv] h R:=by
 apply xD v.cF v.key;refine aa λe v1 f g=>⟨v.cF,v1.ah rfl,?_⟩;have c:=q e f;unfold Q8 at c;refine ID (λa=>?_) λa=>?_
 ·rw[decide_eq_true a,alf]at c;refine⟨v.cF,v1.ah rfl,ID (λb=>?_) λb=>?_⟩
  ·rw[decide_eq_true b]at c;exact⟨v.key,v1.ah rfl,ir ⟨_,rfl,c⟩⟩
  simp_all
 simp_all
theorem Nj{v:Vd}{s:Int}:pV (v::L) s=if Q8 v=true/\s+v.cF<4611686018427387904 then pV L (s+v.cF)else none:=rfl
theorem XE{v:Vd}(q:Q8 v=true):0<=v.cF/\v.cF<4611686018427387904:=by
 simp_all [Bool.and_eq_true,Q8,decide_eq_true_eq]
theorem RI{s:Sl}(e:aj 2 h s (jx L))(E:s.len<100000)(q:∀f,Ext h f->R (akA [.i ((pV L 0).getD 0),.bool (pV L 0).isSome]).val f):Cl 138 [.slice s] h R:=by
 apply Dc;delta Hs bK bA;have el:=by have:=e.len;rwa [aku]at this
 refine⟨λσ o=>0<=σ.2.2.2/\σ.2.2.2<=s.len/\Ext h o/\0<=σ.2.2.1/\σ.2.2.1<4611686018427387904/\pV L 0=pV (L.drop σ.2.2.2.toNat) σ.2.2.1,λσ _=>(s.len-σ.2.2.2).toNat,⟨akz 0,by simp_all,akv _,akz 0,δ,rfl⟩,?_⟩;rintro⟨D,F,t,i⟩ p ⟨g,r,c,t0,t1,a⟩;dsimp only at g r t0 t1 a⊢;refine ID (λj=>?_) λj=>?_
 ·refine E_ (e.ext c) g ω λx u=>aa λG v w H=>aH v rfl λI v4 y J=>?_;have z:=c.trans (akt w y λi j=>ω);rw[BD u,Nj]at a;refine⟨x.cF,x.key,⟨v4.ah rfl,v4.ah rfl⟩,KC λk d=>⟨_,rfl,?_⟩⟩;have l:=z.trans d;have stop:pV L 0=none->R (akA [.i 0,.bool false]).val k:=λA=>by have:=q k l;rw[A]at this;exact this
  refine akC (λb=>stop ?_) λb=>⟨x.cF,(v4.ext d).ah rfl,?_⟩
  ·rw[a,if_neg (λm=>by rw[m.1]at b;cases b)]
  ·have ok:Q8 x=true:=by simpa using b
   have st:=XE ok;dsimp only;rw[wrap_i64 (n:=t+x.cF) ω ω,wrap_i64 (n:=i+1) ω ω];refine ID (λB=>stop ?_) λB=>⟨x.cF,(v4.ext d).ah rfl,?_⟩
   ·rw[a,if_neg (λm=>ω)]
   ·dsimp only;rw[wrap_i64 (n:=t+x.cF) ω ω];refine⟨⟨Ω,Ω,l,Ω,Ω,?_⟩,Ω⟩;rw[if_pos ⟨ok,ω⟩]at a;show pV L 0=pV (L.drop (i+1).toNat) (t+x.cF);rw[show(i+1).toNat=i.toNat+1 by omega];exact a
 ·have C:i.toNat=L.length:=ω;rw[C,List.drop_length]at a;have:=q p c;rw[a]at this;exact this
theorem L0{s:Sl}(e:aj 2 h s (jx L))(A:∀v∈L,v.cF<9223372036854775808)(E:s.len<100000)(q:∀f,Ext h f->R (akA [.i ((pV L 0).getD 0),.bool (pV L 0).isSome]).val f):Cl 163 [.slice s] h R:=by
 apply wO;delta Hs dz bK bA;have el:=by have:=e.len;rwa [aku]at this
 refine⟨λσ p=>0<=σ.2.2.2/\σ.2.2.2<=s.len/\Ext h p/\0<=σ.2.2.1/\σ.2.2.1<4611686018427387904/\pV L 0=pV (L.drop σ.2.2.2.toNat) σ.2.2.1,λσ _=>(s.len-σ.2.2.2).toNat,⟨akz 0,by simp_all,akv _,akz 0,δ,rfl⟩,?_⟩;rintro⟨D,F,t,i⟩ b ⟨g,r,c,t0,t1,a⟩;dsimp only at g r t0 t1 a⊢;refine ID (λj=>?_) λj=>?_
 ·refine E_ (e.ext c) g ω λx k=>?_;refine aa λl u w G=>aH u rfl λd v4 y H=>?_;have m:=c.trans (akt w y λi j=>ω);rw[BD k,Nj]at a;have stop:pV L 0=none->R (akA [.i 0,.bool false]).val d:=λo=>by have:=q d m;rw[o]at this;exact this
  have no:Q8 x=false->R (akA [.i 0,.bool false]).val d:=λo=>stop (by simp_all);refine⟨x.cF,v4.ah rfl,ID (λz=>no ?_) λz=>⟨x.key,v4.ah rfl,ID (λb=>no ?_) λb=>⟨x.key,v4.ah rfl,ID (λl=>no ?_) λl=>⟨x.cF,v4.ah rfl,?_⟩⟩⟩⟩
  ·simp_all [Q8,decide_eq_false]
  ·simp_all [tH,Q8,decide_eq_false]
  ·simp_all [tH,Q8,decide_eq_false]
  ·have I:=A x (akU k);dsimp only;rw[bW (n:=x.cF) ω ω,bW ω ω,wrap_i64 ω ω];refine ID (λB=>stop ?_) λB=>⟨⟨ω,ω,m,ω,ω,?_⟩,ω⟩
   ·grind
   ·have ok:Q8 x=true:=by
     unfold Q8 tH
     grind
    grind
 ·have C:i.toNat=L.length:=ω;rw[C,List.drop_length]at a;have:=q b c;rw[a]at this;rw[wrap_i64 ω ω];exact this
theorem O6{s:Sl}{l:List Bool}{v:Bool}(e:aj 1 h s (aY l))(A:l.length<100000)(q:∀n:Int,(0<=n↔v∈l)->R (TV.i n).val h):Cl 200 [.slice s,.bool v] h R:=by
 apply iG;delta iZ nj gI bK;have el:=by have:=e.len;rwa [aku]at this
 refine⟨λσ d=>0<=σ.2/\σ.2<=s.len/\d=h/\v∉l.take σ.2.toNat,λσ _=>(s.len-σ.2).toNat,⟨akz 0,ω,rfl,by simp⟩,?_⟩;rintro⟨f,i⟩ d ⟨g,o,rfl,b⟩;refine ID (λk=>?_) λk=>?_
 ·refine kD e g ω λx j=>akC (λa=>?_) λa=>?_
  ·have a:v=x:=by simpa using a
   subst a;exact q i ⟨λ_=>akU j,λ_=>g⟩
  ·have a:v≠x:=by simpa using a
   rw[wrap_i64 (n:=i+1) ω ω];refine⟨⟨Ω,Ω,rfl,?_⟩,Ω⟩;show v∉l.take (i+1).toNat;rw[show(i+1).toNat=i.toNat+1 by omega,aU j,List.mem_append,alm];rintro(c|c)
   ·exact b c
   ·exact a c
 ·rw[List.take_of_length_le ω]at b;exact q (-1) ⟨λp=>ω,λm=>absurd m b⟩
theorem KD{s:Sl}{l:List Bool}{v:Bool}(e:aj 1 h s (aY l))(q:l.length<100000)(A:R (akB (decide (v∈l))).val h):Cl 140 [.slice s,.bool v] h R:=by
 apply gD;refine O6 e q λn a=>⟨n,rfl,?_⟩;simp_all
def IZ(c:Cf)(n:Nat):List Bool:=[tH c.ep 32,tH c.aQ (min 16 n),tH c.no 256,tH c.eV 64,tH c.eH 64,tH c.quo 64,tH c.pe 16,tH c.iy 256,tH c.win 64,tH c.bH 1048576,tH c.dec 1048576]
theorem O7:uz c L=((pV L 0).isSome&&tH L.length 64&&!decide (false∈IZ c L.length)):=by
 unfold uz IZ;generalize tH c.ep 32=a;generalize tH c.aQ (min 16 L.length)=b;generalize tH c.no 256=d;generalize tH c.eV 64=e;generalize tH c.eH 64=f;generalize tH c.quo 64=g;generalize tH c.pe 16=h;generalize tH c.iy 256=i;generalize tH c.win 64=j;generalize tH c.bH 1048576=k;generalize tH c.dec 1048576=l;cases a<;>cases b<;>cases d<;>cases e<;>cases f<;>cases g<;>cases h<;>cases i<;>cases j<;>cases k<;>cases l<;>rfl
theorem KE(e:aj 2 h c.vals (jx L))(A:c.vals.len<100000)(q:∀g,Ext h g->R (akB (uz c L)).val g):Cl 74 [c.tv] h R:=by
 apply Ec c.vals c.ep c.aQ c.no c.eV c.eH c.quo c.pe c.iy c.win c.bH c.dec;delta gz nG jN fH Ds aO dx d_ bK aT bA lq fD;have el:=by have:=e.len;rwa [aku]at this
 refine aa λr v1 j s=>?_;intro u l;refine⟨c.vals,v1.ah rfl,RI (e.ext j) A λi k=>⟨_,_,rfl,?_⟩⟩;have a:=v1.ext k;rw[O7]at q;have f:=λg m=>q g ((j.trans k).trans m);refine akC (λb=>?_) λb=>?_
 ·have b:=by simpa using b
  have:=f i (akv _);rw[b]at this;exact this
 ·have b:(pV L 0).isSome=true:=by simpa using b
  rw[b,alf]at f;refine⟨c.vals,a.ah rfl,ir ⟨_,rfl,?_⟩⟩;rw[<-el];refine akC (λd=>?_) λd=>?_
  ·have d:tH L.length 64=false:=by simpa using d
   have:=f i (akv _);rw[d]at this;exact this
  ·have d:tH L.length 64=true:=by simpa using d
   rw[d,alf]at f;refine l false i ?_;refine⟨_,a.ah rfl,_,a.ah rfl,c.vals,a.ah rfl,_,a.ah rfl,_,a.ah rfl,_,a.ah rfl,_,a.ah rfl,_,a.ah rfl,_,a.ah rfl,_,a.ah rfl,_,a.ah rfl,_,a.ah rfl,?_⟩;refine ir ⟨_,rfl,akv _,ir ⟨_,rfl,akv _,ir ⟨_,rfl,akv _,ir ⟨_,rfl,akv _,ir ⟨_,rfl,akv _,ir ⟨_,rfl,akv _,ir ⟨_,rfl,akv _,ir ⟨_,rfl,akv _,ir ⟨_,rfl,akv _,ir ⟨_,rfl,akv _,ir ⟨_,rfl,?_⟩⟩⟩⟩⟩⟩⟩⟩⟩⟩⟩;have n:mn 16 (c.vals.len:Int)=min 16 (L.length:Int):=by rw[Mq,el]
   rw[n]
   have o:=Vc.Own.new (T:=4) (sz:=1) i (aY (IZ c L.length)) (λt p=>by
    obtain⟨x,_,rfl⟩:=aks.1 p;rfl)
   exact KD o.elems (by simp[IZ]) ⟨_,rfl,f _ (akw _ _)⟩
theorem RJ(el:L.length=c.vals.len):Can c L↔(∃s,pV L 0=some s)/\∀k,k<12->∀x y,(Board.eA c)[2*k]? =some x->(Board.eA c)[2*k+1]? =some y->1<=x/\x<=y:=by
 constructor
 ·intro a;refine⟨a.tot,λk f x y d e=>?_⟩;have g:=a.aQ;have j:=a.len;have h:=Mq 16 c.vals.len;have f:k=0\/k=1\/k=2\/k=3\/k=4\/k=5\/k=6\/k=7\/k=8\/k=9\/k=10\/k=11:=ω;rcases f with rfl|rfl|rfl|rfl|rfl|rfl|rfl|rfl|rfl|rfl|rfl|rfl<;>injection d with d<;>injection e with e<;>subst d<;>subst e
  ·exact a.ep
  ·omega
  ·exact a.no
  ·exact a.eV
  ·exact a.eH
  ·exact a.quo
  ·exact a.pe
  ·exact a.iy
  ·exact a.win
  ·exact a.bH
  ·exact a.dec
  ·omega
 ·rintro⟨i,b⟩;have h:=Mq 16 c.vals.len;have g:=b 1 δ c.aQ (mn 16 c.vals.len) rfl rfl;have l:=b 11 δ c.vals.len 64 rfl rfl;exact⟨i,ω,b 0 δ _ _ rfl rfl,ω,b 2 δ _ _ rfl rfl,b 3 δ _ _ rfl rfl,b 4 δ _ _ rfl rfl,b 5 δ _ _ rfl rfl,b 6 δ _ _ rfl rfl,b 7 δ _ _ rfl rfl,b 8 δ _ _ rfl rfl,b 9 δ _ _ rfl rfl,b 10 δ _ _ rfl rfl⟩
theorem vu(e:aj 2 h c.vals (jx L))(q:∀v∈L,v.cF<9223372036854775808)(hv:c.vals.len<100000)(H:∀o,Ext h o->R (akB (uz c L)).val o):Cl 96 [c.tv] h R:=by
 apply yz c.vals c.ep c.aQ c.no c.eV c.eH c.quo c.pe c.iy c.win c.bH c.dec;delta gz jM iM mq bK lq;have F:=by have:=e.len;rwa [aku]at this
 refine aa λh1 v1 N s1=>?_;refine⟨c.vals,c.ep,c.aQ,c.no,c.eV,c.eH,c.quo,c.pe,c.iy,c.win,c.bH,c.dec,v1.at,?_⟩;refine Fa λO s2 p G=>⟨_,rfl,?_⟩;have d:=N.trans G;have el:=iP p;have P:(Board.eA c).length=24:=rfl
 have stop:=λw o z=>by
  have A:uz c L=false:=by
   cases A:uz c L with
   |false=>rfl
   |true=>exact absurd (mR.1 A) w
  have:=H o z
  rwa [A]at this
 refine⟨λσ I=>0<=σ.2/\σ.2<=24/\σ.2%2=0/\I=O/\(∀k:Nat,2*k<σ.2.toNat->∀x y,(Board.eA c)[2*k]? =some x->(Board.eA c)[2*k+1]? =some y->1<=x/\x<=y),λσ _=>((24:Int)-σ.2).toNat,
  ⟨akz 0,δ,δ,rfl,λj Q=>by simp at Q⟩,?_⟩
 rintro⟨f,i⟩ I ⟨B,S,T,rfl,r⟩;dsimp only at B S T r⊢;refine ID (λU=>?_) λU=>?_
 ·have t:2*(i.toNat/2)=i.toNat:=ω;have u:(i+1).toNat=2*(i.toNat/2)+1:=ω;have no:∀x y,(Board.eA c)[i.toNat]? =some x->(Board.eA c)[(i+1).toNat]? =some y->¬(1<=x/\x<=y)->¬Can c L:=λx y g V w l=>w (((RJ F).1 l).2 (i.toNat/2) ω x y (by rw[t];exact g) (by rw[<-u];exact V));obtain⟨W,X⟩:∃y,(Board.eA c)[(i+1).toNat]? =some y:=⟨_,aky (by rw[P];omega)⟩;refine gB p B ω λx g=>ID (λY=>stop (no x W g X ω) _ d) λY=>?_;rw[wrap_i64 (n:=i+1) ω ω,wrap_i64 (n:=i+2) ω ω];refine gB p B ω λz m=>gB p (i:=i+1) ω ω λy J=>ID (λZ=>stop (no z y m J ω) _ d) λZ=>?_;rw[g]at m;injection m with m;subst m;refine⟨⟨Ω,Ω,Ω,rfl,λk q=>?_⟩,Ω⟩;by_cases ab:2*k<i.toNat
  ·exact r k ab
  ·have q:2*k<(i+2).toNat:=q;have ac:k=i.toNat/2:=ω;subst ac;rw[t,<-t,<-u,t];intro a b C D;rw[g]at C;rw[J]at D;injection C with C;injection D with D;omega
 ·refine⟨c.vals,(v1.ext G).ah rfl,L0 (e.ext d) q ω λK M=>⟨_,_,rfl,?_⟩⟩;have u:i.toNat=24:=ω;rw[u]at r;cases E:pV L 0 with
  |none=>exact stop (λl=>by obtain⟨s,hs⟩:=l.tot;rw[hs]at E;cases E) K (d.trans M)
  |some s=>
   have l:Can c L:=(RJ F).2 ⟨⟨s,E⟩,λk q=>r k ω⟩;have:=H K (d.trans M);rw[mR.2 l]at this;exact this
end
end Gate
namespace Gate
open Go Go.Vc Board
section
variable{R:Rq}{h:af}{c:Cf}{L:List Vd}
theorem acy(n:Int):(WJ n).length=4:=gA 4 _
theorem T0{v:Vd}:(qF v).length=9+v.key.length:=by
 grind [qF,gA,akE]
theorem xF:∀(l:List Int),(l.flatMap WJ).length=4*l.length
 |[]=>rfl
 |n::l=>by rw[List.flatMap_cons,akE,acy,xF l,aln];omega
theorem uJ:∀(l:List Vd),(∀v∈l,v.key.length<=32)->(l.flatMap qF).length<=41*l.length
 |[],_=>akI 0
 |v::l,h=>by
  have b:=h v (ald);have c:=uJ l λx a=>h x (alc _ a);rw[List.flatMap_cons,akE,T0,aln];omega
theorem CQ{α q:Type}{f:α->List q}{l:List α}{x:α}:(l++[x]).flatMap f=l.flatMap f++f x:=by simp
theorem aam{Q Q':Nat->Prop}{s:Sl}{bs:LU}(r:Row Q h s bs)(q:∀i,Q i->Q' i):Row Q' h s bs:=⟨r.own,λl a=>q _ (r.uT l a),λi b=>q _ (r.new i b)⟩
theorem RK(e:aj 2 h c.vals (jx L))(q:c.vals.len<=64)(E:∀v∈L,v.key.length<=32)(M:∀D,Ext h D->R (ak7 (qG c L)).val D):Cl 202 [c.tv] h R:=by
 apply Dd c.vals c.ep c.aQ c.no c.eV c.eH c.quo c.pe c.iy c.win c.bH c.dec;delta gz nG fH gZ tM jr nY dD eW dz aN bK aT bA;have el:=by have:=e.len;rwa [aku]at this
 refine aa λb v1 N s1=>?_;refine⟨_,v1.ah rfl,_,v1.ah rfl,_,v1.ah rfl,_,v1.ah rfl,_,v1.ah rfl,_,v1.ah rfl,_,v1.ah rfl,_,v1.ah rfl,_,v1.ah rfl,_,v1.ah rfl,_,v1.ah rfl,c.vals,v1.ah rfl,?_⟩
 have F:=Vc.Own.new (T:=3) b (ints (kH c L.length)) (λt O=>by
  obtain⟨x,_,rfl⟩:=aks.1 O;rfl)
 have P:akr [TV.i c.ep,TV.i c.aQ,TV.i c.no,TV.i c.eV,TV.i c.eH,TV.i c.quo,TV.i c.pe,TV.i c.iy,TV.i c.win,TV.i c.bH,TV.i c.dec,TV.i c.vals.len]=akr (ints (kH c L.length)):=by rw[<-el];rfl
 dsimp only;rw[P];have u:=akw b (Vc.row (akr (ints (kH c L.length))) 3);have Q:(b.push (Vc.row (akr (ints (kH c L.length))) 3)).size=b.size+1:=by simp
 generalize b.push (Vc.row (akr (ints (kH c L.length))) 3)=G at F u Q⊢;have U:=N.trans u;have V:Row (λi=>b.size<i) G Sl.nil []:=⟨Vc.Own.nil _ _ _,(λl q=>by cases q),λi a=>ω⟩;refine⟨λσ g=>0<=σ.2/\σ.2<=12/\Row (λi=>b.size<i) g σ.1 (((kH c L.length).take σ.2.toNat).flatMap WJ)/\ag (λi=>b.size<i) G g,λσ _=>(12-σ.2).toNat,⟨akz 0,δ,V,ag.refl _ _⟩,?_⟩;rintro⟨s,i⟩ W ⟨m,H,w,o⟩;have X:=akt U o λi a=>ω;refine ID (λa=>?_) λa=>?_
 ·have a:=a;have Y:=(F.only o (λl q=>by grind)).elems;obtain⟨x,p⟩:∃x,(kH c L.length)[i.toNat]? =some x:=⟨_,aky (show i.toNat<(kH c L.length).length by show i.toNat<12;omega)⟩;have Z:=Y.get _ rfl i.toNat (.i x) (by simp_all);refine⟨m,a,x,Z,?_⟩;refine ia w (by grind [xF,ala,min]) δ λd s4 f o4=>⟨_,rfl,?_⟩;rw[wrap_i64 ω ω];refine⟨⟨ω,ω,?_,o.trans o4⟩,by grind⟩;show Row _ _ _ (((kH c L.length).take (i+1).toNat).flatMap WJ);rw[show(i+1).toNat=i.toNat+1 by omega,aU p,CQ];exact f
 ·have y:i.toNat=(kH c L.length).length:=by show i.toNat=12;have:¬i<12:=a;omega
  rw[y,akH]at w;have v3:Var 24 W h.size c.tv:=(v1.ext u).only o ω;refine⟨c.vals,v3.ah rfl,?_⟩;refine⟨λσ g=>0<=σ.2/\σ.2<=c.vals.len/\Row (λi=>b.size<i) g σ.1 ((kH c L.length).flatMap WJ++(L.take σ.2.toNat).flatMap qF)/\Ext h g,λσ _=>((c.vals.len:Int)-σ.2).toNat,⟨akz 0,Ω,by simpa using w,X⟩,?_⟩;rintro⟨s,i⟩ d ⟨m,H,f,z⟩;dsimp only at m H f⊢;refine ID (λa=>?_) λa=>?_
  ·refine E_ (e.ext z) m ω λx p=>aa λh5 v5 x5 s5=>aH v5 (t:=x.tv) rfl λr v6 o6 s6=>?_;have I:Ext d r:=akt x5 o6 λi a=>ω;have j:=f.ext I;have j:Row (λi=>b.size<i/\i≠d.size) r s ((kH c L.length).flatMap WJ++(L.take i.toNat).flatMap qF):=⟨j.own,λl q=>⟨j.uT l q,λhc=>by have:=f.own.lt l q;omega⟩,λi a=>⟨j.new i a,ω⟩⟩;have kx:=E x (akU p);have tl:=uJ (L.take i.toNat) λv hv=>E v (List.mem_of_mem_take hv);rw[ala]at tl
   have l6:((kH c L.length).flatMap WJ++(L.take i.toNat).flatMap qF).length<=48+41*64:=by
    rw[akE,xF];show 4*12+_<=_;omega
   have A:Var 137 (Vc.keeps (·=d.size) r) d.size x.tv:=v6.keeps (S:=(·=d.size)) rfl;refine⟨Vc.keeps (·=d.size) r,jT,_,A.ah rfl,_,A.ah rfl,_,A.ah rfl,?_⟩;refine ia (k:=8) j ω δ λh7 s7 r7 B=>⟨_,rfl,vV B (λi a C=>C.2 a),?_⟩;refine ia (k:=1) r7 (by rw[akE,gA];omega) δ λh8 s8 J K=>⟨_,rfl,vV (B.trans K) (λi a C=>C.2 a),M3 ?_⟩;refine Gp J (by rw[akE,akE,gA,gA];omega) λs9 h9 r9 f9 b9=>?_;have f9:=J.cut f9;rw[wrap_i64 (n:=i+1) ω ω];refine⟨⟨Ω,Ω,?_,akt (z.trans I) ((B.trans K).trans f9) λi a=>ω⟩,Ω⟩;show Row _ _ _ ((kH c L.length).flatMap WJ++(L.take (i+1).toNat).flatMap qF);rw[show(i+1).toNat=i.toNat+1 by omega,aU p,CQ];have:=aam r9 (Q':=λi=>b.size<i) λi a=>a.1;rw[show qF x=(yo (ak8 .u64 x.cF) 8++yo (ak8 .u64 (x.key.length:Int)) 1)++x.key from rfl];simp only[List.append_assoc]at this⊢;exact this
  ·have y:i.toNat=L.length:=ω;rw[y,akH]at f;exact⟨_,f.str,M d z⟩
theorem KF(q:∀v∈L,v.key.length<=32):(qG c L).length<=48+41*L.length:=by
 have:=uJ L q;unfold qG;rw[akE];show 4*12+_<=_;omega
theorem O8(n:Int)(k:Nat):MV (ak8 .u64 n) k=yo (ak8 .u64 n) k:=BF k _ (gC n).1 (gC n).2
theorem XF(el:L.length=c.vals.len)(k:Nat)(q:k<12):∃x,(Board.eA c)[2*k]? =some x/\(kH c L.length)[k]? =some x:=by
 have q:k=0\/k=1\/k=2\/k=3\/k=4\/k=5\/k=6\/k=7\/k=8\/k=9\/k=10\/k=11:=ω;rcases q with rfl|rfl|rfl|rfl|rfl|rfl|rfl|rfl|rfl|rfl|rfl|rfl<;>first|exact⟨_,rfl,rfl⟩|exact⟨_,rfl,by rw[el];rfl⟩
theorem jE(e:aj 2 h c.vals (jx L))(O:c.vals.len<=64)(q:∀v∈L,v.key.length<=32)(A:∀r,Ext h r->R (ak7 (qG c L)).val r):Cl 157 [c.tv] h R:=by
 apply xE c.vals c.ep c.aQ c.no c.eV c.eH c.quo c.pe c.iy c.win c.bH c.dec;delta gz tM dz bK bA;have el:=by have:=e.len;rwa [aku]at this
 refine aa λP v1 B Q=>?_;refine⟨c.vals,c.ep,c.aQ,c.no,c.eV,c.eH,c.quo,c.pe,c.iy,c.win,c.bH,c.dec,v1.at,?_⟩;refine Fa λC S s u=>⟨_,rfl,?_⟩;have D:=B.trans u;have T:=iP s;have U:(Board.eA c).length=24:=rfl;refine⟨λσ l=>0<=σ.2/\σ.2<=24/\σ.2%2=0/\Ext C l/\σ.1=((kH c L.length).take (σ.2.toNat/2)).flatMap WJ,λσ _=>(24-σ.2).toNat,⟨akz 0,δ,δ,akv _,rfl⟩,?_⟩;rintro⟨t,i⟩ V ⟨b,m,E,f,a⟩;dsimp only at b m E a⊢;refine ID (λg=>?_) λg=>?_
 ·refine gB (s.ext f) b ω λx j=>bL 4 _ _ _ δ λo d=>⟨_,rfl,?_,?_⟩
  ·grind [dN,xF,ala,min]
  ·rw[wrap_i64 ω ω];refine⟨⟨ω,ω,ω,f.trans d,?_⟩,ω⟩;obtain⟨y,k,F⟩:=XF el (i.toNat/2) ω;rw[show 2*(i.toNat/2)=i.toNat by omega,j]at k;injection k with k;subst k;rw[show(i+2).toNat/2=i.toNat/2+1 by omega,aU F,CQ,a,O8];rfl
 ·have p:i.toNat/2=(kH c L.length).length:=by show _=12;omega
  rw[p]at a;refine⟨c.vals,(v1.ext (u.trans f)).ah rfl,?_⟩;refine⟨λσ l=>0<=σ.2/\σ.2<=c.vals.len/\Ext h l/\σ.1=(kH c L.length).flatMap WJ++(L.take σ.2.toNat).flatMap qF,λσ _=>(c.vals.len-σ.2).toNat,⟨akz 0,ω,D.trans f,by simpa using a⟩,?_⟩;rintro⟨t,i⟩ o ⟨b,m,d,a⟩;dsimp only at b m a⊢;refine ID (λg=>?_) λg=>?_
  ·refine E_ (e.ext d) b ω λx j=>aa λW G H X=>aH G (t:=x.tv) rfl λI v6 J Y=>?_;have K:Ext o I:=akt H J λi g=>ω;have Z:=q x (akU j);have M:=uJ (L.take i.toNat) λv N=>q v (List.mem_of_mem_take N);rw[ala]at M
   have l6:t.length<=48+41*64:=by
    rw[a,akE,xF];show 4*12+_<=_;omega
   refine⟨_,v6.ah rfl,_,v6.ah rfl,_,v6.ah rfl,?_⟩;refine bL 8 _ _ _ δ λh7 w=>⟨_,rfl,w,by rw[dN];omega,?_⟩;refine bL 1 _ _ _ δ λh8 z=>⟨_,rfl,z,by rw[akE,dN,dN];omega,by rw[akE,akE,dN,dN];omega,?_⟩;rw[wrap_i64 (n:=i+1) ω ω];refine⟨⟨Ω,Ω,((d.trans K).trans w).trans z,?_⟩,Ω⟩;show _=(kH c L.length).flatMap WJ++(L.take (i+1).toNat).flatMap qF;rw[show(i+1).toNat=i.toNat+1 by omega,aU j,CQ,a,O8,O8];rw[show qF x=(yo (ak8 .u64 x.cF) 8++yo (ak8 .u64 (x.key.length:Int)) 1)++x.key from rfl];simp only[List.append_assoc]
  ·have p:i.toNat=L.length:=ω;rw[p,akH]at a;have:=A o d;rw[<-show t=qG c L from a]at this;exact this
theorem Ee:yA.length=6:=δ
theorem T1(e:aj 2 h c.vals (jx L))(A:c.vals.len<=64)(q:∀v∈L,v.key.length<=32)(B:∀a,Ext h a->R (akG 32 (wP c L)).val a):Cl 142 [c.tv] h R:=by
 apply Ed c.vals c.ep c.aQ c.no c.eV c.eH c.quo c.pe c.iy c.win c.bH c.dec;have el:=by have:=e.len;rwa [aku]at this
 refine aa λu v1 b w=>aa λx n d y=>?_;refine⟨c.vals,c.ep,c.aQ,c.no,c.eV,c.eH,c.quo,c.pe,c.iy,c.win,c.bH,c.dec,(v1.ext d).at,?_⟩;have f:=b.trans d;have z:=KF (c:=c) q;refine RK (e.ext f) A q λg j=>⟨_,rfl,?_⟩;have k:=akw g (row (akr [ak7 yA,ak7 (qG c L)]) 9);refine pT (ts:=[yA,qG c L]) ?_ ?_ (by simp) λC l=>⟨_,rfl,?_⟩
 ·exact(Vc.Own.new g [ak7 yA,ak7 (qG c L)] (λt m=>by
   simp only[akR,List.not_mem_nil,or_false]at m;rcases m with rfl|rfl<;>rfl)).elems
 ·simp only[List.flatten_cons,List.flatten_nil,akX,akE,Ee];omega
 ·have o:[yA,qG c L].flatten=yA++qG c L:=by simp
  rw[o];refine aH (((n.ext j).ext k).ext l) (t:=.bytes 32 (wP c L)) wI λp r s D=>⟨_,r.bytes,?_⟩;exact B p (akt (((f.trans j).trans k).trans l) s λi E=>by have:=b.size;omega)
theorem cW(e:aj 2 h c.vals (jx L))(A:c.vals.len<=64)(q:∀v∈L,v.key.length<=32)(B:∀a,Ext h a->R (akG 32 (wP c L)).val a):Cl 89 [c.tv] h R:=by
 apply zb c.vals c.ep c.aQ c.no c.eV c.eH c.quo c.pe c.iy c.win c.bH c.dec;have el:=by have:=e.len;rwa [aku]at this
 refine aa λo v1 j p=>aa λr k b t=>?_;refine⟨c.vals,c.ep,c.aQ,c.no,c.eV,c.eH,c.quo,c.pe,c.iy,c.win,c.bH,c.dec,(v1.ext b).at,?_⟩;have d:=j.trans b;have u:=KF (c:=c) q;refine jE (e.ext d) A q λw f=>⟨_,rfl,?_,?_⟩
 ·show((yA.length+_:Nat):Int)<=_
  grind [Ee]
 ·refine lI (s:=yA++qG c L) (by grind [Ee,akE]) λx g=>⟨_,rfl,?_⟩;refine aH ((k.ext f).ext g) wI λl m n y=>⟨_,m.bytes,?_⟩;exact B l (akt ((d.trans f).trans g) n λi z=>ω)
end
end Gate
end Go.Proofs.YtennbinbffdimaaGreat

/- Texts that the proof needs, joined. -/
import Derived.RangeFuncNested
import Derived.RangeFuncBound
import Derived.RangeFuncCalls
import Derived.RangeFuncLeaves
import Derived.Test.YtennbinbffdimaaGreatPk4
set_option maxRecDepth 100000
open Go.Vc.Sl renaming nil->aiX,mk->ajo
open List renaming length_map->aiY,getElem?_eq_getElem->ai2,getElem?_map->ai4,mem_map->aje,mem_of_getElem?->ajf,getElem?_eq_some_iff->aji,length_append->ajk,length_take->ajn,map_append->ajq,length_filter_le->ajr,take_length->ajs,length_cons->aju,mem_filter->ajv,take_add_one->ajB,map_cons->ajD,append_assoc->ajF,map_set->ajJ,range->ajL,length_range->ajM,map_nil->ajN,length_singleton->ajO,getD_eq_getElem?_getD->ajR,append_nil->ajT,foldl_append->ajU,take_zero->ajW,replicate->ajX,length_drop->ajZ,mem_cons->aj1,filter_congr->aj2,take_of_length_le->aj4,foldl_cons->aj5,getElem?_take->aj8
open Go.Vc.aj renaming cells->aiZ,vals->ajw
open Go.Vc.ag renaming cut->ai0,an->ajp,refl->ajV
open Go.Vc.Bs renaming zero->ai1,set->aka
open Go.Vc.Ext renaming refl->ai3,push->ajl
open Nat renaming le_of_eq->ai5,le_refl->ai6,le_trans->ajj,zero_le->ajz,lt_of_lt_of_le->aj0
open Eq renaming symm->ai7
open Int renaming le_refl->ai8,toNat_natCast->ajb,toNat->ajP,tdiv->ajY
open Go.IntKind renaming wrap->ai9,bits->ajI,i64->aj9
open Go.Vc.If renaming no->aja,split->ajg,yes->ajh
open Go.Vc.TV renaming aX->ajc,bytes->ajm,agg->ajx,bool->ajy,put->ajC,slice->ajE,ptr->ajQ,size->ajS
open Go.Proofs.YtennbinbffdimaaGreat.Gate.Step renaming all->ajd
open Go.Vc.Own renaming nil->ajt
open BitVec renaming ofInt->ajA
open Bool renaming true_and->ajG,false_and->aj7
open Array renaming push->ajH,getElem?_eq_some_iff->aj6
open Option renaming map_eq_some_iff->ajK
open PUnit renaming unit->aj3
namespace Go.Proofs.YtennbinbffdimaaGreat
open Go Go.Vc
namespace Gate
open Board (Vd Cf Vt jI EG av uo)
open Pool (rts jV Im)
def Am(e:(Int×Int)×Bs 32):TV:=.agg [.i e.1.1,.i e.1.2,.bytes 32 e.2]
abbrev RI(l:List ((Int×Int)×Bs 32)):List TV:=l.map Am
theorem IP(e:(Int×Int)×Bs 32):(Am e).size=34:=by simp only[Am,ajS,aj.size]
theorem Vv(e:(Int×Int)×Bs 32):(Am e).plain=true:=by simp only[Am,TV.plain,aj.plain,Bool.and_self]
theorem wH:(ctx.ti 255).bytes=48:=κ
theorem ado:(ctx.ti 255).size=34:=κ
theorem abU:(ctx.ti 255).z.size=34:=κ
def MX(t:Tb):List Vt:=t.bR.map λo=>o.getD EH
def RJ(t:Tb):List Bool:=t.bR.map Option.isSome
def kO(b:Nat)(Fi La Ha Ou:Sl):Nat->Nat->Prop
 |0=>(·=b)
 |1=>In Fi
 |2=>In La
 |3=>In Ha
 |4=>In Ou
 |_=>λ_=>False
structure JK(h:aa)(b:Nat)(Fi La Ha Ou:Sl)(t:Tb)(n:Nat):Prop where
 var:Var 192 h b (.agg [.i n,.i t.slots,.slice Fi,.slice La,.slice Ha,.slice Ou])
 f:Own 255 34 h Fi (RI t.first)
 la:Own 124 34 h La (EG (MX t))
 ha:Own 4 1 h Ha (VX (RJ t))
 ou:Own 4 1 h Ou (VX t.out)
 ok:xU t n
 jk:t.first.length<50000
 sep:Sep h (kO b Fi La Ha Ou)
section
variable{R:Rq}{h h':aa}{b n:Nat}{Fi La Ha Ou:Sl}{t:Tb}
theorem adp{x:(Int×Int)×Bs 32}{s:Sl}{l:List ((Int×Int)×Bs 32)}{K:Sl->aa->Prop}(o:Own 255 34 h s (RI l))(q:l.length<100000)(E:∀a h',Own 255 34 h' a (RI (l++[x]))->ag (In s) h h'->(∀i,In a i->In s i\/h.size<=i)->K a h'):
 ∃new,cv (h.push (row (aiZ [ajx [.i x.1.1,.i x.1.2,.bytes 32 x.2]]) 255)) (ajo (some (Vc.Loc.mk h.size 0)) 1 1) 34 new/\(∀v∈new,bQ v=true)/\aq ctx 255 s 1 new (h.push (row (aiZ [ajx [.i x.1.1,.i x.1.2,.bytes 32 x.2]]) 255)) K:=by
 have c:=o.len;rw[aiY]at c;refine cz (C:=ctx) (T:=255) (sz:=34) (x:=Am x) ado abU (by rw[wH];decide) (by rw[wH];omega) o (IP x) (Vv x) λa h' d e f=>E a h' (by simpa[RI]using d) e λi⟨l,q,j⟩=>?_;rcases f l q with⟨g,b,k⟩|b
 ·exact .inl ⟨g,b,ω⟩
 ·exact .inr ω
def ji(b:Nat)(Fi La Ha Ou:Sl)(i:Nat):Prop:=cO (kO b Fi La Ha Ou) i
theorem JK.only{S:Nat->Prop}(p:JK h b Fi La Ha Ou t n)(f:ag S h h')(q:∀i,ji b Fi La Ha Ou i->¬S i):JK h' b Fi La Ha Ou t n:=
 ⟨p.var.only f (q b ⟨0,rfl⟩),p.f.keep f λi a=>q i ⟨1,a⟩,p.la.keep f λi a=>q i ⟨2,a⟩,p.ha.keep f λi a=>q i ⟨3,a⟩,p.ou.keep f λi a=>q i ⟨4,a⟩,p.ok,p.jk,⟨p.sep.nC,λj i a=>by have:=p.sep.lt j i a;have:=f.size;omega⟩⟩
theorem JK.ext(p:JK h b Fi La Ha Ou t n)(x:Ext h h'):JK h' b Fi La Ha Ou t n:=p.only (S:=λ_=>False) (.an x) λ_ _ a=>a
theorem JK.lt(p:JK h b Fi La Ha Ou t n){i:Nat}(q:ji b Fi La Ha Ou i):i<h.size:=by obtain⟨k,a⟩:=q;exact p.sep.lt k i a
theorem JK.lf(p:JK h b Fi La Ha Ou t n):Fi.len=t.first.length:=by have:=p.f.len;rw[aiY]at this;omega
theorem JK.lla(p:JK h b Fi La Ha Ou t n):La.len=n:=by have:=p.la.len;have:=p.ok.Bn;unfold MX at*;simp only[aiY]at*;omega
theorem Yw(p:JK h b Fi La Ha Ou t n){who:Int}(q:R (ajy (Qh n who)).val h):Cl 243 [.ptr (PT b),.i who] h R:=by
 apply rj;delta bO mN;refine ID (λa=>⟨_,p.var.ah rfl,?_⟩) λa=>?_
 ·rw[show Qh n who=decide (who<(n:Int))from decide_eq_decide.2 ⟨λh=>h.2,λh=>⟨a,h⟩⟩]at q;exact q
 ·rw[show Qh n who=false from decide_eq_false (λh=>a h.1)]at q;exact q
theorem aa2{s:Sl}{l:List Bool}(o:ak 1 h s (VX l)){i:Int}(E:0<=i){v:Bool}(q:l[i.toNat]? =some v){K:Bool->Prop}(G:K v):
 0<=i/\i<(s.len:Int)/\Nn s.a λp=>∃c:Bool,ah h p.b (p.o+i.toNat*1) (Value.bool c)/\K c:=by
 have b:=o.len;have:=(aji.1 q).1;rw[aiY]at b;refine o.read E ω λp t _ a d=>?_;rw[ai4,q]at a;cases a;exact⟨v,d,G⟩
theorem Yx{s:Sl}{l:List ((Int×Int)×Bs 32)}(o:ak 34 h s (RI l)){i:Int}(E:0<=i){e:(Int×Int)×Bs 32}(q:l[i.toNat]? =some e){K:Int->Int->Bs 32->Prop}(G:K e.1.1 e.1.2 e.2):
 0<=i/\i<(s.len:Int)/\Nn s.a λl=>∃(n:Int),∃(m:Int),∃(k:Bs 32),(ah h l.b (l.o+i.toNat*34) (.i n)/\ah h l.b (l.o+i.toNat*34+1) (.i m)/\ay h l.b (l.o+i.toNat*34+1+1) 32 k)/\K n m k:=by
 have b:=o.len;have:=(aji.1 q).1;rw[aiY]at b;refine o.read E ω λp t _ a c=>?_;rw[ai4,q]at a;cases a;exact⟨_,_,_,c,G⟩
theorem adq{T:TypeId}{b:Nat}{e:(Int×Int)×Bs 32}(v:Var T h b (Am e)){K:Int->Int->Bs 32->Prop}(q:K e.1.1 e.1.2 e.2):
 ∃(n:Int),∃(m:Int),∃(k:Bs 32),(ah h b 0 (.i n)/\ah h b 1 (.i m)/\ay h b 2 32 k)/\K n m k:=⟨_,_,_,v.at,q⟩
theorem Yy(b:Nat)(Fi q La Ha Ou:Sl):mK (kO b Fi La Ha Ou) 1 (In q)=kO b q La Ha Ou:=by
 funext k
 match k with
 |0=>rfl
 |1=>rfl
 |2=>rfl
 |3=>rfl
 |4=>rfl
 |k+5=>rfl
theorem RK(p:JK h b Fi La Ha Ou t n){v:Vt}(bx:t.first.length<49999)
 (G:∀h' g,JK h' b g La Ha Ou (cH t v).2 n->Step (ji b Fi La Ha Ou) h (ji b g La Ha Ou) h'->R (TV.i (cH t v).1).val h'):
 Cl 177 [.ptr (PT b),v.tv] h R:=by
 apply o_ (PT b) v.who v.slot v.target;delta mE dZ aI aD jN cV c7 jv iP dO aJ bN aT bh;have hs:=p.ok.slots;have H:=p.ok.take v;have M:=p.ok.Bn;have a5:=p.ok.tW;have lF:=p.lf;have blt:b<h.size:=p.var.lt;have z:∀j k i,kO b Fi La Ha Ou j i->kO b Fi La Ha Ou k i->j=k:=p.sep.nC;refine af λy v1 I s1=>?_;have v1:Var 124 y h.size v.tv:=v1;have B:=p.ext I;intro N C
 have O:¬(0<=v.who/\v.who<n/\0<=v.slot/\v.slot<=1073741824)->∀s,Ext h s->R (TV.i 5).val s:=λP s x=>by
  have e:cH t v=(5,t):=by unfold cH;rw[if_pos (by rw[M];exact P)]
  have:=G s Fi;rw[e]at this;exact this (p.ext x) (.an x)
 refine⟨v.who,v1.ah rfl,Yw B ⟨_,rfl,ajg (λP=>O (λs=>?_) y I) λo=>⟨v.slot,v1.ah rfl,ID (λs=>O (λm=>ω) y I) λg1=>⟨v.slot,v1.ah rfl,ID (λs=>O (λm=>ω) y I) λg2=>?_⟩⟩⟩⟩
 ·have:Qh n v.who=true:=decide_eq_true ⟨s.1,s.2.1⟩;rw[this]at P;cases P
 have o:0<=v.who/\v.who<n:=of_decide_eq_true (show Qh n v.who=true by simpa using o);have can:0<=v.who/\v.who<t.bR.length/\0<=v.slot/\v.slot<=1073741824:=by rw[M];omega
 refine C _ y ?_;clear C N O;dsimp only
 have d:cH t v=if Dv t v.who=true then((4:Int),t)else match kF (v.who,aL t v.slot) t.first with
  |some r=>if r=v.target then(1,t)else(2,{t with out:=t.out.set v.who.toNat true})
  |none=>match dU t v.who with
   |some l=>if aL t v.slot<aL t l.slot then(3,{t with first:=t.first++[((v.who,aL t v.slot),v.target)]})
    else(0,{t with bR:=t.bR.set v.who.toNat (some v),first:=t.first++[((v.who,aL t v.slot),v.target)]})
   |none=>(0,{t with bR:=t.bR.set v.who.toNat (some v),first:=t.first++[((v.who,aL t v.slot),v.target)]}):=by
  unfold cH;rw[if_neg (λm=>m can)];rfl
 have ap:=qT p.ok can.2.2.1 can.2.2.2;have a6:ai9 .i64 (ajY v.slot t.slots)=aL t v.slot:=wrap_i64 (by unfold aL at ap;omega) (by unfold aL at ap;omega);refine⟨Ou,B.var.ah rfl,v.who,v1.ah rfl,aa2 B.ou.elems o.1 (Q4 p.ok o.1 o.2) ?_⟩;refine ajg (λJ=>?_) λJ=>?_
 ·rw[if_pos J]at d;rw[d]at G;exact G y Fi B (.an I)
 rw[if_neg (by rw[J];decide)]at d;refine⟨v.slot,v1.ah rfl,t.slots,B.var.ah rfl,ω,Fi,B.var.ah rfl,?_⟩;rw[a6]
 refine⟨λσ s=>0<=σ.2/\σ.2<=t.first.length/\Ext y s/\∀(j:Nat)(e:(Int×Int)×Bs 32),(j:Int)<σ.2->t.first[j]? =some e->e.1≠(v.who,aL t v.slot),λσ _=>((t.first.length:Int)-σ.2).toNat,
  ⟨ai8 0,by dsimp only;omega,ai3 _,λj e Q=>by dsimp only at Q;omega⟩,?_⟩
 rintro⟨z0,i⟩ S ⟨i0,i1,T,ha⟩;dsimp only at i0 i1 ha⊢;have ac:=I.trans T;have u:=B.ext T;have K:Var 124 S h.size v.tv:=Var.ext (t:=v.tv) v1 T;refine ID (λa=>?_) λa=>?_
 ·obtain⟨e,L⟩:∃e,t.first[i.toNat]? =some e:=⟨_,ai2 ω⟩;refine Yx u.f.elems i0 L ?_;refine af λU v3 x3 s3=>av (t:=Am e) v3 (IP e).symm rfl λf v4 f4 s4=>?_;have V:Ext S f:=ai0 x3 f4 λi a=>ai5 (ai7 a);have ar:=ac.trans V;have w:Var 124 f h.size v.tv:=Var.ext (t:=v.tv) K V;have A:=u.ext V;have v4:Var 255 f S.size (Am e):=v4;rw[wrap_i64 (n:=i+1) ω ω]
  have next:e.1≠(v.who,aL t v.slot)->(0<=i+1/\i+1<=(t.first.length:Int)/\Ext y f/\∀(j:Nat)(e:(Int×Int)×Bs 32),(j:Int)<i+1->t.first[j]? =some e->e.1≠(v.who,aL t v.slot))/\((t.first.length:Int)-(i+1)).toNat<((t.first.length:Int)-i).toNat:=λa7=>
   ⟨⟨ω,ω,T.trans V,λj e' Q ad=>by
     by_cases a8:j=i.toNat
     ·subst a8;rw[L]at ad;cases ad;exact a7
     ·exact ha j e' ω ad⟩,ω⟩
  intro N C;refine⟨_,v4.ah rfl,v.who,w.ah rfl,?_⟩;refine ID (λhw=>⟨_,v4.ah rfl,?_⟩) λhw=>C _ f (aja (next λh=>hw (by rw[h])));refine C _ f ?_;refine ID (λD=>?_) λD=>next λh=>D (by rw[h])
  have c:e.1=(v.who,aL t v.slot):=Prod.ext hw D;have hg:kF (v.who,aL t v.slot) t.first=some e.2:=WM p.ok.one (by rw[<-c];exact ajf L);rw[hg]at d;refine⟨_,v4.at.2.2,_,w.at.2.2,?_⟩;dsimp only;rw[show decide (e.2.l=v.target.l)=decide (e.2=v.target)from El _ _];refine ID (λD=>?_) λD=>⟨Ou,A.var.ah rfl,v.who,w.ah rfl,?_⟩
  ·simp only[D,if_true]at d;rw[d]at G;exact G f Fi A (.an ar)
  ·simp only[D,if_false]at d;rw[d]at G H;refine A.ou.aH (sz:=1) (n:=1) (t:=.bool true) o.1 (by simp[a5];omega) rfl rfl λh6 o6 f6 s6=>?_;have of:∀k,k≠4->∀i,kO b Fi La Ha Ou k i->¬In Ou i:=λk c i a m=>c (z k 4 i a m);refine G h6 Fi ⟨A.var.only f6 (of 0 δ _ rfl),A.f.keep f6 (of 1 δ),A.la.keep f6 (of 2 δ),A.ha.keep f6 (of 3 δ),?_,H,p.jk,⟨p.sep.nC,λj i a=>by have:=A.sep.lt j i a;omega⟩⟩ ⟨(ajp ar).trans (f6.mono λi a=>⟨4,a⟩),λi a=>.inl a⟩;simpa[VX,ajJ]using o6
 ·have hg:kF (v.who,aL t v.slot) t.first=none:=AI.2 λhm=>by
   obtain⟨e,L,c⟩:=aje.1 hm;obtain⟨j,Q,rfl⟩:=List.getElem_of_mem L;exact ha j _ ω (ai2 Q) c
  rw[hg]at d;simp only at d;refine⟨Fi,u.var.ah rfl,v.who,K.ah rfl,v.target,K.at.2.2,ajl _ _,?_⟩;have b0:=ac.size;have b1:=K.lt;refine adp (x:=((v.who,aL t v.slot),v.target)) u.f ω λg U f3 F n3=>?_;have W:∀k,k≠1->∀i,kO b Fi La Ha Ou k i->¬In Fi i:=λk c i a m=>c (z k 1 i a m);have a9:Step (kO b Fi La Ha Ou 1) S (In g) U:=⟨F,n3⟩;have X:=u.sep.step a9 (f3.gv);rw[Yy]at X;have z3:=X.nC;have v3:Var 192 U b (.agg [.i n,.i t.slots,.slice Fi,.slice La,.slice Ha,.slice Ou]):=u.var.only F (W 0 δ _ rfl);have a':=u.la.keep F (W 2 δ);have ba:=u.ha.keep F (W 3 δ);have bb:=u.ou.keep F (W 4 δ);have aw:∀i,ji b Fi La Ha Ou i->i<h.size:=λi a=>p.lt a;have w3:Var 124 U h.size v.tv:=Var.only (t:=v.tv) K F λa=>by have:=aw _ ⟨1,a⟩;omega
  refine aF v3 (i:=2) (t:=.slice g) rfl rfl rfl rfl λf v4 f4 s4=>?_;have v4:Var 192 f b (.agg [.i n,.i t.slots,.slice g,.slice La,.slice Ha,.slice Ou]):=v4;have Y:∀k,k≠0->∀i,kO b g La Ha Ou k i->¬i=b:=λk c i a m=>c (z3 k 0 i a m);have aE:=f3.keep f4 (Y 1 δ);have ae:=a'.keep f4 (Y 2 δ);have al:=ba.keep f4 (Y 3 δ);have a0:=bb.keep f4 (Y 4 δ);have w:Var 124 f h.size v.tv:=Var.only (t:=v.tv) w3 f4 (show¬h.size=b by omega);have a1:ag (ji b Fi La Ha Ou) h f:=((ajp ac).trans (F.mono λi a=>⟨1,a⟩)).trans (f4.mono λi a=>⟨0,a⟩)
  have a2:∀i,ji b g La Ha Ou i->ji b Fi La Ha Ou i\/h.size<=i:=λi⟨k,c⟩=>by
   match k,c with
   |0,c=>exact .inl ⟨0,c⟩
   |1,c=>
    rcases n3 i c with h9|h9
    ·exact .inl ⟨1,h9⟩
    ·exact .inr ω
   |2,c=>exact .inl ⟨2,c⟩
   |3,c=>exact .inl ⟨3,c⟩
   |4,c=>exact .inl ⟨4,c⟩
   |k+5,c=>exact c.elim
  have am:Sep f (kO b g La Ha Ou):=⟨X.nC,λj i a=>by have:=X.lt j i a;omega⟩;obtain⟨old,ao,bc⟩:=EI p.ok o.1 o.2;have a3:(t.first++[((v.who,aL t v.slot),v.target)]).length<50000:=by simp;omega
  intro N C
  have last:cH t v=(0,{t with bR:=t.bR.set v.who.toNat (some v),first:=t.first++[((v.who,aL t v.slot),v.target)]})->∀q,N q f:=λE q=>by
   rw[E]at G H;refine C q f ⟨La,v4.ah rfl,v.who,w.ah rfl,RG (x:=v) w ?_⟩;refine ae.aH (sz:=34) (n:=34) (t:=v.tv) o.1 (by simp[MX,M];omega) (Z3 v) rfl λh5 bd f5 s5=>?_;have Z:∀k,k≠2->∀i,kO b g La Ha Ou k i->¬In La i:=λk c i a m=>c (z3 k 2 i a m);have v5:Var 192 h5 b (.agg [.i n,.i t.slots,.slice g,.slice La,.slice Ha,.slice Ou]):=v4.only f5 (Z 0 δ _ rfl);have bi:=aE.keep f5 (Z 1 δ);have bj:=al.keep f5 (Z 3 δ);have bk:=a0.keep f5 (Z 4 δ);have w5:Var 124 h5 h.size v.tv:=Var.only (t:=v.tv) w f5 λa=>by have:=aw _ ⟨2,a⟩;omega
   refine⟨Ha,v5.ah rfl,v.who,w5.ah rfl,?_⟩;refine bj.aH (sz:=1) (n:=1) (t:=.bool true) o.1 (by simp[RJ,M];omega) rfl rfl λh6 bl f6 s6=>?_;have ab:∀k,k≠3->∀i,kO b g La Ha Ou k i->¬In Ha i:=λk c i a m=>c (z3 k 3 i a m);refine G h6 g ⟨v5.only f6 (ab 0 δ _ rfl),bi.keep f6 (ab 1 δ),?_,?_,bk.keep f6 (ab 4 δ),H,a3,⟨am.nC,λj i a=>by have:=am.lt j i a;omega⟩⟩ ⟨(a1.trans (f5.mono λi a=>⟨2,a⟩)).trans (f6.mono λi a=>⟨3,a⟩),a2⟩
   ·have:=bd.keep f6 (ab 2 δ);simpa[MX,EG,ajJ]using this
   ·simpa[RJ,VX,ajJ]using bl
  have bm:(RJ t)[v.who.toNat]? =some old.isSome:=by unfold RJ;rw[ai4,ao];rfl
  refine⟨Ha,v4.ah rfl,v.who,w.ah rfl,aa2 al.elems o.1 bm ?_⟩;rw[bc]at d;cases old with
  |none=>exact aja (last d _)
  |some old=>
   have J:=p.ok.Q1 _ old ao;have a4:=qT p.ok J.2.1 J.2.2;have bo:(EG (MX t))[v.who.toNat]? =some old.tv:=by unfold EG MX;rw[ai4,ai4,ao];rfl
   have b2:=p.lla;refine ajh ⟨La,v4.ah rfl,v.who,w.ah rfl,ae.elems.read o.1 ω λl tv _ ht bp=>?_⟩;rw[bo]at ht;cases ht;refine⟨old.slot,bp.2.1,t.slots,v4.ah rfl,ω,?_⟩;rw[show ai9 .i64 (ajY old.slot t.slots)=aL t old.slot from wrap_i64 (by unfold aL at a4;omega) (by unfold aL at a4;omega)];refine ID (λbr=>?_) λbt=>last ?_ _
   ·simp only[br,if_true]at d;rw[d]at G H;exact G f g ⟨v4,aE,ae,al,a0,H,a3,am⟩ ⟨a1,a2⟩
   ·simp only[bt,if_false]at d;exact d
theorem MY{α:Type}{l:List α}{i:Nat}{x:α}(pred:α->Bool)(q:l[i]? =some x):(l.take (i+1)).filter pred=(l.take i).filter pred++if pred x=true then[x]else[]:=by
 rw[take_succ q,List.filter_append];congr 1;cases h:pred x<;>simp[List.filter,h]
theorem MZ(p:JK h b Fi La Ha Ou t n){slot:Int}(U:slot<=1073741824)
 (H:∀h' I,JK h' b I La Ha Ou (dB t slot) n->Step (ji b Fi La Ha Ou) h (ji b I La Ha Ou) h'->R (ajc []).val h'):
 Cl 113 [.ptr (PT b),.i slot] h R:=by
 apply nc;delta aI jT eX dL fJ bN;have hs:=p.ok.slots;have ab:=p.jk;have lF:=p.lf;obtain⟨pred,q⟩:∃pred:(Int×Int)×Bs 32->Bool,pred=λe=>decide (slot<0)||decide (aL t slot<=e.1.2):=⟨_,rfl⟩
 have Q:(dB t slot).first=t.first.filter pred:=by
  unfold dB;rw[q];split
  ·rename_i g;simp only[decide_eq_true g,Bool.true_or];exact(List.filter_eq_self.2 λ_ _=>rfl).symm
  ·rename_i g;simp only[decide_eq_false g,Bool.false_or]
 have S:dB t slot={t with first:=t.first.filter pred}:=by
  rw[<-Q];unfold dB;split<;>rfl
 have J:=p.ok.forget slot;rw[S]at H J;refine⟨Fi,p.var.ah rfl,?_⟩;refine⟨λσ K=>0<=σ.2/\σ.2<=t.first.length/\Ext h K/\(∀i,In σ.1 i->h.size<=i)/\Own 255 34 K σ.1 (RI ((t.first.take σ.2.toNat).filter pred)),λσ _=>((t.first.length:Int)-σ.2).toNat,⟨ai8 0,by dsimp only;omega,ai3 _,(λj A=>(qN A).elim),ajt ..⟩,?_⟩;rintro⟨s,i⟩ f ⟨L,T,r,lo,l⟩;dsimp only at L T lo l⊢;have o:=p.ext r;refine ID (λc=>?_) λc=>?_
 ·obtain⟨e,M⟩:∃e,t.first[i.toNat]? =some e:=⟨_,ai2 ω⟩;refine Yx o.f.elems L M ?_;refine af λN B V W=>av (t:=Am e) B (IP e).symm rfl λd v4 f4 s4=>?_;have u:Ext f d:=ai0 V f4 λi c=>ai5 (ai7 c);have v4:Var 255 d f.size (Am e):=v4;have C:=r.trans u;have st:=MY pred M
  have D:((t.first.take i.toNat).filter pred).length<100000:=by
   have E:=ajr pred (t.first.take i.toNat);have f:=List.length_take_le i.toNat t.first;omega
  rw[wrap_i64 (n:=i+1) ω ω]
  have add:pred e=true->∃(n:Int),∃(m:Int),∃(k:Bs 32),(ah d f.size 0 (.i n)/\ah d f.size 1 (.i m)/\ay d f.size 2 32 k)/\
   ∃new,cv (d.push (row (aiZ [ajx [.i n,.i m,.bytes 32 k]]) 255)) (ajo (some (Vc.Loc.mk d.size 0)) 1 1) 34 new/\(∀v∈new,bQ v=true)/\aq ctx 255 s 1 new (d.push (row (aiZ [ajx [.i n,.i m,.bytes 32 k]]) 255)) λF h'=>
    (0<=i+1/\i+1<=(t.first.length:Int)/\Ext h h'/\(∀i,In F i->h.size<=i)/\Own 255 34 h' F (RI ((t.first.take (i+1).toNat).filter pred)))/\((t.first.length:Int)-(i+1)).toNat<((t.first.length:Int)-i).toNat:=λG=>by
   rw[if_pos G]at st;refine adq v4 (adp (x:=e) (l.ext u) D λF h5 X f5 Y=>⟨⟨ω,ω,ai0 C f5 lo,λj A=>?_,?_⟩,ω⟩)
   ·rcases Y j A with O|O
    ·exact lo j O
    ·have:=C.size;omega
   ·rw[show(i+1).toNat=i.toNat+1 by omega,st];exact X
  refine ID (λg=>add (by rw[q];simp[g])) λg=>⟨_,v4.ah rfl,t.slots,(o.ext u).var.ah rfl,ω,?_⟩;have P:=qT p.ok (s:=slot) ω U;rw[show ai9 .i64 (ajY slot t.slots)=aL t slot from wrap_i64 (by unfold aL at P;omega) (by unfold aL at P;omega)];refine ID (λE=>add (by rw[q];simp[E])) λE=>?_;have G:¬pred e=true:=by rw[q];simp;omega
  rw[if_neg G,ajT]at st;refine⟨⟨ω,ω,C,lo,?_⟩,ω⟩;rw[show(i+1).toNat=i.toNat+1 by omega,st];exact l.ext u
 ·rw[show i.toNat=t.first.length by omega,ajs]at l;have st:Step (kO b Fi La Ha Ou 1) h (In s) f:=⟨ajp r,λi c=>.inr (lo i c)⟩;have w:=p.sep.step st l.gv;rw[Yy]at w;have z:=w.nC;have y:∀k,k≠0->∀i,kO b s La Ha Ou k i->¬i=b:=λk a i c Z=>a (z k 0 i c Z);refine aF o.var (i:=2) (t:=.slice s) rfl rfl rfl rfl λN B f3 W=>?_
  have D:(t.first.filter pred).length<50000:=by
   have:=ajr pred t.first;omega
  refine H N s ⟨B,l.keep f3 (y 1 δ),o.la.keep f3 (y 2 δ),o.ha.keep f3 (y 3 δ),o.ou.keep f3 (y 4 δ),J,D,⟨w.nC,λj i c=>by have:=w.lt j i c;omega⟩⟩ ⟨(ajp r).trans (f3.mono λi c=>⟨0,c⟩),λi⟨k,a⟩=>?_⟩
  match k,a with
  |0,a=>exact .inl ⟨0,a⟩
  |1,a=>exact .inr (lo i a)
  |2,a=>exact .inl ⟨2,a⟩
  |3,a=>exact .inl ⟨3,a⟩
  |4,a=>exact .inl ⟨4,a⟩
  |k+5,a=>exact a.elim
def PE(c:Cf)(tr q:Nat):TV:=.agg [c.tv,.ptr (PT tr),.ptr (PT q)]
section
variable{m bk:Nat}{A B D:Sl}{N:List Nd}{most:Int}{c:Cf}{V:List Vd}
theorem PF(E:Var 134 h bk (PE c m b))(p:RT h m A B D N most)(q:JK h b Fi La Ha Ou t n)(H:t.first.length<49999){v:Vt}
 (G:∀h' d,JK h' b d La Ha Ou (ia N t v).2 n->Step (ji b Fi La Ha Ou) h (ji b d La Ha Ou) h'->R (TV.i (ia N t v).1).val h'):
 Cl 112 [.ptr (PT bk),v.tv] h R:=by
 apply qg (PT bk) v.who v.slot v.target;delta aD Bd dw jS bu dO aJ bK aT bh;refine af λC v1 g P=>?_;have v1:Var 124 C h.size v.tv:=v1
 have l:ia N t v=(6,t)->∀f,Ext h f->R (TV.i 6).val f:=λe f x=>by
  have:=G f Fi;rw[e]at this;exact this (q.ext x) (.an x)
 refine⟨_,(E.ext g).ah rfl,_,v1.at.2.2,fA (p.ext g) λi o=>⟨_,rfl,?_⟩⟩;have a:=g.trans o;have s:Var 124 i h.size v.tv:=Var.ext (t:=v.tv) v1 o;have w:=p.ext a;refine ID (λF=>l (by unfold ia nodeAt;rw[if_neg ω]) i a) λF=>?_;obtain⟨k,u,Q,I,j,S,T⟩:=fB (r:=v.target) (L:=N) ω;have y:N[(place v.target N).toNat]? =some u:=by rw[I,ajb];exact j
 have z:nodeAt N (place v.target N)=some u:=by unfold nodeAt;rw[if_pos ω];exact y
 refine⟨_,(E.ext a).ah rfl,B,w.var.ah rfl,zZ w.b.elems ω (AU y) ⟨v.slot,s.ah rfl,ID (λJ=>l ?_ i a) λK=>?_⟩⟩
 ·unfold ia;rw[z];simp only[J,if_true]
 ·have M:ia N t v=cH t v:=by
   unfold ia;rw[z];simp only[K,if_false]
  rw[M]at G;refine⟨_,(E.ext a).ah rfl,RG (x:=v) s (RK (q.ext a) H λO d j st=>⟨_,rfl,G O d j (.cut a st)⟩)⟩
end
end
end Gate
namespace Gate
open Pool (It)
def a_(no:Int)(r:Bs 32)(p:St×List (Bs 32))(x:It):St×List (Bs 32):=
 if nQ p.1.N no x.root r x.slot=0 then({p.1 with N:=iF p.1.N no x.root r x.slot},p.2++[x.root])
 else if nQ p.1.N no x.root r x.slot=6 then({p.1 with left:=p.1.left+1},p.2)else p
def fZ(no:Int):Nat->List (Bs 32)->St->St
 |0,_,s=>s
 |_+1,[],s=>s
 |f+1,r::q,s=>
  fZ no f ((s.kids.filter λx=>decide (x.fr=r)).foldl (a_ no r) ({s with kids:=s.kids.filter λx=>!decide (x.fr=r)},q)).2
   ((s.kids.filter λx=>decide (x.fr=r)).foldl (a_ no r) ({s with kids:=s.kids.filter λx=>!decide (x.fr=r)},q)).1
def tw(no:Int)(root parent:Bs 32)(slot:Int)(s:St):St:=fZ no (1+s.kids.length) [root] {s with N:=iF s.N no root parent slot}
structure tC(n:Nat)(s s':St):Prop where
 tb:s'.tb=s.tb
 wait:s'.wait=s.wait
 sc:s'.sc=s.sc
 gone:s'.gone=s.gone
 now:s'.now=s.now
 left:s.left<=s'.left/\s'.left<=s.left+n
section
variable{no:Int}{r:Bs 32}{s:St}{q:List (Bs 32)}
theorem tC.trans{a b:Nat}{A B E:St}(h:tC a A B)(k:tC b B E):tC (a+b) A E:=
 ⟨k.tb.trans h.tb,k.wait.trans h.wait,k.sc.trans h.sc,k.gone.trans h.gone,k.now.trans h.now,by have:=h.left;have:=k.left;omega⟩
theorem tC.refl(s:St):tC 0 s s:=⟨rfl,rfl,rfl,rfl,rfl,ω⟩
theorem tC.mono{a b:Nat}{s A:St}(h:tC a s A)(B:a<=b):tC b s A:=⟨h.tb,h.wait,h.sc,h.gone,h.now,by have:=h.left;omega⟩
theorem M0(x:It)(p:St×List (Bs 32)):tC 1 p.1 (a_ no r p x).1/\(a_ no r p x).1.kids=p.1.kids/\(a_ no r p x).2.length<=p.2.length+1:=by
 unfold a_;split
 ·exact⟨⟨rfl,rfl,rfl,rfl,rfl,by dsimp only;omega⟩,rfl,by simp⟩
 ·split
  ·exact⟨⟨rfl,rfl,rfl,rfl,rfl,by dsimp only;omega⟩,rfl,by dsimp only;omega⟩
  ·exact⟨(tC.refl _).mono ω,rfl,ω⟩
theorem me:∀(L:List It)(p:St×List (Bs 32)),tC L.length p.1 (L.foldl (a_ no r) p).1/\(L.foldl (a_ no r) p).1.kids=p.1.kids/\(L.foldl (a_ no r) p).2.length<=p.2.length+L.length
 |[],p=>⟨tC.refl _,rfl,by simp⟩
 |x::L,p=>by
  obtain⟨A,B,E⟩:=M0 (no:=no) (r:=r) x p;obtain⟨a,b,c⟩:=me L (a_ no r p x);rw[aj5];exact⟨(A.trans a).mono (by simp;omega),b.trans B,by simp only[aju];omega⟩
theorem wY(L:List It)(p:It->Bool):(L.filter λx=>p x).length+(L.filter λx=>!p x).length=L.length:=by
 induction L with
 |nil=>rfl
 |cons x L a=>cases h:p x<;>simp[h]<;>omega
theorem Lb:∀(f:Nat)(q:List (Bs 32))(s:St),tC s.kids.length s (fZ no f q s)/\(∀x∈(fZ no f q s).kids,x∈s.kids)/\(fZ no f q s).left+(fZ no f q s).kids.length<=s.left+s.kids.length
 |0,q,s=>by unfold fZ;exact⟨(tC.refl _).mono ω,λ_ h=>h,ai8 _⟩
 |_+1,[],s=>by unfold fZ;exact⟨(tC.refl _).mono ω,λ_ h=>h,ai8 _⟩
 |f+1,r::q,s=>by
  unfold fZ;obtain⟨L,A⟩:∃L,L=s.kids.filter λx=>decide (x.fr=r):=⟨_,rfl⟩;obtain⟨K,b⟩:∃K,K=s.kids.filter λx=>!decide (x.fr=r):=⟨_,rfl⟩;have n:L.length+K.length=s.kids.length:=by rw[A,b];exact wY _ _
  rw[<-A,<-b];obtain⟨a,c,g⟩:=me (no:=no) (r:=r) L ({s with kids:=K},q);generalize L.foldl (a_ no r) ({s with kids:=K},q)=p at a c g⊢;obtain⟨d,e,i⟩:=Lb f p.2 p.1;have j:p.1.kids=K:=c;have k:=a.left;dsimp only at k;rw[j]at d e i;have l:tC L.length s p.1:=⟨a.tb,a.wait,a.sc,a.gone,a.now,a.left⟩;refine⟨(l.trans d).mono ω,λx m=>?_,ω⟩;have:=e x m;rw[b]at this;exact(ajv.1 this).1
theorem IQ:∀(f:Nat)(q:List (Bs 32))(s:St),(fZ no f q s).kids.length<=s.kids.length
 |0,q,s=>by unfold fZ;exact ai6 _
 |_+1,[],s=>by unfold fZ;exact ai6 _
 |f+1,r::q,s=>by
  unfold fZ;obtain⟨_,A,_⟩:=me (no:=no) (r:=r) (s.kids.filter λx=>decide (x.fr=r)) ({s with kids:=s.kids.filter λx=>!decide (x.fr=r)},q);refine ajj (IQ f _ _) ?_;rw[A];exact ajr _ _
end
end Gate
end Go.Proofs.YtennbinbffdimaaGreat
namespace Go.Vc
open Go
structure qh(T:TypeId)(sz:Nat)(h:aa)(s:Sl)(ts:List TV):Prop where
 size:∀t∈ts,t.size=sz
 len:ts.length=s.len
 cap:s.len<=s.cap
 row:∃b pre rest,s.a=some ⟨b,pre.length⟩/\h[b]? =some (Go.Vc.row (pre++(aiZ ts++rest)) T)/\(s.cap-s.len)*sz<=rest.length
section
variable{T:TypeId}{sz:Nat}{h h':aa}{s:Sl}{ts:List TV}
theorem qh.new(h:aa)(ts:List TV)(q:∀t∈ts,t.size=sz):qh T sz (h.push (Go.Vc.row (aiZ ts) T)) ⟨some ⟨h.size,0⟩,ts.length,ts.length⟩ ts:=
 ⟨q,rfl,ai6 _,h.size,[],[],rfl,by simp,by simp⟩
theorem qh.only{S:Nat->Prop}(o:qh T sz h s ts)(e:ag S h h')(q:∀i,(∃l,s.a=some l/\l.b=i)->¬S i):qh T sz h' s ts:=by
 refine⟨o.size,o.len,o.cap,?_⟩;obtain⟨b,pre,d,a,c,f⟩:=o.row;exact⟨b,pre,d,a,by rw[e.same b (jo c) (q _ ⟨_,a,rfl⟩),c],f⟩
theorem qh.ext(o:qh T sz h s ts)(e:Ext h h'):qh T sz h' s ts:=o.only (S:=λ_=>False) (ajp e) λ_ _ a=>a
theorem qh.lt(o:qh T sz h s ts):∀l,s.a=some l->l.b<h.size:=λl a=>by
 obtain⟨b,pre,e,c,d,_⟩:=o.row;rw[c]at a;cases a;exact jo d
theorem aa3{b:Nat}{pre q:List Value}(A:h[b]? =some (Go.Vc.row (pre++(aiZ ts++q)) T)){j:Nat}(B:j<(aiZ ts).length):lz h b (pre.length+j)=(aiZ ts)[j]?:=by
 unfold lz;rw[A];simp only[Go.Vc.row];rw[List.getElem?_toArray,List.getElem?_append_right ω,show pre.length+j-pre.length=j by omega,List.getElem?_append_left B]
theorem qh.elems(o:qh T sz h s ts):ak sz h s ts:=by
 obtain⟨b,pre,p,c,f,q⟩:=o.row;refine⟨o.len,λd=>(by rw[c]at d;cases d),λl e i t a=>?_⟩;rw[c]at e;cases e;rw[TV.lC];intro j r;have u:=o.size t (ajf a);have g:=aj.qt ts i j t o.size a ω;have k:=aj.bz ts o.size;have m:i<ts.length:=(aji.1 a).1
 have n:i*sz+j<(aiZ ts).length:=by
  rw[k];have:(i+1)*sz<=ts.length*sz:=Nat.mul_le_mul_right _ m;rw[Nat.succ_mul]at this;omega
 have:=aa3 f n;rw[g]at this;rw[<-this];congr 1;simp only;omega
theorem qh.aew{t:TV}(o:qh T sz h s (t::ts)):qh T sz h (aA s 1 s.len sz) ts:=by
 obtain⟨b,pre,c,d,e,g⟩:=o.row;have i:=o.len;have m:=o.cap;simp only[aju]at i;have j:t.cells.length=sz:=by rw[TV.ai,o.size t (List.mem_cons_self ..)]
 have f:aiZ (t::ts)=t.cells++aiZ ts:=rfl;refine⟨λx k=>o.size x (List.mem_cons_of_mem _ k),by simp only[aA];omega,by simp only[aA];omega,?_⟩;unfold aA;by_cases a:s.cap=1
 ·have l:ts=[]:=List.eq_nil_of_length_eq_zero ω;subst l;exact⟨b,pre,t.cells++c,by simp only[a,if_true];exact d,by rw[e,f];simp[aiZ],by simp[a]⟩
 ·refine⟨b,pre++t.cells,c,by simp[a,d,j],by rw[e,f];simp only[ajF],?_⟩;simp only;rw[show s.cap-1-(s.len-1)=s.cap-s.len by omega];exact g
theorem Yz{C:Ctx}{x:TV}{K:Sl->aa->Prop}(A:(C.ti T).size=sz)(I:(C.ti T).z.size=sz)(J:0<(C.ti T).bytes)
 (M:(s.len+1)*(C.ti T).bytes<=70368744177664)(o:qh T sz h s ts)(q:x.size=sz)(O:x.plain=true)
 (B:∀m h',qh T sz h' m (ts++[x])->ag (λb=>∃l,s.a=some l/\l.b=b) h h'->(∀l,m.a=some l->(∃u,s.a=some u/\u.b=l.b)\/h.size<=l.b)->K m h'):
 ∃new,cv (h.push (row (aiZ [x]) T)) (ajo (some (Loc.mk h.size 0)) 1 1) sz new/\(∀v∈new,bQ v=true)/\aq C T s 1 new (h.push (row (aiZ [x]) T)) K:=by
 have w:aiZ [x]=x.cells:=by simp[aiZ]
 have n:x.cells.length=sz:=by rw[TV.ai,q]
 refine⟨x.cells,⟨by simp[n],.inr ⟨_,rfl,λj y=>?_⟩⟩,TV.gj x O,?_⟩
 ·unfold lz;simp[row,w]
 have f:Ext h (h.push (row (aiZ [x]) T)):=ajl h _;have L:=o.ext f
 have D:∀t∈ts++[x],t.size=sz:=λt p=>by
  rcases List.mem_append.1 p with g|g
  ·exact o.size t g
  ·simp only[List.mem_singleton]at g;rw[g];exact q
 have i:=aj.bz ts o.size;have E:aiZ (ts++[x])=aiZ ts++x.cells:=by rw[aj.fe,w]
 have W:=o.len;obtain⟨b,pre,a,d,r,F⟩:=L.row;refine⟨aiZ ts,⟨by rw[A,i,o.len],.inr ⟨_,d,λj y=>aa3 r y⟩⟩,M,J,λN=>?_,λ_ k=>(by rw[d]at k;cases k),λN c P=>?_⟩
 ·refine⟨.inr (by rw[d];rfl),λl e=>?_⟩;rw[d]at e;cases e;rw[A]
  have X:x.cells.length<=a.length:=by
   rw[n];refine ajj ?_ F;exact Nat.le_mul_of_pos_left _ ω
  have G:pre.length+s.len*sz+x.cells.length<=(pre++(aiZ ts++a)).length:=by simp only[ajk,i,<-o.len];omega
  refine⟨gO r G,?_⟩;obtain⟨Q,R,S⟩:=iO x.cells (h.push (row (aiZ [x]) T)) b (pre.length+s.len*sz) _ T r G;refine B _ _ ⟨D,by simp[o.len],by simp only;omega,b,pre,a.drop sz,rfl,?_,?_⟩ ?_ ?_
  ·rw[Q,E,<-o.len];congr 1;congr 1
   have p:(pre++(aiZ ts++a)).take (pre.length+ts.length*sz)=pre++aiZ ts:=by
    rw[<-i,<-ajF,show pre.length+(aiZ ts).length=(pre++aiZ ts).length by simp,List.take_left]
   have U:(pre++(aiZ ts++a)).drop (pre.length+ts.length*sz+x.cells.length)=a.drop sz:=by
    rw[<-i,<-ajF,show pre.length+(aiZ ts).length+x.cells.length=(pre++aiZ ts).length+sz by simp[n],List.drop_append];simp
   rw[p,U];simp only[ajF]
  ·simp only[ajZ]
   have:(s.cap-(s.len+1))*sz+sz<=a.length:=by
    refine ajj (ai5 ?_) F;rw[<-Nat.succ_mul];congr 1;omega
   omega
  ·refine⟨by rw[R];exact f.size,λH V k=>?_⟩;rw[S H (λq=>k ⟨_,d,q.symm⟩),f.same H V]
  ·intro l e;cases e;exact .inl ⟨_,d,rfl⟩
 ·have Y:(h.push (row (aiZ [x]) T)).size=h.size+1:=by simp
  refine B _ _ ⟨D,by simp[o.len],P,_,[],bZ (C.ti T).z (c-(s.len+1)),rfl,?_,?_⟩ ?_ ?_
  ·rw[cg,E];simp
  ·rw[iD,I];exact ai6 _
  ·exact ajp (f.trans (ajl _ _))
  ·intro l e;cases e;right;simp only;omega
end
end Go.Vc
namespace Go.Proofs.YtennbinbffdimaaGreat
open Go Go.Vc
namespace Gate
open Pool (rts jV Im AS ML GG)
theorem aex{h:aa}{s:Sl}{L:List (Bs 32)}{x:Bs 32}{K:Sl->aa->Prop}(o:qh 52 32 h s (rts L))(q:L.length<100000)(A:∀a h',qh 52 32 h' a (rts (L++[x]))->ag (In s) h h'->(∀i,In a i->In s i\/h.size<=i)->K a h'):
 ∃new,cv (h.push (row (aiZ [ajm 32 x]) 52)) (ajo (some (Vc.Loc.mk h.size 0)) 1 1) 32 new/\(∀v∈new,bQ v=true)/\aq ctx 52 s 1 new (h.push (row (aiZ [ajm 32 x]) 52)) K:=by
 have c:=o.len;rw[kz]at c;refine Yz (C:=ctx) (x:=.bytes 32 x) ML GG (by rw[AS];decide) (by rw[AS];omega) o jV Im λa h' d e f=>A a h' (by simpa[rts]using d) e λi⟨l,q,j⟩=>?_;rcases f l q with⟨g,b,k⟩|b
 ·exact .inl ⟨g,b,ω⟩
 ·exact .inr ω
end Gate
namespace Gate
open Board (Vd Cf jI)
open Pool (It WL dD)
open Peers (Pe)
theorem Step.tail{M M' S:Nat->Prop}{h q h':aa}(a:Step M h M' q)(f:ag S q h')(A:∀i,S i->h.size<=i):Step M h M' h':=
 ⟨⟨ajj a.only.size f.size,λi b c=>(f.same i (aj0 b a.only.size) λe=>by have:=A i e;omega).trans (a.only.same i b c)⟩,a.new⟩
section
variable{h h':aa}{g:Nat}{a:Ad}{c:Cf}{V:List Vd}{s:St}{Fp:Nat->Nat->Prop}{S':Nat->Prop}
theorem aQ.ru(p:aQ h g a c V s Fp){q:List It}(pk:kj 172 h' a.kd q c.eu c.quo S')(st:Step (Fp 4) h S' h'):aQ h' g a c V {s with kids:=q} (mK Fp 4 S'):=by
 have o:∀k,k≠4->∀i,Fp k i->¬Fp 4 i:=λk b=>p.sep.off b;refine⟨p.sep.step st pk.lt,?_,?_,?_,?_,?_,?_,?_,?_,?_,?_,?_,?_,?_,p.BR st,p.can⟩
 ·rw[au δ];exact p.tree.only st.only (o 0 δ)
 ·rw[au δ];exact p.D9.only st.only (o 1 δ)
 ·rw[au δ];exact p.ij.only st.only (o 2 δ)
 ·exact p.bk.only st.only (o 3 δ _ (by rw[p.f3]))
 ·rw[au δ];exact p.f3
 ·rw[bF];exact pk
 ·rw[au δ];exact p.wait.only st.only (o 5 δ)
 ·rw[au δ];exact p.who.only st.only (o 6 δ)
 ·exact p.jL.only st.only (o 7 δ _ (by rw[p.f7]))
 ·rw[au δ];exact p.f7
 ·exact p.var.only st.only (o 8 δ _ (by rw[p.f8]))
 ·rw[au δ];exact p.f8
 ·exact TV.bX st.only p.vals λi d e=>p.off 4 i e d
theorem aQ.M1(p:aQ h g a c V s Fp){n:Int}(q:Clock.CI 217 h' a.jL n (Clock.eD c.win))(f:ag (·=a.jL) h h'):aQ h' g a c V {s with now:=n} Fp/\Step (cO Fp) h (cO Fp) h':=by
 have d:Fp 7 a.jL:=by rw[p.f7]
 have o:∀k,k≠7->∀i,Fp k i->¬i=a.jL:=λk l i b e=>p.sep.off l i b (e▸d);refine⟨⟨⟨p.sep.nC,λj i b=>by have:=p.sep.lt j i b;have:=f.size;omega⟩,?_,?_,?_,?_,p.f3,?_,?_,?_,q,p.f7,?_,p.f8,?_,p.off,p.can⟩,⟨f.mono λi e=>⟨7,by rw[p.f7];exact e⟩,λi b=>.inl b⟩⟩
 ·exact p.tree.only f (o 0 δ)
 ·exact p.D9.only f (o 1 δ)
 ·exact p.ij.only f (o 2 δ)
 ·exact p.bk.only f (o 3 δ _ (by rw[p.f3]))
 ·exact p.kids.only f (o 4 δ)
 ·exact p.wait.only f (o 5 δ)
 ·exact p.who.only f (o 6 δ)
 ·exact p.var.only f (o 8 δ _ (by rw[p.f8]))
 ·exact TV.bX f p.vals λi b e=>p.off 7 i (by rw[p.f7];exact e) b
theorem aQ.YA(p:aQ h g a c V s Fp){n:Int}(v:Var 147 h' g (MV c a n))(f:ag (·=g) h h'):aQ h' g a c V {s with left:=n} Fp/\Step (cO Fp) h (cO Fp) h':=by
 have d:Fp 8 g:=by rw[p.f8]
 have o:∀k,k≠8->∀i,Fp k i->¬i=g:=λk l i b e=>p.sep.off l i b (e▸d);refine⟨⟨⟨p.sep.nC,λj i b=>by have:=p.sep.lt j i b;have:=f.size;omega⟩,?_,?_,?_,?_,p.f3,?_,?_,?_,?_,p.f7,v,p.f8,?_,p.off,p.can⟩,⟨f.mono λi e=>⟨8,by rw[p.f8];exact e⟩,λi b=>.inl b⟩⟩
 ·exact p.tree.only f (o 0 δ)
 ·exact p.D9.only f (o 1 δ)
 ·exact p.ij.only f (o 2 δ)
 ·exact p.bk.only f (o 3 δ _ (by rw[p.f3]))
 ·exact p.kids.only f (o 4 δ)
 ·exact p.wait.only f (o 5 δ)
 ·exact p.who.only f (o 6 δ)
 ·exact p.jL.only f (o 7 δ _ (by rw[p.f7]))
 ·exact TV.bX f p.vals λi b e=>p.off 8 i (by rw[p.f8];exact e) b
end
end Gate
namespace Pool
open Board (Dm dM bT)
theorem YB{most quota:Int}{x:It}{S:List It}{y:It}(h:y∈(cD most quota x S).2.2):y=x\/y∈S:=by
 unfold cD at h;split at h
 ·exact .inr h
 split at h
 ·exact .inr h
 split at h
 ·exact aj1.1 ((eR x S).mem_iff.1 h)
 split at h
 ·exact .inr h
 ·split at h
  ·rcases aj1.1 ((eR x _).mem_iff.1 h)with a|a
   ·exact .inl a
   ·exact .inr (List.dropLast_subset _ a)
  ·exact .inr h
theorem YC{most quota:Int}{x:It}{S:List It}(h:(S.length:Int)<=most):((cD most quota x S).2.2.length:Int)<=most:=by
 unfold cD;split
 ·exact h
 split
 ·exact h
 split
 ·rename_i b;simp only[jJ];omega
 split
 ·exact h
 ·rename_i y a;split
  ·simp only[jJ,List.length_dropLast];have:S≠[]:=λe=>by rw[e]at a;cases a
   have:=List.length_pos_iff.2 this;omega
  ·exact h
def Fit(want:Int->Bool)(x:It):Prop:=x.text.length<1000/\∃d,dM x.text=some d/\want d.kind=true/\x=aY d x.peer x.text
theorem IS{want:Int->Bool}{most quota peer:Int}{text:LU}{S:List It}(E:text.length<1000)(q:∀x∈S,Fit want x):∀y∈(fW want most quota peer text S).2.2,Fit want y:=by
 intro y a;unfold fW at a;split at a
 ·exact q y a
 ·rename_i d b;split at a
  ·rename_i c;rcases YB a with rfl|e
   ·exact⟨E,d,b,c,rfl⟩
   ·exact q y e
  ·exact q y a
theorem IT{want:Int->Bool}{most quota peer:Int}{text:LU}{S:List It}(h:(S.length:Int)<=most):((fW want most quota peer text S).2.2.length:Int)<=most:=by
 unfold fW;split
 ·exact h
 ·split
  ·exact YC h
  ·exact h
section
variable{h0 h h':aa}{o b m:Nat}{A B A' B':Sl}{S M S' M':List It}{most quota:Int}{T:TypeId}{want:Int->Bool}
structure M3(T:TypeId)(want:Int->Bool)(h0 h:aa)(o b:Nat)(A:Sl)(S:List It)(most quota:Int):Prop where
 wl:WL T h o b A S most quota
 low:h0.size<=o/\∀i,dD b A i->h0.size<=i
 old:Ext h0 h
 len:(S.length:Int)<=most
 fit:∀x∈S,Fit want x
 ok:X0 most quota
theorem M3.more(p:M3 T want h0 h o b A S most quota)(x:Ext h h'):M3 T want h0 h' o b A S most quota:=⟨p.wl.ext x,p.low,p.old.trans x,p.len,p.fit,p.ok⟩
theorem M3.step(p:M3 T want h0 h o b A S most quota)(w:WL T h' o b A' S' most quota)(g:Grown b A h A' h')(q:(S'.length:Int)<=most)(E:∀x∈S',Fit want x):M3 T want h0 h' o b A' S' most quota:=
 ⟨w,⟨p.low.1,λi c=>by
   rcases g.new i c with a|a
   ·exact p.low.2 i a
   ·have:=p.old.size;omega⟩,ai0 p.old g.only p.low.2,q,E,p.ok⟩
theorem M3.text(p:M3 T want h0 h o b A S most quota):∀x∈S,x.text.length<1000:=λx a=>(p.fit x a).1
structure Pr(T:TypeId)(want:Int->Bool)(h0 h:aa)(o b m:Nat)(A B:Sl)(S M:List It)(most quota:Int):Prop where
 one:M3 T want h0 h o b A S most quota
 rl:RL h m B M most quota
 ne:o≠m
 ap:¬dD b A m
 bo:∀l,B.a=some l->l.b≠o/\¬dD b A l.b
 aey:h0.size<=m
 aez:(M.length:Int)<=most
theorem Pr.more(p:Pr T want h0 h o b m A B S M most quota)(x:Ext h h'):Pr T want h0 h' o b m A B S M most quota:=⟨p.one.more x,p.rl.ext x,p.ne,p.ap,p.bo,p.aey,p.aez⟩
end
end Pool
namespace Gate
open Board (Vd Cf Ms Dm jI av aP aU eZ ck)
open Pool (It WL dD Fit Bk j9 qx aY jV Im rts)
open Peers (Pe)
def YD:TV:=.agg [.bytes 32 (ai1 32),aU.tv]
theorem FI:YD.size=85:=Bk.X4 ⟨ai1 32,Board.Dm.zero,aiX⟩
abbrev DZ(k:Int):Bool:=decide (k=1)
section
variable{R:Rq}{h h':aa}{g:Nat}{a:Ad}{c:Cf}{V:List Vd}{s:St}{Fp:Nat->Nat->Prop}
theorem RM(p:aQ h g a c V s Fp){root:Bs 32}{m:Ms}(bx:∀x∈s.kids,Fit DZ x)(cB:s.kids.length<1000)(A:0<=s.left/\s.left<1000000000)
 (hr:∀h' bb,aQ h' g a c V (tw c.no root m.target m.slot s) bb->Step (cO Fp) h (cO bb) h'->R (ajc []).val h'):
 Cl 211 [.ptr (PT g),.bytes 32 root,m.tv] h R:=by
 apply yz (PT g) root m.kind m.slot m.target m.ax m.body m.bits m.tag;delta dz iR aG xJ dh gT Be Bb jT eX bV c5 dI fJ bu aJ fU bK bN aT eE;refine af λu v1 x1 s1=>af λB v2 x2 s2=>?_;have v2:Var 58 B u.size m.tv:=v2;have bc:=x1.trans x2;have p2:=p.ext bc;have z1:=x1.size;have z2:=x2.size;refine⟨_,p2.var.ah rfl,root,(v1.ext x2).bytes,m.target,v2.at.2.2.1,m.slot,v2.at.2.1,K6 p2 λD F3 p3 ar=>⟨_,rfl,?_⟩⟩;have b0:∀i,h.size<=i->¬cO Fp i:=λi b⟨k,v⟩=>by have:=p.sep.lt k i v;omega
 have w1:Var 52 D h.size (.bytes 32 root):=(v1.ext x2).only ar.only (b0 _ (ai6 _));refine⟨root,w1.bytes,?_⟩;have bd:=ajl D (row (aiZ [ajm 32 root]) 52);have oq:=qh.new (T:=52) (sz:=32) D (rts [root]) λt ht=>by simp[rts]at ht;rw[ht];exact jV
 have b1:Step (cO Fp) h (cO F3) D:=.cut bc ar;have z3:=ar.only.size;obtain⟨goal,bi⟩:∃goal,goal=tw c.no root m.target m.slot s:=⟨_,rfl⟩;rw[<-bi]at hr
 refine Loop.less (λn σ z=>∃q w F',qh 52 32 z σ (rts q)/\aQ z g a c V w F'/\Step (cO Fp) h (cO F') z/\(∀i,In σ i->h.size<=i/\¬cO F' i)/\(∃f,q.length+w.kids.length<=f/\fZ c.no f q w=goal)/\
  (∀x∈w.kids,Fit DZ x)/\0<=w.left/\w.left+(w.kids.length:Int)<=s.left+s.kids.length/\q.length+w.kids.length<=1+s.kids.length/\n=q.length+w.kids.length) (n0:=1+s.kids.length)
  ⟨[root],{s with N:=iF s.N c.no root m.target m.slot},F3,oq,p3.ext bd,b1.trans (.an bd),λi⟨l,A,b⟩=>?_,⟨1+s.kids.length,ai6 _,bi.symm⟩,bx,A.1,ai8 _,ai6 _,rfl⟩ ?_
 ·cases A;simp only at b;exact⟨ω,λ⟨k,v⟩=>by have:=p3.sep.lt k i v;omega⟩
 rintro n σ z G ⟨q,w,F',oQ,pG,aw,bj,⟨f,hf,hq⟩,aE,l0,l1,kq,rfl⟩ go;have a0:=oQ.len;rw[kz]at a0;refine ID (λcC=>?_) λcI=>?_
 case refine_2=>
  have:q=[]:=List.eq_nil_of_length_eq_zero ω;subst this;have e:fZ c.no f [] w=w:=by cases f<;>rfl
  rw[e]at hq;subst hq;exact hr z F' pG aw
 obtain⟨r,E,rfl⟩:∃r E,q=r::E:=by
  cases q with
  |nil=>simp at a0;omega
  |cons r E=>exact⟨r,E,rfl⟩
 obtain⟨f',rfl⟩:∃f',f=f'+1:=⟨f-1,by simp only[aju]at hf;omega⟩;refine th oQ.elems (ai8 0) (x:=r) rfl ?_;refine af λh4 v4 x4 s4=>av (t:=.bytes 32 r) v4 jV.symm (jV.trans jV.symm) λh5 v5 f5 s5=>⟨δ,ω,?_⟩;have x5:Ext z h5:=ai0 x4 f5 λi b=>ai5 (ai7 b);have Y:=pG.ext x5;have z5:=x5.size;have zh:=aw.only.size;obtain⟨kb,kA,kp,hK⟩:=Y.kids;refine⟨_,Y.var.ah rfl,r,v5.bytes,Pool.X_ kp (λx o=>(aE x o).1) λW A6 t bs w6 g6 a1 o6 b2=>⟨_,rfl,?_⟩⟩
 have a2:Step (F' 4) h5 (λi=>i=a.kd\/dD kb A6 i) W:=by
  rw[hK]
  exact⟨g6.only.mono λi b=>.inr b,λi b=>by
   rcases b with u|u
   ·exact .inl (.inl u)
   ·exact(g6.new i u).imp .inr id⟩
 have p6:=Y.ru ⟨kb,A6,w6,rfl⟩ a2;have t6:=ajd a2;obtain⟨O,bk⟩:∃O,O=mK F' 4 (λi=>i=a.kd\/dD kb A6 i):=⟨_,rfl⟩;rw[<-bk]at p6 t6;have z6:=a2.only.size;obtain⟨L,hL⟩:∃L,L=w.kids.filter λx=>decide (x.fr=r):=⟨_,rfl⟩;obtain⟨K,ad⟩:∃K,K=w.kids.filter λx=>!decide (x.fr=r):=⟨_,rfl⟩;have cJ:L.length+K.length=w.kids.length:=by rw[hL,ad];exact wY _ _
 rw[<-ad]at p6;rw[<-hL]at a1;have cK:bs.length=L.length:=by have:=congrArg List.length a1;simpa using this
 have lt:=o6.elems.len;rw[aiY]at lt;simp only[aju]at hf kq a0;obtain⟨nn,cM,b3,b5,cP⟩:=b2.ex;have b6:=o6.lt
 have ae:∀i,In t i->h5.size<=i/\i<W.size/\¬cO O i:=λi⟨l,A,b⟩=>by
  have u:=b5 l A;have B:=b6 l A;refine⟨ω,ω,λ⟨k,v⟩=>?_⟩;rw[bk]at v;by_cases e:k=4
  ·rw[e,bF]at v;rcases v with v|v
   ·have:=Y.sep.lt 4 a.kd (by rw[hK];exact .inl rfl);omega
   ·have:=b3 i v;omega
  ·rw[au e]at v;have:=Y.sep.lt k i v;omega
 have b7:∀i,z.size<=i->i<h5.size->¬cO O i:=λi u B o=>by
  rcases t6.new i o with⟨k,v⟩|D
  ·have:=pG.sep.lt k i v;omega
  ·omega
 have b8:∀i,In σ i->h.size<=i/\i<z.size/\¬cO O i/\¬In t i:=λi b=>by
  have u:=bj i b
  have B:i<z.size:=by
   obtain⟨l,A,e⟩:=b;have:=oQ.lt l A;omega
  refine⟨u.1,B,λo=>?_,λo=>by have:=(ae i o).1;omega⟩;rcases t6.new i o with D|D
  ·exact u.2 D
  ·omega
 have oC:qh 52 32 W (aA σ 1 σ.len 32) (rts E):=by
  refine((oQ.ext x5).only t6.only λi b=>?_).aew;exact(bj i (by obtain⟨l,u,B⟩:=b;exact⟨l,u,B.symm▸rfl⟩)).2
 have b9:∀i,In (aA σ 1 σ.len 32) i->In σ i:=λi⟨l,A,b⟩=>by
  unfold aA at A;simp only at A;split at A
  ·exact⟨l,A,b⟩
  ·obtain⟨l0,u,B⟩:=ajK.1 A;exact⟨l0,u,by rw[<-b,<-B]⟩
 obtain⟨P,hP⟩:∃P:Nat->St×List (Bs 32),P=λj=>(L.take j).foldl (a_ c.no r) ({w with kids:=K},E):=⟨_,rfl⟩;have P0:P 0=({w with kids:=K},E):=by rw[hP];rfl
 have PS:∀j x,L[j]? =some x->P (j+1)=a_ c.no r (P j) x:=λj x o=>by
  rw[hP];simp only;rw[ajB,o,ajU];rfl
 have bl:∀j,tC j {w with kids:=K} (P j).1/\(P j).1.kids=K/\(P j).2.length<=E.length+j:=λj=>by
  obtain⟨u,B,D⟩:=me (no:=c.no) (r:=r) (L.take j) ({w with kids:=K},E);have hj:(L.take j).length<=j:=List.length_take_le ..;rw[hP];exact⟨u.mono hj,B,by simp only at D⊢;omega⟩
 have b':Step (cO Fp) h (cO O) W:=(aw.trans (.an x5)).trans t6;have v6:Var 52 W z.size (.bytes 32 r):=v5.only t6.only λ⟨k,v⟩=>by have:=pG.sep.lt k _ v;omega
 refine⟨λZ C=>∃j:Nat,Z.2=j/\j<=L.length/\∃H,qh 52 32 C Z.1 (rts (P j).2)/\aQ C g a c V (P j).1 H/\Step (cO Fp) h (cO H) C/\W.size<=C.size/\(∀i,In Z.1 i->h.size<=i/\¬cO H i/\¬In t i/\i≠z.size)/\
  (∀i,In t i->¬cO H i)/\¬cO H z.size/\ak 85 C t (bs.map Bk.VY)/\Var 52 C z.size (.bytes 32 r),λZ _=>(L.length-Z.2).toNat,
  ⟨0,rfl,ajz _,O,by rw[P0];exact oC,by rw[P0];exact p6,b',ai6 _,λi b=>by
    obtain⟨q1,q2,q3,q4⟩:=b8 i (b9 i b);exact⟨q1,q3,q4,ω⟩,λi b=>(ae i b).2.2,b7 _ (ai6 _) ω,o6.elems,v6⟩,?_⟩
 rintro⟨Q,jj⟩ C ⟨j,hj,bm,H,al,p7,bo,z7,a7,t7,n7,e7,v7⟩;dsimp only at hj al a7⊢;subst hj;obtain⟨ca,ab,cR⟩:=bl j;have cc:=ca.left;dsimp only at cc;refine ID (λbp=>?_) λbp=>?_
 ·have am:j<L.length:=ω;obtain⟨x,o⟩:∃x,L[j]? =some x:=⟨_,ai2 am⟩;have a3:=PS j x o;have cS:=bl (j+1);refine e7.read ω bp λl1 t1 cT br cd=>?_;rw[ajb,ai4]at br;obtain⟨y,hy,rfl⟩:=ajK.1 br
  obtain⟨bt,ce⟩:y.r=x.root/\y.ms.slot=x.slot:=by
   have ao:(bs.map Bk.of)[j]? =some y.of:=by rw[ai4,hy];rfl
   rw[a1,ai4,o]at ao;injection ao with ao;injection ao with cf ch
   have ci:x∈w.kids:=by
    have:=ajf o;rw[hL]at this;exact(ajv.1 this).1
   obtain⟨_,d,hd,_,cj⟩:=aE x ci;refine⟨cf.symm,?_⟩;show y.d.slot=x.slot;rw[<-ch,qx hd,cj];rfl
  refine⟨y.r,y.ms.kind,y.ms.slot,y.ms.target,y.ms.ax,y.ms.body,y.ms.bits,y.ms.tag,cd,?_⟩;refine af λh8 v8 x8 s8=>av (t0:=YD) v8 (t:=y.VY) FI.symm (by rw[FI];exact y.X4) λh9 v9 f9 s9=>?_;have S:Ext C h9:=ai0 x8 f9 λi b=>ai5 (ai7 b);have z9:=S.size;have z8:=x8.size;have p9:=p7.ext S;refine⟨_,p9.var.ah rfl,y.r,v9.at.1,r,(v7.ext S).bytes,y.ms.slot,v9.at.2.2.1,?_⟩;rw[bt,ce];refine K6 p9 λac I J U=>⟨_,rfl,?_⟩;have cU:=U.only.size
  have a4:∀i,i<h9.size->¬cO H i->¬cO I i:=λi b hn o=>by
   rcases U.new i o with u|u
   ·exact hn u
   ·omega
  have cl:∀i,cO H i->i<C.size:=λi⟨k,v⟩=>p7.sep.lt k i v;have v10:Var 342 ac C.size y.VY:=v9.only U.only λo=>by have:=cl _ o;omega
  have a5:Var 52 ac z.size (.bytes 32 r):=(v7.ext S).only U.only n7;have a6:ak 85 ac t (bs.map Bk.VY):=TV.bX U.only (e7.ext S) t7;have cp:∀i,In Q i->i<C.size:=λi⟨l,A,b⟩=>by have:=al.lt l A;omega
  have oq10:qh 52 32 ac Q (rts (P j).2):=(al.ext S).only U.only λi b=>(a7 i (by obtain⟨l,u,B⟩:=b;exact⟨l,u,B.symm▸rfl⟩)).2.1;have a8:Step (cO Fp) h (cO I) ac:=(bo.trans (.an S)).trans U
  have M:∀i,In Q i->h.size<=i/\¬cO I i/\¬In t i/\i≠z.size:=λi b=>by
   obtain⟨q1,q2,q3,q4⟩:=a7 i b;exact⟨q1,a4 i (by have:=cp i b;omega) q2,q3,q4⟩
  have t10:∀i,In t i->¬cO I i:=λi b=>a4 i (by have:=(ae i b).2.1;omega) (t7 i b);have ap:¬cO I z.size:=a4 _ ω n7;have wj:ai9 .i64 ((j:Int)+1)=((j+1:Nat):Int):=by rw[wrap_i64 ω ω];omega
  refine ID (λX=>?_) λX=>If.dec.2 ⟨λa9=>?_,λa9=>?_⟩
  ·have F:P (j+1)=({(P j).1 with N:=iF (P j).1.N c.no x.root r x.slot},(P j).2++[x.root]):=by rw[a3];unfold a_;rw[if_pos X]
   refine⟨y.r,v10.at.1,?_⟩;rw[bt];refine aex oq10 ω λQ' cs ct f11 cw=>?_;rw[wj];refine⟨⟨j+1,rfl,am,I,by rw[F];exact ct,?_,Step.tail a8 f11 λi b=>(M i b).1,by have:=f11.size;omega,λi b=>?_,t10,ap,?_,?_⟩,ω⟩
   ·rw[F];exact J.only f11 (λk i v o=>(M i o).2.1 ⟨k,v⟩) λi hv o=>by have:=p.PC i hv;have:=(M i o).1;omega
   ·rcases cw i b with u|u
    ·exact M i u
    ·exact⟨ω,λ⟨k,v⟩=>by have:=J.sep.lt k i v;omega,λht=>by have:=(ae i ht).2.1;omega,ω⟩
   ·exact TV.bX f11 a6 λi b o=>(M i o).2.2.1 b
   ·exact a5.only f11 λo=>(M _ o).2.2.2 rfl
  ·have F:P (j+1)=({(P j).1 with left:=(P j).1.left+1},(P j).2):=by rw[a3];unfold a_;rw[if_neg X,if_pos a9]
   have a':iF (P j).1.N c.no x.root r x.slot=(P j).1.N:=by unfold iF;rw[if_neg X]
   rw[a']at J;refine⟨_,J.var.ah rfl,?_⟩;dsimp only;rw[wj,wrap_i64 (n:=(P j).1.left+1) ω ω];refine aF J.var (i:=3) (t:=.i ((P j).1.left+1)) rfl rfl rfl rfl λcs v11 f11 cX=>?_;obtain⟨cx,cy⟩:=J.YA v11 f11;have ba:∀i,i=g->cO I i:=λi e=>⟨8,by rw[J.f8];exact e⟩;refine⟨⟨j+1,rfl,am,I,by rw[F];exact oq10.only f11 λi b e=>(M i (by obtain⟨l,u,B⟩:=b;exact⟨l,u,B.symm▸rfl⟩)).2.1 (ba i e),by rw[F];exact cx,a8.trans cy,ω,M,t10,ap,?_,?_⟩,ω⟩
   ·exact TV.bX f11 a6 λi b e=>t10 i b (ba i e)
   ·exact a5.only f11 λe=>ap (ba _ e)
  ·have F:P (j+1)=P j:=by rw[a3];unfold a_;rw[if_neg X,if_neg a9]
   have a':iF (P j).1.N c.no x.root r x.slot=(P j).1.N:=by unfold iF;rw[if_neg X]
   rw[a']at J;rw[wj];exact⟨⟨j+1,rfl,am,I,by rw[F];exact oq10,by rw[F];exact J,a8,ω,M,t10,ap,a6,a5⟩,ω⟩
 ·have bm:j=L.length:=ω;have F:P j=L.foldl (a_ c.no r) ({w with kids:=K},E):=by rw[hP,bm];simp only;rw[ajs]
  have cA:fZ c.no f' (P j).2 (P j).1=goal:=by rw[F,<-hq,hL,ad];rfl
  refine go ((P j).2.length+(P j).1.kids.length) Q C (by rw[ab];simp only[aju];omega) ⟨(P j).2,(P j).1,H,al,p7,bo,λi b=>⟨(a7 i b).1,(a7 i b).2.1⟩,⟨f',by rw[ab];omega,cA⟩,λx o=>?_,ω,by rw[ab];omega,by rw[ab];omega,rfl⟩;rw[ab,ad]at o;exact aE x (ajv.1 o).1
end
end Gate
namespace Gate
open Board (Vd Cf Ms Dm jI av aP aU dM bT aZ eZ ck)
open Pool (It WL dD has fW)
open Peers (Pe)
section
variable{R:Rq}{h h':aa}{g:Nat}{a:Ad}{c:Cf}{V:List Vd}{s:St}{Fp:Nat->Nat->Prop}
end
end Gate
namespace Gate
open Board (Vd Cf Ms Dm jI av aP aU dM bT aZ eZ ck iK)
open Pool (It WL dD Fit fW jV Im rts mZ)
open Peers (Pe)
noncomputable def fk(c:Cf)(s:St)(peer:Int)(m:Ms)(row:List Bool)(text:LU):Int×St:=
 if(dm s.N (place m.target s.N)).2=false then((fW DZ c.eu c.quo peer text s.kids).1,{s with kids:=(fW DZ c.eu c.quo peer text s.kids).2.2})
 else if m.slot<=(dm s.N (place m.target s.N)).1.slot then(10,s)
 else if c.no-s.N.length=0 then(13,s)
 else(0,tw c.no (bT m row) m.target m.slot s)
section
variable{R:Rq}{h h':aa}{g:Nat}{a:Ad}{c:Cf}{V:List Vd}{s:St}{Fp:Nat->Nat->Prop}
theorem qQ(p:aQ h g a c V s Fp){peer:Int}{m:Ms}{row:List Bool}{text:LU}(e:ak 1 h m.bits (aP row))(ab:row.length<500)(ht:text.length<1000)(ac:∀x∈s.kids,Fit DZ x)(ad:(s.kids.length:Int)<=c.eu)(hl:0<=s.left/\s.left<1000000000)
 (E:∀h' P,aQ h' g a c V (fk c s peer m row text).2 P->Step (cO Fp) h (cO P) h'->R (TV.i (fk c s peer m row text).1).val h'):
 Cl 149 [.ptr (PT g),.i peer,m.tv,.str text] h R:=by
 apply yB (PT g) peer m.kind m.slot m.target m.ax m.body m.bits m.tag text;delta BL iR sq dh jZ aD ud gM BH nT FW cV c7 dW dw bu dO fU bK aT bh eE;have ao:=p.tok;have co:=p.can.eu;refine af λy v1 C s1=>?_;have v1:Var 58 y h.size m.tv:=v1;have v:=p.ext C;have z1:=C.size;intro Q HJ;obtain⟨u,S⟩:∃u,u=dm s.N (place m.target s.N):=⟨_,rfl⟩
 have j:fk c s peer m row text=if u.2=false then((fW DZ c.eu c.quo peer text s.kids).1,{s with kids:=(fW DZ c.eu c.quo peer text s.kids).2.2})
  else if m.slot<=u.1.slot then(10,s)else if c.no-s.N.length=0 then(13,s)else(0,tw c.no (bT m row) m.target m.slot s):=by unfold fk;rw[<-S]
 generalize fk c s peer m row text=ap at j E
 have ae:∀(q:Nat)(d:aa)(t:_×_×_×_×_×_×_×_×_×_×Bool),t.2.2.2.2.2.2.2.2.2.1=some (Vc.Loc.mk q 0)->t.2.2.2.2.2.2.2.2.2.2=u.2->Ext y d->Var 69 d q u.1.tv->Q t d:=by
  rintro q d t I J l K;refine HJ _ d ?_;dsimp only;rw[I,J];have w:=v.ext l;refine ajg (λz=>?_) λz=>?_
  ·have z:u.2=false:=by simpa using z
   rw[if_pos z]at j;subst j;obtain⟨T,kA,kp,hK⟩:=w.kids;refine⟨_,w.var.ah rfl,Pool.U3 (peer:=peer) (text:=text) kp co.1 co.2 ad ht λn U w5 W=>⟨_,_,rfl,?_⟩⟩
   have st:Step (Fp 4) d (λi=>i=a.kd\/dD T U i) n:=by
    rw[hK]
    exact⟨W.only.mono λi B=>.inr B,λi B=>by
     rcases B with y|y
     ·exact .inl (.inl y)
     ·exact(W.new i y).imp .inr id⟩
   have p5:=w.ru ⟨T,U,w5,rfl⟩ st;have al:=ajd st;refine af λL v6 o s6=>av (t:=.bytes 32 _) v6 jV.symm (jV.trans jV.symm) λX v7 f7 s7=>?_;have Y:Ext n X:=ai0 o f7 λi B=>ai5 (ai7 B);exact E X _ (p5.ext Y) (.cut (C.trans l) (al.trans (.an Y)))
  ·have z:u.2=true:=by simpa using z
   rw[if_neg (by rw[z];decide)]at j;refine⟨u.1.slot,K.at.2.1,m.slot,(v1.ext l).at.2.1,ID (λM=>?_) λM=>?_⟩
   ·rw[if_pos M]at j;subst j;exact E d Fp w (.an (C.trans l))
   ·rw[if_neg M]at j;refine⟨_,w.var.ah rfl,w.FG ⟨_,rfl,?_⟩⟩;obtain⟨r,A,k,hS⟩:=w.tree;refine Ev k ⟨_,rfl,ID (λN=>?_) λN=>?_⟩
    ·rw[if_pos N]at j;subst j;exact E d Fp w (.an (C.trans l))
    ·rw[if_neg N]at j;subst j;have Z:=C.trans l;refine aZ (m:=m) (v1.ext l) (aZ (m:=m) (v1.ext l) (iK (m:=m) (e.ext Z) ab λh8 O=>⟨_,rfl,O,?_⟩));refine RM (m:=m) (w.ext O) ac ω hl λh9 F9 p9 am=>⟨rfl,E h9 F9 p9 (.cut (Z.trans O) am)⟩
 refine⟨_,v.var.ah rfl,_,v.var.ah rfl,m.target,v1.at.2.2.1,?_⟩
 have node:∀{d:aa}{q:Nat}{t0:TV},Ext y d->Var 69 d q t0->y.size<=q->t0.size=34->∀(t:_×_×_×_×_×_×_×_×_×_×Bool),t.2.2.2.2.2.2.2.2.2.1=some (Vc.Loc.mk q 0)->t.2.2.2.2.2.2.2.2.2.2=u.2->
  gi d q 0 34/\Bind (ajC d q 0 u.1.tv) λn=>Q t n:=λ{d q t0} l K hq hz t I J=>
  av (t:=u.1.tv) K hz.symm (by rw[hz];exact Nd.size _) λn v5 f5 s5=>ae q n t I J (ai0 l f5 λi B=>by rw[B];exact hq) v5
 have F:(ajx [.bytes 32 (ai1 32),.i 0,.i 0]).size=34:=rfl;subst S;obtain⟨r,A,k,hS⟩:=v.tree;refine⟨v.FG ⟨_,rfl,ai3 _,v.FG ⟨_,rfl,ai3 _,dx k λh2 D=>⟨_,rfl,?_,?_⟩,?_⟩,?_⟩,?_⟩
 ·refine cL (k.ext D) λh3 x3=>⟨_,_,_,_,rfl,af λG v4 b H=>⟨b,node ((D.trans x3).trans b) v4 ?_ F _ rfl rfl⟩⟩;have:=D.size;have:=x3.size;omega
 ·refine af λG v4 b H=>⟨b,cL ((k.ext D).ext b) λn f=>⟨_,_,_,_,rfl,node ((D.trans b).trans f) (v4.ext f) ?_ F _ rfl rfl⟩⟩;have:=D.size;omega
 ·exact af λG v4 b H=>⟨b,dx (k.ext b) λn f=>⟨_,rfl,cL ((k.ext b).ext f) λL o=>⟨_,_,_,_,rfl,node ((b.trans f).trans o) ((v4.ext f).ext o) (ai6 _) F _ rfl rfl⟩⟩⟩
 ·exact af λG v4 b H=>⟨b,(v.ext b).FG ⟨_,rfl,ai3 _,dx (k.ext b) λn f=>⟨_,rfl,cL ((k.ext b).ext f) λL o=>⟨_,_,_,_,rfl,node ((b.trans f).trans o) ((v4.ext f).ext o) (ai6 _) F _ rfl rfl⟩⟩⟩⟩
 ·exact af λG v4 b H=>⟨b,(v.ext b).FG ⟨_,rfl,ai3 _,(v.ext b).FG ⟨_,rfl,ai3 _,dx (k.ext b) λn f=>⟨_,rfl,cL ((k.ext b).ext f) λL o=>⟨_,_,_,_,rfl,node ((b.trans f).trans o) ((v4.ext f).ext o) (ai6 _) F _ rfl rfl⟩⟩⟩⟩⟩
end
end Gate
namespace Gate
open Board (Vd Cf Ms Dm jI av aP aU dM bT aZ eZ ck)
open Pool (It WL dD Fit fW IS IT mZ)
open Peers (Pe)
abbrev FJ(k:Int):Bool:=!decide (k=1)
noncomputable def bG(c:Cf)(V:List Vd)(s:St)(peer:Int)(text:LU):Int×St:=
 if decide (Peers.score s.sc peer<=-c.bD)=true then(3,s)
 else if c.gY<text.length then(4,s)
 else match dM text with
  |none=>(5,s)
  |some d=>if dQ c V s (d.ms aiX) d.row≠0 then(dQ c V s (d.ms aiX) d.row,s)
   else if d.kind=1 then fk c s peer (d.ms aiX) d.row text
   else((fW FJ c.ew c.quo peer text s.wait).1,{s with wait:=(fW FJ c.ew c.quo peer text s.wait).2.2})
structure Kept(c:Cf)(s:St)(k:Nat):Prop where
 now:0<=s.now/\s.now<=1073741824
 An:(s.wait.length:Int)<=c.ew
 By:(s.kids.length:Int)<=c.eu
 Ao:∀x∈s.wait,Fit FJ x
 D1:∀x∈s.kids,Fit DZ x
 left:0<=s.left/\s.left+s.kids.length<=k
 gone:0<=s.gone/\s.gone<=k
theorem TA{want:Int->Bool}{most quota peer:Int}{text:LU}{S:List It}:(fW want most quota peer text S).2.2.length<=S.length+1:=by
 have a:∀x,(Pool.cD most quota x S).2.2.length<=S.length+1:=λx=>by
  unfold Pool.cD;split
  ·dsimp only;omega
  split
  ·dsimp only;omega
  split
  ·simp only[(Pool.eR x S).length_eq,aju];omega
  split
  ·dsimp only;omega
  split
  ·simp only[(Pool.eR x S.dropLast).length_eq,aju,List.length_dropLast];omega
  ·dsimp only;omega
 unfold fW;split
 ·dsimp only;omega
 split
 ·exact a _
 ·dsimp only;omega
section
variable{d:Dm}{b:Sl}{row:List Bool}
theorem IU:Board.c8 (d.ms b) row=Board.c8 (d.ms aiX) row:=rfl
theorem Vw:Board.dn (d.ms b) row=Board.dn (d.ms aiX) row:=rfl
theorem CD{n:Nat}{aN:Int}:Board.aR n aN (d.ms b) row=Board.aR n aN (d.ms aiX) row:=by
 unfold Board.aR;rw[Vw];rfl
theorem Vx{L:List Vd}{i:Int}:Board.rW L (d.ms b) row i=Board.rW L (d.ms aiX) row i:=by
 unfold Board.rW;congr 1;unfold Board.Ah Board.Cz;by_cases h:d.kind=3
 ·rw[if_pos (show(d.ms b).kind=3 from h),if_pos (show(d.ms b).kind=3 from h),if_pos (show(d.ms aiX).kind=3 from h),if_pos (show(d.ms aiX).kind=3 from h)];rfl
 ·rw[if_neg (show¬(d.ms b).kind=3 from h),if_neg (show¬(d.ms b).kind=3 from h),if_neg (show¬(d.ms aiX).kind=3 from h),if_neg (show¬(d.ms aiX).kind=3 from h)];exact IU
theorem RN{n:Nat}{aN:Int}{L:List Vd}:Board.jE n aN L (d.ms b) row=Board.jE n aN L (d.ms aiX) row:=by
 have e:Board.rW L (d.ms b) row=Board.rW L (d.ms aiX) row:=funext λi=>Vx;unfold Board.jE Board.lg;rw[CD,e];rfl
theorem E4:bT (d.ms b) row=bT (d.ms aiX) row:=by
 unfold Board.bT;rw[IU];rfl
theorem IV{c:Cf}{V:List Vd}{s:St}:dQ c V s (d.ms b) d.row=dQ c V s (d.ms aiX) d.row:=by
 unfold dQ;rw[CD,RN,E4];rfl
theorem RO{c:Cf}{s:St}{peer:Int}{text:LU}:fk c s peer (d.ms b) d.row text=fk c s peer (d.ms aiX) d.row text:=by
 unfold fk;rw[E4];rfl
end
section
variable{R:Rq}{h h':aa}{g:Nat}{a:Ad}{c:Cf}{V:List Vd}{s:St}{Fp:Nat->Nat->Prop}
theorem PG(p:aQ h g a c V s Fp){k:Nat}(q:Kept c s k)(hk:k<100000){peer:Int}{text:LU}(B:text.length<1000)
 (A:∀h' H,aQ h' g a c V (bG c V s peer text).2 H->Step (cO Fp) h (cO H) h'->R (TV.i (bG c V s peer text).1).val h'):
 Cl 80 [.ptr (PT g),.i peer,.str text] h R:=by
 apply yA;delta sq jx aD c7 dW dw c4 dO aJ aT bh;have kl:=q.left;obtain⟨r,N,hP⟩:=p.who
 have f:bG c V s peer text=if decide (Peers.score s.sc peer<=-c.bD)=true then(3,s)else if c.gY<text.length then(4,s)else match dM text with
  |none=>(5,s)
  |some d=>if dQ c V s (d.ms aiX) d.row≠0 then(dQ c V s (d.ms aiX) d.row,s)
   else if d.kind=1 then fk c s peer (d.ms aiX) d.row text
   else((fW FJ c.ew c.quo peer text s.wait).1,{s with wait:=(fW FJ c.ew c.quo peer text s.wait).2.2}):=rfl
 generalize bG c V s peer text=O at f A
 have o:∀(u:aa)(v:Int),O=(v,s)->Ext h u->R (TV.i v).val u:=λu v e x=>by
  subst e;exact A u Fp (p.ext x) (.an x)
 refine⟨_,p.var.ah rfl,Peers.Pk N ⟨_,rfl,ajg (λl=>o h 3 (by rw[f,if_pos l]) (ai3 _)) λl=>?_⟩⟩;rw[if_neg (by rw[l];decide)]at f;refine⟨c.gY,p.var.ah rfl,ID (λj=>o h 4 (by rw[f,if_pos j]) (ai3 _)) λj=>?_⟩;rw[if_neg j]at f;refine PB p q.now.1 q.now.2 B (λP C D=>?_) λd I C b Q D=>?_
 ·rw[P]at f;refine⟨_,_,_,_,_,_,_,_,rfl,af λS E F T=>av (t0:=aU.tv) E (t:=aU.tv) ck eZ λj v4 f4 U=>?_⟩;exact ajh (o j 5 f (D.trans (ai0 F f4 λi n=>ai5 (ai7 n))))
 rw[I]at f;simp only at f;refine⟨_,_,_,_,_,_,_,_,rfl,af λS E F T=>av (t0:=aU.tv) E (t:=(d.ms b).tv) ck eZ λj v4 f4 U=>?_⟩;have J:Ext C j:=ai0 F f4 λi n=>ai5 (ai7 n);have w:Ext h j:=D.trans J;have v4:Var 58 j C.size (d.ms b).tv:=v4;rw[IV];refine ajg (λl=>o j _ (by rw[f,if_pos (by simpa using l)]) w) λl=>?_;have W:dQ c V s (d.ms aiX) d.row=0:=by simpa using l
 rw[if_neg (by rw[W];simp)]at f;have y:=p.ext w;refine⟨d.kind,v4.ah rfl,ID (λe=>?_) λe=>?_⟩
 ·rw[if_pos e]at f;subst f;rw[<-RO (b:=b)]at A;refine aZ (m:=d.ms b) v4 (qQ (m:=d.ms b) (row:=d.row) y (Q.ext J) (mZ I) B q.D1 q.By ω λz X Y Z=>⟨_,rfl,A z X Y (.cut w Z)⟩)
 ·rw[if_neg e]at f;subst f;obtain⟨K,wA,wp,hW⟩:=y.wait;refine⟨_,y.var.ah rfl,Pool.U4 (peer:=peer) (text:=text) wp p.can.ew.1 p.can.ew.2 q.An B λz L w5 M=>⟨_,_,rfl,?_⟩⟩
  have st:Step (Fp 5) j (λi=>i=a.wt\/dD K L i) z:=by
   rw[hW]
   exact⟨M.only.mono λi n=>.inr n,λi n=>by
    rcases n with G|G
    ·exact .inl (.inl G)
    ·exact(M.new i G).imp .inr id⟩
  exact A z _ (y.Ai ⟨K,L,w5,rfl⟩ st) (.cut w (ajd st))
theorem IW{k:Nat}(q:Kept c s k){peer:Int}{text:LU}(A:text.length<1000){m:Ms}{row:List Bool}:Kept c (fk c s peer m row text).2 (k+1)/\tC 64 s {(fk c s peer m row text).2 with left:=s.left}:=by
 have l:=q.left;have n:=q.gone;have j:Kept c s (k+1):=⟨q.now,q.An,q.By,q.Ao,q.D1,ω,ω⟩;have d:∀{b:St},b.tb=s.tb->b.wait=s.wait->b.sc=s.sc->b.gone=s.gone->b.now=s.now->tC 64 s {b with left:=s.left}:=λa e f g h=>⟨a,e,f,g,h,by dsimp only;omega⟩;unfold fk;split
 ·refine⟨⟨q.now,q.An,IT q.By,q.Ao,λx i=>IS A q.D1 x i,⟨l.1,?_⟩,by dsimp only;omega⟩,d rfl rfl rfl rfl rfl⟩;have:=TA (want:=DZ) (most:=c.eu) (quota:=c.quo) (peer:=peer) (text:=text) (S:=s.kids);dsimp only;omega
 ·split
  ·exact⟨j,d rfl rfl rfl rfl rfl⟩
  ·split
   ·exact⟨j,d rfl rfl rfl rfl rfl⟩
   ·unfold tw;obtain⟨a,e,f⟩:=Lb (no:=c.no) (1+s.kids.length) [bT m row] {s with N:=iF s.N c.no (bT m row) m.target m.slot};dsimp only at a e f⊢;have o:=q.By;have g:=a.left;dsimp only at g;have h:=IQ (no:=c.no) (1+s.kids.length) [bT m row] {s with N:=iF s.N c.no (bT m row) m.target m.slot};dsimp only at h;exact⟨⟨by rw[a.now];exact q.now,by rw[a.wait];exact q.An,ω,by rw[a.wait];exact q.Ao,λx i=>q.D1 x (e x i),ω,by rw[a.gone];exact⟨n.1,by show s.gone<=((k+1:Nat):Int);omega⟩⟩,d a.tb a.wait a.sc a.gone a.now⟩
theorem wZ{k:Nat}(q:Kept c s k){peer:Int}{text:LU}(A:text.length<1000):Kept c (bG c V s peer text).2 (k+1)/\(bG c V s peer text).2.sc=s.sc/\(bG c V s peer text).2.gone=s.gone/\(bG c V s peer text).2.now=s.now/\(bG c V s peer text).2.tb=s.tb:=by
 have f:=q.left;have g:=q.gone;have a:Kept c s (k+1):=⟨q.now,q.An,q.By,q.Ao,q.D1,ω,ω⟩;unfold bG;split
 ·exact⟨a,rfl,rfl,rfl,rfl⟩
 split
 ·exact⟨a,rfl,rfl,rfl,rfl⟩
 split
 ·exact⟨a,rfl,rfl,rfl,rfl⟩
 split
 ·exact⟨a,rfl,rfl,rfl,rfl⟩
 split
 ·obtain⟨d,b⟩:=IW (c:=c) q (peer:=peer) A (m:=_) (row:=_);exact⟨d,b.sc,b.gone,b.now,b.tb⟩
 ·exact⟨⟨q.now,IT q.An,q.By,λx e=>IS A q.Ao x e,q.D1,by dsimp only;omega,by dsimp only;omega⟩,rfl,rfl,rfl,rfl⟩
theorem nE(p:aQ h g a c V s Fp){k:Nat}(q:Kept c s k)(E:k<100000){peer:Int}(G:(Lit.int .i64 peer).wf=true){text:LU}(A:text.length<1000)
 (B:∀h' P n d,aQ h' g a c V {(bG c V s peer text).2 with sc:=P,gone:=s.gone+n} d->Step (cO Fp) h (cO d) h'->Peers.m_ c.pe s.sc peer (iM (bG c V s peer text).1) P n->R (TV.i (bG c V s peer text).1).val h'):
 Cl 20 [.ptr (PT g),.i peer,.str text] h R:=by
 apply uS;delta sq aD dw dO aT bh;have y:=q.gone;obtain⟨_,j1,e,_,_⟩:=wZ (V:=V) q (peer:=peer) A;generalize l:bG c V s peer text=z at B j1 e;refine aja (PG p q E A λm o b t=>?_);rw[l]at b⊢;refine⟨_,rfl,_,b.var.ah rfl,Pv ⟨_,rfl,ai3 _,?_⟩⟩;obtain⟨r,f,u⟩:=b.who;rw[j1,e]at f;refine Peers.Ve f G ω λj P k v w f2=>⟨rfl,?_⟩
 have st:Step (o 6) m (λi=>i=a.wh\/i=r) j:=by
  rw[u];exact⟨f2,λi x=>.inl x⟩
 exact B j P k _ (b.DX ⟨r,w,rfl⟩ st) (t.trans (ajd st)) v
end
end Gate
end Go.Proofs.YtennbinbffdimaaGreat
namespace Go.Vc
open Go
section
variable{K V:Type}[DecidableEq K]{κ:K->TV}{ν:V->TV}{C:Ctx}{d:TypeDesc}
def jP(del:K×V×Nat->Bool)(s:Nat->Bool)(es:List (K×V×Nat)):List (K×V×Nat):=es.filter λe=>!(s e.2.2&&del e)
def D2(s:Nat->Bool)(b:Nat):Nat->Bool:=λn=>s n||decide (n=b)
omit [DecidableEq K]in
theorem RP(del:K×V×Nat->Bool)(es:List (K×V×Nat)):jP del (λ_=>false) es=es:=by
 unfold jP;simp
omit [DecidableEq K]in
theorem Vy{del:K×V×Nat->Bool}{s:Nat->Bool}{es:List (K×V×Nat)}(h:∀e∈es,s e.2.2=true):jP del s es=es.filter λe=>!del e:=by
 unfold jP;exact aj2 λe a=>by rw[h e a,ajG]
theorem IX(E:Zi C d κ)(k:K):∀es:List (K×V×Nat),(es.map (·.1)).Nodup->eW (κ k) (kZ κ ν es)=kZ κ ν (es.filter λe=>decide (e.1≠k))
 |[],_=>rfl
 |e::es,b=>by
  obtain⟨q,A⟩:=List.nodup_cons.1 (show(e.1::es.map (·.1)).Nodup from b);have c:=IX E k es A;have d1:kZ κ ν (e::es)=(κ e.1,ν e.2.1,e.2.2)::kZ κ ν es:=rfl;rw[d1];simp only[eW,E.eq,decide_eq_true_eq];by_cases h:k=e.1
  ·rw[if_pos h,List.filter_cons_of_neg (by simp[h])];congr 1;symm
   exact List.filter_eq_self.2 λx f=>by
    have:x.1≠k:=λa=>q (by rw[<-h,<-a];exact aje.2 ⟨x,f,rfl⟩);simpa using this
  ·rw[if_neg h,List.filter_cons_of_pos (by simpa using λa=>h a.symm),c];rfl
theorem IY{del:K×V×Nat->Bool}{s:Nat->Bool}{es:List (K×V×Nat)}{x:K×V×Nat}(hx:x∈es)(hk:(es.map (·.1)).Nodup)(hb:(es.map (·.2.2)).Nodup)(hd:del x=true):
 jP del (D2 s x.2.2) es=(jP del s es).filter λe=>decide (e.1≠x.1):=by
 unfold jP;rw[List.filter_filter];refine aj2 λe he=>?_;by_cases h:e.2.2=x.2.2
 ·have hex:e=x:=A4 hb he hx h;rw[hex];unfold D2;simp[hd]
 ·have hne:e.1≠x.1:=λhh=>h (by rw[A4 hk he hx hh]);unfold D2;simp[h,hne]
where
 A4 {A B:Type} {f:A->B}:∀{l:List A},(l.map f).Nodup->∀{a b:A},a∈l->b∈l->f a=f b->a=b
  |[],_,_,_,ha,_,_=>by cases ha
  |c::l,hn,a,b,ha,hb,he=>by
   obtain⟨h1,h2⟩:=List.nodup_cons.1 (show(f c::l.map f).Nodup from hn)
   rcases aj1.1 ha with e1|ha<;>rcases aj1.1 hb with e2|hb
   ·rw[e1,e2]
   ·exact absurd (aje.2 ⟨b,hb,by rw[<-he,e1]⟩) h1
   ·exact absurd (aje.2 ⟨a,ha,by rw[he,e2]⟩) h1
   ·exact A4 h2 ha hb he
omit [DecidableEq K]in
theorem RQ{del:K×V×Nat->Bool}{s:Nat->Bool}{es:List (K×V×Nat)}{x:K×V×Nat}(q:x∈es)(A:(es.map (·.2.2)).Nodup)(B:del x=false):jP del (D2 s x.2.2) es=jP del s es:=by
 unfold jP;refine aj2 λe a=>?_;by_cases h:e.2.2=x.2.2
 ·have b:e=x:=IY.A4 A a q h;rw[b,B];simp
 ·unfold D2;simp[h]
def IZ(q:Nat)(es:List (K×V×Nat))(h:aa):Nat:=match h[q]? with
 |some (.mapIter _ _ seen _)=>(es.filter λe=>!seen.contains e.2.2).length
 |_=>0
theorem Ap(seen:Array Nat)(b n:Nat):(seen.push b).contains n=D2 (λn=>seen.contains n) b n:=by
 unfold D2;rw[Bool.eq_iff_iff,Bool.or_eq_true,decide_eq_true_eq,Array.contains_iff_mem,Array.contains_iff_mem,Array.mem_push]
omit [DecidableEq K]in
theorem I1{es:List (K×V×Nat)}{seen:Array Nat}{x:K×V×Nat}(q:x∈es)(A:seen.contains x.2.2=false):
 (es.filter λe=>!(seen.push x.2.2).contains e.2.2).length<(es.filter λe=>!seen.contains e.2.2).length:=by
 have e:(es.filter λe=>!(seen.push x.2.2).contains e.2.2)=(es.filter λe=>!seen.contains e.2.2).filter λe=>decide (e.2.2≠x.2.2):=by
  rw[List.filter_filter];refine aj2 λy _=>?_;rw[Ap];unfold D2;rw[Bool.not_or,Bool.and_comm];simp
 rw[e];have a:x∈es.filter λe=>!seen.contains e.2.2:=ajv.2 ⟨q,by rw[A];rfl⟩;refine Nat.lt_of_le_of_ne (ajr _ _) λb=>?_;have:=List.length_filter_eq_length_iff.1 b x a;simp at this
end
end Go.Vc
namespace Go.Proofs.YtennbinbffdimaaGreat
open Go Go.Vc
namespace Gate
open Board (Vd Cf Vt av)
open Peers (q9 wU)
section
variable{R:Rq}{h h':aa}{b r n:Nat}{La Ou:Sl}{ps:List (Option Nat)}{t:Tb}
theorem M4(p:Jj h b r La Ou ps t n){slot:Int}(al:slot<=1073741824)
 (A:∀h',Jj h' b r La Ou ps (dB t slot) n->ag (·=r) h h'->R (ajc []).val h'):Cl 174 [.ptr (PT b),.i slot] h R:=by
 apply tE;delta sr SQ Oh C' eX JA;have hs:=p.ok.slots;have am:=p.map.lt;have O:=p.map.ne p.var;intro J P;refine aja (ID (λB=>A h (by unfold dB;rw[if_pos B];exact p) (ajV _ _)) λB=>P _ h ?_);clear P J;have C:=p.ok.forget slot;have eF:dB t slot={t with first:=t.first.filter λe=>decide (aL t slot<=e.1.2)}:=by unfold dB;rw[if_neg B]
 rw[eF]at C A;have ao:=qT p.ok (show 0<=slot by omega) al;obtain⟨E,Q⟩:∃E,E=aL t slot:=⟨_,rfl⟩;rw[<-Q]at C A ao;obtain⟨es,c,S,T,l⟩:=p.map;obtain⟨del,D⟩:∃del:(Int×Int)×Bs 32×Nat->Bool,del=λe=>decide (e.1.2<E):=⟨_,rfl⟩
 have U:(es.map (·.1)).Nodup:=by
  have:=p.ok.one;rw[<-T]at this;unfold mB tZ at this;rw[List.map_map]at this;exact this
 refine⟨some r,p.var.ah rfl,kZ kM kR es,c,S,?_⟩;have V:=ajl h (.mapIter (some r) c #[] c);refine⟨λ_ g=>∃seen,g[h.size]? =some (.mapIter (some r) c seen c)/\g[r]? =some (bP (kZ kM kR (jP del (λn=>seen.contains n) es)) c)/\ag (·=r) h g,λ_ g=>IZ h.size es g,⟨#[],by simp,?_,ajp V⟩,?_⟩
 ·rw[V.same r am,S]
  have:jP del (λn=>(#[]:Array Nat).contains n) es=es:=by
   have e:(λn=>(#[]:Array Nat).contains n)=λ_=>false:=by funext n;simp
   rw[e,RP]
  rw[this]
 rintro _ a ⟨seen,m,s,d⟩;have F:∀y∈jP del (λn=>seen.contains n) es,y.2.2<c:=λy G=>l.1 y (ajv.1 G).1;have H:((jP del (λn=>seen.contains n) es).map (·.2.2)).Nodup:=l.2.sublist (List.filter_sublist.map _);have W:¬In La r:=p.Z4.2;refine⟨rfl,r,c,c,seen,kZ kM kR (jP del (λn=>seen.contains n) es),c,m,s,λe j=>?_,ai6 _,λap=>?_,λe j I=>?_⟩
 ·obtain⟨y,G,rfl⟩:=aje.1 j;exact F y G
 ·have ar:∀e∈es,seen.contains e.2.2=true:=λe j=>by
   cases X:seen.contains e.2.2 with
   |true=>rfl
   |false=>
    have aw:e∈jP del (λn=>seen.contains n) es:=ajv.2 ⟨j,by show(!(seen.contains e.2.2&&del e))=true;rw[X];rfl⟩;have:=ap _ (aje.2 ⟨e,aw,rfl⟩);rw[<-X];exact this
  rw[Vy ar]at s F H
  have m1:k9 kM kR a r (t.first.filter λe=>decide (E<=e.1.2)):=by
   refine⟨_,c,s,?_,F,H⟩;rw[<-T,D];unfold tZ;rw[List.filter_map];congr 1;refine aj2 λe _=>?_;simp only[Function.comp];rw[<-decide_not];exact decide_eq_decide.2 ω
  have e:∀i,i=r->¬In La i:=λi e=>e▸W;exact A a ⟨p.var.only d λe=>O e,p.la.keep d λ_ f e=>W (e▸f),p.vs.only d λq hq e=>(p.nv q hq).2.1 e,p.ou.keep d λ_ f e=>p.Z5.2 (e▸f),m1,C,p.Z4,p.Z5,p.lo,p.nv⟩ d
 ·obtain⟨x,Y,rfl⟩:=aje.1 j;simp only at I;have u:x∈es:=(ajv.1 Y).1;have aE:h.size<a.size:=(aj6.1 m).1;have o2:=q9 (h:=a) (r:=h.size) (o:=.mapIter (some r) c (seen.push x.2.2) c)
  have Z:(a.setIfInBounds h.size (.mapIter (some r) c (seen.push x.2.2) c))[r]? =some (bP (kZ kM kR (jP del (λn=>seen.contains n) es)) c):=by
   rw[o2.same r (by have:=d.size;omega) ω,s]
  have ab:(a.setIfInBounds h.size (.mapIter (some r) c (seen.push x.2.2) c))[h.size]? =some (.mapIter (some r) c (seen.push x.2.2) c):=wU aE
  have a0:ag (·=r) h (a.setIfInBounds h.size (.mapIter (some r) c (seen.push x.2.2) c)):=
   ⟨ajj d.size o2.size,λi f hn=>(o2.same i (aj0 f d.size) ω).trans (d.same i f hn)⟩
  have a5:(a.setIfInBounds h.size (.mapIter (some r) c (seen.push x.2.2) c)).size=a.size:=by simp
  refine⟨rfl,r,c,seen,kZ kM kR (jP del (λn=>seen.contains n) es),c,(kM x.1,kR x.2.1,x.2.2),ab,Z,aje.2 ⟨x,Y,rfl⟩,?_,x.1.1,x.1.2,rfl,?_⟩
  ·have:(kZ kM kR (jP del (λn=>seen.contains n) es)).map (λx=>x.2.2)=(jP del (λn=>seen.contains n) es).map (·.2.2):=by
    unfold kZ;rw[List.map_map];rfl
   rw[this];exact H
  generalize a.setIfInBounds h.size (.mapIter (some r) c (seen.push x.2.2) c)=h2 at*;refine af λh3 v3 x3 s3=>av (t:=kM x.1) v3 rfl rfl λk v4 f4 s4=>?_;have K:Ext h2 k:=ai0 x3 f4 λi f=>ai5 (ai7 f);have v:ag (·=r) h k:=a0.trans (.an K);have ac:=p.var.only v λe=>O e;have ad:Var 310 k h2.size (.agg [.i x.1.1,.i x.1.2]):=v4;refine⟨x.1.2,ad.at.2,t.slots,ac.ah rfl,ω,?_⟩
  have a1:ai9 .i64 (ajY slot t.slots)=E:=by
   have:ajY slot t.slots=E:=by rw[Q];rfl
   rw[this];exact wrap_i64 ω ω
  rw[a1];have w:=K.same h.size ω;rw[ab]at w;have L:=K.same r (by have:=d.size;omega);rw[Z]at L;have a2:r<k.size:=by have:=v.size;omega
  have ae:(λn=>(seen.push x.2.2).contains n)=D2 (λn=>seen.contains n) x.2.2:=by
   funext n;exact Ap seen x.2.2 n
  refine ID (λa3=>?_) λa4=>?_
  ·refine⟨some r,ac.ah rfl,x.1.1,x.1.2,ad.at,kZ kM kR (jP del (λn=>seen.contains n) es),c,L,Ek Tf _,?_⟩;have M:del x=true:=by rw[D];exact decide_eq_true a3
   have o5:=q9 (h:=k) (r:=r) (o:=bP (eW (kM x.1) (kZ kM kR (jP del (λn=>seen.contains n) es))) c);have N:=o5.same h.size ω ω;rw[w]at N;refine⟨⟨seen.push x.2.2,N,?_,v.trans o5⟩,?_⟩
   ·rw[wU a2,ae,IY u U l.2 M];exact congrArg (λz=>some (bP z c)) (IX (ν:=kR) Tf x.1 _ (U.sublist (List.filter_sublist.map _)))
   ·show IZ h.size es _<IZ h.size es _;unfold IZ;rw[N,m];exact I1 u I
  ·have M:del x=false:=by rw[D];exact decide_eq_false a4
   refine⟨⟨seen.push x.2.2,w,?_,v⟩,?_⟩
   ·rw[L,ae,RQ u l.2 M]
   ·show IZ h.size es _<IZ h.size es _;unfold IZ;rw[w,m];exact I1 u I
theorem M5{st:List Int}{t:Tb}{slot:Int}:∀r i,aK (dB t slot) st i r=aK t st i r:=λr i=>by
 unfold dB;split<;>rfl
theorem M6{g:Nat}{a:Ad}{c:Cf}{V:List Vd}{s:St}{q:Nat->Nat->Prop}(p:aQ h g a c V s q){slot:Int}(A:slot<=1073741824)
 (B:∀h' d,aQ h' g a c V {s with tb:=dB s.tb slot} d->Step (cO q) h (cO d) h'->R (ajc []).val h'):
 Cl 106 [.ptr (PT a.bk),.i slot] h R:=by
 apply uT;delta c7 eX aT;refine ajh ⟨_,p.bk.ah rfl,?_⟩;obtain⟨r,La,Ou,ps,j,e⟩:=p.ij;refine M4 j A λf l f1=>⟨rfl,?_⟩;have st:Step (q 2) h (q 2) f:=⟨f1.mono λi b=>by rw[e,b];exact .inr (.inl rfl),λi b=>.inl b⟩;have X:=p.x.DY (t':=dB s.tb slot) ⟨r,La,Ou,ps,l,e⟩ st;have w:=p.x.Yv (k:=2) δ p.D9 st;rw[<-OS (t':=dB s.tb slot) M5]at w;exact B f _ (X.b w) (ajd st)
end
end Gate
namespace Gate
open Board (Vd Cf Vt Ms Dm jI av aP aU jb EG aZ eZ ck)
open Pool (It WL dD Fit Bk j9)
open Peers (Pe)
noncomputable def pg(c:Cf)(V:List Vd)(x:It):List Vt:=jb V.length c.aN ((j9 x.text).ms aiX) (j9 x.text).row
def gC(N:List Nd)(t:Tb)(W:List Vt):Tb:=W.foldl (λt v=>(ia N t v).2) t
noncomputable def fm(c:Cf)(V:List Vd)(N:List Nd)(t:Tb)(L:List It):Tb:=L.foldl (λt x=>gC N t (pg c V x)) t
noncomputable def eM(c:Cf)(V:List Vd)(s:St):Bool×St:=
 if 1073741824<=s.now then(false,s)
 else(true,{s with now:=s.now+1,sc:=Peers.tick c.dec s.sc,wait:=s.wait.filter λx=>!decide (x.slot<s.now+1),
                   tb:=dB (fm c V s.N s.tb (s.wait.filter λx=>decide (x.slot<s.now+1))) (Vc.mx (s.now+1-Clock.eD c.win) 0)})
theorem I2{n:Nat}{aN:Int}{d:Dm}{b:Sl}{row:List Bool}:jb n aN (d.ms b) row=jb n aN (d.ms aiX) row:=by
 unfold Board.jb;rw[CD];rfl
def Safe(Q:Nat->Prop)(F:Nat->Nat->Prop)(h:aa):Prop:=∀i,Q i->¬cO F i/\i<h.size
theorem Safe.step{Q:Nat->Prop}{F F':Nat->Nat->Prop}{h h':aa}(q:Safe Q F h)(st:Step (cO F) h (cO F') h'):Safe Q F' h':=λi b=>by
 obtain⟨c,e⟩:=q i b;have:=st.only.size;refine⟨λd=>?_,ω⟩;rcases st.new i d with a|a
 ·exact c a
 ·omega
theorem Safe.elems{Q:Nat->Prop}{F:Nat->Nat->Prop}{h h':aa}(q:Safe Q F h)(f:ag (cO F) h h'){sz:Nat}{s:Sl}{ts:List TV}(e:ak sz h s ts)(A:∀i,In s i->Q i):ak sz h' s ts:=
 TV.bX f e λi a=>(q i (A i a)).1
section
variable{R:Rq}{h h':aa}{g:Nat}{a:Ad}{c:Cf}{V:List Vd}{s:St}{Fp:Nat->Nat->Prop}
theorem TB{s:Sl}{W:List Vt}(e:ak 34 h s (EG W)){j:Nat}{v:Vt}(q:W[j]? =some v){K:Int->Int->Bs 32->Prop}(B:K v.who v.slot v.target):
 0<=(j:Int)/\(j:Int)<(s.len:Int)/\Nn s.a λl=>∃(n:Int),∃(A:Int),∃(b:Bs 32),(ah h l.b (l.o+(j:Int).toNat*34) (.i n)/\ah h l.b (l.o+(j:Int).toNat*34+1) (.i A)/\ay h l.b (l.o+(j:Int).toNat*34+1+1) 32 b)/\K n A b:=by
 have a:=e.len;have:=(aji.1 q).1;unfold Board.EG at e a;rw[aiY]at a;refine e.read ω ω λl t _ c d=>?_;rw[ajb,ai4,q]at c;cases c;exact⟨_,_,_,d,B⟩
theorem I3(p:aQ h g a c V s Fp){k:Nat}(M:Kept c s k)
 (O:∀h' aw,aQ h' g a c V (eM c V s).2 aw->Step (cO Fp) h (cO aw) h'->R (ajy (eM c V s).1).val h'):
 Cl 39 [.ptr (PT g)] h R:=by
 apply Aq;delta aG gU gM bO c7 c5 i_ bN aT mN;have kn:=M.now;have cw:=Clock.AZ c.win;intro J HJ;refine aja ⟨_,p.var.ah rfl,?_⟩;by_cases al:1073741824<=s.now
 ·have e:eM c V s=(false,s):=by unfold eM;rw[if_pos al]
  rw[e]at O;exact Clock.Yj p.jL al ⟨_,rfl,ajh (O h Fp p (.an (ai3 _)))⟩
 refine Clock.Vk p.jL ω kn.1 λu c1 f1 s1=>⟨_,rfl,aja (HJ _ u ?_)⟩;clear HJ J;obtain⟨N,bb⟩:=p.M1 c1 f1;obtain⟨n,hn⟩:∃n,n=s.now+1:=⟨_,rfl⟩;rw[<-hn]at N;obtain⟨r,pe,hP⟩:=N.who;refine⟨_,N.var.ah rfl,Peers.Vj pe λS bc f2=>⟨rfl,?_⟩⟩
 have aE:Step (Fp 6) u (λi=>i=a.wh\/i=r) S:=by
  rw[hP];exact⟨f2,λi b=>.inl b⟩
 have A:=N.DX (P:=Peers.tick c.dec s.sc) (gone:=s.gone) ⟨r,bc,rfl⟩ aE;have am:=bb.trans (ajd aE);obtain⟨T,bd⟩:∃T,T=mK Fp 6 (λi=>i=a.wh\/i=r):=⟨_,rfl⟩;rw[<-bd]at A am;obtain⟨wb,wA,wp,hW⟩:=A.wait;refine⟨_,A.var.ah rfl,_,A.var.ah rfl,Clock.DT A.jL ⟨_,rfl,ai3 _,?_⟩⟩;refine Pool.Rm (n:=n) wp (λx I=>(M.Ao x I).1) λh3 A3 t bs w3 g3 U o3 bi=>⟨_,rfl,?_⟩
 have ao:Step (T 5) S (λi=>i=a.wt\/dD wb A3 i) h3:=by
  rw[hW]
  exact⟨g3.only.mono λi b=>.inr b,λi b=>by
   rcases b with u|u
   ·exact .inl (.inl u)
   ·exact(g3.new i u).imp .inr id⟩
 have X:=A.Ai ⟨wb,A3,w3,rfl⟩ ao;have a0:=am.trans (ajd ao);obtain⟨E,a1⟩:∃E,E=mK T 5 (λi=>i=a.wt\/dD wb A3 i):=⟨_,rfl⟩;rw[<-a1]at X a0;have z2:=am.only.size;have z3:=ao.only.size;obtain⟨nn,cf,bj,bk,a2⟩:=bi.ex;have bl:=o3.lt;obtain⟨L,Y⟩:∃L,L=s.wait.filter λx=>decide (x.slot<n):=⟨_,rfl⟩;have U:bs.map Bk.of=L.map λx=>(x.root,j9 x.text):=by rw[Y];exact U
 have ch:bs.length=L.length:=by have:=congrArg List.length U;simpa using this
 have ci:=M.An;have cj:L.length<=s.wait.length:=by rw[Y];exact ajr _ _
 have ce:=p.can.ew;have tl:=o3.elems.len;rw[aiY]at tl;have cl:=p.can.len;have el:V.length=c.vals.len:=by have:=p.vals.len;rwa [aiY]at this
 obtain⟨Q,hQ⟩:∃Q:Nat->Prop,Q=λi=>In t i\/∃k∈bs,In k.b i:=⟨_,rfl⟩
 have a3:∀i,nn<=i->¬cO E i:=λi b⟨k,f⟩=>by
  rw[a1]at f;by_cases e:k=5
  ·rw[e,bF]at f;rcases f with f|f
   ·have:=A.sep.lt 5 a.wt (by rw[hW];exact .inl rfl);omega
   ·have:=bj i f;omega
  ·rw[au e]at f;have:=A.sep.lt k i f;omega
 have bm:Safe Q E h3:=λi b=>by
  rw[hQ]at b;rcases b with⟨l,z,e⟩|⟨y,Z,l,z,e⟩
  ·have u:=bk l z;have S:=bl l z;exact⟨a3 i ω,ω⟩
  ·have u:=(a2 y Z).2 l z;exact⟨a3 i ω,ω⟩
 obtain⟨q,hs3⟩:∃q:St,q={s with now:=n,sc:=Peers.tick c.dec s.sc,gone:=s.gone,wait:=s.wait.filter λx=>!decide (x.slot<n)}:=⟨_,rfl⟩;have X:aQ h3 g a c V q E:=by rw[hs3];exact X
 have hT:eM c V s=(true,{q with tb:=dB (fm c V s.N s.tb L) (Vc.mx (n-Clock.eD c.win) 0)}):=by unfold eM;rw[if_neg al,Y,hs3,hn]
 rw[hT]at O;have hN:q.N=s.N:=by rw[hs3]
 have bo:q.tb=s.tb:=by rw[hs3]
 refine⟨λσ o=>∃i:Nat,σ=i/\i<=bs.length/\∃F,aQ o g a c V {q with tb:=fm c V s.N s.tb (L.take i)} F/\Step (cO Fp) h (cO F) o/\Safe Q F o/\ak 53 o t (bs.map Bk.U5)/\∀k∈bs,ak 1 o k.b (aP k.d.row),
  λσ _=>(bs.length-σ).toNat,⟨0,rfl,ajz _,E,by rw[ajW];unfold fm;rw[List.foldl_nil,<-bo];exact X,a0,bm,o3.elems,λk f=>(a2 k f).1⟩,?_⟩
 rintro σ h4 ⟨i,rfl,b,F4,C,a4,bp,e4,k4⟩;refine ID (λa5=>?_) λa5=>?_
 ·have br:i<bs.length:=ω;obtain⟨x,I⟩:∃x,L[i]? =some x:=⟨_,ai2 ω⟩;refine e4.read ω a5 λl1 t1 cp a6 bt=>?_;rw[ajb,ai4]at a6;obtain⟨y,Z,rfl⟩:=ajK.1 a6
  have a7:y.d=j9 x.text:=by
   have ab:(bs.map Bk.of)[i]? =some y.of:=by rw[ai4,Z];rfl
   rw[U,ai4,I]at ab;injection ab with ab;injection ab with cs bx;exact bx.symm
  have b0:=ajf Z;refine⟨y.ms.kind,y.ms.slot,y.ms.target,y.ms.ax,y.ms.body,y.ms.bits,y.ms.tag,bt,?_⟩;refine af λh5 v5 x5 s5=>av (t0:=aU.tv) v5 (t:=y.ms.tv) ck eZ λh6 v6 f6 s6=>?_;have ac:Ext h4 h6:=ai0 x5 f6 λi b=>ai5 (ai7 b);have p6:=C.ext ac;have ct:=ac.size;refine⟨c.vals,c.ep,c.aN,c.no,c.eu,c.ew,c.quo,c.pe,c.gY,c.win,c.bD,c.dec,p6.var.at.1,aZ (m:=y.ms) v6 ?_⟩
  have b1:y.d.row.length<500:=by
   have b2:x∈s.wait:=by
    have:=ajf I;rw[Y]at this;exact(ajv.1 this).1
   obtain⟨_,d,hd,_,_⟩:=M.Ao x b2;rw[a7,Pool.qx hd];exact Pool.mZ hd
  refine Board.PA (c:=c) (m:=y.ms) (row:=y.d.row) ω ((k4 y b0).ext ac) b1 λh7 w e7 x7 b3=>⟨_,rfl,?_⟩;have ad:=ac.trans x7;have z7:=x7.size;have p7:=p6.ext x7;obtain⟨W,ap⟩:∃W,W=jb c.vals.len c.aN y.ms y.d.row:=⟨_,rfl⟩;rw[<-ap]at e7
  have hWl:W.length<=1000:=by
   have:=Board.qz (n:=c.vals.len) (aN:=c.aN) (m:=y.ms) (row:=y.d.row);rw[ap];unfold Board.jb;split
   ·simp
   ·rw[aiY];omega
  have b5:W=pg c V x:=by
   rw[ap];unfold pg Bk.ms;rw[I2,<-a7,el]
  obtain⟨B,hB⟩:∃B,B=fm c V s.N s.tb (L.take i):=⟨_,rfl⟩;rw[<-hB]at p7;have a8:=e7.len;unfold EG at a8;rw[aiY]at a8
  have b6:∀l,W≠[]->w.a=some l->l.b<h7.size:=λl D z=>by
   obtain⟨v,hv⟩:∃v,W[0]? =some v:=⟨_,ai2 (List.length_pos_iff.2 D)⟩;have b7:=e7.get l z 0 v.tv (by unfold EG;rw[ai4,hv];rfl);exact vn (show ah h7 l.b (l.o+0*34) (.i v.who)from b7.1)
  have b8:Safe (λi=>Q i\/(W≠[]/\In w i)) F4 h7:=λj hj=>by
   rcases hj with hj|⟨D,l,z,e⟩
   ·have:=bp j hj;exact⟨this.1,by have:=ad.size;omega⟩
   ·have u:=b3 l z;have S:=b6 l D z;exact⟨λ⟨k,f⟩=>by have:=C.sep.lt k j f;omega,ω⟩
  refine⟨λσ o=>∃j:Nat,σ=j/\j<=W.length/\∃F,aQ o g a c V {q with tb:=gC s.N B (W.take j)} F/\Step (cO Fp) h (cO F) o/\Safe (λi=>Q i\/(W≠[]/\In w i)) F o/\ak 53 o t (bs.map Bk.U5)/\(∀k∈bs,ak 1 o k.b (aP k.d.row))/\(W≠[]->ak 34 o w (EG W)),
   λσ _=>(W.length-σ).toNat,⟨0,rfl,ajz _,F4,by rw[ajW];exact p7,a4.trans (.an ad),b8,e4.ext ad,λk f=>(k4 k f).ext ad,λ_=>e7⟩,?_⟩
  rintro σ h8 ⟨j,rfl,hj,F8,p8,a9,ar,e8,k8,w8⟩;refine ID (λb9=>?_) λb9=>?_
  ·have G:j<W.length:=ω;have D:W≠[]:=λe=>by rw[e]at G;simp at G
   obtain⟨v,hv⟩:∃v,W[j]? =some v:=⟨_,ai2 G⟩;refine TB (w8 D) hv ?_;refine af λh9 v9 x9 s9=>av (t:=v.tv) v9 rfl rfl λa' v10 f10 cx=>?_;have H:Ext h8 a':=ai0 x9 f10 λi b=>ai5 (ai7 b);have ba:=p8.ext H;refine⟨_,ba.var.ah rfl,v.who,v.slot,v.target,v10.at,RH ba λcy b' ca K=>⟨_,rfl,?_⟩⟩;have cA:=H.size;have ae:Safe (λi=>Q i\/(W≠[]/\In w i)) F8 a':=λi b=>⟨(ar i b).1,by have:=(ar i b).2;omega⟩
   have eT:gC s.N B (W.take (j+1))=(ia s.N (gC s.N B (W.take j)) v).2:=by
    unfold gC;rw[ajB,hv,ajU];rfl
   rw[show ai9 .i64 ((j:Int)+1)=((j+1:Nat):Int) by rw[wrap_i64 ω ω];omega]
   refine⟨⟨j+1,rfl,G,b',?_,(a9.trans (.an H)).trans K,ae.step K,ae.elems K.only (e8.ext H) λi b=>.inl (by rw[hQ];exact .inl b),λk f=>ae.elems K.only ((k8 k f).ext H) λi b=>.inl (by rw[hQ];exact .inr ⟨k,f,b⟩),
    λ_=>ae.elems K.only ((w8 D).ext H) λi b=>.inr ⟨D,b⟩⟩,by dsimp only;omega⟩
   rw[eT,show ia s.N=ia q.N by rw[hN]];exact ca
  ·have G:j=W.length:=ω;rw[G,ajs]at p8;rw[show ai9 .i64 ((i:Int)+1)=((i+1:Nat):Int) by rw[wrap_i64 ω ω];omega];refine⟨⟨i+1,rfl,br,F8,?_,a9,λi b=>ar i (.inl b),e8,k8⟩,by dsimp only;omega⟩
   have eT:fm c V s.N s.tb (L.take (i+1))=gC s.N B (pg c V x):=by
    rw[hB];unfold fm;rw[ajB,I,ajU];rfl
   rw[eT,<-b5];exact p8
 ·have cc:i=L.length:=ω;rw[cc,ajs]at C;have n3:q.now=n:=by rw[hs3]
  refine⟨_,C.var.ah rfl,_,C.var.ah rfl,Clock.vJ C.jL (by dsimp only;omega) (by dsimp only;omega) cw.1 cw.2 ⟨_,rfl,ai3 _,?_⟩⟩;refine M6 C ?_ λh5 F5 p5 cd=>⟨rfl,O h5 F5 ?_ (a4.trans cd)⟩
  ·dsimp only;rw[n3];unfold Vc.mx;split<;>omega
  ·dsimp only at p5⊢;rw[n3]at p5⊢;exact p5
end
end Gate
namespace Gate
open Board (Vd Cf av jI)
open Pool (rts jV Im)
def cF(m:Nat)(A B D E:Sl):Nat->Nat->Prop
 |0=>(·=m)
 |1=>In A
 |2=>In B
 |3=>In D
 |4=>In E
 |_=>λ_=>False
theorem YE(m:Nat)(A A' B D E:Sl):mK (cF m A B D E) 1 (In A')=cF m A' B D E:=by
 funext k
 match k with
 |0|1|2|3|4|_+5=>rfl
theorem YF(m:Nat)(A B B' D E:Sl):mK (cF m A B D E) 2 (In B')=cF m A B' D E:=by
 funext k
 match k with
 |0|1|2|3|4|_+5=>rfl
theorem YG(m:Nat)(A B D D' E:Sl):mK (cF m A B D E) 3 (In D')=cF m A B D' E:=by
 funext k
 match k with
 |0|1|2|3|4|_+5=>rfl
theorem YH(m:Nat)(A B D E E':Sl):mK (cF m A B D E) 4 (In E')=cF m A B D E':=by
 funext k
 match k with
 |0|1|2|3|4|_+5=>rfl
structure KT(h:aa)(m:Nat)(A B D E:Sl)(ra:List (Bs 32))(sb:List Int)(pd:List (Bs 32))(ow:List Int)(most:Int):Prop where
 var:Var 130 h m (.agg [.slice A,.slice B,.slice D,.i most])
 a:Own 52 32 h A (rts ra)
 b:Own 3 1 h B (dX sb)
 d:Own 52 32 h D (rts pd)
 e:Own 3 1 h E (dX ow)
 sep:Sep h (cF m A B D E)
section
variable{R:Rq}{h h':aa}{m:Nat}{A B D E:Sl}{ra pd:List (Bs 32)}{sb ow:List Int}{most:Int}
theorem KT.ext(p:KT h m A B D E ra sb pd ow most)(x:Ext h h'):KT h' m A B D E ra sb pd ow most:=⟨p.var.ext x,p.a.ext x,p.b.ext x,p.d.ext x,p.e.ext x,p.sep.ext x⟩
theorem KT.adr(p:KT h m A B D E ra sb pd ow most){x:Bs 32}(G:ra.length<50000){K:aa->Prop}(q:∀h' A',KT h' m A' B D E (ra++[x]) sb pd ow most->Step (cO (cF m A B D E)) h (cO (cF m A' B D E)) h'->K h'):
 ∃new,cv (h.push (row (aiZ [ajm 32 x]) 52)) (ajo (some (Vc.Loc.mk h.size 0)) 1 1) 32 new/\(∀v∈new,bQ v=true)/\aq ctx 52 A 1 new (h.push (row (aiZ [ajm 32 x]) 52)) λl h'=>
  gi h' m 0 1/\Bind (ajC h' m 0 (.slice l)) K:=by
 refine Rn p.a ω λA' n f f1 o=>?_;have z:=p.sep.nC;have g:Step (cF m A B D E 1) h (In A') n:=⟨f1,o⟩;have b:=p.sep.step g f.gv;rw[YE]at b;have c:∀k,k≠1->∀i,cF m A B D E k i->¬In A i:=λk q i a e=>q (z k 1 i a e);have d:∀k,k≠0->∀i,cF m A' B D E k i->¬i=m:=λk q i a e=>q (b.nC k 0 i a e);have v1:=p.var.only f1 (c 0 δ m rfl);refine aF v1 (i:=0) (t:=.slice A') rfl rfl rfl rfl λr s f2 u=>q r A' ⟨s,f.keep f2 (d 1 δ),(p.b.keep f1 (c 2 δ)).keep f2 (d 2 δ),(p.d.keep f1 (c 3 δ)).keep f2 (d 3 δ),(p.e.keep f1 (c 4 δ)).keep f2 (d 4 δ),⟨b.nC,λj i a=>by have:=b.lt j i a;omega⟩⟩ ?_;have st:=ajd (F:=cF m A B D E) g;rw[YE]at st;exact st.trans ⟨f2.mono λi a=>⟨0,a⟩,λi a=>.inl a⟩
theorem KT.ads(p:KT h m A B D E ra sb pd ow most){x:Int}(G:sb.length<50000){K:aa->Prop}(q:∀h' B',KT h' m A B' D E ra (sb++[x]) pd ow most->Step (cO (cF m A B D E)) h (cO (cF m A B' D E)) h'->K h'):
 ∃new,cv (h.push (row (aiZ [TV.i x]) 3)) (ajo (some (Vc.Loc.mk h.size 0)) 1 1) 1 new/\(∀v∈new,bQ v=true)/\aq ctx 3 B 1 new (h.push (row (aiZ [TV.i x]) 3)) λl h'=>
  gi h' m 1 1/\Bind (ajC h' m 1 (.slice l)) K:=by
 refine abN p.b ω λB' n f f1 o=>?_;have z:=p.sep.nC;have g:Step (cF m A B D E 2) h (In B') n:=⟨f1,o⟩;have b:=p.sep.step g f.gv;rw[YF]at b;have c:∀k,k≠2->∀i,cF m A B D E k i->¬In B i:=λk q i a e=>q (z k 2 i a e);have d:∀k,k≠0->∀i,cF m A B' D E k i->¬i=m:=λk q i a e=>q (b.nC k 0 i a e);have v1:=p.var.only f1 (c 0 δ m rfl);refine aF v1 (i:=1) (t:=.slice B') rfl rfl rfl rfl λr s f2 u=>q r B' ⟨s,(p.a.keep f1 (c 1 δ)).keep f2 (d 1 δ),f.keep f2 (d 2 δ),(p.d.keep f1 (c 3 δ)).keep f2 (d 3 δ),(p.e.keep f1 (c 4 δ)).keep f2 (d 4 δ),⟨b.nC,λj i a=>by have:=b.lt j i a;omega⟩⟩ ?_;have st:=ajd (F:=cF m A B D E) g;rw[YF]at st;exact st.trans ⟨f2.mono λi a=>⟨0,a⟩,λi a=>.inl a⟩
theorem KT.adt(p:KT h m A B D E ra sb pd ow most){x:Bs 32}(G:pd.length<50000){K:aa->Prop}(q:∀h' D',KT h' m A B D' E ra sb (pd++[x]) ow most->Step (cO (cF m A B D E)) h (cO (cF m A B D' E)) h'->K h'):
 ∃new,cv (h.push (row (aiZ [ajm 32 x]) 52)) (ajo (some (Vc.Loc.mk h.size 0)) 1 1) 32 new/\(∀v∈new,bQ v=true)/\aq ctx 52 D 1 new (h.push (row (aiZ [ajm 32 x]) 52)) λg h'=>
  gi h' m 2 1/\Bind (ajC h' m 2 (.slice g)) K:=by
 refine Rn p.d ω λD' l d1 f1 n=>?_;have z:=p.sep.nC;have f:Step (cF m A B D E 3) h (In D') l:=⟨f1,n⟩;have b:=p.sep.step f d1.gv;rw[YG]at b;have c:∀k,k≠3->∀i,cF m A B D E k i->¬In D i:=λk q i a e=>q (z k 3 i a e);have d:∀k,k≠0->∀i,cF m A B D' E k i->¬i=m:=λk q i a e=>q (b.nC k 0 i a e);have v1:=p.var.only f1 (c 0 δ m rfl);refine aF v1 (i:=2) (t:=.slice D') rfl rfl rfl rfl λo r f2 s=>q o D' ⟨r,(p.a.keep f1 (c 1 δ)).keep f2 (d 1 δ),(p.b.keep f1 (c 2 δ)).keep f2 (d 2 δ),d1.keep f2 (d 3 δ),(p.e.keep f1 (c 4 δ)).keep f2 (d 4 δ),⟨b.nC,λj i a=>by have:=b.lt j i a;omega⟩⟩ ?_;have st:=ajd (F:=cF m A B D E) f;rw[YG]at st;exact st.trans ⟨f2.mono λi a=>⟨0,a⟩,λi a=>.inl a⟩
theorem KT.adu(p:KT h m A B D E ra sb pd ow most){x:Int}(G:ow.length<50000){K:Sl->aa->Prop}(q:∀E' h',KT h' m A B D E' ra sb pd (ow++[x]) most->Step (cO (cF m A B D E)) h (cO (cF m A B D E')) h'->K E' h'):
 ∃new,cv (h.push (row (aiZ [TV.i x]) 3)) (ajo (some (Vc.Loc.mk h.size 0)) 1 1) 1 new/\(∀v∈new,bQ v=true)/\aq ctx 3 E 1 new (h.push (row (aiZ [TV.i x]) 3)) K:=by
 refine abN p.e ω λE' b c f1 f=>?_;have z:=p.sep.nC;have d:Step (cF m A B D E 4) h (In E') b:=⟨f1,f⟩;have e:=p.sep.step d c.gv;rw[YH]at e;have a:∀k,k≠4->∀i,cF m A B D E k i->¬In E i:=λk q i g j=>q (z k 4 i g j);have st:=ajd (F:=cF m A B D E) d;rw[YH]at st;exact q E' b ⟨p.var.only f1 (a 0 δ m rfl),p.a.keep f1 (a 1 δ),p.b.keep f1 (a 2 δ),p.d.keep f1 (a 3 δ),c,e⟩ st
end
def CE(N:List Nd)(w9 root:Bs 32):Bool:=decide (0<=place w9 N)&&(decide (0<=place root N)&&bL (dV N) (place w9 N).toNat (place root N).toNat)
section
variable{R:Rq}{h h':aa}{m:Nat}{A B D:Sl}{N:List Nd}{most:Int}
theorem PI(p:RT h m A B D N most){w9 root:Bs 32}(q:∀h',Ext h h'->R (ajy (CE N w9 root)).val h'):
 Cl 246 [.ptr (PT m),.bytes 32 w9,.bytes 32 root] h R:=by
 apply pq;delta mE dZ bO bV jS i_ bu bK mN;have up:=p.ok.tree;refine af λt v1 u U=>af λV F g W=>⟨w9,(v1.ext g).bytes,fA (p.ext (u.trans g)) λG n=>⟨_,rfl,?_⟩⟩;have o:=(u.trans g).trans n;refine ID (λX=>?_) λY=>?_
 ·have e:CE N w9 root=false:=by unfold CE;rw[decide_eq_false ω,aj7]
  rw[e]at q;exact q G o
 obtain⟨k,y,Z,v,H,I,q5⟩:=fB (r:=w9) (L:=N) ω;refine⟨root,(F.ext n).bytes,fA (p.ext o) λJ w=>⟨_,rfl,?_⟩⟩;have K:=o.trans w;have pl:=qJ root N;refine⟨λσ M=>-1<=σ.2/\σ.2<N.length/\Ext J M/\CE N w9 root=(decide (0<=σ.2)&&bL (dV N) k σ.2.toNat),λσ _=>(σ.2+1).toNat,⟨by dsimp only;omega,by dsimp only;omega,ai3 _,?_⟩,?_⟩
 ·unfold CE;rw[decide_eq_true (show 0<=place w9 N by omega),ajG,v,ajb]
 rintro⟨f,i⟩ z ⟨O,P,j,b⟩;dsimp only at O P b⊢;have d:=K.trans j;refine ID (λl=>?_) λl=>?_
 ·obtain⟨x,c⟩:∃x,N[i.toNat]? =some x:=⟨_,ai2 ω⟩;rw[decide_eq_true l,ajG]at b;refine⟨A,(p.ext d).var.ah rfl,th (p.ext d).a.elems l (MP c) ⟨w9,(((v1.ext g).ext n).ext (w.trans j)).bytes,?_⟩⟩;dsimp only;rw[show decide (x.root.l=w9.l)=decide (x.root=w9)from El _ _]
  have C:x.root=w9↔i.toNat=k:=by
   constructor
   ·intro e;have t:=js p.ok.nodup c;rw[e,v]at t;omega
   ·intro e;rw[e,H]at c;cases c;exact I
  refine ID (λs=>?_) λs=>?_
  ·rw[C.1 s,qH]at b;rw[b]at q;exact q z d
  ·have Q:¬i.toNat=k:=λe=>s (C.2 e);rw[gq up ω,decide_eq_false Q,Bool.false_or]at b;refine Yc (p.ext d) λh6 E=>⟨_,rfl,?_⟩;by_cases S:0<i
   ·have T:=p.ok.up i.toNat x c ω;rw[decide_eq_true (show 0<i.toNat by omega),ajG,AJ c]at b;rw[Yb S c];refine⟨⟨ω,ω,j.trans E,?_⟩,ω⟩;rw[b,decide_eq_true T.1,ajG]
   ·have e:upI N i=-1:=by unfold upI;rw[if_neg ω]
    rw[e];rw[decide_eq_false (show¬0<i.toNat by omega),aj7]at b;exact⟨⟨ω,ω,j.trans E,b⟩,ω⟩
 ·rw[decide_eq_false l,aj7]at b;rw[b]at q;exact q z d
def upN(N:List Nd)(k i:Nat):Bs 32:=if i=k then ai1 32 else Jl N (dV N i)
theorem Vz{w:Nat}{O:Sl}{own:Nat->Int}(p:RT h m A B D N most)(q:RW h w m O N own){root:Bs 32}(a':place root N<0->∀h',Ext h h'->R (ajc [.ptr none,.bool false]).val h')
 (Z:∀k:Nat,place root N=(k:Int)->∀h' w' Y A' B' D' O' n',RT h' Y A' B' D' (e_ N most k) most->Var 263 h' w' (.agg [.ptr (PT Y),.slice O',.i n'])->Ext h h'->(∀i,BP Y A' B' D' i->h.size<=i)->R (ajc [.ptr (PT w'),.bool true]).val h'):
 Cl 180 [.ptr (PT w),.bytes 32 root] h R:=by
 apply yC;delta fK iR dZ iz jZ Km nT zl Bd nR Bb jT bV dL fJ jS bu fU bK bN aT eE;have up:=p.ok.tree;have b6:=p.ok.len;have b7:=p.ok.most;have la:=p.a.len;have lb:=p.b.len;have ld:=p.d.len;rw[kz,aiY]at la;rw[aiY,aiY]at lb;unfold JH at ld;rw[kz,aiY]at ld;refine af λh1 v1 x1 s1=>⟨_,(q.var.ext x1).ah rfl,root,v1.bytes,fA (p.ext x1) λf x2=>⟨_,rfl,?_⟩⟩;have g:=x1.trans x2;refine ID (λG=>a' G f g) λh0=>?_;obtain⟨k,y,q1,q2,q3,q4,K⟩:=fB (r:=root) (L:=N) ω;have Z:=Z k q2;obtain⟨ba,_⟩:=wM p.ok K;have kr:=FE p.ok K;have ks:=Pb p.ok K;have bb:=Ro p.ok K;refine⟨_,(q.var.ext g).ah rfl,most,(p.ext g).var.ah rfl,af λh3 v3 M s3=>⟨_,((q.var.ext g).ext M).ah rfl,A,((p.ext g).ext M).var.ah rfl,?_⟩⟩;have b8:=g.trans M;have z1:=x1.size;have z2:=x2.size;have bc:KT h3 f.size aiX aiX aiX aiX [] [] [] [] most:=⟨v3,Vc.Own.nil _ _ _,Vc.Own.nil _ _ _,Vc.Own.nil _ _ _,Vc.Own.nil _ _ _,⟨λj k i h1 f=>?_,λj i c=>?_⟩⟩;rotate_left
 ·match j,k with
  |0,0=>rfl
  |0,1|0,2|0,3|0,4=>exact(qN f).elim
  |1,_|2,_|3,_|4,_=>exact(qN h1).elim
  |0,_+5=>exact f.elim
  |_+5,_=>exact h1.elim
 ·match j with
  |0=>have c:i=f.size:=c;omega
  |1|2|3|4=>exact(qN c).elim
  |_+5=>exact c.elim
 have Mg:∀i,i<=N.length->(fP N k i).length<=i:=λi _=>by
  have:=ajr (bL (dV N) k) (ajL i)
  rwa [ajM]at this
 refine⟨λσ l=>∃i:Nat,σ.2=i/\i<=N.length/\∃A' B' D' ow,KT l f.size A' B' D' σ.1 ((fP N k i).map (Jl N)) ((fP N k i).map (slI N)) ((fP N k i).map (upN N k)) ow most/\ow.length<=i/\Ext f l/\∀j,cO (cF f.size A' B' D' σ.1) j->f.size<=j,
  λσ _=>(N.length-σ.2).toNat,⟨0,rfl,ajz _,aiX,aiX,aiX,[],bc,ajz _,M,λj⟨q,H⟩=>?_⟩,?_⟩
 ·match q with
  |0=>exact ai5 (ai7 H)
  |1|2|3|4=>exact(qN H).elim
  |_+5=>exact H.elim
 rintro⟨E,ii⟩ o ⟨i,c,bd,A',B',D',ow,I,b9,P,lo⟩;dsimp only at c I lo⊢;subst c
 have ext:∀{F F':Nat->Nat->Prop}{s n:aa},Ext f s->Step (cO F) s (cO F') n->(∀j,cO F j->f.size<=j)->Ext f n/\(∀j,cO F' j->f.size<=j):=λx st lo=>
  ⟨ai0 x st.only lo,λj u=>(st.new j u).elim (lo j) λh=>by have:=x.size;omega⟩
 have bl:=Mg i bd;refine ID (λb'=>?_) λca=>?_
 ·have Q:i<N.length:=ω;obtain⟨x,v⟩:∃x,N[i]? =some x:=⟨_,ai2 Q⟩;have ab:N[(i:Int).toNat]? =some x:=by rw[ajb];exact v
  refine th (p.ext (g.trans P)).a.elems ω (MP ab) ?_;refine af λh5 v5 S s5=>av (t:=.bytes 32 x.root) v5 jV.symm (jV.trans jV.symm) λh6 v6 f6 s6=>?_;have ac:Ext o h6:=ai0 S f6 λi c=>ai5 (ai7 c);have ad:=P.trans ac;have cc:=ac.size;refine⟨_,(q.var.ext (g.trans ad)).ah rfl,root,(v1.ext (x2.trans ad)).bytes,x.root,v6.bytes,PI (p.ext (g.trans ad)) λh7 x7=>⟨_,rfl,?_⟩⟩;have ae:=ac.trans x7;have a0:=P.trans ae
  have n:CE N root x.root=bL (dV N) k i:=by
   unfold CE;rw[js p.ok.nodup v,q2,decide_eq_true ω,decide_eq_true ω,ajG,ajG,ajb,ajb]
  rw[n];have w1:ai9 .i64 ((i:Int)+1)=((i+1:Nat):Int):=by rw[wrap_i64 ω ω];omega
  have a1:Safe (·=o.size) (cF f.size A' B' D' E) h7:=λj u=>by
   have:=x7.size;exact⟨λ⟨q,H⟩=>by have:=I.sep.lt q j H;omega,ω⟩
  have v7:Var 52 h7 o.size (.bytes 32 x.root):=v6.ext x7;refine ajg (λG=>?_) λT=>?_
  ·have G:bL (dV N) k i=false:=by simpa using G
   rw[w1];have e:fP N k (i+1)=fP N k i:=by rw[wL,if_neg (by rw[G];decide),ajT]
   exact⟨⟨i+1,rfl,Q,A',B',D',ow,by rw[e];exact I.ext ae,ω,a0,lo⟩,ω⟩
  ·have T:bL (dV N) k i=true:=by simpa using T
   have e:fP N k (i+1)=fP N k i++[i]:=by rw[wL,if_pos T]
   have er:Jl N i=x.root:=wK v;have es:slI N i=x.slot:=MQ v;have a2:=I.ext ae;refine⟨_,a2.var.ah rfl,x.root,v7.bytes,ajl _ _,a2.adr (by rw[aiY];omega) λh8 A8 a3 al=>?_⟩;obtain⟨U,bi⟩:=ext a0 al lo;have a4:=a1.step al;have v8:Var 52 h8 o.size (.bytes 32 x.root):=v7.only al.only (a1 _ rfl).1;refine⟨_,a3.var.ah rfl,_,(q.var.ext (g.trans U)).ah rfl,B,(p.ext (g.trans U)).var.ah rfl,zZ (p.ext (g.trans U)).b.elems ω (AU ab) ⟨ajl _ _,a3.ads (by rw[aiY];omega) λV B9 bj am=>?_⟩⟩;obtain⟨W,bk⟩:=ext U am bi;have a5:=a4.step am;have v9:Var 52 V o.size (.bytes 32 x.root):=v8.only am.only (a4 _ rfl).1;refine⟨_,(q.var.ext (g.trans W)).ah rfl,D,(p.ext (g.trans W)).var.ah rfl,th (p.ext (g.trans W)).d.elems ω (Ts ab) ?_⟩;refine af λcd v10 x10 ce=>av (t:=.bytes 32 (DM N x)) v10 jV.symm (jV.trans jV.symm) λao v11 f11 cf=>?_;have ap:Ext V ao:=ai0 x10 f11 λi c=>ai5 (ai7 c);have ch:=ap.size;intro J HJ
   have a6:∀(l:aa),Ext V l->ao.size<=l.size->Var 52 l V.size (.bytes 32 (upN N k i))->J aj3 l:=λl X zh vh=>by
    refine HJ _ l ?_;have a7:=bj.ext X;have bm:Safe (λj=>j=o.size) (cF f.size A8 B9 D' E) l:=λj u=>⟨(a5 j u).1,by have:=(a5 j u).2;have:=X.size;omega⟩;refine⟨_,a7.var.ah rfl,upN N k i,vh.bytes,ajl _ _,a7.adt (by rw[aiY];omega) λar bo bp a8=>?_⟩;obtain⟨aw,br⟩:=ext (W.trans X) a8 bk;have aE:Var 52 ar o.size (.bytes 32 x.root):=(v9.ext X).only a8.only (bm _ rfl).1;refine⟨x.root,aE.bytes,U_ (p.ext (g.trans aw)) (q.ext (g.trans aw)) λci a9=>⟨_,rfl,?_⟩⟩;refine(bp.ext a9).adu ω λcj cl bt bx=>?_;obtain⟨b0,b1⟩:=ext (aw.trans a9) bx br;rw[w1];refine⟨⟨i+1,rfl,Q,A8,B9,bo,ow++[lY N own x.root],?_,?_,b0,b1⟩,ω⟩
    ·rw[e,ajq,ajq,ajq,ajD,ajD,ajD,ajN,ajN,ajN,er,es];exact bt
    ·rw[ajk,ajO];omega
   refine ID (λb2=>?_) λb2=>?_
   ·refine av (t:=.bytes 32 (ai1 32)) v11 jV.symm (jV.trans jV.symm) λar aE f12 cp=>a6 ar (ai0 ap f12 λi c=>ai5 (ai7 c)) ω ?_;have:upN N k i=ai1 32:=if_pos ω;rw[this];exact aE
   ·refine a6 ao ap (ai6 _) ?_;have cs:=za up i Q T;have b3:=p.ok.up i x v ω;obtain⟨z,hz⟩:∃z,N[x.par.toNat]? =some z:=⟨_,ai2 ω⟩
    have:upN N k i=DM N x:=by
     unfold upN;rw[if_neg ω,AJ v,wK hz,GH b3.1 hz]
    rw[this];exact v11
 ·have b5:i=N.length:=ω;refine af λh5 v5 S s5=>?_;have C:=I.ext S;rw[b5]at C;have z:=C.sep.nC;refine Z h5 o.size f.size A' B' D' E _ ⟨C.var,?_,?_,?_,ba,⟨λc=>?_,λc=>?_,λc=>?_⟩,λj s n=>?_,λj s n=>?_,λj s n=>?_⟩ v5 ((g.trans P).trans S) λj u=>?_
  ·rw[kr];exact C.a
  ·rw[ks];exact C.b
  ·rw[bb];exact C.d
  ·have:=z 1 0 _ c rfl;omega
  ·have:=z 2 0 _ c rfl;omega
  ·have:=z 3 0 _ c rfl;omega
  ·have:=z 1 2 j s n;omega
  ·have:=z 1 3 j s n;omega
  ·have:=z 2 3 j s n;omega
  ·have:f.size<=j:=by
    rcases u with e|e|e|e
    ·omega
    ·exact lo j ⟨1,e⟩
    ·exact lo j ⟨2,e⟩
    ·exact lo j ⟨3,e⟩
   omega
theorem RR{q b:Nat}{c:Cf}(G:Var 134 h q (PE c m b))(p:RT h m A B D N most){root:Bs 32}(H:place root N<0->∀h',Ext h h'->R (TV.i 7).val h')
 (I:∀k:Nat,place root N=(k:Int)->∀h' a A' B' D',RT h' a A' B' D' (e_ N most k) most->Var 134 h' q (PE c a b)->ag (·=q) h h'->(∀i,BP a A' B' D' i->h.size<=i)->R (TV.i 0).val h'):
 Cl 118 [.ptr (PT q),.bytes 32 root] h R:=by
 apply qi;delta BL iR aD FW bV bu dO bK bh;have C:=G.lt;refine af λE v1 j F=>⟨_,(G.ext j).ah rfl,root,v1.bytes,Rr (p.ext j) λJ w O u o K _=>⟨_,rfl,o,?_⟩⟩;have f:=j.trans o;refine Vz (p.ext f) u (λl r n=>⟨_,_,rfl,ajh (H l r (f.trans n))⟩) λk v r L a A' B' D' O' M x y n s=>⟨_,_,rfl,aja ?_⟩;have g:=f.trans n;have P:=f.size;refine⟨_,y.ah rfl,aF (G.ext g) (i:=1) (t:=.ptr (PT a)) rfl rfl rfl rfl λz v4 f4 Q=>I k v z a A' B' D' (x.only f4 λi d e=>by have:=s i d;have e:i=q:=e;omega) v4 ⟨by have:=g.size;omega,λi d l=>(f4.same i (aj0 d g.size) l).trans (g.same i d)⟩ λi d=>by have:=s i d;omega⟩
end
end Gate
namespace Peers
def vals(L:List (Int×Int)):List Int:=L.map (·.2)
structure Rf(h:aa)(b:Nat)(A B:Sl)(L:List (Int×Int))(most bD decay gone:Int):Prop where
 var:Var 189 h b (.agg [.slice A,.slice B,.i most,.i bD,.i decay,.i gone])
 a:Own 3 1 h A ((keys L).map iU)
 b:Own 3 1 h B ((vals L).map iU)
 sP:∀i,In A i->¬In B i
def dD(b:Nat)(A B:Sl)(i:Nat):Prop:=i=b\/In A i\/In B i
section
variable{R:Rq}{h h':aa}{b:Nat}{A B:Sl}{L:List (Int×Int)}{most bD decay gone:Int}
theorem Rf.only{S:Nat->Prop}(p:Rf h b A B L most bD decay gone)(o:ag S h h')(q:∀i,dD b A B i->¬S i):Rf h' b A B L most bD decay gone:=
 ⟨p.var.only o (q b (.inl rfl)),p.a.only o (λl a=>q _ (.inr (.inl ⟨l,a,rfl⟩))),p.b.only o (λl a=>q _ (.inr (.inr ⟨l,a,rfl⟩))),p.sP⟩
theorem Rf.ext(p:Rf h b A B L most bD decay gone)(e:Ext h h'):Rf h' b A B L most bD decay gone:=p.only (S:=λ_=>False) (ajp e) (λ_ _ a=>a)
theorem PJ{T:TypeId}{sz:Nat}{s:Sl}{ts:List TV}(o:Own T sz h s ts){i:Nat}(q:In s i):∃E,h[i]? =some (row E T):=by
 obtain⟨l,a,rfl⟩:=q;rcases o.row with rfl|⟨d,e,b,c,_⟩
 ·cases a
 ·rw[b]at a;cases a;exact⟨_,c⟩
theorem PK{G H:List Value}{T q:TypeId}(I:h[b]? =some (row G T))(E:h[b]? =some (row H q)):T=q:=by
 rw[I]at E;have:=congrArg (λo=>match o with|some (Obj.cells _ t _)=>t|_=>0) E;simpa[row]using this
theorem Rf.aal(p:Rf h b A B L most bD decay gone):¬In A b:=λa=>by
 obtain⟨d,c⟩:=PJ p.a a;have:=PK c p.var;cases this
theorem Rf.RS(p:Rf h b A B L most bD decay gone):¬In B b:=λa=>by
 obtain⟨d,c⟩:=PJ p.b a;have:=PK c p.var;cases this
theorem Rf.lt(p:Rf h b A B L most bD decay gone){i:Nat}(q:dD b A B i):i<h.size:=by
 rcases q with rfl|⟨l,a,rfl⟩|⟨l,a,rfl⟩
 ·exact p.var.lt
 ·exact p.a.lt l a
 ·exact p.b.lt l a
theorem ku:(vals L).length=L.length:=by simp[vals]
theorem Ar:(keys L).length=L.length:=by simp[keys]
theorem Rf.aam(p:Rf h b A B L most bD decay gone):A.len=L.length:=by have:=p.a.len;rw[aiY,Ar]at this;omega
theorem Rf.Mg(p:Rf h b A B L most bD decay gone):B.len=L.length:=by have:=p.b.len;rw[aiY,ku]at this;omega
def I4(L:List (Int×Int))(k:Int):Int:=match L.findIdx? (λe=>decide (e.1=k))with
 |some i=>i
 |none=>-1
theorem EU(q:∀h' ok,Ext h h'->Rf h' h.size aiX aiX [] most bD decay 0->h'.size=h.size+1->(ok=true↔Valid most bD decay)->R (ajc [.ptr (PT h.size),.bool ok]).val h'):
 Cl 94 [.i most,.i bD,.i decay] h R:=by
 apply yD;delta SR HC fh eE;obtain⟨b,d,v1,e,f⟩:=B7 h (.agg [.slice aiX,.slice aiX,.i most,.i bD,.i decay,.i 0]) 189;unfold cu;rw[d];have c:=λok=>q b ok e ⟨v1,ajt _ _ _,ajt _ _ _,λi g=>by obtain⟨l,j,_⟩:=g;cases j⟩ f;have no:¬Valid most bD decay->R (ajc [.ptr (PT h.size),.bool false]).val b:=λk=>c false (by simp[k]);unfold Valid at no;refine ID (λm=>ID (λn=>ID (λo=>ID (λp=>ID (λr=>?_) λa=>no ω) λa=>no ω) λa=>no ω) λa=>no ω) λa=>no ω;refine c _ ?_;rw[decide_eq_true_eq];unfold Valid;omega
theorem M7(p:Rf h b A B L most bD decay gone)(G:L.length<1000000){k:Int}(q:R (TV.i (I4 L k)).val h):Cl 130 [.ptr (PT b),.i k] h R:=by
 apply ry;delta aI SO jN lR iP bN;have F:=p.aam;refine⟨A,p.var.ah rfl,?_⟩;refine⟨λs v=>0<=s.2/\s.2<=L.length/\v=h/\∀(j:Nat)(e:Int×Int),(j:Int)<s.2->L[j]? =some e->e.1≠k,λs _=>((L.length:Int)-s.2).toNat,⟨by simp,by simp,rfl,λj e a=>by simp at a;omega⟩,?_⟩;rintro⟨u,i⟩ _ ⟨r,w,rfl,d⟩;simp only at r w d⊢;refine ID (λx=>?_) λx=>?_
 ·refine ints_at p.a.elems r (by rw[Ar];omega) λl y f z=>⟨y,z,?_⟩;obtain⟨e,c⟩:∃e,L[i.toNat]? =some e:=⟨_,ai2 ω⟩
  have t:y=e.1:=by
   unfold keys at f;rw[ai4,c]at f;exact(Option.some.inj f).symm
  refine ID (λg=>?_) λg=>?_
  ·have:I4 L k=i:=by
    have m:L.findIdx? (λe=>decide (e.1=k))=some i.toNat:=by
     rw[List.findIdx?_eq_some_iff_getElem];obtain⟨C,D⟩:=aji.1 c;refine⟨C,?_,λj a=>?_⟩
     ·rw[D,decide_eq_true_eq,<-t];exact g
     ·simp only[decide_eq_true_eq];exact d j _ ω (ai2 ω)
    unfold I4;rw[m];simp only;omega
   rw[this]at q;exact q
  ·rw[wrap_i64 (n:=i+1) ω ω];refine⟨⟨ω,ω,by trivial,λj E a o=>?_⟩,ω⟩;by_cases H:(j:Int)=i
   ·have:j=i.toNat:=ω;rw[this,c]at o;cases o;rw[<-t];exact g
   ·exact d j E ω o
 ·have:I4 L k=-1:=by
   have m:L.findIdx? (λe=>decide (e.1=k))=none:=by
    rw[List.findIdx?_eq_none_iff];intro e c;obtain⟨j,a,rfl⟩:=List.getElem_of_mem c;simp only[decide_eq_false_iff_not];exact d j _ ω (ai2 a)
   unfold I4;rw[m]
  rw[this]at q;exact q
theorem As:∀(L:List (Int×Int))(k:Int),(I4 L k<0/\get k L=none)\/(0<=I4 L k/\∃v,L[(I4 L k).toNat]? =some (k,v)/\get k L=some v)
 |[],k=>.inl ⟨by simp[I4],rfl⟩
 |e::L,k=>by
  have a:=As L k;unfold I4 at a⊢;rw[List.findIdx?_cons];unfold get;by_cases h:e.1=k
  ·right;rw[if_pos (by simpa using h),if_pos h.symm];refine⟨by simp,e.2,?_,rfl⟩;simp[<-h]
  ·rw[if_neg (by simpa using h),if_neg (λb=>h b.symm)];cases c:L.findIdx? (λe=>decide (e.1=k))with
   |none=>rw[c]at a;exact .inl ⟨by simp,(a.resolve_right (λb=>by simp at b)).2⟩
   |some i=>
    rw[c]at a;right;rcases a with⟨f,_⟩|⟨_,v,d,g⟩
    ·simp only at f;omega
    ·refine⟨by simp only[Option.map_some];omega,v,?_,g⟩;simp only[Option.map_some]at d⊢;have:((i+1:Nat):Int).toNat=i+1:=ω;rw[this,List.getElem?_cons_succ];simpa using d
theorem PN(p:Rf h b A B L most bD decay gone)(E:L.length<1000000){k:Int}(q:R (TV.i (score L k)).val h):Cl 129 [.ptr (PT b),.i k] h R:=by
 apply oE;delta pN aI aD c7 dw dO aT bh;refine M7 p E ⟨_,rfl,?_⟩;unfold score at q;rcases As L k with⟨d,a⟩|⟨d,v,a,e⟩
 ·refine ID (λf=>ω) λ_=>?_;rw[a]at q;exact q
 ·refine ID (λ_=>?_) λf=>ω;have j:=(aji.1 a).1;refine⟨B,p.var.ah rfl,?_⟩;refine ints_at p.b.elems d (by rw[ku];omega) λl y c g=>⟨y,g,?_⟩;unfold vals at c;rw[ai4,a]at c;cases c;rw[e]at q;exact q
theorem M8(p:Rf h b A B L most bD decay gone)(q:L.length<1000000)(E:∀k,-1048576<=score L k/\score L k<=0){k:Int}(G:R (ajy (decide (bD<=-score L k))).val h):Cl 182 [.ptr (PT b),.i k] h R:=by
 apply ng;delta c7 aT;refine⟨bD,p.var.ah rfl,PN p q ⟨_,rfl,ai3 _,?_⟩⟩;have:=E k;rw[wrap_i64 (n:=0-score L k) ω ω];have:(0:Int)-score L k=-score L k:=ω;rw[this];exact G
theorem AL{s:Sl}{ts:List TV}{i j:Nat}(e:ak 1 h s ts)(q:i<=j)(E:j<=s.len)(G:s.len<=s.cap):ak 1 h (aA s i j 1) ((ts.drop i).take (j-i)):=by
 have g:=e.len;refine⟨by simp only[aA,ajn,ajZ];omega,λc=>?_,λl a k t d=>?_⟩
 ·unfold aA at c;simp only at c
  have:ts=[]\/i=j:=by
   split at c
   ·right;omega
   ·left;cases b:s.a with
    |none=>exact e.nil b
    |some l=>rw[b]at c;simp at c
  rcases this with rfl|rfl
  ·simp
  ·simp
 ·unfold aA at a;simp only at a;rw[aj8]at d;split at d
  ·rename_i m;rw[List.getElem?_drop]at d;split at a
   ·omega
   ·cases b:s.a with
    |none=>rw[b]at a;simp at a
    |some f=>
     rw[b]at a;simp only[Option.map_some,Option.some.injEq]at a;subst a;have:=e.get f b (i+k) t d;simp only[Nat.mul_one]at this⊢;rw[Nat.add_assoc];exact this
  ·cases d
end
end Peers
namespace Peers
section
variable{R:Rq}{h h':aa}{b:Nat}{A B:Sl}{L:List (Int×Int)}{most bD decay gone:Int}
theorem zR{C:Ctx}{T:TypeId}{sz:Nat}{t s:Sl}{ts us:List TV}{K:Sl->aa->Prop}(J:(C.ti T).size=sz)(M:(C.ti T).z.size=sz)(O:0<(C.ti T).bytes)(q:0<sz)
 (U:(t.len+s.len)*(C.ti T).bytes<=70368744177664)(ab:t.len=t.cap)(ac:0<s.len)(E:ak sz h t ts)(G:ak sz h s us)(H:∀u∈ts,u.size=sz)(I:∀u∈us,u.size=sz)(W:∀u∈us,u.plain=true)
 (Z:∀t' h',Own T sz h' t' (ts++us)->Ext h h'->(∀l,t'.a=some l->h.size<=l.b)->K t' h'):
 ∃new,cv h s sz new/\(∀v∈new,bQ v=true)/\aq C T t s.len new h K:=by
 refine⟨aiZ us,G.cells I q,aj.lK W,aiZ ts,?_,U,O,λb=>ω,λb=>ω,λ_ c d=>?_⟩
 ·rw[J];exact E.cells H q
 have e:=E.len;have l2:=G.len;refine Z _ _ ⟨λu f=>?_,by simp[e,l2],d,.inr ⟨_,bZ (C.ti T).z (c-(t.len+s.len)),rfl,?_,?_⟩⟩ (ajl _ _) (λl g=>by cases g;exact ai6 _)
 ·rcases List.mem_append.1 f with a|a
  ·exact H u a
  ·exact I u a
 ·rw[cg,aj.fe]
 ·rw[iD,M]
theorem I5{l:List Int}:∀u∈l.map iU,u.size=1:=λu a=>by
 obtain⟨x,_,rfl⟩:=aje.1 a;rfl
theorem FK{l:List Int}:∀u∈l.map iU,u.plain=true:=λu a=>by
 obtain⟨x,_,rfl⟩:=aje.1 a;rfl
end
end Peers
namespace Peers
theorem Nn.of{α:Type}{p:Option α}{x:α}(h:p=some x){K:α->Prop}(q:K x):Nn p K:=by rw[h];exact q
section
variable{R:Rq}{h h':aa}{b:Nat}{A B:Sl}{L:List (Int×Int)}{most bD decay gone:Int}
def Grown(b:Nat)(A B:Sl)(h:aa)(A' B':Sl)(h':aa):Prop:=ag (dD b A B) h h'/\∀i,dD b A' B' i->dD b A B i\/h.size<=i
theorem Grown.refl(b:Nat)(A B:Sl)(h:aa):Grown b A B h A B h:=⟨ajV _ _,λ_ a=>.inl a⟩
theorem Grown.trans{A' B' E G:Sl}{h h' H:aa}(g:Grown b A B h A' B' h')(q:Grown b A' B' h' E G H):Grown b A B h E G H:=by
 refine⟨⟨ajj g.1.size q.1.size,λi c d=>?_⟩,λi c=>?_⟩
 ·rw[q.1.same i (aj0 c g.1.size) (λe=>by
   rcases g.2 i e with a|a
   ·exact d a
   ·omega),g.1.same i c d]
 ·rcases q.2 i c with a|a
  ·exact g.2 i a
  ·right;have:=g.1.size;omega
theorem Au{i:Nat}{e:Int×Int}(h:L[i]? =some e):(keys L)[i]? =some e.1/\(vals L)[i]? =some e.2:=by
 unfold keys vals;rw[ai4,ai4,h];exact⟨rfl,rfl⟩
theorem YI{i:Nat}{k n m:Int}(h:L[i]? =some (k,n)):keys (L.set i (k,m))=keys L:=by
 unfold keys;rw[ajJ];apply List.ext_getElem?;intro j;rw[List.getElem?_set];split
 ·rename_i a;subst a;have b:=(aji.1 h).1;rw[if_pos (by simpa using b),ai4,h];rfl
 ·rfl
theorem YJ{i:Nat}{k m:Int}:vals (L.set i (k,m))=(vals L).set i m:=by
 unfold vals;rw[ajJ]
theorem Rf.set(p:Rf h b A B L most bD decay gone){i:Nat}{k n:Int}(q:L[i]? =some (k,n))(m:Int):
 ∃l,B.a=some l/\gi h l.b (l.o+i*1) 1/\∃a,(TV.i m).put h l.b (l.o+i*1)=a/\Rf a b A B (L.set i (k,m)) most bD decay gone/\Grown b A B h A B a:=by
 have e:=(aji.1 q).1;obtain⟨l,f,w,a,g,o,c,v⟩:=Own.set p.b (i:=i) (t:=.i m) (by rw[aiY,ku];exact e) rfl;refine⟨l,f,w,a,g,⟨p.var.only c p.RS,?_,?_,p.sP⟩,c.mono λj r=>.inr (.inr r),λ_ d=>.inl d⟩
 ·rw[YI q];exact p.a.only c (λs u d=>p.sP _ ⟨s,u,rfl⟩ d)
 ·rw[YJ,ajJ];exact o
def RU:Prop:=∀(R:Rq)(h:aa)(b:Nat)(A B:Sl)(L:List (Int×Int))(most bD decay gone:Int)(i:Nat),Rf h b A B L most bD decay gone->L.length<1000->i<L.length->
 (∀h' A' B',Rf h' b A' B' (L.eraseIdx i) most bD decay gone->Grown b A B h A' B' h'->R (ajc []).val h')->Cl 131 [.ptr (PT b),.i (i:Int)] h R
theorem RV(J:RU)(p:Rf h b A B L most bD decay gone)(hl:L.length<1000)(M:∀e∈L,-1048576<=e.2/\e.2<0)(ac:1<=decay/\decay<=1048576)
 (O:∀h' A' B',Rf h' b A' B' (tick decay L) most bD decay gone->Grown b A B h A' B' h'->R (ajc []).val h'):Cl 109 [.ptr (PT b)] h R:=by
 apply pE;delta BM zu xL pN aI iQ c7 eX bN aT;have lA:=p.aam;refine⟨A,p.var.ah rfl,?_⟩;dsimp only;rw[wrap_i64 (n:=(A.len:Int)-1) ω ω];refine⟨λi o=>-1<=i/\i<L.length/\∃A' B',Rf o b A' B' (L.take (i+1).toNat++tick decay (L.drop (i+1).toNat)) most bD decay gone/\Grown b A B h A' B' o,λi _=>(i+1).toNat,⟨ω,ω,A,B,?_,Grown.refl _ _ _ _⟩,?_⟩
 ·have:((A.len:Int)-1+1).toNat=L.length:=ω;rw[this,ajs,List.drop_length];simpa[tick]using p
 rintro i o ⟨i0,i1,s,c,a,t⟩;refine ID (λg=>?_) λg=>?_
 ·obtain⟨⟨k,n⟩,j⟩:∃e,L[i.toNat]? =some e:=⟨_,ai2 ω⟩;have u:(i+1).toNat=i.toNat+1:=ω
  have m:(L.take (i+1).toNat++tick decay (L.drop (i+1).toNat))[i.toNat]? =some (k,n):=by
   rw[List.getElem?_append_left (by simp only[ajn];omega),List.getElem?_take_of_lt ω,j]
  have K:L.take (i+1).toNat=L.take i.toNat++[(k,n)]:=by rw[u,ajB,j];rfl
  have v:L.drop i.toNat=(k,n)::L.drop (i+1).toNat:=by
   rw[u];obtain⟨N,P⟩:=aji.1 j;rw[List.drop_eq_getElem_cons N,P]
  have Q:=M (k,n) (ajf j);simp only at Q;generalize w:L.take (i+1).toNat++tick decay (L.drop (i+1).toNat)=C at a m
  have ad:C.length<=L.length:=by
   rw[<-w];have:=Ab decay (L.drop (i+1).toNat);simp only[ajk,ajn,ajZ]at this⊢;omega
  have x:=(aji.1 m).1;obtain⟨S,z⟩:=Au m;dsimp only at S z;have lB:=a.Mg;refine⟨c,a.var.ah rfl,c,a.var.ah rfl,?_⟩;refine ints_at a.b.elems g (by rw[ku];omega) λl y d T=>⟨y,T,?_⟩;rw[z]at d;cases d;rw[wrap_i64 (n:=i-1) ω ω];obtain⟨l2,U,V,W,X,f,Y⟩:=a.set m (n+decay);refine⟨decay,a.var.ah rfl,g,ω,Nn.of U ⟨V,?_⟩⟩;dsimp only[Nat.add_zero];rw[wrap_i64 (n:=n+decay) ω ω,X];have Z:(C.set i.toNat (k,n+decay))[i.toNat]? =some (k,n+decay):=by rw[List.getElem?_set,if_pos rfl,if_pos x]
  obtain⟨_,D⟩:=Au Z;dsimp only at D;refine⟨c,f.var.ah rfl,?_⟩;refine ints_at f.b.elems g (by rw[ku,List.length_set];omega) λl3 y d ab=>⟨y,ab,?_⟩;rw[D]at d;cases d;have E:=t.trans Y
  have F:C.set i.toNat (k,n+decay)=L.take i.toNat++(k,n+decay)::tick decay (L.drop (i+1).toNat):=by
   rw[<-w,K,ajF];have q:(L.take i.toNat).length=i.toNat:=by simp only[ajn];omega
   rw[List.set_append_right _ _ ω,q,Nat.sub_self];rfl
  have G:(i-1+1).toNat=i.toNat:=ω;refine ID (λr=>?_) λr=>?_
  ·have H:i=((i.toNat:Nat):Int):=ω;rw[H];refine J _ W b s c _ most bD decay gone i.toNat f (by rw[List.length_set];omega) (by rw[List.length_set];exact x) λh3 A3 B3 I g3=>⟨rfl,?_⟩;rw[<-H];refine⟨⟨ω,ω,A3,B3,?_,E.trans g3⟩,Ω⟩;rw[G]
   have:(C.set i.toNat (k,n+decay)).eraseIdx i.toNat=L.take i.toNat++tick decay (L.drop i.toNat):=by
    rw[F,v];have q:(L.take i.toNat).length=i.toNat:=by simp only[ajn];omega
    rw[List.eraseIdx_append_of_length_le ω,q,Nat.sub_self,List.eraseIdx_cons_zero];congr 1;unfold tick wQ;rw[List.filterMap_cons,if_pos (by simpa using r)]
   rw[this]at I;exact I
  ·refine⟨⟨ω,ω,s,c,?_,E⟩,Ω⟩;rw[G]
   have:C.set i.toNat (k,n+decay)=L.take i.toNat++tick decay (L.drop i.toNat):=by
    rw[F,v];congr 1;unfold tick wQ;rw[List.filterMap_cons,if_neg (by simpa using r)]
   rw[this]at f;exact f
 ·have:(i+1).toNat=0:=ω;rw[this]at a;simp only[ajW,List.nil_append,List.drop_zero]at a;exact O _ _ _ a t
theorem TC:∀{L:List (Int×Int)}{i:Nat}{k v w:Int},L[i]? =some (k,v)->(keys L).Nodup->put k w L=L.set i (k,w)
 |[],i,k,v,w,h,_=>by simp at h
 |e::L,0,k,v,w,h,_=>by
  simp only[List.getElem?_cons_zero,Option.some.injEq]at h;subst h;simp[put]
 |e::L,i+1,k,v,w,h,b=>by
  have a:e.1∉keys L/\(keys L).Nodup:=by simpa[keys]using b
  simp only[List.getElem?_cons_succ]at h;have c:k∈keys L:=aje.2 ⟨_,ajf h,rfl⟩;unfold put;rw[if_neg (show¬k=e.1 from λd=>a.1 (by rw[<-d];exact c)),TC h a.2];rfl
theorem TD:∀{L:List (Int×Int)}{k w:Int},k∉keys L->put k w L=L++[(k,w)]
 |[],k,w,_=>rfl
 |e::L,k,w,h=>by
  simp only[keys,ajD,aj1,not_or]at h;unfold put;rw[if_neg h.1,TD h.2];rfl
theorem Lc:∀{L:List (Int×Int)}{k v w:Int},put k w (put k v L)=put k w L
 |[],k,v,w=>by simp[put]
 |e::L,k,v,w=>by
  have a:=Lc (L:=L) (k:=k) (v:=v) (w:=w);simp only[put];by_cases h:k=e.1
  ·rw[if_pos h,if_pos h];simp[put,h]
  ·rw[if_neg h,if_neg h];simp only[put,if_neg h,a]
theorem I6:∀{L:List (Int×Int)}{i:Nat}{k v:Int},L[i]? =some (k,v)->(keys L).Nodup->drop k L=L.eraseIdx i
 |[],i,k,v,h,_=>by simp at h
 |e::L,0,k,v,h,_=>by
  simp only[List.getElem?_cons_zero,Option.some.injEq]at h;subst h;simp[drop]
 |e::L,i+1,k,v,h,b=>by
  have a:e.1∉keys L/\(keys L).Nodup:=by simpa[keys]using b
  simp only[List.getElem?_cons_succ]at h;have c:k∈keys L:=aje.2 ⟨_,ajf h,rfl⟩;unfold drop;rw[if_neg (show¬k=e.1 from λd=>a.1 (by rw[<-d];exact c)),I6 h a.2];rfl
theorem Ld{A A':Sl}{h:aa}(q:∀l,A'.a=some l->(∃a,A.a=some a/\a.b=l.b)\/h.size<=l.b){i:Nat}(E:In A' i):In A i\/h.size<=i:=by
 obtain⟨l,b,rfl⟩:=E;rcases q l b with⟨a,c,d⟩|e
 ·exact .inl ⟨a,c,d⟩
 ·exact .inr e
theorem RX(hd:RU)(p:Rf h b A B L most bD decay gone)(q:L.length<900)(hG:Good L){k pts:Int}(_hk:(Lit.int .i64 k).wf=true)(b9:0<=gone/\gone<1000000)(hm:1<=most)
 (hr:∀h' A' B' L' g,m_ most L k pts L' g->Rf h' b A' B' L' most bD decay (gone+g)->Grown b A B h A' B' h'->R (ajc []).val h'):Cl 55 [.ptr (PT b),.i k,.i pts] h R:=by
 apply pF;delta pN aI xJ jN c7 jv eX c5 iP bN aT bh;refine ID (λhp=>hr h A B L 0 (.inl ⟨hp,rfl,rfl⟩) (by simpa using p) (Grown.refl _ _ _ _)) λhp=>?_;intro J hJ
 have last:∀(r:aa)(D u:Sl)(M:List (Int×Int))(g:Int),Rf r b D u M most bD decay (gone+g)->Grown b A B h D u r->M.length<1000->(keys M).Nodup->k∈keys M->(-1048576<=score M k/\score M k<=0)->
  m_ most L k pts (put k (lower (score M k) pts) M) g->J aj3 r:=by
  intro r D u M g d g1 bd ac ao bi z;refine hJ _ _ ?_;refine M7 d ω ⟨_,rfl,?_⟩;rcases As M k with⟨_,a⟩|⟨n0,v,V,bj⟩
  ·exact absurd ao (get_none.1 a)
  have bk:score M k=v:=by unfold score;rw[bj];rfl
  rw[bk]at bi z;generalize I4 M k=n at*;have bl:=(aji.1 V).1;obtain⟨_,ap⟩:=Au V;dsimp only at ap;have lB:=d.Mg;refine⟨u,d.var.ah rfl,?_⟩;refine ints_at d.b.elems n0 (by rw[ku];omega) λl y E F=>⟨y,F,?_⟩;rw[ap]at E;cases E;rw[wrap_i64 (n:=1048576+v) ω ω]
  have done:∀m,m=lower v pts->∃l,u.a=some l/\gi r l.b (l.o+n.toNat*1) 1/\R (ajc []).val ((TV.i m).put r l.b (l.o+n.toNat*1)):=by
   rintro m rfl;obtain⟨l2,X,G,N,e2,p2,g2⟩:=d.set V (lower v pts);refine⟨l2,X,G,?_⟩;rw[e2];rw[TC V ac]at z;exact hr N D u _ g z p2 (g1.trans g2)
  refine ID (λb'=>?_) λca=>?_
  ·obtain⟨l2,X,G,hR⟩:=done (-1048576) (by unfold lower mx mn;repeat' split;all_goals omega);exact⟨u,d.var.ah rfl,n0,ω,Nn.of X ⟨G,hR⟩⟩
  ·obtain⟨l2,X,G,hR⟩:=done (v-pts) (by unfold lower mx mn;repeat' split;all_goals omega);refine⟨u,d.var.ah rfl,u,d.var.ah rfl,?_⟩;refine ints_at d.b.elems n0 (by rw[ku];omega) λl3 y E bm=>⟨y,bm,?_⟩;rw[ap]at E;cases E;rw[wrap_i64 (n:=v-pts) ω ω];exact⟨n0,ω,Nn.of X ⟨G,hR⟩⟩
 refine M7 p ω ⟨_,rfl,?_⟩;refine ID (λcc=>?_) λcd=>?_
 ·have ad:k∉keys L:=by
   rcases As L k with⟨_,a⟩|⟨n0,_⟩
   ·exact get_none.1 a
   ·omega
  intro J2 bo;have lA:=p.aam
  have more:∀(r:aa)(D u:Sl)(M:List (Int×Int))(g:Int),Rf r b D u M most bD decay (gone+g)->Grown b A B h D u r->M.length<900->(keys M).Nodup->k∉keys M->m_ most L k pts (put k (lower 0 pts) M) g->J2 aj3 r:=by
   intro r D u M g d g1 bd ac ao z;refine bo _ _ ?_;have ce:=d.aam;have cf:=d.Mg;refine⟨D,d.var.ah rfl,?_⟩;refine cz (C:=ctx) (T:=3) (x:=.i k) rfl rfl δ (by show(D.len+1)*8<=_;omega) d.a rfl rfl λO N o2 G b2=>?_;have v2:=d.var.only G d.aal;have bp:=d.b.only G (λl q a=>d.sP _ a ⟨l,q,rfl⟩);have ch:=d.var.lt;obtain⟨w3,P,e3,v3,o3,s3⟩:=AG (i:=0) v2 (by simp[ajS]) (by simp) (t:=.slice O) rfl;refine⟨w3,?_⟩;rw[e3];have ar:∀i,In O i->In D i\/r.size<=i:=λi c=>Ld b2 c
   have a4:¬In O b:=λa=>by
    rcases ar _ a with o|o
    ·exact d.aal o
    ·omega
   have a5:=o2.only o3 (λl q a=>a4 ⟨l,q,a⟩);have br:=bp.only o3 (λl q a=>d.RS ⟨l,q,a⟩);refine⟨u,v3.ah rfl,?_⟩;refine cz (C:=ctx) (T:=3) (x:=.i 0) rfl rfl δ (by show(u.len+1)*8<=_;omega) br rfl rfl λW h4 Y Z b4=>?_;have v4:=v3.only Z d.RS;have ci:=G.size;have aw:∀i,In W i->In u i\/P.size<=i:=λi c=>Ld b4 c
   have a6:∀i,In O i->¬In u i:=λi c a=>by
    rcases ar i c with o|o
    ·exact d.sP i o a
    ·have:=d.lt (.inr (.inr a));omega
   have bt:=a5.only Z (λl q a=>a6 _ ⟨l,q,rfl⟩ a);obtain⟨w5,h5,e5,v5,o5,s5⟩:=AG (i:=1) v4 (by simp[ajS]) (by simp) (t:=.slice W) rfl;refine⟨w5,?_⟩;rw[e5]
   have bx:¬In W b:=λa=>by
    rcases aw _ a with o|o
    ·exact d.RS o
    ·omega
   have b0:∀i,In O i->i<P.size:=λi c=>by
    obtain⟨l,q,rfl⟩:=c;exact a5.lt l q
   have p5:Rf h5 b O W (M++[(k,0)]) most bD decay (gone+g):=by
    refine⟨v5,?_,?_,λi c a=>?_⟩
    ·have:(keys (M++[(k,0)])).map iU=(keys M).map iU++[.i k]:=by simp[keys,iU]
     rw[this];exact bt.only o5 (λl q a=>a4 ⟨l,q,a⟩)
    ·have:(vals (M++[(k,0)])).map iU=(vals M).map iU++[.i 0]:=by simp[vals,iU]
     rw[this];exact Y.only o5 (λl q a=>bx ⟨l,q,a⟩)
    ·rcases aw i a with o|o
     ·exact a6 i c o
     ·have:=b0 i c;omega
   have gg:Grown b D u r O W h5:=by
    refine⟨((G.mono λi c=>.inr (.inl c)).trans ((o3.mono λi c=>.inl c).trans ((Z.mono λi c=>.inr (.inr c)).trans (o5.mono λi c=>.inl c)))),λi c=>?_⟩;rcases c with rfl|c|c
    ·exact .inl (.inl rfl)
    ·rcases ar i c with o|o
     ·exact .inl (.inr (.inl o))
     ·exact .inr o
    ·rcases aw i c with o|o
     ·exact .inl (.inr (.inr o))
     ·right;omega
   have aE:=TD (w:=(0:Int)) ao;have a7:=Ir ac k 0;rw[aE]at a7
   have ae:score (M++[(k,0)]) k=0:=by
    rw[<-aE];unfold score;rw[aad ac,if_pos rfl];rfl
   refine last h5 O W _ g p5 (g1.trans gg) (by simp;omega) a7 (by simp[keys]) (by rw[ae];omega) ?_;rw[ae,<-aE,Lc];exact z
  refine⟨A,p.var.ah rfl,most,p.var.ah rfl,?_⟩;refine ID (λcj=>?_) λcl=>?_
  ·refine⟨A,p.var.ah rfl,?_⟩;have lB:=p.Mg;have cp:0<L.length:=ω
   refine⟨λs hh=>0<=s.2/\s.2<=L.length/\hh=h/\0<=s.1/\s.1<max s.2 1/\(∀(e f:Int×Int)(j:Nat),L[s.1.toNat]? =some e->(j:Int)<s.2->L[j]? =some f->e.2<f.2\/e.2=f.2/\e.1<=f.1),
    λs _=>((L.length:Int)-s.2).toNat,⟨ai8 _,Int.natCast_nonneg _,rfl,ai8 _,δ,λe f j _ hj _=>by have:(j:Int)<0:=hj;omega⟩,?_⟩
   rintro⟨w,i⟩ h0 ⟨i0,i1,rfl,w0,w1,al⟩;simp only at i0 i1 w0 w1 al⊢;refine ID (λc=>?_) λc=>?_
   ·obtain⟨⟨ki,vi⟩,am⟩:∃e,L[i.toNat]? =some e:=⟨_,ai2 ω⟩;obtain⟨⟨H,I⟩,Q⟩:∃e,L[w.toNat]? =some e:=⟨_,ai2 ω⟩;obtain⟨a8,a0⟩:=Au am;obtain⟨a9,a1⟩:=Au Q;dsimp only at a8 a0 a9 a1
    have rv:∀{i:Int}{v:Int}{K:Go.Vc.Loc->Prop},0<=i->i<L.length->(vals L)[i.toNat]? =some v->(∀l,ah h0 l.b (l.o+i.toNat*1) (.i v)->K l)->0<=i/\i<(B.len:Int)/\Nn B.a K:=λr N P hK=>
     ints_at p.b.elems r (by rw[ku];exact N) λl y E F=>by rw[P]at E;cases E;exact hK l F
    have rk:∀{i:Int}{v:Int}{K:Go.Vc.Loc->Prop},0<=i->i<L.length->(keys L)[i.toNat]? =some v->(∀l,ah h0 l.b (l.o+i.toNat*1) (.i v)->K l)->0<=i/\i<(A.len:Int)/\Nn A.a K:=λr N P hK=>
     ints_at p.a.elems r (by rw[Ar];exact N) λl y E F=>by rw[P]at E;cases E;exact hK l F
    have a2:w<L.length:=ω;have a3:i<L.length:=ω
    have a':vi<I\/(vi=I/\ki<H)->((0<=i+1/\i+1<=(L.length:Int)/\True/\0<=i/\i<max (i+1) 1/\(∀(e f:Int×Int)(j:Nat),L[i.toNat]? =some e->(j:Int)<i+1->L[j]? =some f->e.2<f.2\/e.2=f.2/\e.1<=f.1))/\((L.length:Int)-(i+1)).toNat<((L.length:Int)-i).toNat):=by
     intro hb;refine⟨⟨ω,ω,trivial,i0,ω,λe f j S hj z=>?_⟩,ω⟩;rw[am]at S;cases S;by_cases b1:(j:Int)=i
     ·have:j=i.toNat:=ω;rw[this,am]at z;cases z;exact .inr ⟨rfl,ai8 _⟩
     ·have:=al (H,I) f j Q ω z;simp only at this⊢;omega
    have ba:¬(vi<I\/(vi=I/\ki<H))->((0<=i+1/\i+1<=(L.length:Int)/\True/\0<=w/\w<max (i+1) 1/\(∀(e f:Int×Int)(j:Nat),L[w.toNat]? =some e->(j:Int)<i+1->L[j]? =some f->e.2<f.2\/e.2=f.2/\e.1<=f.1))/\((L.length:Int)-(i+1)).toNat<((L.length:Int)-i).toNat):=by
     intro hb;refine⟨⟨ω,ω,trivial,w0,ω,λe f j S hj z=>?_⟩,ω⟩;by_cases b1:(j:Int)=i
     ·have:j=i.toNat:=ω;rw[this,am]at z;cases z;rw[Q]at S;cases S;simp only;omega
     ·exact al e f j S ω z
    rw[wrap_i64 (n:=i+1) ω ω];refine⟨B,p.var.ah rfl,rv i0 a3 a0 λl F=>⟨vi,F,B,p.var.ah rfl,rv w0 a2 a1 λl2 ab=>⟨I,ab,?_⟩⟩⟩;refine ID (λhlt=>a' (.inl hlt)) λbl=>?_;refine⟨B,p.var.ah rfl,rv i0 a3 a0 λl F=>⟨vi,F,B,p.var.ah rfl,rv w0 a2 a1 λl2 ab=>⟨I,ab,?_⟩⟩⟩;refine ID (λheq=>?_) λcs=>ba ω;refine⟨A,p.var.ah rfl,rk i0 a3 a8 λl F=>⟨ki,F,A,p.var.ah rfl,rk w0 a2 a9 λl2 ab=>⟨H,ab,?_⟩⟩⟩;exact ID (λb3=>a' (.inr ⟨heq,b3⟩)) λct=>ba ω
   ·obtain⟨⟨H,I⟩,Q⟩:∃e,L[w.toNat]? =some e:=⟨_,ai2 ω⟩;have b5:w=((w.toNat:Nat):Int):=ω
    have bb:p_ L H:=by
     refine⟨aje.2 ⟨_,ajf Q,rfl⟩,λx a=>?_⟩;obtain⟨⟨x1,x2⟩,hm,rfl⟩:=aje.1 a;obtain⟨j,hj,b6⟩:=List.getElem_of_mem hm;have o:=al (H,I) (x1,x2) j Q ω (by rw[ai2 hj,b6]);have s1:score L H=I:=by unfold score;rw[(get_mem hG.one).2 (ajf Q)];rfl
     have s2:score L x1=x2:=by unfold score;rw[(get_mem hG.one).2 hm];rfl
     rw[s1,s2];exact o
    rw[b5];refine hd _ h0 b A B L most bD decay gone w.toNat p ω ω λP A3 B3 U g3=>⟨rfl,gone,U.var.ah rfl,?_⟩;obtain⟨Z,h4,e4,v4,Y,s4⟩:=AG (i:=5) (t:=.i (gone+1)) U.var (by simp[ajS]) (by simp) rfl;refine⟨Z,?_⟩;rw[wrap_i64 (n:=gone+1) ω ω];have b7:(TV.i (gone+1)).put P b (0+5)=h4:=e4;rw[b7];have b8:=I6 Q hG.one;rw[<-b8]at U
    have p4:Rf h4 b A3 B3 (drop H L) most bD decay (gone+1):=
     ⟨v4,U.a.only Y (λl q a=>U.aal ⟨l,q,a⟩),U.b.only Y (λl q a=>U.RS ⟨l,q,a⟩),U.sP⟩
    have cw:=drop_length bb.1
    refine more h4 A3 B3 _ 1 p4 (g3.trans ⟨Y.mono λi c=>.inl c,λ_ c=>.inl c⟩) ω (qy hG.one _) (λa=>ad (by
     obtain⟨e,S,N⟩:=aje.1 a;exact aje.2 ⟨e,((kf hG.one).1 S).1,N⟩)) (.inr (.inr ⟨ω,ad,ω,rfl,H,bb,rfl⟩))
  ·have ae:score L k=0:=by unfold score;rw[get_none.2 ad];rfl
   refine more h A B L 0 (by simpa using p) (Grown.refl _ _ _ _) q hG.one ad (.inr (.inl ⟨ω,.inr ω,rfl,?_⟩));rw[ae]
 ·have bc:k∈keys L:=by
   rcases As L k with⟨r,_⟩|⟨_,v,V,_⟩
   ·omega
   ·exact aje.2 ⟨_,ajf V,rfl⟩
  exact last h A B L 0 (by simpa using p) (Grown.refl _ _ _ _) ω hG.one bc (AX hG k) (.inr (.inl ⟨ω,.inl bc,rfl,rfl⟩))
end
end Peers
section
set_option linter.unusedVariables false
def M9(p:OL)(i:Int)(off:Nat)(h:aa)(K:aa->Prop):Prop:=
 Nn p λ(l:Go.Vc.Loc)=>
 ∃(s:Sl),ah h l.b (l.o+off) (aW s)/\0<=i/\i<=(s.cap:Int)/\
 Nn p λ(l:Go.Vc.Loc)=>
 ∃(a:Sl),ah h l.b (l.o+off) (aW a)/\0<=ai9 aj9 (i+1)/\ai9 aj9 (i+1)<=(a.len:Int)/\
 Ext h (ajH h (row (aiZ []) 3))/\
 ∃(new:List Value),cv (ajH h (row (aiZ []) 3)) (aA s 0 (ajP i) 1) 1 new/\(∀(v:Value),v∈new->bQ v=true)/\
 aq ctx 3 (ajo (some (Loc.mk (Array.size h) 0)) 0 0) (aA s 0 (ajP i) 1).len new (ajH h (row (aiZ []) 3)) λ(d:Sl)(b:aa)=>
 Ext (ajH h (row (aiZ []) 3)) b/\
 ∃(new:List Value),cv b (aA a (ajP (ai9 aj9 (i+1))) a.len 1) 1 new/\(∀(v:Value),v∈new->bQ v=true)/\
 aq ctx 3 d (aA a (ajP (ai9 aj9 (i+1))) a.len 1).len new b λ(e:Sl)(c:aa)=>
 Nn p λ(l:Go.Vc.Loc)=>gi c l.b (l.o+off) 1/\K (ajC c l.b (l.o+off) (ajE e))
def f_(p:OL)(i:Int)(h:aa)(R:Rq):Prop:=
 M9 p i 0 h λh=>M9 p i 1 h λh=>R (TV.val (ajc [])) h
theorem pH(p:OL)(i:Int)(h:aa)(R:Rq)(H:f_ p i h R):bB Tryz.prog 131 (ajw [ajQ p,TV.i i]) h R:=
 B6 (C:=ctx) bI (fn:=Tryz.f131) Tryz.func131 ((by kernel_rfl:f_ p i h R=NU ctx Tryz.f131 [ajQ p,TV.i i] h R)▸H)
end
namespace Peers
section
variable{R:Rq}{h h':aa}{b r:Nat}{A B:Sl}{L:List (Int×Int)}{most bD decay gone:Int}
theorem FL{off i:Nat}{l:List Int}{ts:List TV}{K:aa->Prop}(v:Var 189 h b (.agg ts))(E:∀t∈ts,t.size=1)(G:ts[off]? =some (.slice A))(o:Own 3 1 h A (l.map iU))(_hnb:¬In A b)(hi:i<l.length)(hl:l.length<1000000)
 (M:∀h' A',Var 189 h' b (.agg (ts.set off (.slice A')))->Own 3 1 h' A' ((l.eraseIdx i).map iU)->ag (·=b) h h'->(∀j,In A' j->h.size<=j)->K h'):M9 (PT b) (i:Int) off h K:=by
 have p:ah h b (0+off) (aW A):=by
  rw[Nat.zero_add];refine v.ah ?_;have:=aj.qt (sz:=1) ts off 0 (.slice A) E G δ;simpa[TV.cells]using this
 have L:=o.len;rw[aiY]at L;have r:=o.cap;have c:=ajl h (row (aiZ []) 3);have N:=Own.new (T:=3) (sz:=1) h [] (by simp);have s:=o.ext c;unfold M9;rw[wrap_i64 (n:=(i:Int)+1) ω ω];have O:((i:Int)+1).toNat=i+1:=ω;have P:((i:Int)).toNat=i:=rfl;rw[O,P];refine⟨A,p,ω,ω,A,p,ω,ω,c,?_⟩;have u:=AL (i:=0) (j:=i) s.elems ω ω r;have Q:((l.map iU).drop 0).take (i-0)=(l.take i).map iU:=by simp[List.map_take]
 rw[Q]at u;refine pT (C:=ctx) (T:=3) (t:=ajo (some (Loc.mk h.size 0)) 0 0) rfl rfl δ δ (by show(0+(aA A 0 i 1).len)*8<=_;simp only[aA];omega) N u I5 FK λw h2 x R _ S=>?_;have d:=R rfl;refine⟨d,?_⟩;have y:=AL (i:=i+1) (j:=A.len) (s.ext d).elems ω (ai6 _) r
 have U:((l.map iU).drop (i+1)).take (A.len-(i+1))=(l.drop (i+1)).map iU:=by
  rw[aj4 (by simp only[ajZ,aiY];omega),List.map_drop]
 rw[U]at y;have l2:=x.len;simp only[List.nil_append,aiY,ajn]at l2;refine pT (C:=ctx) (T:=3) rfl rfl δ δ (by show(w.len+(aA A (i+1) A.len 1).len)*8<=_;simp only[aA];omega) x y I5 FK λe f V _ W X=>?_
 have z:∀j,In w j->h.size<=j:=λj g=>by
  obtain⟨q,a,rfl⟩:=g;rcases S q a with⟨B,k,m⟩|D
  ·cases k;rw[<-m];exact ai6 _
  ·have:=c.size;omega
 have F:Ext h f:=ai0 (c.trans d) W (by rintro j ⟨q,a,rfl⟩;exact z _ ⟨q,a,rfl⟩);have ad:=v.lt;obtain⟨Y,H,Z,v4,I,s4⟩:=AG (i:=off) (v.ext F) E (aji.1 G).1 (t:=.slice e) rfl
 have J:∀j,In e j->h.size<=j:=λj g=>by
  obtain⟨q,a,rfl⟩:=g;rcases X q a with⟨B,k,m⟩|D
  ·rw[<-m];exact z _ ⟨B,k,rfl⟩
  ·have:=(c.trans d).size;omega
 have ab:(ajE e).put f b (0+off)=H:=by rw[Nat.zero_add];exact Z
 have ac:gi f b (0+off) 1:=by rw[Nat.zero_add];exact Y
 refine⟨ac,?_⟩;rw[ab];refine M H e v4 ?_ ((ajp F).trans I) J
 have:(l.eraseIdx i).map iU=[]++(l.take i).map iU++(l.drop (i+1)).map iU:=by
  rw[List.eraseIdx_eq_take_drop_succ,ajq,List.nil_append]
 rw[this];exact V.only I (λq a D=>by have:=J _ ⟨q,a,rfl⟩;omega)
theorem RY(i:Nat):keys (L.eraseIdx i)=(keys L).eraseIdx i:=by
 unfold keys;rw[ChangeMaps.map_eraseIdx]
theorem RZ(i:Nat):vals (L.eraseIdx i)=(vals L).eraseIdx i:=by
 unfold vals;rw[ChangeMaps.map_eraseIdx]
theorem TE:RU:=by
 intro R h b A B L most bD decay gone i p D g s;apply pH;unfold f_;refine FL (off:=0) (l:=keys L) p.var (by simp[ajS]) rfl p.a p.aal (by rw[Ar];exact g) (by rw[Ar];omega) λe k t m f n=>?_;have E:=p.var.lt;have u:=p.b.only f (λq c d=>p.RS ⟨q,c,d⟩);refine FL (off:=1) (l:=vals L) t (by simp[ajS]) rfl u p.RS (by rw[ku];exact g) (by rw[ku];omega) λv w x y o r=>?_
 have z:∀j,In k j->j<e.size:=λj a=>by
  obtain⟨q,c,rfl⟩:=a;exact m.lt q c
 refine s v k w ⟨x,?_,?_,λj a d=>?_⟩ ⟨(f.mono λj a=>.inl a).trans (o.mono λj a=>.inl a),λj a=>?_⟩
 ·rw[RY];exact m.only o (λq c d=>by have:=n _ ⟨q,c,rfl⟩;omega)
 ·rw[RZ];exact y
 ·have C:=z j a;have e:=r j d;omega
 ·rcases a with rfl|a|a
  ·exact .inl (.inl rfl)
  ·exact .inr (n j a)
  ·right;have C:=r j a;have e:=f.size;omega
theorem PO{G L' H:List (Int×Int)}{k pts g I:Int}(q:L.Perm G)(E:(keys L).Nodup)(f:m_ most L k pts L' g)(f2:m_ most G k pts H I):L'.Perm H/\g=I:=by
 have h:k∈keys L↔k∈keys G:=(q.map (·.1)).mem_iff;have l:=q.length_eq;rcases f with⟨a,rfl,rfl⟩|⟨a,b,rfl,rfl⟩|⟨a,b,c,rfl,w,i,rfl⟩
 ·rcases f2 with⟨_,rfl,rfl⟩|⟨e,_⟩|⟨e,_⟩
  ·exact⟨q,rfl⟩
  ·omega
  ·omega
 ·rcases f2 with⟨e,_⟩|⟨_,_,rfl,rfl⟩|⟨_,d,m,_⟩
  ·omega
  ·rw[<-wO q E];exact⟨Pg q E _ _,rfl⟩
  ·rcases b with b|b
   ·exact absurd (h.1 b) d
   ·omega
 ·rcases f2 with⟨e,_⟩|⟨_,d,_⟩|⟨_,_,_,rfl,n,j,rfl⟩
  ·omega
  ·rcases d with d|d
   ·exact absurd (h.2 d) b
   ·omega
  ·have:=(i.perm q E).unique j;subst this;exact⟨Pg (KV q E _) (qy E _) _ _,rfl⟩
theorem Good.perm{E:List (Int×Int)}(g:Good L)(q:L.Perm E):Good E:=
 ⟨(q.map _).nodup_iff.1 g.one,λk a=>g.fit k ((q.map (·.1)).mem_iff.2 a),λe b=>g.low e (q.mem_iff.2 b)⟩
end
end Peers
namespace Gate
open Board (Vd Cf jI)
open Pool (It RL eC)
open Peers (Rf)
section
variable{h h':aa}{b m n:Nat}{N:List Nd}{most quota bD decay gone:Int}{t:Tb}{M:List It}{P:List (Int×Int)}{S Q:Nat->Prop}
def w_(h:aa)(m:Nat)(N:List Nd)(most:Int)(S:Nat->Prop):Prop:=∃A B D,RT h m A B D N most/\S=BP m A B D
def FM(h:aa)(b:Nat)(t:Tb)(n:Nat)(S:Nat->Prop):Prop:=∃a c Ha d,JK h b a c Ha d t n/\S=ji b a c Ha d
def xk(h:aa)(m:Nat)(M:List It)(most quota:Int)(S:Nat->Prop):Prop:=∃A,RL h m A M most quota/\S=λi=>i=m\/In A i
def R1(h:aa)(b:Nat)(P:List (Int×Int))(most bD decay gone:Int)(S:Nat->Prop):Prop:=∃A B,Rf h b A B P most bD decay gone/\S=Peers.dD b A B
theorem w_.only(p:w_ h m N most S)(f:ag Q h h')(q:∀i,S i->¬Q i):w_ h' m N most S:=by
 obtain⟨A,B,D,p,rfl⟩:=p;exact⟨A,B,D,p.only f q,rfl⟩
theorem FM.only(p:FM h b t n S)(f:ag Q h h')(q:∀i,S i->¬Q i):FM h' b t n S:=by
 obtain⟨a,c,Ha,d,p,rfl⟩:=p;exact⟨a,c,Ha,d,p.only f q,rfl⟩
theorem xk.only(p:xk h m M most quota S)(f:ag Q h h')(q:∀i,S i->¬Q i):xk h' m M most quota S:=by
 obtain⟨A,p,rfl⟩:=p;exact⟨A,p.only f (q m (.inl rfl)) λl a=>q l.b (.inr ⟨l,a,rfl⟩),rfl⟩
theorem R1.only(p:R1 h b P most bD decay gone S)(f:ag Q h h')(q:∀i,S i->¬Q i):R1 h' b P most bD decay gone S:=by
 obtain⟨A,B,p,rfl⟩:=p;exact⟨A,B,p.only f q,rfl⟩
theorem w_.lt(p:w_ h m N most S):∀i,S i->i<h.size:=by
 obtain⟨A,B,D,p,rfl⟩:=p;exact λi a=>p.lt a
theorem FM.lt(p:FM h b t n S):∀i,S i->i<h.size:=by
 obtain⟨c,d,Ha,e,p,rfl⟩:=p;exact λi a=>p.lt a
theorem xk.lt(p:xk h m M most quota S):∀i,S i->i<h.size:=by
 obtain⟨A,p,rfl⟩:=p;rintro i (rfl|⟨l,a,rfl⟩)
 ·exact p.var.lt
 ·exact p.low l a
theorem R1.lt(p:R1 h b P most bD decay gone S):∀i,S i->i<h.size:=by
 obtain⟨A,B,p,rfl⟩:=p;exact λi a=>p.lt a
theorem uU{A A':Sl}(g:eC m A h A' h'):Step (λi=>i=m\/In A i) h (λi=>i=m\/In A' i) h':=
 ⟨g.only.mono λi a=>.inl a,λi a=>by
  rcases a with rfl|⟨l,c,rfl⟩
  ·exact .inl (.inl rfl)
  ·rcases g.new l c with⟨d,b,e⟩|b
   ·exact .inl (.inr ⟨d,b,e⟩)
   ·exact .inr b⟩
end
structure YK where
 tr:Nat
 ta:Nat
 bk:Nat
 kd:Nat
 wt:Nat
 wh:Nat
 jL:Nat
def xl(c:Cf)(a:YK)(left:Int)(tight q:Bool):TV:=
 .agg [c.tv,.ptr (PT a.jL),.ptr (PT a.bk),.ptr (PT a.kd),.ptr (PT a.wt),.ptr (PT a.wh),.i left,.bool tight,.bool q]
structure aS(h:aa)(g:Nat)(a:YK)(c:Cf)(V:List Vd)(s:St)(Fp:Nat->Nat->Prop):Prop where
 sep:Sep h Fp
 tree:w_ h a.tr s.N c.no (Fp 0)
 ij:FM h a.ta s.tb V.length (Fp 1)
 bk:Var 134 h a.bk (PE c a.tr a.ta)
 f2:Fp 2=(·=a.bk)
 kids:xk h a.kd s.kids c.eu c.quo (Fp 3)
 wait:xk h a.wt s.wait c.ew c.quo (Fp 4)
 who:R1 h a.wh s.sc c.pe c.bD c.dec s.gone (Fp 5)
 good:Peers.Good s.sc/\(s.sc.length:Int)<=c.pe
 jL:Clock.CI 183 h a.jL s.now (Clock.eD c.win)
 f6:Fp 6=(·=a.jL)
 var:∃tight bans,Var 80 h g (xl c a s.left tight bans)
 f7:Fp 7=(·=g)
 vals:ak 2 h c.vals (jI V)
 off:∀k i,Fp k i->¬In c.vals i
 can:Can c V
section
variable{h h':aa}{g:Nat}{a:YK}{c:Cf}{V:List Vd}{s:St}{Fp:Nat->Nat->Prop}{S':Nat->Prop}
theorem oF{Q:Nat->Prop}{left:Int}(p:∃tight q,Var 80 h g (xl c a left tight q))(f:ag Q h h')(A:¬Q g):∃tight q,Var 80 h' g (xl c a left tight q):=by
 obtain⟨t,b,v⟩:=p;exact⟨t,b,v.only f A⟩
theorem aS.PC(p:aS h g a c V s Fp):∀i,In c.vals i->i<h.size:=λi⟨l,b,j⟩=>by
 have k:=p.can.len;obtain⟨v,d⟩:∃v,V[0]? =some v:=⟨_,ai2 ω⟩;have e:=p.vals.get l b 0 v.tv (by rw[ai4,d];rfl);have f:ah h l.b (l.o+0*2) (.i v.cW):=e.1;have:=vn f;omega
theorem aS.BR(p:aS h g a c V s Fp){j:Nat}(st:Step (Fp j) h S' h'):∀k i,mK Fp j S' k i->¬In c.vals i:=GK p.off p.PC st
theorem aS.only{Q:Nat->Prop}(p:aS h g a c V s Fp)(f:ag Q h h')(q:∀k i,Fp k i->¬Q i)(A:∀i,In c.vals i->¬Q i):aS h' g a c V s Fp:=
 ⟨⟨p.sep.nC,λj i b=>by have:=p.sep.lt j i b;have:=f.size;omega⟩,p.tree.only f (q 0),p.ij.only f (q 1),p.bk.only f (q 2 _ (by rw[p.f2])),p.f2,p.kids.only f (q 3),p.wait.only f (q 4),p.who.only f (q 5),p.good,
   p.jL.only f (q 6 _ (by rw[p.f6])),p.f6,oF p.var f (q 7 _ (by rw[p.f7])),p.f7,TV.bX f p.vals A,p.off,p.can⟩
theorem aS.ext(p:aS h g a c V s Fp)(x:Ext h h'):aS h' g a c V s Fp:=p.only (Q:=λ_=>False) (.an x) (λ_ _ _ b=>b) λ_ _ b=>b
theorem aS.IM(p:aS h g a c V s Fp){N':List Nd}(q:w_ h' a.tr N' c.no S')(st:Step (Fp 0) h S' h'):aS h' g a c V {s with N:=N'} (mK Fp 0 S'):=by
 have o:∀k,k≠0->∀i,Fp k i->¬Fp 0 i:=λk b=>p.sep.off b;refine⟨p.sep.step st q.lt,?_,?_,?_,?_,?_,?_,?_,?_,?_,?_,?_,?_,?_,p.BR st,p.can⟩
 ·rw[bF];exact q
 ·rw[au δ];exact p.ij.only st.only (o 1 δ)
 ·exact p.bk.only st.only (o 2 δ _ (by rw[p.f2]))
 ·rw[au δ];exact p.f2
 ·rw[au δ];exact p.kids.only st.only (o 3 δ)
 ·rw[au δ];exact p.wait.only st.only (o 4 δ)
 ·rw[au δ];exact p.who.only st.only (o 5 δ)
 ·exact p.good
 ·exact p.jL.only st.only (o 6 δ _ (by rw[p.f6]))
 ·rw[au δ];exact p.f6
 ·exact oF p.var st.only (o 7 δ _ (by rw[p.f7]))
 ·rw[au δ];exact p.f7
 ·exact TV.bX st.only p.vals λi d e=>p.off 0 i e d
theorem aS.DY(p:aS h g a c V s Fp){t':Tb}(q:FM h' a.ta t' V.length S')(st:Step (Fp 1) h S' h'):aS h' g a c V {s with tb:=t'} (mK Fp 1 S'):=by
 have o:∀k,k≠1->∀i,Fp k i->¬Fp 1 i:=λk b=>p.sep.off b;refine⟨p.sep.step st q.lt,?_,?_,?_,?_,?_,?_,?_,?_,?_,?_,?_,?_,?_,p.BR st,p.can⟩
 ·rw[au δ];exact p.tree.only st.only (o 0 δ)
 ·rw[bF];exact q
 ·exact p.bk.only st.only (o 2 δ _ (by rw[p.f2]))
 ·rw[au δ];exact p.f2
 ·rw[au δ];exact p.kids.only st.only (o 3 δ)
 ·rw[au δ];exact p.wait.only st.only (o 4 δ)
 ·rw[au δ];exact p.who.only st.only (o 5 δ)
 ·exact p.good
 ·exact p.jL.only st.only (o 6 δ _ (by rw[p.f6]))
 ·rw[au δ];exact p.f6
 ·exact oF p.var st.only (o 7 δ _ (by rw[p.f7]))
 ·rw[au δ];exact p.f7
 ·exact TV.bX st.only p.vals λi d e=>p.off 1 i e d
theorem aS.ru(p:aS h g a c V s Fp){q:List It}(A:xk h' a.kd q c.eu c.quo S')(st:Step (Fp 3) h S' h'):aS h' g a c V {s with kids:=q} (mK Fp 3 S'):=by
 have o:∀k,k≠3->∀i,Fp k i->¬Fp 3 i:=λk b=>p.sep.off b;refine⟨p.sep.step st A.lt,?_,?_,?_,?_,?_,?_,?_,?_,?_,?_,?_,?_,?_,p.BR st,p.can⟩
 ·rw[au δ];exact p.tree.only st.only (o 0 δ)
 ·rw[au δ];exact p.ij.only st.only (o 1 δ)
 ·exact p.bk.only st.only (o 2 δ _ (by rw[p.f2]))
 ·rw[au δ];exact p.f2
 ·rw[bF];exact A
 ·rw[au δ];exact p.wait.only st.only (o 4 δ)
 ·rw[au δ];exact p.who.only st.only (o 5 δ)
 ·exact p.good
 ·exact p.jL.only st.only (o 6 δ _ (by rw[p.f6]))
 ·rw[au δ];exact p.f6
 ·exact oF p.var st.only (o 7 δ _ (by rw[p.f7]))
 ·rw[au δ];exact p.f7
 ·exact TV.bX st.only p.vals λi d e=>p.off 3 i e d
theorem aS.Ai(p:aS h g a c V s Fp){q:List It}(A:xk h' a.wt q c.ew c.quo S')(st:Step (Fp 4) h S' h'):aS h' g a c V {s with wait:=q} (mK Fp 4 S'):=by
 have o:∀k,k≠4->∀i,Fp k i->¬Fp 4 i:=λk b=>p.sep.off b;refine⟨p.sep.step st A.lt,?_,?_,?_,?_,?_,?_,?_,?_,?_,?_,?_,?_,?_,p.BR st,p.can⟩
 ·rw[au δ];exact p.tree.only st.only (o 0 δ)
 ·rw[au δ];exact p.ij.only st.only (o 1 δ)
 ·exact p.bk.only st.only (o 2 δ _ (by rw[p.f2]))
 ·rw[au δ];exact p.f2
 ·rw[au δ];exact p.kids.only st.only (o 3 δ)
 ·rw[bF];exact A
 ·rw[au δ];exact p.who.only st.only (o 5 δ)
 ·exact p.good
 ·exact p.jL.only st.only (o 6 δ _ (by rw[p.f6]))
 ·rw[au δ];exact p.f6
 ·exact oF p.var st.only (o 7 δ _ (by rw[p.f7]))
 ·rw[au δ];exact p.f7
 ·exact TV.bX st.only p.vals λi d e=>p.off 4 i e d
theorem aS.DX(p:aS h g a c V s Fp){P:List (Int×Int)}{gone:Int}(q:R1 h' a.wh P c.pe c.bD c.dec gone S')(A:Peers.Good P/\(P.length:Int)<=c.pe)(st:Step (Fp 5) h S' h'):aS h' g a c V {s with sc:=P,gone:=gone} (mK Fp 5 S'):=by
 have o:∀k,k≠5->∀i,Fp k i->¬Fp 5 i:=λk b=>p.sep.off b;refine⟨p.sep.step st q.lt,?_,?_,?_,?_,?_,?_,?_,?_,?_,?_,?_,?_,?_,p.BR st,p.can⟩
 ·rw[au δ];exact p.tree.only st.only (o 0 δ)
 ·rw[au δ];exact p.ij.only st.only (o 1 δ)
 ·exact p.bk.only st.only (o 2 δ _ (by rw[p.f2]))
 ·rw[au δ];exact p.f2
 ·rw[au δ];exact p.kids.only st.only (o 3 δ)
 ·rw[au δ];exact p.wait.only st.only (o 4 δ)
 ·rw[bF];exact q
 ·exact A
 ·exact p.jL.only st.only (o 6 δ _ (by rw[p.f6]))
 ·rw[au δ];exact p.f6
 ·exact oF p.var st.only (o 7 δ _ (by rw[p.f7]))
 ·rw[au δ];exact p.f7
 ·exact TV.bX st.only p.vals λi d e=>p.off 5 i e d
theorem aS.M1(p:aS h g a c V s Fp){n:Int}(q:Clock.CI 183 h' a.jL n (Clock.eD c.win))(f:ag (·=a.jL) h h'):aS h' g a c V {s with now:=n} Fp/\Step (cO Fp) h (cO Fp) h':=by
 have d:Fp 6 a.jL:=by rw[p.f6]
 have o:∀k,k≠6->∀i,Fp k i->¬i=a.jL:=λk l i b e=>p.sep.off l i b (e▸d);refine⟨⟨⟨p.sep.nC,λj i b=>by have:=p.sep.lt j i b;have:=f.size;omega⟩,?_,?_,?_,p.f2,?_,?_,?_,p.good,?_,p.f6,?_,p.f7,?_,p.off,p.can⟩,⟨f.mono λi e=>⟨6,by rw[p.f6];exact e⟩,λi b=>.inl b⟩⟩
 ·exact p.tree.only f (o 0 δ)
 ·exact p.ij.only f (o 1 δ)
 ·exact p.bk.only f (o 2 δ _ (by rw[p.f2]))
 ·exact p.kids.only f (o 3 δ)
 ·exact p.wait.only f (o 4 δ)
 ·exact p.who.only f (o 5 δ)
 ·exact q
 ·exact oF p.var f (o 7 δ _ (by rw[p.f7]))
 ·exact TV.bX f p.vals λi b e=>p.off 6 i (by rw[p.f6];exact e) b
theorem aS.TF(p:aS h g a c V s Fp){n:Int}(q:∃tight d,Var 80 h' g (xl c a n tight d))(f:ag (·=g) h h'):aS h' g a c V {s with left:=n} Fp/\Step (cO Fp) h (cO Fp) h':=by
 have l:Fp 7 g:=by rw[p.f7]
 have o:∀k,k≠7->∀i,Fp k i->¬i=g:=λk m i b e=>p.sep.off m i b (e▸l);refine⟨⟨⟨p.sep.nC,λj i b=>by have:=p.sep.lt j i b;have:=f.size;omega⟩,?_,?_,?_,p.f2,?_,?_,?_,p.good,?_,p.f6,?_,p.f7,?_,p.off,p.can⟩,⟨f.mono λi e=>⟨7,by rw[p.f7];exact e⟩,λi b=>.inl b⟩⟩
 ·exact p.tree.only f (o 0 δ)
 ·exact p.ij.only f (o 1 δ)
 ·exact p.bk.only f (o 2 δ _ (by rw[p.f2]))
 ·exact p.kids.only f (o 3 δ)
 ·exact p.wait.only f (o 4 δ)
 ·exact p.who.only f (o 5 δ)
 ·exact p.jL.only f (o 6 δ _ (by rw[p.f6]))
 ·exact q
 ·exact TV.bX f p.vals λi b e=>p.off 7 i (by rw[p.f7];exact e) b
end
end Gate
namespace Gate
open Board (Vd Cf av)
open Pool (It oc RL eC jV Im rts)
section
variable{R:Rq}{h h':aa}{g:Nat}{a:YK}{c:Cf}{V:List Vd}{s:St}{Fp:Nat->Nat->Prop}
theorem Le(p:aS h g a c V s Fp){root parent:Bs 32}{slot:Int}
 (q:∀h' S',aS h' g a c V {s with N:=iF s.N c.no root parent slot} (mK Fp 0 S')->Step (Fp 0) h S' h'->R (TV.i (nQ s.N c.no root parent slot)).val h'):
 Cl 249 [.ptr (PT a.tr),.bytes 32 root,.bytes 32 parent,.i slot] h R:=by
 obtain⟨A,B,D,b,d⟩:=p.tree;refine U7 b λe A' B' D' f st=>?_;rw[<-d]at st;exact q e _ (p.IM ⟨A',B',D',f,rfl⟩ st) st
theorem PR(p:aS h g a c V s Fp){root parent:Bs 32}{slot:Int}(cw:s.kids.length<1000)(A:0<=s.left/\s.left<1000000000)
 (hr:∀h' bb,aS h' g a c V (tw c.no root parent slot s) bb->Step (cO Fp) h (cO bb) h'->R (ajc []).val h'):
 Cl 189 [.ptr (PT g),.bytes 32 root,.bytes 32 parent,.i slot] h R:=by
 apply pI;delta iR nR Bb jT eX bV c5 dI fJ bu bK bN aT eE;refine af λo v1 x1 s1=>af λY v2 x2 s2=>?_;have bc:=x1.trans x2;have p2:=p.ext bc;have z1:=x1.size;have z2:=x2.size;obtain⟨O,ba,u⟩:=p2.var;refine⟨_,u.ah rfl,_,p2.bk.ah rfl,root,(v1.ext x2).bytes,parent,v2.bytes,Le p2 λD S3 p3 bo=>⟨_,rfl,?_⟩⟩;clear u O ba;have al:=ajd bo;obtain⟨F3,bp⟩:∃F3,F3=mK Fp 0 S3:=⟨_,rfl⟩;rw[<-bp]at p3 al;have br:∀i,h.size<=i->¬cO Fp i:=λi b⟨k,q⟩=>by have:=p.sep.lt k i q;omega
 have w1:Var 52 D h.size (.bytes 32 root):=(v1.ext x2).only al.only (br _ (ai6 _));refine⟨root,w1.bytes,?_⟩;have bd:=ajl D (row (aiZ [ajm 32 root]) 52);have oq:=Vc.Own.new (T:=52) (sz:=32) D (rts [root]) λt S=>by simp[rts]at S;rw[S];exact jV
 have bt:Step (cO Fp) h (cO F3) D:=.cut bc al;have z3:=al.only.size;obtain⟨goal,bi⟩:∃goal,goal=tw c.no root parent slot s:=⟨_,rfl⟩;rw[<-bi]at hr
 refine Loop.less (λn σ y=>∃(l:List (Bs 32))(i:Nat)(m:St)(F':Nat->Nat->Prop),σ.2=i/\i<=l.length/\Vc.Own 52 32 y σ.1 (rts l)/\aS y g a c V m F'/\Step (cO Fp) h (cO F') y/\(∀i,In σ.1 i->h.size<=i/\¬cO F' i)/\
  (∃f,(l.drop i).length+m.kids.length<=f/\fZ c.no f (l.drop i) m=goal)/\0<=m.left/\m.left+(m.kids.length:Int)<=s.left+s.kids.length/\l.length+m.kids.length<=1+s.kids.length/\n=(l.drop i).length+m.kids.length) (n0:=1+s.kids.length)
  ⟨[root],0,{s with N:=iF s.N c.no root parent slot},F3,rfl,by simp,oq,p3.ext bd,bt.trans (.an bd),λi⟨l,A,b⟩=>?_,⟨1+s.kids.length,ai6 _,bi.symm⟩,A.1,ai8 _,ai6 _,rfl⟩ ?_
 ·cases A;simp only at b;exact⟨ω,λ⟨k,q⟩=>by have:=p3.sep.lt k i q;omega⟩
 rintro n ⟨σ,ii⟩ y G ⟨l,i,m,F',b,cx,Z,M,aw,aE,⟨f,hf,hq⟩,l0,l1,kq,rfl⟩ go;dsimp only at b Z aE⊢;subst b;have bx:=Z.len;rw[kz]at bx;refine ID (λcy=>?_) λcA=>?_
 case refine_2=>
  have:l.drop i=[]:=List.drop_eq_nil_of_le ω;rw[this]at hq;have e:fZ c.no f [] m=m:=by cases f<;>rfl
  rw[e]at hq;subst hq;exact hr y F' M aw
 have am:i<l.length:=ω;obtain⟨r,a0⟩:∃r,l[i]? =some r:=⟨_,ai2 am⟩
 have b0:l.drop i=r::l.drop (i+1):=by
  rw[List.drop_eq_getElem_cons am];have:=ai2 am;rw[a0]at this;rw[Option.some.inj this]
 obtain⟨E,a1⟩:∃E,E=l.drop (i+1):=⟨_,rfl⟩;rw[b0,<-a1]at hq hf go;obtain⟨f',rfl⟩:∃f',f=f'+1:=⟨f-1,by simp only[aju]at hf;omega⟩;simp only[aju]at hf go;obtain⟨O,ba,u⟩:=M.var;refine⟨_,u.ah rfl,th Z.elems ω (x:=r) (by rw[ajb];exact a0) ?_⟩;clear u O ba;obtain⟨kA,kp,hK⟩:=M.kids;refine Pool.kI kp λh6 A6 t w6 g6 o6 b1=>⟨_,rfl,?_⟩
 have a2:Step (F' 3) y (λi=>i=a.kd\/In A6 i) h6:=by
  rw[hK];exact uU g6
 have p6:=M.ru ⟨A6,w6,rfl⟩ a2;have t6:=ajd a2;obtain⟨F,bj⟩:∃F,F=mK F' 3 (λi=>i=a.kd\/In A6 i):=⟨_,rfl⟩;rw[<-bj]at p6 t6;have z6:=a2.only.size;have zh:=aw.only.size;obtain⟨L,hL⟩:∃L,L=m.kids.filter λx=>decide (x.fr=r):=⟨_,rfl⟩;obtain⟨K,a3⟩:∃K,K=m.kids.filter λx=>!decide (x.fr=r):=⟨_,rfl⟩;have cB:L.length+K.length=m.kids.length:=by rw[hL,a3];exact wY _ _
 rw[<-a3]at p6;rw[<-hL]at o6;have lt:=o6.elems.len;unfold oc at lt;rw[aiY]at lt;have b2:=o6.lt
 have ab:∀i,In t i->y.size<=i/\i<h6.size/\¬F 0 i:=λi⟨l,A,b⟩=>by
  have o:=b1 l A;have Y:=b2 l A;refine⟨ω,ω,λd=>?_⟩;rw[bj,au δ]at d;have:=M.sep.lt 0 i d;omega
 have b3:∀i,In σ i->h.size<=i/\i<y.size/\¬cO F i:=λi b=>by
  have o:=aE i b
  have Y:i<y.size:=by
   obtain⟨l,A,e⟩:=b;have:=Z.lt l A;omega
  refine⟨o.1,Y,λd=>?_⟩;rcases t6.new i d with D|D
  ·exact o.2 D
  ·omega
 have oC:Vc.Own 52 32 h6 σ (rts l):=Z.keep t6.only λi b=>(aE i b).2;obtain⟨P,hP⟩:∃P:Nat->St×List (Bs 32),P=λj=>(L.take j).foldl (a_ c.no r) ({m with kids:=K},E):=⟨_,rfl⟩;have P0:P 0=({m with kids:=K},E):=by rw[hP];rfl
 have PS:∀j x,L[j]? =some x->P (j+1)=a_ c.no r (P j) x:=λj x d=>by
  rw[hP];simp only;rw[ajB,d,ajU];rfl
 have b5:∀j,tC j {m with kids:=K} (P j).1/\(P j).1.kids=K/\(P j).2.length<=E.length+j:=λj=>by
  obtain⟨o,Y,D⟩:=me (no:=c.no) (r:=r) (L.take j) ({m with kids:=K},E);have hj:(L.take j).length<=j:=List.length_take_le ..;rw[hP];exact⟨o.mono hj,Y,by simp only at D⊢;omega⟩
 have b6:Step (cO Fp) h (cO F) h6:=aw.trans t6;have g7:∀i,i=g↔F 7 i:=λi=>by rw[p6.f7]
 have cC:=p6.sep.lt 7 g ((g7 g).1 rfl);have cI:g<y.size:=M.sep.lt 7 g (by rw[M.f7]);have cJ:E.length+(i+1)=l.length:=by rw[a1,ajZ];omega
 refine⟨λac v=>∃j:Nat,ac.2=j/\j<=L.length/\∃(w:List (Bs 32))(z:Nat->Nat->Prop),(P j).2=E++w/\Vc.Own 52 32 v ac.1 (rts (l++w))/\aS v g a c V (P j).1 z/\Step (cO Fp) h (cO z) v/\h6.size<=v.size/\(∀k,k≠0->z k=F k)/\(∀i,In ac.1 i->h.size<=i/\¬cO z i/\¬In t i)/\
  (∀i,In t i->¬z 0 i)/\ak 67 v t (oc L),λac _=>(L.length-ac.2).toNat,
  ⟨0,rfl,ajz _,[],F,by rw[P0,ajT],by rw[ajT];exact oC,by rw[P0];exact p6,b6,ai6 _,λ_ _=>rfl,λi b=>by
    obtain⟨q1,q2,q3⟩:=b3 i b;exact⟨q1,q3,λS=>by have:=(ab i S).1;omega⟩,λi b=>(ab i b).2.2,o6.elems⟩,?_⟩
 rintro⟨Q,jj⟩ v ⟨j,hj,bk,w,z,ad,ae,p7,bl,z7,k7,a7,t7,e7⟩;dsimp only at hj ae a7⊢;subst hj;obtain⟨b7,ao,b8⟩:=b5 j;have b9:=b7.left;dsimp only at b9;have nl:w.length<=j:=by rw[ad,ajk]at b8;omega
 have cK:∀i,z 7 i->i=g:=λi b=>by rw[k7 7 δ]at b;exact(g7 i).2 b
 refine ID (λb'=>?_) λb'=>?_
 ·have a4:j<L.length:=ω;have ap:=λx d=>PS j x d;refine Pool.gJ e7 ω ω λl1 x _ d=>?_;rw[ajb]at d;have ap:=PS j x d;refine af λh8 v8 x8 s8=>aH v8 (t:=x.tv) rfl λh9 v9 f9 s9=>?_;have U:Ext v h9:=ai0 x8 f9 λi b=>ai5 (ai7 b);have z9:=U.size;have p9:=p7.ext U;obtain⟨O,ba,u⟩:=p9.var;have bY:(l++w)[(i:Int).toNat]? =some r:=by rw[ajb,List.getElem?_append_left am];exact a0
  refine⟨_,u.ah rfl,_,p9.bk.ah rfl,x.root,Pool.jU v9,th (ae.ext U).elems ω bY ⟨x.slot,Pool.mU v9,Le p9 λW ca H a5=>⟨_,rfl,?_⟩⟩⟩;clear u O ba;have X:=ajd a5;obtain⟨B,a6⟩:∃B,B=mK z 0 ca:=⟨_,rfl⟩;rw[<-a6]at H X;have cM:=X.only.size;have k10:∀k,k≠0->B k=F k:=λk q=>by rw[a6,au q,k7 k q]
  have cc:∀i,cO z i->i<v.size:=λi⟨k,q⟩=>p7.sep.lt k i q;have cd:∀i,In Q i->i<v.size:=λi⟨l,A,b⟩=>by have:=ae.lt l A;omega
  have v10:Var 82 W v.size x.tv:=v9.only X.only λd=>by have:=cc _ d;omega
  have a8:ak 67 W t (oc L):=TV.bX a5.only (e7.ext U) t7;have a9:Vc.Own 52 32 W Q (rts (l++w)):=(ae.ext U).keep X.only λi b=>(a7 i b).2.1;have a':Step (cO Fp) h (cO B) W:=(bl.trans (.an U)).trans X
  have I:∀i,In Q i->h.size<=i/\¬cO B i/\¬In t i:=λi b=>by
   obtain⟨q1,q2,q3⟩:=a7 i b;refine⟨q1,λd=>?_,q3⟩;rcases X.new i d with o|o
   ·exact q2 o
   ·have:=cd i b;omega
  have t10:∀i,In t i->¬B 0 i:=λi b d=>by
   rw[a6,bF]at d;rcases a5.new i d with o|o
   ·exact t7 i b o
   ·have:=(ab i b).2.1;omega
  have wj:ai9 .i64 ((j:Int)+1)=((j+1:Nat):Int):=by rw[wrap_i64 ω ω];omega
  intro J HJ;refine ID (λh0=>?_) λh0=>HJ _ W ?_
  ·have C:P (j+1)=({(P j).1 with N:=iF (P j).1.N c.no x.root r x.slot},(P j).2++[x.root]):=by rw[ap];unfold a_;rw[if_pos h0]
   refine⟨x.root,Pool.jU v10,Rn a9 (by rw[ajk];omega) λQ' bm ce f11 cf=>HJ _ bm (ID (λar=>ω) λ_=>?_)⟩;rw[wj];refine⟨⟨j+1,rfl,a4,w++[x.root],B,by rw[C];simp only[ad,ajF],by rw[<-ajF];exact ce,?_,Step.tail a' f11 λi b=>(I i b).1,by have:=f11.size;omega,k10,λi b=>?_,t10,?_⟩,ω⟩
   ·rw[C];exact H.only f11 (λk i q d=>(I i d).2.1 ⟨k,q⟩) λi hv d=>by have:=p.PC i hv;have:=(I i d).1;omega
   ·rcases cf i b with o|o
    ·exact I i o
    ·exact⟨ω,λ⟨k,q⟩=>by have:=H.sep.lt k i q;omega,λS=>by have:=(ab i S).2.1;omega⟩
   ·exact TV.bX f11 a8 λi b d=>(I i d).2.2 b
  ·have ch:iF (P j).1.N c.no x.root r x.slot=(P j).1.N:=by unfold iF;rw[if_neg h0]
   rw[ch]at H;refine ID (λar=>?_) λar=>?_
   ·have C:P (j+1)=({(P j).1 with left:=(P j).1.left+1},(P j).2):=by rw[ap];unfold a_;rw[if_neg h0,if_pos ar]
    obtain⟨O,ba,u⟩:=H.var;refine⟨_,u.ah rfl,?_⟩;dsimp only;rw[wj,wrap_i64 (n:=(P j).1.left+1) ω ω];refine aF u (i:=6) (t:=.i ((P j).1.left+1)) rfl rfl rfl rfl λbm v11 f11 cP=>aF v11 (i:=7) (t:=.bool true) rfl rfl rfl rfl λci cj f12 cR=>?_;have f112:ag (·=g) W ci:=f11.trans f12;obtain⟨cl,cp⟩:=H.TF ⟨true,ba,cj⟩ f112;have cs:∀i,i=g->cO B i:=λi e=>⟨7,by rw[H.f7];exact e⟩;refine⟨⟨j+1,rfl,a4,w,B,by rw[C];exact ad,a9.keep f112 λi b e=>(I i b).2.1 (cs i e),by rw[C];exact cl,a'.trans cp,ω,k10,I,t10,?_⟩,ω⟩;exact TV.bX f112 a8 λi b e=>by have:=(ab i b).1;have e:i=g:=e;omega
   ·have C:P (j+1)=P j:=by rw[ap];unfold a_;rw[if_neg h0,if_neg ar]
    rw[wj];exact⟨⟨j+1,rfl,a4,w,B,by rw[C];exact ad,a9,by rw[C];exact H,a',ω,k10,I,t10,a8⟩,ω⟩
 ·have bk:j=L.length:=ω;have C:P j=L.foldl (a_ c.no r) ({m with kids:=K},E):=by rw[hP,bk];simp only;rw[ajs]
  have ct:fZ c.no f' (P j).2 (P j).1=goal:=by rw[C,<-hq,hL,a3];rfl
  have ba:(l++w).drop (i+1)=(P j).2:=by rw[ad,a1,List.drop_append_of_le_length ω]
  rw[show ai9 .i64 ((i:Int)+1)=((i+1:Nat):Int) by rw[wrap_i64 ω ω];omega];refine go ((P j).2.length+(P j).1.kids.length) (Q,((i+1:Nat):Int)) v (by rw[ao];omega) ⟨l++w,i+1,(P j).1,z,rfl,by rw[ajk];omega,ae,p7,bl,λi b=>⟨(a7 i b).1,(a7 i b).2.1⟩,⟨f',by rw[ba,ao];omega,by rw[ba];exact ct⟩,ω,by rw[ao];omega,by rw[ao,ajk];omega,by rw[ba]⟩
end
end Gate
namespace Board
section
variable{R:Rq}{h:aa}{c:Cf}
end
end Board
namespace Board
theorem YL(c d:UInt8):xb c (d.toNat:Int)=c^^^d:=by
 unfold xb xv;apply UInt8.toNat_inj.1;rw[UInt8.toNat_ofNat',wrap_u8]
 have a:ajA (ajI .u8) (c.toNat:Int)=c.toBitVec:=by
  apply BitVec.eq_of_toNat_eq;show(ajA 8 (c.toNat:Int)).toNat=c.toNat;rw[BitVec.ofInt_natCast,BitVec.toNat_ofNat];exact Nat.mod_eq_of_lt c.toNat_lt
 have b:ajA (ajI .u8) (d.toNat:Int)=d.toBitVec:=by
  apply BitVec.eq_of_toNat_eq;show(ajA 8 (d.toNat:Int)).toNat=d.toNat;rw[BitVec.ofInt_natCast,BitVec.toNat_ofNat];exact Nat.mod_eq_of_lt d.toNat_lt
 rw[a,b];have:(c.toBitVec^^^d.toBitVec).toNat=(c^^^d).toNat:=rfl;have e:=(c^^^d).toNat_lt;show(((c.toBitVec^^^d.toBitVec).toNat:Int)%256).toNat%2^8=_;rw[this];omega
theorem TG(a t:Bs 16)(j:Nat)(q:j<16):ee (Kh a t) j=ee a j^^^ee t j:=by
 unfold Kh;rw[kU _ _ _ _ (ai6 _),if_pos q,YL]
theorem YM(t:Bs 16):Kh (ai1 16) t=t:=by
 apply Bs.Mw;intro j a;rw[TG _ _ _ a]
 have:ee (ai1 16) j=0:=by
  unfold ee ai1;rw[ajR,List.getElem?_replicate,if_pos a];rfl
 rw[this,UInt8.zero_xor]
def om(m:Ms)(who:Int):Ms:=⟨2,m.slot,m.target,who,0,aiX,ai1 16⟩
theorem VA{m:Ms}{row:List Bool}(q:dn m row=true):0<=m.slot/\m.slot<=1073741824:=by
 unfold dn at q;simp only[Bool.and_eq_true,Bool.not_eq_true',Bool.or_eq_false_iff,decide_eq_false_iff_not]at q;obtain⟨⟨⟨⟨⟨a,b⟩,_⟩,_⟩,_⟩,_⟩:=q;omega
theorem I7{n:Nat}{aN:Int}{m:Ms}{row:List Bool}(h:(aR n aN m row).2=true):dn m row=true:=by
 cases a:dn m row with
 |true=>rfl
 |false=>unfold aR at h;rw[if_pos a]at h;cases h
section
variable{R:Rq}{h:aa}{c:Cf}
end
end Board
namespace Board
section
variable{R:Rq}{h:aa}
theorem M_{r:Bs 32}(q:∀b,Ext h b->R (TV.str r.l).val b):Cl 274 [.bytes 32 r] h R:=by
 apply xm;delta BF iJ bV dI jY iI fC bK eE;refine af λa v1 f o=>?_;have d:=ajl a (Vc.row (aiZ []) 5);have g:aA (ajo (some (Vc.Loc.mk h.size 0)) 32 32) 0 32 1=⟨some ⟨h.size,0⟩,32,32⟩:=rfl;rw[g];refine⟨r.l.map λc=>Value.int .u8 (c.toNat:Int),by rw[<-qw];exact(sD (v1.ext d).bytes).cells (zz _) δ,qR r.l,?_⟩
 have r1:Row (λi=>h.size<i) (a.push (Vc.row (aiZ []) 5)) ⟨some ⟨a.size,0⟩,0,0⟩ []:=by
  refine⟨Own.new (T:=5) (sz:=1) a [] (λt j=>by cases j),λl k=>?_,λi e=>?_⟩
  ·obtain rfl:=Option.some.inj k;show h.size<a.size;omega
  ·rw[Array.size_push]at e;omega
 refine wu r.h.symm r1 (by rw[r.h];decide) λp m n f2 s=>⟨_,n.str,?_⟩;exact q m (f.trans (ai0 d (r1.cut f2) λi e=>ω))
theorem abV{key:LU}(q:key.length<=64):(Gl key).l=key++ajX (64-key.length) 0:=by
 show(key++ajX 64 0).take 64=_;rw[List.take_append,aj4 q,List.take_replicate,Nat.min_eq_left ω]
theorem PU(c:UInt8)(x:Int):UInt8.ofNat (ai9 .u8 ((ajA (ajI .u8) (c.toNat:Int)^^^ajA (ajI .u8) x).toNat:Int)).toNat=xb c x:=rfl
theorem I8{α:Type}(f:Nat->α)(n:Nat):(ajL (n+1)).map f=(ajL n).map f++[f n]:=by
 rw[List.range_succ,ajq,ajD,ajN]
theorem FN{key s:LU}(A:key.length<=64)(hl:s.length<10000)(I:∀v,Ext h v->R (ajm 16 (EZ key s)).val v):Cl 217 [.str key,.str s] h R:=by
 apply Av;delta aG gu Ol nT Og pV c5 c4 QH fU bK;refine af λm v1 J s1=>?_;intro K w;refine ID (λal=>ω) λ_=>w key m ?_;clear w K;refine⟨λσ b=>m=b/\σ.length<=64/\∃k,σ=key++ajX k 0,λσ _=>64-σ.length,⟨rfl,A,0,by simp⟩,?_⟩;rintro a b ⟨rfl,am,k,p⟩;refine ID (λL=>⟨by show((a.length+1:Nat):Int)<=_;omega,⟨rfl,by rw[ajk];show a.length+1<=64;omega,k+1,?_⟩,?_⟩) λao=>?_
 ·rw[p,ajF];congr 1;rw[List.replicate_succ']
 ·show 64-(a++[0]).length<64-a.length;rw[ajk,ajO];omega
 have M:a=(Gl key).l:=by
  rw[abV A,p];have:a.length=key.length+k:=by rw[p,ajk,List.length_replicate]
  congr 2;omega
 have bY:∀i,a.getD i 0=ee (Gl key) i:=λi=>by rw[M];rfl
 refine⟨λσ b=>0<=σ.2.2/\σ.2.2<=64/\Ext m b/\σ.1=(ajL σ.2.2.toNat).map (λi=>xb (ee (Gl key) i) 54)/\σ.2.1=(ajL σ.2.2.toNat).map (λi=>xb (ee (Gl key) i) 92),λσ _=>((64:Int)-σ.2.2).toNat,
  ⟨ai8 0,δ,ai3 _,rfl,rfl⟩,?_⟩
 rintro⟨x,out,i⟩ h2 ⟨e,y,q,c,d⟩;dsimp only at e y q c d⊢;have z:x.length=i.toNat:=by rw[c];simp
 have l2:out.length=i.toNat:=by rw[d];simp
 refine ID (λf=>?_) λf=>?_
 ·have B:=aO ((ajA (ajI .u8) ((a.getD i.toNat 0).toNat:Int)^^^ajA (ajI .u8) 54).toNat:Int);have C:=aO ((ajA (ajI .u8) ((a.getD i.toNat 0).toNat:Int)^^^ajA (ajI .u8) 92).toNat:Int);refine⟨e,ω,_,str1 B.1 B.2,by rw[ajO];omega,e,ω,_,str1 C.1 C.2,by rw[ajO];omega,?_⟩;rw[wrap_i64 (n:=i+1) ω ω];refine⟨⟨ω,ω,(q.trans (ajl _ _)).trans (ajl _ _),?_,?_⟩,Ω⟩
  ·rw[PU,bY,c,show(i+1).toNat=i.toNat+1 by omega,I8]
  ·rw[PU,bY,d,show(i+1).toNat=i.toNat+1 by omega,I8]
 have N:i.toNat=64:=ω;rw[N]at c d z l2;have c:x=g_ key 54:=c;have d:out=g_ key 92:=d;subst c;subst d;refine⟨ω,kI (by rw[ajk,z];omega) λh3 O=>⟨_,rfl,M_ λh4 P=>⟨_,rfl,by rw[l2,Bs.h];decide,?_⟩⟩⟩;refine kI (by rw[ajk,l2,Bs.h];decide) λr Q=>⟨_,rfl,?_⟩;refine af λh6 v6 S s6=>av v6 (t:=.bytes 32 (k_ (g_ key 92++(k_ (g_ key 54++s)).l))) rfl uo λu T f7 s7=>?_;have U:Ext r u:=ai0 S f7 λi f=>ω;refine af λV W D s8=>?_;have X:=T.ext D;refine⟨λi b=>0<=i/\i<=16/\ag (·=u.size) V b/\Var 56 b u.size (.bytes 16 (j7 (ee (k_ (g_ key 92++(k_ (g_ key 54++s)).l))) (ai1 16) i.toNat)),λi _=>((16:Int)-i).toNat,⟨ai8 0,δ,ajV _ _,W⟩,?_⟩;rintro i E ⟨e,y,f9,g⟩;have Y:Var 52 E r.size (.bytes 32 (k_ (g_ key 92++(k_ (g_ key 54++s)).l))):=X.only f9 ω;refine ID (λf=>?_) λf=>?_
 ·have Z:=gP Y (i:=i.toNat) ω;have L:=(ee (k_ (g_ key 92++(k_ (g_ key 54++s)).l)) i.toNat).toNat_lt;refine⟨e,ω,_,Z,e,ω,?_⟩;refine j3 g (i:=i.toNat) (o:=0+i.toNat*1) ω ω ω ω λF v10 f10 ab=>?_;rw[wrap_i64 (n:=i+1) ω ω];refine⟨⟨ω,ω,f9.trans f10,?_⟩,Ω⟩;rw[show(i+1).toNat=i.toNat+1 by omega];rw[ajb,UInt8.ofNat_toNat]at v10;exact v10
 ·have ac:i.toNat=16:=ω;rw[ac]at g
  have ad:j7 (ee (k_ (g_ key 92++(k_ (g_ key 54++s)).l))) (ai1 16) 16=EZ key s:=by
   apply Bs.Mw;intro j G;rw[kU _ _ _ _ (ai6 _),if_pos G];unfold EZ oZ K5 ee;rw[ajR,ajR,aj8,if_pos G]
  rw[ad]at g;have ae:Ext r E:=U.trans (ai0 D f9 λi f=>ω);have H:=(((q.trans O).trans P).trans Q).trans ae;refine⟨_,g.bytes,av (v1.ext H) (t:=.bytes 16 (EZ key s)) rfl uo λF v10 f10 ab=>⟨_,v10.bytes,?_⟩⟩;exact I F (ai0 (J.trans H) f10 λi f=>ω)
theorem Na{n:Nat}(b:Bs n)(i:Nat)(x y:UInt8):(b.set i x).set i y=b.set i y:=by
 apply Bs.ext';simp[aka]
theorem YN{n:Nat}(b:Bs n)(i:Nat):b.set i (ee b i)=b:=by
 apply Bs.ext';unfold aka ee;by_cases a:i<b.l.length
 ·rw[ajR,ai2 a];simp
 ·simp only;rw[List.set_eq_of_length_le ω]
theorem YO{n:Nat}(b:Bs n){i:Nat}(x:UInt8)(q:i<n):ee (b.set i x) i=x:=by
 unfold ee aka;rw[ajR,List.getElem?_set_self (by rw[b.h];exact q)];rfl
theorem Nb{s:Sl}{ts:List (Bs 16)}(e:ak 16 h s (tags ts))(W:ts.length<1000000)(E:∀q,Ext h q->R (ajm 16 (eH ts (ai1 16))).val q):Cl 218 [.slice s] h R:=by
 apply xo;delta aG gU Og pV QK c5 bN;have F:=e.len;rw[aiY]at F;refine af λd v1 r X=>af λu G k Y=>?_;have Z:h.size<d.size:=ω;refine⟨λi f=>0<=i/\i<=16/\ag (·=d.size) u f/\Var 56 f d.size (.bytes 16 (j7 (ee (eH ts (ai1 16))) (ai1 16) i.toNat)),λi _=>((16:Int)-i).toNat,⟨ai8 0,δ,ajV _ _,G⟩,?_⟩;rintro i H ⟨m,i1,f3,c⟩;refine ID (λa=>?_) λa=>?_
 ·have I:ee (j7 (ee (eH ts (ai1 16))) (ai1 16) i.toNat) i.toNat=ee (ai1 16) i.toNat:=by rw[kU _ _ _ _ ω,if_neg ω]
  have v:j7 (ee (eH ts (ai1 16))) (ai1 16) i.toNat=(j7 (ee (eH ts (ai1 16))) (ai1 16) i.toNat).set i.toNat (ee (eH (ts.take 0) (ai1 16)) i.toNat):=by
   show _=aka _ _ (ee (ai1 16) i.toNat);rw[<-I,YN]
  have w:j7 (ee (eH ts (ai1 16))) (ai1 16) (i.toNat+1)=(j7 (ee (eH ts (ai1 16))) (ai1 16) i.toNat).set i.toNat (ee (eH ts (ai1 16)) i.toNat):=rfl;generalize j7 (ee (eH ts (ai1 16))) (ai1 16) i.toNat=B at c v w;refine⟨λj f=>0<=j/\j<=ts.length/\ag (λb=>b=d.size) u f/\Var 56 f d.size (.bytes 16 (B.set i.toNat (ee (eH (ts.take j.toNat) (ai1 16)) i.toNat))),λj _=>((ts.length:Int)-j).toNat,⟨ai8 0,ω,f3,by rw[v]at c;exact c⟩,?_⟩;rintro j g ⟨J,j1,f4,v4⟩;refine ID (λp=>?_) λp=>?_
  ·have K:ak 16 g s (tags ts):=e.ext (ai0 (r.trans k) f4 λi a=>ω);refine K.read J ω λl t ab x L=>?_;rw[ai4]at x;obtain⟨t',M,rfl⟩:=ajK.1 x;refine⟨t',L,?_⟩;refine af λh5 N O s5=>av N (t:=.bytes 16 t') rfl rfl λP v6 f6 s6=>?_;have y:Ext g P:=ai0 O f6 λi a=>ω;have ac:=f4.size;have z:=v4.ext y;have A:=gP z (i:=i.toNat) ω;rw[YO _ _ ω]at A;have Q:=gP v6 (i:=i.toNat) ω;have C:0<=xv ((ee (eH (ts.take j.toNat) (ai1 16)) i.toNat).toNat:Int) ((ee t' i.toNat).toNat:Int)/\xv ((ee (eH (ts.take j.toNat) (ai1 16)) i.toNat).toNat:Int) ((ee t' i.toNat).toNat:Int)<256:=aO _;refine⟨m,a,_,A,m,a,_,Q,m,a,?_⟩;refine j3 z (i:=i.toNat) (o:=0+i.toNat*1) ω ω C.1 C.2 λh7 D f7 s7=>?_;rw[wrap_i64 (n:=j+1) ω ω];refine⟨⟨ω,ω,(f4.trans ((ajp y).mono λ_ h=>h)).trans f7,?_⟩,Ω⟩;rw[Na]at D;rw[show(j+1).toNat=j.toNat+1 by omega,bq M,Cy,TG _ _ _ ω,<-YL];exact D
  ·have S:ts.take j.toNat=ts:=aj4 ω;rw[S]at v4;rw[wrap_i64 (n:=i+1) ω ω];refine⟨⟨ω,ω,f4,?_⟩,Ω⟩;rw[show(i+1).toNat=i.toNat+1 by omega,w];exact v4
 ·have T:i.toNat=16:=ω;rw[T]at c
  have U:j7 (ee (eH ts (ai1 16))) (ai1 16) 16=eH ts (ai1 16):=by
   apply Bs.Mw;intro j p;rw[kU _ _ _ _ (ai6 _),if_pos p]
  rw[U]at c;have V:Var 56 H h.size (.bytes 16 (ai1 16)):=(v1.ext k).only f3 ω;refine⟨_,c.bytes,av V (t:=.bytes 16 (eH ts (ai1 16))) rfl uo λg v4 f4 s4=>⟨_,v4.bytes,?_⟩⟩;exact E g (ai0 (ai0 (r.trans k) f3 λi a=>ω) f4 λi a=>ω)
end
end Board
namespace Board
section
variable{R:Rq}{h:aa}{c:Cf}
theorem Nc:xN.length=5:=δ
theorem aan(slot who:Int):k_ ((xN++KE (ai9 .u64 slot) 4)++KE (ai9 .u64 who) 2)=rK slot who:=by
 have a:=fM slot;have b:=fM who;rw[zH 4 _ a.1 a.2,zH 2 _ b.1 b.2];rfl
end
def xu(slot:Int)(j:Nat):gA:=⟨rK slot (j:Int),(j:Int)⟩
theorem mem_sorted{slot:Int}{n:Nat}{x:gA}(h:x∈sorted slot n):∃j,j<n/\x=xu slot j:=by
 have:=(sorted_perm slot n).mem_iff.1 h;unfold QZ at this;obtain⟨j,a,rfl⟩:=aje.1 this;exact⟨j,List.mem_range.1 a,rfl⟩
theorem aao{slot:Int}{n j:Nat}(h:j<n):xu slot j∈sorted slot n:=by
 refine(sorted_perm slot n).mem_iff.2 ?_;unfold QZ;exact aje.2 ⟨j,List.mem_range.2 h,rfl⟩
def Aw(slot:Int)(un:Nat->Bool)(i:Nat)(q:Int):Prop:=
 (q=-1/\∀j,j<i->un j=false)\/∃b:Nat,q=(b:Int)/\b<i/\un b=true/\∀j,j<i->un j=true->j≠b->sb (xu slot b) (xu slot j)
theorem Aw.skip{slot:Int}{un:Nat->Bool}{i:Nat}{q:Int}(B:Aw slot un i q)(A:un i=false):Aw slot un (i+1) q:=by
 rcases B with⟨a,c⟩|⟨b,a,k,f,c⟩
 ·refine .inl ⟨a,λj g=>?_⟩;by_cases d:j=i
  ·rw[d];exact A
  ·exact c j ω
 ·refine .inr ⟨b,a,ω,f,λj g e h=>?_⟩;by_cases d:j=i
  ·rw[d,A]at e;cases e
  ·exact c j ω e h
theorem Aw.first{slot:Int}{un:Nat->Bool}{i:Nat}{q:Int}(B:Aw slot un i q)(E:q<0)(A:un i=true):Aw slot un (i+1) (i:Int):=by
 rcases B with⟨_,c⟩|⟨b,d,_⟩
 ·refine .inr ⟨i,rfl,ω,A,λj e a f=>?_⟩;rw[c j ω]at a;cases a
 ·omega
theorem Aw.less{slot:Int}{un:Nat->Bool}{i b:Nat}(B:Aw slot un i (b:Int))(q:un i=true)(A:Op.bytesLess (rK slot (i:Int)).l (rK slot (b:Int)).l=true):Aw slot un (i+1) (i:Int):=by
 rcases B with⟨e,_⟩|⟨a,e,h,k,f⟩
 ·omega
 ·have:a=b:=ω;subst this;have c:sb (xu slot i) (xu slot a):=.inl A;refine .inr ⟨i,rfl,ω,q,λj m g n=>?_⟩;by_cases d:j=a
  ·rw[d];exact c
  ·exact Dp c (f j ω g d)
theorem Aw.keep{slot:Int}{un:Nat->Bool}{i b:Nat}(B:Aw slot un i (b:Int))(q:Op.bytesLess (rK slot (i:Int)).l (rK slot (b:Int)).l=false):Aw slot un (i+1) (b:Int):=by
 rcases B with⟨d,_⟩|⟨c,d,m,e,f⟩
 ·omega
 ·have:c=b:=ω;subst this;refine .inr ⟨c,rfl,ω,e,λj n g h=>?_⟩;by_cases k:j=i
  ·subst k;rcases OH (x:=xu slot c) (y:=xu slot j) (by show(c:Int)≠j;omega)with a|a
   ·exact a
   ·rcases a with a|⟨_,a⟩
    ·have:Op.bytesLess (rK slot (j:Int)).l (rK slot (c:Int)).l=true:=a;rw[q]at this;cases this
    ·have:(j:Int)<(c:Int):=a;omega
  ·exact f j ω g h
noncomputable def left(slot:Int)(n k:Nat)(j:Nat):Bool:=!decide ((j:Int)∈(yw slot n).take k)
theorem YP{slot:Int}{n k:Nat}(q:k<n):∃j:Nat,j<n/\(sorted slot n)[k]? =some (xu slot j)/\(yw slot n)[k]? =some (j:Int):=by
 have c:=ny slot n;have a:(sorted slot n)[k]? =some (sorted slot n)[k]:=ai2 ω;obtain⟨j,b,e⟩:=mem_sorted (List.getElem_mem (by omega:k<(sorted slot n).length));refine⟨j,b,by rw[a,e],?_⟩;unfold yw;rw[ai4,a,e];rfl
theorem YQ{l:List Int}{k:Nat}{x:Int}(A:l.Nodup)(q:l[k]? =some x):x∉l.take k:=by
 intro h;obtain⟨i,a⟩:=List.getElem?_of_mem h;rw[aj8]at a;split at a
 ·rename_i b;have c:=(aji.1 q).1;have:=(List.getElem?_inj ω A).1 (a.trans q.symm);omega
 ·cases a
theorem Aw.done{slot:Int}{n k:Nat}{q:Int}(A:k<n)(B:Aw slot (left slot n k) n q):∃b:Nat,b<n/\q=(b:Int)/\(yw slot n)[k]? =some (b:Int):=by
 obtain⟨c,j,l,e⟩:=YP (slot:=slot) A;have s:=RB slot n
 have f:left slot n k c=true:=by
  unfold left;rw[decide_eq_false (YQ s e)];rfl
 rcases B with⟨_,g⟩|⟨b,t,m,o,g⟩
 ·rw[g c j]at f;cases f
 ·refine⟨b,m,t,?_⟩;by_cases p:c=b
  ·rw[<-p];exact e
  ·exfalso;have u:=g c j f p
   have v:(b:Int)∉(yw slot n).take k:=by
    unfold left at o;simpa using o
   obtain⟨i,h⟩:=List.getElem?_of_mem (aao (slot:=slot) m)
   have d:(yw slot n)[i]? =some (b:Int):=by
    unfold yw;rw[ai4,h];rfl
   have w:k<i:=by
    rcases Nat.lt_trichotomy i k with a|a|a
    ·refine absurd (ajf (i:=i) ?_) v;rw[aj8,if_pos a];exact d
    ·rw[a,e]at d;injection d with d;omega
    ·exact a
   have r:=List.pairwise_iff_getElem.1 (Fy slot n) k i (aji.1 l).1 (aji.1 h).1 w;rw[(aji.1 l).2,(aji.1 h).2]at r;exact r u
theorem VB{slot:Int}{n k b:Nat}(q:(yw slot n)[k]? =some (b:Int))(j:Nat):left slot n (k+1) j=if j=b then false else left slot n k j:=by
 unfold left;rw[bq q];by_cases a:j=b
 ·subst a;rw[if_pos rfl];simp
 ·rw[if_neg a];have:(j:Int)≠(b:Int):=ω;simp[this]
end Board
namespace Board
abbrev YR(n:Nat):Obj:=row (bZ (ajy false) n) 4
theorem TH:(ctx.ti 52).bytes=32:=κ
theorem abW:(ctx.ti 52).size=32:=κ
theorem aap:(ctx.ti 52).z.size=32:=κ
abbrev VC(slot:Int)(n:Nat):List TV:=(ajL n).map λ(j:Nat)=>ajm 32 (rK slot (j:Int))
theorem VD(slot:Int)(n:Nat):VC slot (n+1)=VC slot n++[ajm 32 (rK slot (n:Int))]:=by
 unfold VC;rw[List.range_succ,ajq];rfl
noncomputable def flags(slot:Int)(n k:Nat):List Bool:=(ajL n).map λj=>!left slot n k j
theorem R3(slot:Int)(n:Nat):flags slot n 0=ajX n false:=by
 unfold flags left;apply List.ext_getElem (by simp);intro j a b;simp
theorem VE{slot:Int}{n k j:Nat}(q:j<n):(flags slot n k)[j]? =some (!left slot n k j):=by
 unfold flags;rw[ai4,List.getElem?_range q];rfl
theorem VF{slot:Int}{n k b:Nat}(q:(yw slot n)[k]? =some (b:Int)):(flags slot n k).set b true=flags slot n (k+1):=by
 unfold flags;apply List.ext_getElem (by simp);intro j d c;simp only[aiY,ajM]at c;rw[List.getElem_set];simp only[List.getElem_map,List.getElem_range];rw[VB q];by_cases a:b=j
 ·subst a;simp
 ·rw[if_neg a,if_neg (λe=>a e.symm)]
section
variable{R:Rq}{h:aa}{c:Cf}
theorem YS{s:Sl}{slot:Int}{n m:Nat}{i:Int}(q:m=s.len)(e:ak 32 h s (VC slot n))(A:0<=i)(E:i<n){K:Bs 32->Prop}(B:K (rK slot i)):
 0<=i/\i<(m:Int)/\Nn s.a λ(l:Vc.Loc)=>∃(b:Bs 32),ay h l.b (l.o+i.toNat*32) 32 b/\K b:=by
 subst q;have d:=e.len;rw[aiY,ajM]at d;refine e.read A ω λl t j a f=>?_;rw[ai4,List.getElem?_range ω]at a;injection a with a;subst a;have g:((i.toNat:Nat):Int)=i:=ω;have c:TV.at h l.b (l.o+i.toNat*32) (ajm 32 (rK slot ((i.toNat:Nat):Int))):=f;rw[g]at c;exact⟨_,c,B⟩
theorem YT{s:Sl}{l:List Bool}{i:Int}{b:Nat}(o:Own 4 1 h s (aP l))(q:s.a=some ⟨b,0⟩)(A:0<=i)(B:i<l.length){K:Bool->Prop}(E:∀x,l[i.toNat]? =some x->K x):
 ∃(x:Bool),ah h b (0+i.toNat*1) (.bool x)/\K x:=by
 have a:=o.len;rw[aiY]at a;have:=jH o.elems A B E;rw[q]at this;obtain⟨_,_,c⟩:=this;exact c
set_option maxHeartbeats 1000000 in
theorem xP{slot:Int}(f:Du c)(hr:∀S U,Own 3 1 S U (ints (mem c.vals.len c.aN slot))->Ext h S->(∀l,U.a=some l->h.size<=l.b)->R (ajE U).val S):
 Cl 282 [c.tv,.i slot] h R:=by
 apply rY c.vals c.ep c.aN c.no c.eu c.ew c.quo c.pe c.gY c.win c.bD c.dec slot;delta fK Kl cV nR rH pW jT iP dL fJ bK bN bh;refine af λu v1 x1 s1=>?_;intro J hJ
 have V:slot<0\/1073741824<slot->R (TV.val (ajE aiX)) u:=λI=>by
  refine hr u aiX ?_ x1 (λl d=>by cases d);rw[Tv I];exact ajt _ _ _
 refine ID (λI=>V (.inl I)) λI=>If.dec.2 ⟨λap=>V (.inr ap),λap=>hJ _ _ ?_⟩;clear hJ V;have f1:=f.aen;have f2:=f.aeo;have f3:=f.aep;have f4:=f.len;have a3:∀a,ag (λi=>h.size<i) u a->Ext h a:=λa o=>ai0 x1 o λi hi=>ω;have var:∀a,ag (λi=>h.size<i) u a->Var 24 a h.size c.tv:=λa o=>v1.only o (Nat.lt_irrefl _);refine⟨c.vals,v1.ah rfl,?_⟩
 refine⟨λσ a=>0<=σ.2/\σ.2<=c.vals.len/\Own 52 32 a σ.1 (VC slot σ.2.toNat)/\(∀l,σ.1.a=some l->h.size<l.b)/\ag (λi=>h.size<i) u a,λσ _=>((c.vals.len:Int)-σ.2).toNat,
  ⟨ai8 0,Ω,ajt _ _ _,(λl d=>by cases d),ajV _ _⟩,?_⟩
 rintro⟨s,i⟩ g ⟨i0,i1,w,W,X⟩;dsimp only at i0 i1 w W⊢;have z2:=X.size;refine ID (λhi=>?_) λhi=>?_
 ·have Y:=Nc;have Z:=dy 4 (ai9 .u64 slot);have l2:=dy 2 (ai9 .u64 i);refine bE 4 _ _ _ δ λq x3=>⟨_,rfl,by show((xN.length+_:Nat):Int)<=_;rw[Z,Y];decide,bE 2 _ _ _ δ λL p=>⟨_,rfl,?_,?_⟩⟩
  ·show(((xN++_).length+_:Nat):Int)<=_;rw[ajk,Z,l2,Y];decide
  refine kI (s:=(xN++KE (ai9 .u64 slot) 4)++KE (ai9 .u64 i) 2) (by rw[ajk,ajk,Z,l2,Y];decide) λA M=>⟨_,rfl,?_⟩;have ab:=(x3.trans p).trans M;have D:=w.ext ab;have a4:=D.len;rw[aiY,ajM]at a4;rw[aan];refine cz (C:=ctx) (T:=52) (sz:=32) (x:=.bytes 32 (rK slot i)) abW aap (by rw[TH];decide) (by rw[TH];omega) D rfl rfl λs6 h6 E f6 b6=>?_;rw[wrap_i64 (n:=i+1) ω ω];have ac:(i+1).toNat=i.toNat+1:=ω;have z5:=ab.size;refine⟨⟨Ω,Ω,?_,λl d=>?_,?_⟩,Ω⟩
  ·rw[ac,VD];have y:((i.toNat:Nat):Int)=i:=ω;rw[y];exact E
  ·rcases b6 l d with⟨z,F,ad⟩|F
   ·rw[<-ad];exact W z F
   ·omega
  ·refine X.trans ((ajp ab).trans (f6.mono λj⟨l,d,e⟩=>?_));rw[<-e];exact W l d
 have a5:i.toNat=c.vals.len:=ω;rw[a5]at w;have ar:=w.len;rw[aiY,ajM]at ar;have a6:ajP (s.len:Int)=s.len:=ajb _;refine⟨ω,ai8 _,ω,ω,?_⟩;rw[a6,<-ar];have ob:=Own.new (T:=4) (sz:=1) g (ajX c.vals.len (ajy false)) (λt ht=>by rw[List.eq_of_mem_replicate ht];rfl);rw[List.length_replicate,<-gh]at ob;have xp:=ajl g (YR c.vals.len);have bp:(ajH g (YR c.vals.len)).size=g.size+1:=by simp
 change Own 4 1 (ajH g (YR c.vals.len)) _ _ at ob;show Vc.Loop _ (ajH g (YR c.vals.len)) _;generalize ajH g (YR c.vals.len)=N at*;have a7:ag (λi=>h.size<i) u N:=X.trans (ajp xp);have a8:∀l,s.a=some l->l.b<g.size:=w.lt;have br:h.size<g.size:=ω;rw[show ajX c.vals.len (ajy false)=aP (flags slot c.vals.len 0) by rw[R3];simp[aP]]at ob
 refine⟨λt a=>∃k:Nat,(k:Int)<=c.aN/\Own 3 1 a t (ints ((yw slot c.vals.len).take k))/\(∀l,t.a=some l->g.size<l.b)/\Own 4 1 a ⟨some ⟨g.size,0⟩,c.vals.len,c.vals.len⟩ (aP (flags slot c.vals.len k))/\ag (λi=>g.size<=i) N a,λt _=>(c.aN-(t.len:Int)).toNat,
  ⟨0,ω,ajt _ _ _,(λl d=>by cases d),ob,ajV _ _⟩,?_⟩
 rintro t q ⟨k,hk,ot,G,aw,O⟩;have aE:ag (λi=>h.size<i) u q:=a7.trans (O.mono λi hi=>ω);have v3:=var q aE;have tl:=ot.len;have a0:((yw slot c.vals.len).take k).length=k:=by rw[ajn,Pw];omega
 rw[aiY,a0]at tl;have z3:=O.size;have a9:=Yp (n:=c.vals.len) (aN:=c.aN) (slot:=slot) ω ω
 have a':∀a,Ext q a->(k:Int)=c.aN->R (ajE t).val a:=λa x bt=>by
  refine hr a t ?_ ((a3 q aE).trans x) (λl d=>by have:=G l d;omega);rw[a9,show(min (max c.aN 0) (c.vals.len:Int)).toNat=k by omega];exact ot.ext x
 refine⟨c.aN,v3.ah rfl,ID (λbx=>?_) λb0=>a' q (ai3 _) ω⟩;have ba:k<c.vals.len:=ω;have bb:Own 52 32 q s (VC slot c.vals.len):=(w.ext xp).only O (λl d=>by have:=a8 l d;omega);refine⟨λσ a=>0<=σ.2/\σ.2<=c.vals.len/\Ext q a/\Aw slot (left slot c.vals.len k) σ.2.toNat σ.1,λσ _=>((c.vals.len:Int)-σ.2).toNat,⟨ai8 0,Ω,ai3 _,.inl ⟨rfl,λj hj=>absurd hj (by simp)⟩⟩,?_⟩;rintro⟨ae,m⟩ L ⟨P,j1,p,B⟩;dsimp only at P j1 B⊢;refine ID (λbc=>?_) λbc=>?_
 ·have ac:(m+1).toNat=m.toNat+1:=ω;have y:((m.toNat:Nat):Int)=m:=ω;rw[wrap_i64 (n:=m+1) ω ω];have al:ajP (c.vals.len:Int)=c.vals.len:=ajb _;refine⟨P,by first|omega|(rw[al];omega),YT (aw.ext p) rfl P (by unfold flags;rw[aiY,ajM];omega) λx r=>?_⟩;rw[VE ω]at r;injection r with r
  have next:∀(a:aa)(Q:Int),Ext q a->Aw slot (left slot c.vals.len k) (m.toNat+1) Q->((0<=m+1/\m+1<=c.vals.len/\Ext q a/\Aw slot (left slot c.vals.len k) (m+1).toNat Q)/\((c.vals.len:Int)-(m+1)).toNat<((c.vals.len:Int)-m).toNat):=
   λa Q xh Bh=>⟨⟨ω,ω,xh,by rw[ac];exact Bh⟩,ω⟩
  cases H:left slot c.vals.len k m.toNat with
  |false=>
   rw[H]at r;subst r;exact aja (next L ae p (B.skip H))
  |true=>
   rw[H]at r;subst r;refine ajh (ID (λa1=>?_) λb1=>?_)
   ·have:=B.first a1 H;rw[y]at this;exact next L m p this
   ·obtain⟨b,am⟩:∃b:Nat,ae=(b:Int):=⟨ae.toNat,ω⟩;subst am
    have bd:b<m.toNat:=by
     rcases B with⟨bi,_⟩|⟨Q,bi,b2,_⟩
     ·omega
     ·omega
    have a2:=bb.ext p;refine YS rfl a2.elems P ω ?_;refine YS (i:=(b:Int)) rfl a2.elems ω ω ?_;refine Mo λA M=>⟨_,rfl,?_⟩;rw[<-y];cases d:Op.bytesLess (rK slot ((m.toNat:Nat):Int)).l (rK slot (b:Int)).l with
    |true=>
     have:=B.less H d;rw[y]at this⊢;exact ajh (next A m (p.trans M) this)
    |false=>
     have:=B.keep d;rw[y];exact aja (next A _ (p.trans M) this)
 have bj:m.toNat=c.vals.len:=ω;rw[bj]at B;obtain⟨b,bd,am,hw⟩:=B.done ba;subst am;refine ID (λa1=>ω) λ_=>?_
 have bk:=(aw.ext p).aH (t:=.bool true) (i:=(b:Int)) (n:=1) (K:=λa=>∃new,cv (a.push (row (aiZ [TV.i (b:Int)]) 3)) (ajo (some (Vc.Loc.mk a.size 0)) 1 1) 1 new/\(∀v∈new,bQ v=true)/\
  aq ctx 3 t 1 new (a.push (row (aiZ [TV.i (b:Int)]) 3)) λ(s_:Sl)(h_:aa)=>(∃k:Nat,(k:Int)<=c.aN/\Own 3 1 h_ s_ (ints ((yw slot c.vals.len).take k))/\(∀l,s_.a=some l->g.size<l.b)/\Own 4 1 h_ ⟨some ⟨g.size,0⟩,c.vals.len,c.vals.len⟩ (aP (flags slot c.vals.len k))/\ag (λi=>g.size<=i) N h_)/\(c.aN-(s_.len:Int)).toNat<(c.aN-(t.len:Int)).toNat)
  ω (by unfold flags;rw[aiY,aiY,ajM];omega) rfl rfl λA D f5 s5=>?_
 ·have al:ajP (c.vals.len:Int)=c.vals.len:=ajb _;refine⟨ω,by first|omega|(rw[al];omega),?_⟩;exact bk.2.2
 ·have ao:ag (·=g.size) L A:=f5.mono λi⟨l,d,e⟩=>by cases d;exact e.symm
  have bl:(aP (flags slot c.vals.len k)).set ((b:Int)).toNat (ajy true)=aP (flags slot c.vals.len (k+1)):=by
   rw[ajb,<-VF hw];unfold aP;rw[ajJ]
  rw[bl]at D;have bm:=(ot.ext p).only ao (λl d=>by have:=G l d;omega);refine cz (C:=ctx) (T:=3) (sz:=1) (x:=.i (b:Int)) KA EC (by rw[qO];decide) (by rw[qO];omega) bm rfl rfl λs6 h6 E f6 b6=>?_;have z5:=ao.size;have z4:=p.size;have b3:g.size<N.size:=ω;have l6:=E.len;rw[ajk,aiY,a0,ajO]at l6;refine⟨⟨k+1,ω,?_,λl d=>?_,?_,?_⟩,ω⟩
  ·rw[bq hw];simp only[ints,ajq,ajD,ajN]at E⊢;exact E
  ·rcases b6 l d with⟨z,F,ad⟩|F
   ·rw[<-ad];exact G z F
   ·omega
  ·refine D.only f6 λl d r=>?_;obtain⟨z,bo,e⟩:=r;cases d;have:=G z bo;have e':z.b=g.size:=e;omega
  ·refine O.trans ((ajp p).trans ((ao.mono λi hi=>ω).trans (f6.mono λi⟨l,d,e⟩=>?_)));have:=G l d;omega
theorem JL{slot who:Int}(f:Du c)(A:∀g,Ext h g->R (TV.i (idx (mem c.vals.len c.aN slot) who 0)).val g):Cl 242 [c.tv,.i slot,.i who] h R:=by
 apply uV c.vals c.ep c.aN c.no c.eu c.ew c.quo c.pe c.gY c.win c.bD c.dec slot who;delta SO jN lR iP bN aT;have f4:=f.len;refine af λB v1 r C=>ri v1 (xP f λj k m s _=>⟨_,rfl,?_⟩);have b:=A j (r.trans s);have D:=qS c.vals.len c.aN slot;have el:=jA m.elems;generalize mem c.vals.len c.aN slot=l at*;refine⟨λσ o=>0<=σ.2/\σ.2<=k.len/\o=j/\idx l who 0=idx (l.drop σ.2.toNat) who σ.2,λσ _=>((k.len:Int)-σ.2).toNat,⟨ai8 0,Ω,rfl,rfl⟩,?_⟩;rintro⟨q,i⟩ o ⟨p,t,u,a⟩;obtain rfl:=u.symm;dsimp only at p t a⊢;refine ID (λv=>?_) λv=>?_
 ·refine gX m.elems p ω λx w=>?_;rw[zF w,idx]at a;refine ID (λd=>?_) λd=>?_
  ·rw[if_pos d.symm]at a;rw[a]at b;exact b
  ·rw[if_neg (λe=>d e.symm)]at a;rw[wrap_i64 (n:=i+1) ω ω];have y:(i+1).toNat=i.toNat+1:=ω;refine⟨⟨Ω,Ω,rfl,?_⟩,Ω⟩
   try dsimp only
   rw[y];exact a
 ·have z:l.drop i.toNat=[]:=List.drop_eq_nil_of_le ω;rw[z,idx]at a;rw[a]at b;exact b
theorem Nf{slot:Int}{bits:Sl}{row:List Bool}(f:Du c)(e:ak 1 h bits (aP row))
 (A:∀g,Ext h g->(mem c.vals.len c.aN slot=[]\/row.length≠(mem c.vals.len c.aN slot).length)->R (ajc [.slice aiX,.bool false]).val g)
 (I:∀g u,Own 3 1 g u (ints (pk (mem c.vals.len c.aN slot) row))->Ext h g->(∀l,u.a=some l->h.size<=l.b)->mem c.vals.len c.aN slot≠[]->row.length=(mem c.vals.len c.aN slot).length->R (ajc [.slice u,.bool true]).val g):
 Cl 241 [c.tv,.i slot,.slice bits] h R:=by
 apply xw c.vals c.ep c.aN c.no c.eu c.ew c.quo c.pe c.gY c.win c.bD c.dec slot bits;delta iJ jT dL fJ sN iI bN aT;have f4:=f.len;refine af λh1 v1 x1 s1=>ri v1 (xP f λr s B K _=>⟨_,rfl,?_⟩);have o:=x1.trans K;have el:=jA B.elems;have ml:=qS c.vals.len c.aN slot;generalize mem c.vals.len c.aN slot=l at*;have L:row.length=bits.len:=by have:=e.len;rwa [aiY]at this
 intro J M;refine ajg (λv=>?_) λv=>ID (λN=>A r o (.inl (List.eq_nil_of_length_eq_zero ω))) λN=>?_
 ·refine A r o (.inr λa=>?_);rw[L,el]at a;simp[a]at v
 ·have ac:bits.len=s.len:=by
   have:((s.len:Nat):Int)=((bits.len:Nat):Int):=by simpa using v
   omega
  refine M _ _ ?_
  refine⟨λσ D=>0<=σ.2/\σ.2<=s.len/\Own 3 1 D σ.1 (ints (pk (l.take σ.2.toNat) (row.take σ.2.toNat)))/\(∀p,σ.1.a=some p->r.size<=p.b)/\Ext r D/\σ.1.len<=σ.2.toNat,λσ _=>((s.len:Int)-σ.2).toNat,
   ⟨ai8 0,Ω,ajt _ _ _,(λp d=>by cases d),ai3 _,ajz _⟩,?_⟩
  rintro⟨t,i⟩ O ⟨w,P,k,q,m,Q⟩;dsimp only at w P k q Q⊢;refine ID (λS=>?_) λS=>?_
  ·refine jH ((e.ext o).ext m) w ω λb U=>?_;have E:(i+1).toNat=i.toNat+1:=ω;obtain⟨x,a⟩:∃x,l[i.toNat]? =some x:=⟨_,ai2 ω⟩;have y:=Mr (l.take i.toNat) (row.take i.toNat) x b (by rw[ajn,ajn];omega);rw[<-bq a,<-bq U]at y;rw[wrap_i64 (n:=i+1) ω ω];have z3:=m.size;cases b with
   |false=>
    refine aja ⟨⟨Ω,Ω,?_,q,m,Ω⟩,Ω⟩
    try dsimp only
    rw[E,y];simpa using k
   |true=>
    have V:=k.len;rw[aiY]at V;refine ajh (gX (B.elems.ext m) w ω λW F=>?_);obtain rfl:x=W:=by rw[a]at F;injection F
    refine cz (C:=ctx) (T:=3) (sz:=1) (x:=.i x) KA EC (by rw[qO];decide) (by rw[qO];omega) k rfl rfl λs4 h4 z f4 b4=>?_;have X:=z.len;rw[ajk,aiY,ajO]at X;refine⟨⟨Ω,Ω,?_,λp d=>?_,?_,Ω⟩,Ω⟩
    ·try dsimp only
     rw[E,y];simp only[ints,if_true,ajq,ajD,ajN]at z⊢;exact z
    ·rcases b4 p d with⟨Y,G,Z⟩|G
     ·rw[<-Z];exact q Y G
     ·omega
    ·refine ai0 m f4 λj⟨p,d,ej⟩=>?_;rw[<-ej];exact q p d
  ·have ab:i.toNat=l.length:=ω;have H:row.length=l.length:=ω;rw[ab,ajs,<-H,ajs]at k;exact I O t k (o.trans m) (λp d=>ajj o.size (q p d)) (λa=>by subst a;simp at el;omega) H
end
end Board
namespace Board
section
variable{R:Rq}{h:aa}
theorem VG:∀(l:List Int)(x:Int),(idx l x 0=0↔∃k,l=x::k)
 |[],x=>by simp[idx]
 |y::l,x=>by
  unfold idx;constructor
  ·intro a;split at a
   ·rename_i c;exact⟨l,by rw[c]⟩
   ·exfalso
    have:∀(l:List Int)(k:Int),1<=k->idx l x k≠0:=by
     intro l
     induction l with
     |nil=>intro k _;simp[idx]
     |cons z l d=>
      intro k b;unfold idx;split
      ·omega
      ·exact d (k+1) ω
    exact this l 1 ω a
  ·rintro⟨k,b⟩;injection b with e f;rw[if_pos e.symm]
theorem Lf{n:Nat}{aN:Int}{m:Ms}{row:List Bool}(q:dn m row=true)(A:m.kind≠3):
 aR n aN m row=if idx (mem n aN m.slot) m.ax 0<0 then([],false)else if m.kind=1/\0<idx (mem n aN m.slot) m.ax 0 then([],false)else([m.ax],true):=by
 unfold aR;rw[if_neg (by rw[q];decide),if_neg A]
 have i:0<=m.ax:=by
  unfold dn at q;simp only[Bool.and_eq_true,Bool.not_eq_true',Bool.or_eq_false_iff,decide_eq_false_iff_not]at q;obtain⟨⟨⟨⟨_,c⟩,_⟩,_⟩,_⟩:=q;omega
 generalize mem n aN m.slot=l
 have e:sA l=m.ax↔idx l m.ax 0=0:=by
  rw[VG];constructor
  ·intro h;cases l with
   |nil=>
    have f:(-1:Int)=m.ax:=h;omega
   |cons x l=>
    have f:x=m.ax:=h;exact⟨l,by rw[f]⟩
  ·rintro⟨k,rfl⟩;rfl
 by_cases c:m.kind=1
 ·by_cases a:idx l m.ax 0<0
  ·have b:m.kind=1/\sA l≠m.ax:=⟨c,λh=>by rw[e]at h;omega⟩;rw[if_pos b,if_pos a]
  ·by_cases g:0<idx l m.ax 0
   ·have b:m.kind=1/\sA l≠m.ax:=⟨c,λh=>by rw[e]at h;omega⟩;have d:m.kind=1/\0<idx l m.ax 0:=⟨c,g⟩;rw[if_pos b,if_neg a,if_pos d]
   ·have b:¬(m.kind=1/\sA l≠m.ax):=λh=>h.2 (e.2 ω);have d:¬(m.kind=1/\0<idx l m.ax 0):=λh=>g h.2;rw[if_neg b,if_neg a,if_neg a,if_neg d]
 ·have b:¬(m.kind=1/\sA l≠m.ax):=λh=>c h.1;have d:¬(m.kind=1/\0<idx l m.ax 0):=λh=>c h.1;rw[if_neg b];by_cases a:idx l m.ax 0<0
  ·rw[if_pos a,if_pos a]
  ·rw[if_neg a,if_neg a,if_neg d]
theorem tF{c:Cf}{m:Ms}{row:List Bool}(f:Du c)(e:ak 1 h m.bits (aP row))(q:row.length<100000)
 (A:∀a s,ak 1 a s (ints (aR c.vals.len c.aN m row).1)->Ext h a->(∀l,s.a=some l->h.size<=l.b)->R (ajc [.slice s,.bool (aR c.vals.len c.aN m row).2]).val a):Cl 176 [c.tv,m.tv] h R:=by
 apply rz c.vals c.ep c.aN c.no c.eu c.ew c.quo c.pe c.gY c.win c.bD c.dec m.kind m.slot m.target m.ax m.body m.bits m.tag;delta dh SN dW mO Uk dI sN aJ aT eE;refine af λI v1 J V=>af λB o C W=>?_;have v1:Var 24 B h.size c.tv:=Var.ext (t:=c.tv) v1 C;have o:Var 58 B I.size m.tv:=o;have D:=J.trans C;refine aZ o (wC (e.ext D) q λK u=>⟨_,rfl,?_⟩);have g:=D.trans u;have E:=v1.ext u;have L:=o.ext u;have M:=L.at;obtain⟨F,G,X,v,Y,N,Z⟩:=M
 have p:∀a,Ext h a->aR c.vals.len c.aN m row=([],false)->R (ajc [.slice aiX,.bool false]).val a:=λa x b=>by
  have:=A a aiX (by rw[b];exact Py a) x (λl q=>by cases q);rw[b]at this;exact this
 refine ajg (λi=>p K g ?_) λi=>⟨_,F,ID (λr=>?_) λr=>?_⟩
 ·unfold aR;rw[if_pos (by simpa using i)]
 ·have i:¬dn m row=false:=by simpa using i
  refine ri E ⟨_,G,_,N,?_⟩;refine Nf (c:=c) f (e.ext g) (λj d O=>⟨_,_,rfl,p j (g.trans d) ?_⟩) λj P Q d S T U=>⟨_,_,rfl,?_⟩
  ·unfold aR;rw[if_neg i,if_pos r,if_pos O]
  ·have b:aR c.vals.len c.aN m row=(pk (mem c.vals.len c.aN m.slot) row,true):=by
    unfold aR;rw[if_neg i,if_pos r,if_neg (λw=>w.elim T (λw=>w U))]
   have:=A j P (by rw[b];exact Q.elems) (g.trans d) (λl q=>ajj g.size (S l q));rw[b]at this;exact this
 ·have i:dn m row=true:=by simpa using i
  have b:=Lf (n:=c.vals.len) (aN:=c.aN) i r
  have H:∀a,Ext h a->aR c.vals.len c.aN m row=([m.ax],true)->R (ajc [.slice (ajo (some (Vc.Loc.mk a.size 0)) 1 1),.bool true]).val (a.push (Vc.row (aiZ [TV.i m.ax]) 3)):=λa x b=>by
   have:=A _ ⟨some ⟨a.size,0⟩,1,1⟩ (by rw[b];exact Pz a m.ax) (x.trans (ajl _ _)) (λl q=>by obtain rfl:=Option.some.inj q;exact x.size);rw[b]at this;exact this
  refine ri E ⟨_,G,_,v,?_⟩;refine JL (c:=c) f λj d=>⟨_,rfl,ID (λk=>p j (g.trans d) ?_) λk=>⟨_,lI d F,ID (λy=>ID (λz=>p j (g.trans d) ?_) λz=>⟨_,lI d v,H j (g.trans d) ?_⟩) λy=>⟨_,lI d v,H j (g.trans d) ?_⟩⟩⟩
  ·rw[b,if_pos k]
  ·rw[b,if_neg k,if_pos ⟨y,z⟩]
  ·rw[b,if_neg k,if_neg (λh=>z h.2)]
  ·rw[b,if_neg k,if_neg (λh=>y h.1)]
end
end Board
namespace Board
theorem bpl{n:Nat}{x:Bs n}:(ajm n x).plain=true:=by simp only[TV.plain]
section
variable{R:Rq}{h:aa}
theorem YU(L:List Vd){m:Ms}(row:List Bool)(q:m.kind=3)(x:Int):rW L m row x=EZ (DV L x) (c8 (om m x) []):=by
 unfold rW Ah Cz;rw[if_pos q,if_pos q];rfl
theorem VH{n:Nat}{aN:Int}{L:List Vd}{m:Ms}{row:List Bool}(q:(aR n aN m row).2=true)(A:m.kind≠3):(aR n aN m row).1=[m.ax]/\lg n aN L m row=(EZ (DV L m.ax) (c8 m row),true):=by
 have b:=Lf (n:=n) (aN:=aN) (I7 q) A
 have a:aR n aN m row=([m.ax],true):=by
  rw[b]at q⊢;split at q
  ·cases q
  ·rename_i a;rw[if_neg a];split at q
   ·cases q
   ·rename_i c;rw[if_neg c]
 refine⟨by rw[a],?_⟩;unfold lg;rw[a,if_pos rfl];show(Kh (ai1 16) (rW L m row m.ax),true)=_;rw[YM];unfold rW Ah Cz;rw[if_neg A,if_neg A]
set_option maxHeartbeats 400000 in
theorem FO{c:Cf}{m:Ms}{row:List Bool}{L:List Vd}(f:Du c)(G:ak 2 h c.vals (jI L))(Z:∀v∈L,v.key.length<=64)(e:ak 1 h m.bits (aP row))(hl:row.length<500)(am:jC m)
 (H:∀X,Ext h X->R (ajc [.bytes 16 (lg c.vals.len c.aN L m row).1,.bool (lg c.vals.len c.aN L m row).2]).val X):Cl 155 [c.tv,m.tv] h R:=by
 apply yE c.vals c.ep c.aN c.no c.eu c.ew c.quo c.pe c.gY c.win c.bD c.dec m.kind m.slot m.target m.ax m.body m.bits m.tag;delta fK dZ iz dh Oi cV dW pV jT dL fJ aJ bN;have lv:L.length=c.vals.len:=by have:=G.len;rwa [aiY]at this
 have f4:=f.len;refine af λh1 v1 z s1=>af λh2 A r s2=>af λY v3 I s3=>?_;have v1:Var 24 Y h.size c.tv:=(Var.ext (t:=c.tv) v1 r).ext I;have A:Var 58 Y h1.size m.tv:=Var.ext (t:=m.tv) A I;have ab:=(z.trans r).trans I;refine ri v1 (aZ A (tF f (e.ext ab) ω λJ s4 K B _=>⟨_,_,rfl,?_⟩));have o:=ab.trans B;have w1:=v1.ext B;have s:=A.ext B;have M:=v3.ext B;refine ajg (λd=>?_) λd=>?_
 ·have q:lg c.vals.len c.aN L m row=(ai1 16,false):=by
   unfold lg;rw[if_neg (by simpa using d)]
  refine av M (t:=.bytes 16 (ai1 16)) rfl rfl λN v5 f5 s5=>⟨_,v5.bytes,?_⟩;have:=H N (ai0 o f5 λi hi=>by have:=z.size;have:=r.size;omega);rw[q]at this;exact this
 have d:(aR c.vals.len c.aN m row).2=true:=by simpa using d
 have ao:=kV (I7 d);refine⟨_,s.at.1,ajg (λg=>?_) λg=>?_⟩
 ·have g:m.kind≠3:=by simpa using g
  obtain⟨ap,q⟩:=VH (L:=L) d g;have O:0<=m.ax/\m.ax<c.vals.len:=mem_range (E1 (x:=m.ax) (by rw[ap];exact List.mem_singleton.2 rfl));refine⟨c.vals,w1.at.1,_,s.at.2.2.2.1,?_⟩;refine(G.ext o).read O.1 ω λar tv aw u P=>?_;rw[ai4]at u;obtain⟨b,w,rfl⟩:=ajK.1 u;have Q:DV L m.ax=b.key:=by unfold DV;rw[ajR,w];rfl
  have S:=Z b (ajf w);refine⟨b.key,P.2,aZ s ?_⟩;have ac:=mT m row;refine nA (e.ext o) hl ao am λN a=>⟨_,rfl,a,FN S ω λh6 k=>⟨_,rfl,?_⟩⟩;have ad:=a.trans k;refine av (M.ext ad) (t:=.bytes 16 (EZ b.key (c8 m row))) rfl uo λD U f7 s7=>⟨_,U.bytes,?_⟩;have:=H D (ai0 (o.trans ad) f7 λj hj=>by have:=z.size;have:=r.size;omega);rw[q,Q]at this;exact this
 ·have g:m.kind=3:=by simpa using g
  have q:lg c.vals.len c.aN L m row=(eH ((aR c.vals.len c.aN m row).1.map (rW L m row)) (ai1 16),true):=by
   unfold lg;rw[if_pos d]
  have ae:∀x∈(aR c.vals.len c.aN m row).1,0<=x/\x<c.vals.len:=λx E=>mem_range (E1 E);have aE:=qz (n:=c.vals.len) (aN:=c.aN) (m:=m) (row:=row);generalize(aR c.vals.len c.aN m row).1=l at K q ae aE;have el:=jA K
  refine⟨λσ hh=>0<=σ.2/\σ.2<=s4.len/\Own 56 16 hh σ.1 (tags ((l.take σ.2.toNat).map (rW L m row)))/\(∀p,σ.1.a=some p->J.size<=p.b)/\Ext J hh,λσ _=>((s4.len:Int)-σ.2).toNat,
   ⟨ai8 0,Ω,ajt _ _ _,(λp y=>by cases y),ai3 _⟩,?_⟩
  rintro⟨t,i⟩ N ⟨i0,i1,F,V,a⟩;dsimp only at i0 i1 F V a⊢;refine ID (λhi=>?_) λhi=>?_
  ·refine gX (K.ext a) i0 ω λx E=>?_;have O:=ae x (ajf E);refine⟨c.vals,(w1.ext a).at.1,?_⟩;refine((G.ext o).ext a).read O.1 ω λar tv aw u P=>?_;rw[ai4]at u;obtain⟨b,w,rfl⟩:=ajK.1 u;have Q:DV L x=b.key:=by unfold DV;rw[ajR,w];rfl
   have S:=Z b (ajf w);refine⟨b.key,P.2,_,(s.ext a).at.2.1,_,(s.ext a).at.2.2.1,?_⟩;have ac:(c8 ⟨2,m.slot,m.target,x,0,aiX,ai1 16⟩ []).length<=60+([]:List Bool).length:=mT _ _;refine Dx λh6 k=>⟨_,rfl,k,?_⟩;refine FN S (by simp only[List.length_nil]at ac;omega) λD x7=>⟨_,rfl,?_⟩;have a0:EZ b.key (c8 (om m x) [])=rW L m row x:=by rw[YU L row g,Q]
   have W:=k.trans x7;have o8:=F.ext W;have tl:=o8.len;rw[aiY,aiY,ajn]at tl;refine cz (C:=ctx) (T:=56) (sz:=16) (x:=.bytes 16 (EZ b.key (c8 (om m x) []))) Yr Tx (by rw[GJ];decide) (by rw[GJ];omega) o8 b16 bpl λs9 h9 o9 f9 b9=>?_;rw[wrap_i64 (n:=i+1) ω ω];have x9:Ext J h9:=ai0 (a.trans W) f9 λj⟨p,y,hj⟩=>by have:=V p y;omega
   have z8:=(a.trans W).size;refine⟨⟨ω,ω,?_,λp y=>?_,x9⟩,Ω⟩
   ·rw[show(i+1).toNat=i.toNat+1 by omega,bq E,ajq,ajD,ajN,<-a0];simpa[tags]using o9
   ·rcases b9 p y with⟨p',al,a3⟩|al
    ·have:=V p' al;omega
    ·omega
  ·have a1:l.take i.toNat=l:=aj4 ω;rw[a1]at F;refine Nb F.elems (by rw[aiY];omega) λh6 k=>⟨_,rfl,?_⟩;have a2:=(o.trans a).trans k;refine av ((M.ext a).ext k) (t:=.bytes 16 (eH (l.map (rW L m row)) (ai1 16))) rfl rfl λD U f7 s7=>⟨_,U.bytes,?_⟩;have:=H D (ai0 a2 f7 λj hj=>by have:=z.size;have:=r.size;omega);rw[q]at this;exact this
theorem JM{c:Cf}{m:Ms}{row:List Bool}{L:List Vd}(f:Du c)(q:ak 2 h c.vals (jI L))(A:∀v∈L,v.key.length<=64)(e:ak 1 h m.bits (aP row))(B:row.length<500)(E:jC m)
 (G:∀j,Ext h j->R (ajy (jE c.vals.len c.aN L m row)).val j):Cl 185 [c.tv,m.tv] h R:=by
 apply uW c.vals c.ep c.aN c.no c.eu c.ew c.quo c.pe c.gY c.win c.bD c.dec m.kind m.slot m.target m.ax m.body m.bits m.tag;delta dh SL bO dW pV mN;refine af λr v1 s C=>af λk b l D=>?_;have v1:Var 24 k h.size c.tv:=Var.ext (t:=c.tv) v1 l;have b:Var 58 k r.size m.tv:=b;have d:=s.trans l;refine ri v1 (aZ b (FO f (q.ext d) A (e.ext d) B E λu n=>⟨_,_,rfl,?_⟩));refine af λF v4 w H=>av v4 (t:=.bytes 16 (lg c.vals.len c.aN L m row).1) rfl rfl λo x f5 I=>?_;have p:Ext u o:=ai0 w f5 λi J=>ω;have y:=(d.trans n).trans p;have a:=G o y;unfold jE at a;refine ajg (λg=>?_) λg=>?_
 ·rw[g,ajG]at a;have z:=(b.ext n).ext p;exact⟨_,x.bytes,m.tag,z.at.2.2.2.2.2.2,a⟩
 ·rw[g,aj7]at a;exact a
theorem I9{c:Cf}{m:Ms}{row:List Bool}(f:Du c)(e:ak 1 h m.bits (aP row))(hl:row.length<500)
 (A:∀u v,ak 34 u v (EG (jb c.vals.len c.aN m row))->Ext h u->(∀p,v.a=some p->h.size<=p.b)->R (ajE v).val u):Cl 111 [c.tv,m.tv] h R:=by
 apply uX c.vals c.ep c.aN c.no c.eu c.ew c.quo c.pe c.gY c.win c.bD c.dec m.kind m.slot m.target m.ax m.body m.bits m.tag;delta dh SM zn cV dW pW jT dL fJ aJ bN;have f4:=f.len;refine af λL v1 M s1=>af λz q B s2=>?_;have v1:Var 24 z h.size c.tv:=Var.ext (t:=c.tv) v1 B;have q:Var 58 z L.size m.tv:=q;have D:=M.trans B;refine ri v1 (aZ q (tF f (e.ext D) ω λg E w F _=>⟨_,_,rfl,?_⟩));have r:=D.trans F;have G:=q.ext F;intro J N;refine ajg (λk=>?_) λk=>⟨_,G.at.1,ID (λy=>?_) λy=>N _ _ ?_⟩
 ·have b:jb c.vals.len c.aN m row=[]:=if_pos (.inl (by simpa using k));exact A g aiX (by rw[b];exact ak.y_ _ _) r (λp a=>by cases a)
 ·have b:jb c.vals.len c.aN m row=[]:=if_pos (.inr y);exact A g aiX (by rw[b];exact ak.y_ _ _) r (λp a=>by cases a)
 ·have k:(aR c.vals.len c.aN m row).2=true:=by simpa using k
  have b:jb c.vals.len c.aN m row=(aR c.vals.len c.aN m row).1.map λi=>⟨i,m.slot,m.target⟩:=if_neg (by rw[k];rintro(h|h);cases h;exact y h);have O:=qz (n:=c.vals.len) (aN:=c.aN) (m:=m) (row:=row);generalize(aR c.vals.len c.aN m row).1=l at w b O;have el:=jA w
  refine⟨λσ H=>0<=σ.2/\σ.2<=E.len/\Own 124 34 H σ.1 (EG ((l.take σ.2.toNat).map λi=>⟨i,m.slot,m.target⟩))/\(∀p,σ.1.a=some p->g.size<=p.b)/\Ext g H,λσ _=>((E.len:Int)-σ.2).toNat,
   ⟨ai8 0,Ω,ajt _ _ _,(λp a=>by cases a),ai3 _⟩,?_⟩
  rintro⟨t,i⟩ P ⟨I,Q,o,s,d⟩;dsimp only at I Q o s d⊢;refine ID (λS=>?_) λS=>?_
  ·refine gX (w.ext d) I ω λx U=>?_;have w5:=G.ext d;refine⟨_,w5.at.2.1,_,w5.at.2.2.1,?_⟩;have V:=o.len;rw[aiY,aiY,ajn]at V;refine cz (C:=ctx) (T:=124) (sz:=34) (x:=Vt.tv ⟨x,m.slot,m.target⟩) Yu Ty (by rw[DW];decide) (by rw[DW];omega) o (Vt.size _) (Vt.plain _) λs9 W X f9 Y=>?_;rw[wrap_i64 (n:=i+1) ω ω];have Z:Ext g W:=ai0 d f9 λj⟨p,a,hj⟩=>by have:=s p a;omega
   have z5:=d.size;refine⟨⟨ω,ω,?_,λp a=>?_,Z⟩,Ω⟩
   ·rw[show(i+1).toNat=i.toNat+1 by omega,bq U,ajq];simpa[EG]using X
   ·rcases Y p a with⟨p',K,ac⟩|K
    ·have:=s p' K;omega
    ·omega
  ·have ab:l.take i.toNat=l:=aj4 ω;rw[ab]at o;exact A P t (by rw[b];exact o.elems) (r.trans d) λp a=>ajj r.size (s p a)
end
end Board
namespace Gate
open Board (Vd Cf Ms Dm Du jI av aP aU dM bT aZ eZ ck fO ov)
open Pool (It oc RL eC jV Im rts fW mZ has)
theorem D4{c:Cf}{V:List Vd}(k:Can c V)(h:V.length=c.vals.len):Du c:=⟨k.aN.1,by have:=k.aN.2.2;omega,k.aN.2.1,by have:=k.len.2;omega⟩
theorem If.no'{b:Bool}{P Q:Prop}(h:b=false)(q:Q):If b P Q:=by rw[h];exact aja q
theorem If.aeA{b:Bool}{P Q:Prop}(h:b=true)(q:P):If b P Q:=by rw[h];exact ajh q
section
variable{R:Rq}{h h':aa}{g:Nat}{a:YK}{c:Cf}{V:List Vd}{s:St}{Fp:Nat->Nat->Prop}
theorem aS.tok(p:aS h g a c V s Fp):Cb s.N c.no:=by obtain⟨A,B,D,b,d⟩:=p.tree;exact b.ok
theorem aS.el(p:aS h g a c V s Fp):V.length=c.vals.len:=by have:=p.vals.len;rwa [aiY]at this
theorem PV(p:aS h g a c V s Fp){k:Nat}(M:Kept c s k)(hk:k<100000){peer:Int}{text:LU}(ht:text.length<1000)
 (O:∀h' Fp',aS h' g a c V (bG c V s peer text).2 Fp'->Step (cO Fp) h (cO Fp') h'->R (TV.i (bG c V s peer text).1).val h'):
 Cl 120 [.ptr (PT g),.i peer,.str text] h R:=by
 apply pJ;delta iR dZ sq jx aD gT nT Be Bd c7 dW dw jS c4 bu dO aJ fU bK bN aT bh;have kl:=M.left;have kn:=M.now;have cw:=Clock.AZ c.win;have cp:=p.can.pe;have ci:=p.good.2;have el:=p.el;have a4:=D4 p.can el;have keys:=uz p.can;have cj:=p.can.len;have a5:=p.tok
 have f:bG c V s peer text=if decide (Peers.score s.sc peer<=-c.bD)=true then(3,s)else if c.gY<text.length then(4,s)else match dM text with
  |none=>(5,s)
  |some d=>if dQ c V s (d.ms aiX) d.row≠0 then(dQ c V s (d.ms aiX) d.row,s)
   else if d.kind=1 then fk c s peer (d.ms aiX) d.row text
   else((fW FJ c.ew c.quo peer text s.wait).1,{s with wait:=(fW FJ c.ew c.quo peer text s.wait).2.2}):=rfl
 generalize bG c V s peer text=bt at f O
 have F:∀(n:aa)(v:Int),bt=(v,s)->Ext h n->R (TV.i v).val n:=λn v e x=>by
  subst e;exact O n Fp (p.ext x) (.an x)
 obtain⟨ti,ba,D⟩:=p.var;obtain⟨wA,wB,wp,hW⟩:=p.who;refine⟨_,D.ah rfl,Peers.M8 wp ω (Peers.AX p.good.1) ⟨_,rfl,?_⟩⟩;rw[show decide (c.bD<=-Peers.score s.sc peer)=decide (Peers.score s.sc peer<=-c.bD)from decide_eq_decide.2 ⟨λh=>ω,λh=>ω⟩];refine ajg (λj=>F h 3 (by rw[f,if_pos j]) (ai3 _)) λj=>?_;rw[if_neg (by rw[j];decide)]at f;refine⟨c.gY,D.ah rfl,ID (λA=>F h 4 (by rw[f,if_pos A]) (ai3 _)) λA=>?_⟩;rw[if_neg A]at f;refine fO ht (λbx Y x2=>?_) λd Y b N e2 x2 _=>?_
 ·rw[bx]at f;refine⟨_,_,_,_,_,_,_,_,rfl,af λh3 v3 x3 s3=>av (t0:=aU.tv) v3 (t:=aU.tv) ck eZ λA v4 f4 s4=>?_⟩;exact ajh (F A 5 f (x2.trans (ai0 x3 f4 λi B=>ai5 (ai7 B))))
 rw[N]at f;simp only at f;refine⟨_,_,_,_,_,_,_,_,rfl,af λh3 v3 x3 s3=>av (t0:=aU.tv) v3 (t:=(d.ms b).tv) ck eZ λA v4 f4 s4=>?_⟩;have a6:Ext Y A:=ai0 x3 f4 λi B=>ai5 (ai7 B);have x4:Ext h A:=x2.trans a6;have v4:Var 58 A Y.size (d.ms b).tv:=v4;have e4:=e2.ext a6;have a7:=mZ N;have b0:=Board.kV (ov N);have a8:=Pool.Ip N b;refine aja (aZ (m:=d.ms b) v4 (Board.cr (m:=d.ms b) e4 a7 b0 a8 λh5 x5=>⟨_,rfl,?_⟩));refine af λh6 v6 x6 s6=>av (t:=.bytes 32 (bT (d.ms b) d.row)) v6 jV.symm (jV.trans jV.symm) λG v7 f7 s7=>?_;have b1:Ext h5 G:=ai0 x6 f7 λi B=>ai5 (ai7 B);have ao:=x5.trans b1;have Z:=x4.trans ao;obtain⟨name,ap⟩:∃name,name=bT (d.ms b) d.row:=⟨_,rfl⟩;rw[<-ap]at v7;have b2:bT (d.ms aiX) d.row=name:=by rw[ap];exact E4.symm
 have H:=v4.ext ao;obtain⟨w,hw⟩:∃w,w=dQ c V s (d.ms aiX) d.row:=⟨_,rfl⟩
 have l:w=if kL c s d.kind d.slot=false then 6 else if(Board.aR V.length c.aN (d.ms b) d.row).2=false then 7 else if Board.jE V.length c.aN V (d.ms b) d.row=false then 8 else if kN s d.kind name=true then 9 else 0:=by
  rw[hw,<-IV (b:=b)];unfold dQ;rw[<-ap];rfl
 rw[<-hw]at f;have stop:∀(n:aa)(v:Int),w=v->v≠0->Ext h n->R (TV.i v).val n:=λn v e hv x=>F n v (by rw[f,if_pos (by rw[e];exact hv),e]) x;intro J HJ
 have a9:∀(n:aa)(z:Int),Ext G n->¬kL c s d.kind d.slot=false->J z n:=by
  intro n z xh ha;refine HJ z n ?_;rw[if_neg ha]at l;have xx:=Z.trans xh;have ph:=p.ext xx;have vh:Var 58 n Y.size (d.ms b).tv:=H.ext xh;have eh:=e4.ext (ao.trans xh);obtain⟨ti,ba,D⟩:=ph.var;refine⟨c.vals,c.ep,c.aN,c.no,c.eu,c.ew,c.quo,c.pe,c.gY,c.win,c.bD,c.dec,D.at.1,aZ (m:=d.ms b) vh ?_⟩;refine Board.tF (c:=c) a4 eh ω λh8 s8 _ I _=>⟨_,_,rfl,?_⟩;rw[<-el];refine ajg (λj=>stop h8 7 (by rw[l,if_pos (by simpa using j)]) δ (xx.trans I)) λj=>?_;have a2:¬(Board.aR V.length c.aN (d.ms b) d.row).2=false:=by simpa using j
  rw[if_neg a2]at l;have a':=xx.trans I;refine⟨c.vals,c.ep,c.aN,c.no,c.eu,c.ew,c.quo,c.pe,c.gY,c.win,c.bD,c.dec,(D.ext I).at.1,aZ (m:=d.ms b) (vh.ext I) ?_⟩;refine Board.JM (c:=c) (L:=V) a4 (p.ext a').vals (λv hv=>by have:=keys v hv;omega) (eh.ext I) a7 a8 λh9 x9=>⟨_,rfl,?_⟩;rw[<-el];have ab:=a'.trans x9;have ar:=I.trans x9;refine ajg (λj=>stop h9 8 (by rw[l,if_pos (by simpa using j)]) δ ab) λj=>?_;have a3:¬Board.jE V.length c.aN V (d.ms b) d.row=false:=by simpa using j
  rw[if_neg a3]at l;have p9:=p.ext ab;have vh9:=vh.ext ar;have ac:Var 52 h9 h5.size (.bytes 32 name):=(v7.ext xh).ext ar;have P:=D.ext ar;clear D;refine⟨d.kind,vh9.at.1,?_⟩;rcases(Decidable.em (d.kind=1)).symm with y|y
  ·rw[decide_eq_false y];have aw:kN s d.kind name=has name s.wait:=by unfold kN;rw[if_neg y]
   rw[aw]at l;obtain⟨cl,bb,b3⟩:=p9.wait;refine ajh ⟨_,P.ah rfl,name,ac.bytes,Pool.EP bb λad C=>⟨_,rfl,?_⟩⟩;have xx10:=ab.trans C;refine ajg (λj=>stop ad 9 (by rw[l,if_pos j]) δ xx10) λj=>?_;rw[if_neg (by rw[j];decide)]at l;rw[if_neg (by rw[l];decide),if_neg y]at f;subst f;refine⟨_,(P.ext C).ah rfl,Pool.MN (peer:=peer) (text:=text) (bb.ext C) p.can.ew.1 p.can.ew.2 M.An ht λQ bc b5 b6=>⟨_,_,rfl,?_⟩⟩;have st:Step (Fp 4) ad (λi=>i=a.wt\/In bc i) Q:=by rw[b3];exact uU b6
   have aE:=(p.ext xx10).Ai ⟨bc,b5,rfl⟩ st;refine af λae b7 o s12=>av (t:=.bytes 32 _) b7 jV.symm (jV.trans jV.symm) λE cs f13 ct=>?_;have bd:Ext Q E:=ai0 o f13 λi B=>ai5 (ai7 B);exact O E _ (aE.ext bd) (.cut xx10 ((ajd st).trans (.an bd)))
  ·rw[decide_eq_true y];have aw:kN s d.kind name=(decide (0<=place name s.N)||has name s.kids):=by unfold kN;rw[if_pos y]
   rw[aw]at l;refine aja ?_;intro J2 bi;obtain⟨tA,tB,tD,S,hT⟩:=p9.tree;refine⟨_,P.ah rfl,_,p9.bk.ah rfl,name,ac.bytes,fA S λad C=>⟨_,rfl,?_⟩⟩;have xx10:=ab.trans C;refine ID (λh0=>stop ad 9 (by rw[l,if_pos (by rw[decide_eq_true h0,Bool.true_or])]) δ xx10) λh0=>?_;rw[decide_eq_false h0,Bool.false_or]at l;obtain⟨kA,bj,hK⟩:=p9.kids;refine⟨_,(P.ext C).ah rfl,name,(ac.ext C).bytes,Pool.EP (bj.ext C) λQ bk=>⟨_,rfl,?_⟩⟩;have a0:=xx10.trans bk;refine ajg (λj=>stop Q 9 (by rw[l,if_pos j]) δ a0) λj=>bi _ Q ?_;rw[if_neg (by rw[j];decide)]at l;rw[if_neg (by rw[l];decide),if_pos y]at f;clear bi J2;have T:=C.trans bk;have bl:=P.ext T;have aE:=p.ext a0;have al:=vh9.ext T;have b8:=ac.ext T;have K:=S.ext T;unfold fk at f;rw[b2]at f;have b9:(d.ms aiX).target=d.target:=rfl;have b':(d.ms aiX).slot=d.slot:=rfl;rw[b9,b']at f;refine⟨_,bl.ah rfl,_,aE.bk.ah rfl,d.target,al.at.2.2.1,fA K λae o=>⟨_,rfl,?_⟩⟩;have U:=a0.trans o;have W:=p.ext U;have am:=bl.ext o;refine ID (λhn=>?_) λhy=>?_
   ·have en:(dm s.N (place d.target s.N)).2=false:=by unfold dm nodeAt;rw[if_neg ω]
    rw[if_pos en]at f;subst f;refine⟨_,am.ah rfl,Pool.MM (peer:=peer) (text:=text) ((bj.ext T).ext o) p.can.eu.1 p.can.eu.2 M.By ht λE bm ca cc=>⟨_,_,rfl,?_⟩⟩;have st:Step (Fp 3) ae (λi=>i=a.kd\/In bm i) E:=by rw[hK];exact uU cc
    have a1:=W.ru ⟨bm,ca,rfl⟩ st;refine af λh14 cd ce cx=>av (t:=.bytes 32 _) cd jV.symm (jV.trans jV.symm) λbo cy f15 cA=>?_;have bp:Ext E bo:=ai0 ce f15 λi B=>ai5 (ai7 B);exact O bo _ (a1.ext bp) (.cut U ((ajd st).trans (.an bp)))
   ·obtain⟨q,u,q1,q2,q3,q4,q5⟩:=fB (r:=d.target) (L:=s.N) ω;have br:s.N[(place d.target s.N).toNat]? =some u:=by rw[q2,ajb];exact q3
    have en:dm s.N (place d.target s.N)=(u,true):=gW ω br;rw[en]at f;rw[if_neg (λh=>by cases h)]at f;refine⟨_,am.ah rfl,_,W.bk.ah rfl,tB,(K.ext o).var.ah rfl,zZ (K.ext o).b.elems ω (AU br) ⟨d.slot,(al.ext o).at.2.1,?_⟩⟩;refine ID (λhs=>?_) λhs=>?_
    ·rw[if_pos hs]at f;exact F ae 10 f U
    ·rw[if_neg hs]at f;refine⟨_,am.ah rfl,_,W.bk.ah rfl,tA,(K.ext o).var.ah rfl,_,am.ah rfl,_,W.bk.ah rfl,c.no,(K.ext o).var.ah rfl,?_⟩;have tl:=(K.ext o).la;have ol:=a5.len;refine ID (λhf=>?_) λhf=>?_
     ·rw[if_pos ω]at f;exact F ae 13 f U
     ·rw[if_neg ω]at f;subst f;have ko:=M.By;have co:=p.can.eu;refine⟨name,(b8.ext o).bytes,d.target,(al.ext o).at.2.2.1,d.slot,(al.ext o).at.2.1,PR W ω ω λE cf a1 ch=>⟨rfl,O E cf a1 (.cut U ch)⟩⟩
 have X:=p.ext Z;obtain⟨cB,cC,vg7⟩:=X.var;have slot:=Board.VA (ov N);have cI:0<=d.slot/\d.slot<=1073741824:=slot;refine⟨d.kind,H.at.1,ID (λy=>?_) λy=>?_⟩
 ·obtain⟨tA,tB,tD,S,hT⟩:=X.tree;have l0:=a5.QD;obtain⟨u,hu⟩:∃u,s.N[(0:Int).toNat]? =some u:=⟨_,ai2 l0⟩;have ef:iL s=u:=by unfold iL;rw[gW (ai8 0) hu]
  have ea:kL c s d.kind d.slot=Clock.Cs s.now u.slot d.slot:=by unfold kL;rw[if_pos y,ef]
  refine⟨_,vg7.ah rfl,_,vg7.ah rfl,_,X.bk.ah rfl,tB,S.var.ah rfl,zZ S.b.elems (ai8 0) (AU hu) ⟨d.slot,H.at.2.1,Clock.Pm X.jL ⟨_,rfl,?_⟩⟩⟩;rw[<-ea];refine ajg (λj=>stop G 6 (by rw[l,if_pos (by simpa using j)]) δ Z) λj=>?_;exact⟨d.kind,H.at.1,If.no' (by rw[decide_eq_true y];rfl) (a9 G 0 (ai3 _) (by simpa using j))⟩
 ·have ea:kL c s d.kind d.slot=Clock.xO s.now (Clock.eD c.win) d.slot:=by unfold kL;rw[if_neg y]
  refine⟨d.kind,H.at.1,If.aeA (by rw[decide_eq_false y];rfl) ⟨_,vg7.ah rfl,d.slot,H.at.2.1,Clock.Rw X.jL kn.1 kn.2 cw.1 cw.2 ω ⟨_,rfl,?_⟩⟩⟩;rw[<-ea];refine ajg (λj=>stop G 6 (by rw[l,if_pos (by simpa using j)]) δ Z) λj=>?_;exact a9 G 0 (ai3 _) (by simpa using j)
theorem Ng{v:Int}(q:0<=v/\v<14)(A:∀h',Ext h h'->R (TV.i (iM v)).val h'):Cl 56 [.i v] h R:=by
 apply tG;delta aT bh;have a:=ajl h (row (aiZ [TV.i 0,TV.i 0,TV.i 0,TV.i 0,TV.i 4,TV.i 4,TV.i 1,TV.i 3,TV.i 5,TV.i 1,TV.i 3,TV.i 0,TV.i 0,TV.i 0]) 3)
 have o:=(Vc.Own.new (T:=3) (sz:=1) h (dX [0,0,0,0,4,4,1,3,5,1,3,0,0,0]) λt b=>by
  obtain⟨x,_,rfl⟩:=aje.1 b;rfl).elems
 have c:[(0:Int),0,0,0,4,4,1,3,5,1,3,0,0,0][v.toNat]? =some (iM v):=by
  have:∀n:Nat,n<14->[(0:Int),0,0,0,4,4,1,3,5,1,3,0,0,0][n]? =some (iM (n:Int)):=δ;have:=this v.toNat ω
  rwa [show((v.toNat:Nat):Int)=v by omega]at this
 obtain⟨d,f,e⟩:=zZ o q.1 c (K:=λn=>R (TV.val (.i n)) _) (A _ a);exact⟨d,q.2,e⟩
theorem YV{peer:Int}{text:LU}:0<=(bG c V s peer text).1/\(bG c V s peer text).1<14:=by
 have a:∀{want:Int->Bool}{most quota:Int}{S:List It},0<=(fW want most quota peer text S).1/\(fW want most quota peer text S).1<14:=by
  intro want most quota S;unfold fW Pool.cD
  repeat' split
  all_goals (dsimp only;omega)
 unfold bG;split
 ·dsimp only;omega
 split
 ·dsimp only;omega
 split
 ·dsimp only;omega
 split
 ·unfold dQ
  repeat' split
  all_goals (dsimp only;omega)
 split
 ·unfold fk;split
  ·exact a
  split
  ·dsimp only;omega
  split
  ·dsimp only;omega
  ·dsimp only;omega
 ·exact a
theorem PW{P P':List (Int×Int)}{most k pts n:Int}(g:Peers.Good P)(q:(P.length:Int)<=most)(A:(Lit.int .i64 k).wf=true)(f:Peers.m_ most P k pts P' n):Peers.Good P'/\(P'.length:Int)<=most:=by
 rcases f with⟨_,rfl,_⟩|⟨a,b,_,rfl⟩|⟨a,_,_,_,w,c,rfl⟩
 ·exact⟨g,q⟩
 ·refine⟨g.put A (Peers.Af (Peers.AX g k) a),?_⟩;rw[Peers.Cr];split
  ·exact q
  ·rename_i d;rcases b with h|h
   ·exact absurd h d
   ·omega
 ·have e:=Peers.drop_length c.1;refine⟨(g.drop w).put A (Peers.Af ⟨δ,ai8 0⟩ a),?_⟩;rw[Peers.Cr];split<;>omega
theorem JO(p:aS h g a c V s Fp){k:Nat}(E:Kept c s k)(U:k<100000){peer:Int}(G:(Lit.int .i64 peer).wf=true){text:LU}(H:text.length<1000)
 (I:∀h' P n C,aS h' g a c V {(bG c V s peer text).2 with sc:=P,gone:=s.gone+n} C->Step (cO Fp) h (cO C) h'->Peers.m_ c.pe s.sc peer (iM (bG c V s peer text).1) P n->R (TV.i (bG c V s peer text).1).val h'):
 Cl 43 [.ptr (PT g),.i peer,.str text] h R:=by
 apply nh;delta sq dw aT;have kg:=E.gone;have W:=p.can.pe;have y:=p.good;obtain⟨_,j1,D,_,_⟩:=wZ (V:=V) E (peer:=peer) H;have j14:=YV (c:=c) (V:=V) (s:=s) (peer:=peer) (text:=text);generalize X:bG c V s peer text=m at I j1 D j14;refine PV p E U H λh1 F u Y=>?_;rw[X]at u⊢;obtain⟨J,K,o⟩:=u.var;obtain⟨A,B,L,Z⟩:=u.who;refine⟨_,rfl,_,o.ah rfl,Ng j14 λh2 w=>⟨_,rfl,w,?_⟩⟩;rw[j1,D]at L;refine Peers.RX Peers.TE (L.ext w) ω y.1 G ω W.1 λq A' B' P n M ab N=>⟨rfl,?_⟩
 have st:Step (F 5) h2 (Peers.dD a.wh A' B') q:=by
  rw[Z];exact⟨N.1,N.2⟩
 have gd:=PW y.1 y.2 G M;have x:=(u.ext w).DX (P:=P) (gone:=s.gone+n) ⟨A',B',ab,rfl⟩ gd st;have O:=(Y.trans (.an w)).trans (ajd st);obtain⟨z,ac⟩:∃z,z=mK F 5 (Peers.dD a.wh A' B'):=⟨_,rfl⟩;rw[<-ac]at x O
 have Q:∀(d:aa)(e l:Bool),Var 80 d g (xl c a m.2.left e l)->ag (·=g) q d->R (TV.i m.1).val d:=λd e l v f=>by
  obtain⟨p4,ad⟩:=x.TF (n:=m.2.left) ⟨e,l,v⟩ f;exact I d P n z p4 (O.trans ad) M
 obtain⟨J,K,o⟩:=x.var;obtain⟨A3,B3,ae,_⟩:=x.who;intro S HJ
 have j:∀(d:aa)(e l:Bool),Var 80 d g (xl c a m.2.left e l)->ag (·=g) q d->S aj3 d:=λd e l v f=>by
  refine HJ _ d ⟨_,v.ah rfl,?_⟩;cases l with
  |true=>exact ajh (aF v (i:=8) (t:=.bool true) rfl rfl rfl rfl λr v4 f4 T=>Q r e _ v4 (f.trans f4))
  |false=>exact aja (aF v (i:=8) (t:=.bool (decide (m.1=3))) rfl rfl rfl rfl λr v4 f4 T=>Q r e _ v4 (f.trans f4))
 refine⟨_,o.ah rfl,?_⟩
 have set:∀b:Bool,gi q g 18 1/\Bind (ajC q g 18 (.bool b)) λh=>S aj3 h:=λb=>
  aF o (i:=7) (t:=.bool b) rfl rfl rfl rfl λr v4 f4 T=>j r b K v4 f4
 cases J with
 |true=>exact ajh (set true)
 |false=>exact aja (ID (λ_=>set true) λ_=>If.dec.2 ⟨λ_=>set true,λ_=>⟨_,o.ah rfl,_,ae.var.ah rfl,set _⟩⟩)
end
end Gate
namespace Pool
open Board (Dm Ms dM bT aU aZ av eZ ck aP bq)
theorem Kept.only{n:Nat}{Q:Nat->Prop}{B E:aa}{t:Sl}{bs:List Bk}(K:Kept n B t bs)(f:ag Q B E)(q:∀k∈bs,∀l,k.b.a=some l->¬Q l.b):Kept n E t bs:=λk a=>
 ⟨(K k a).1.only f (q k a),λl b=>⟨((K k a).2 l b).1,by have:=((K k a).2 l b).2.1;have:=f.size;omega,((K k a).2 l b).2.2⟩⟩
section
variable{R:Rq}{h:aa}{m:Nat}{A:Sl}{M:List It}{most quota:Int}
set_option maxHeartbeats 1000000 in
theorem Nh(r:RL h m A M most quota)(ht:∀x∈M,x.text.length<1000){n:Int}
 (hr:∀E A' t(bs:List Bk),RL E m A' (M.filter λx=>!decide (x.slot<n)) most quota->eC m A h A' E->bs.map Bk.of=(M.filter λx=>decide (x.slot<n)).map (λx=>(x.root,j9 x.text))->Own 58 53 E t (bs.map Bk.U5)->Kept h.size E t bs->(∀l,t.a=some l->h.size<=l.b)->R (ajE t).val E):
 Cl 110 [.ptr (PT m),.i n] h R:=by
 apply xz;delta aI jx ue dW dL bN;have al:=r.jk;have hm:=r.var.lt;have el:=r.el.len;rw[aiY]at el;refine⟨A,r.var.ah rfl,?_⟩
 refine⟨λσ F=>0<=σ.2.2/\σ.2.2<=M.length/\Ext h F/\(∀l,σ.1.a=some l->h.size<=l.b)/\(∀l,σ.2.1.a=some l->h.size<=l.b)/\(∀i,In σ.1 i->¬In σ.2.1 i)/\
  (∃bs:List Bk,bs.map Bk.of=((M.take σ.2.2.toNat).filter λx=>decide (x.slot<n)).map (λx=>(x.root,j9 x.text))/\Own 58 53 F σ.1 (bs.map Bk.U5)/\Kept h.size F σ.1 bs/\∀k∈bs,∀l,k.b.a=some l->¬In σ.2.1 l.b)/\
  Own 82 67 F σ.2.1 (oc ((M.take σ.2.2.toNat).filter λx=>!decide (x.slot<n))),
  λσ _=>((M.length:Int)-σ.2.2).toNat,⟨ai8 0,Ω,ai3 _,(λl a=>by cases a),(λl a=>by cases a),(λi⟨l,a,_⟩=>by cases a),⟨[],rfl,ajt _ _ _,Kept.nil _ _ _,(λk c=>by cases c)⟩,ajt _ _ _⟩,?_⟩
 rintro⟨t,u,i⟩ V ⟨W,i1,o,s,v,ap,⟨bs,w,p,y,I⟩,z⟩;dsimp only at W i1 o s v ap w p y I z⊢;have z2:=o.size;refine ID (λe=>?_) λe=>?_
 ·refine gJ (r.el.ext o) W ω λl x _ b=>?_;refine af λX v3 x3 s3=>aH v3 (t:=x.tv) rfl λY v4 f4 s4=>?_;have B:Ext V Y:=ai0 x3 f4 λi e=>ω;have am:=B.size;have J:(i+1).toNat=i.toNat+1:=ω;have L:=kW (λx=>decide (x.slot<n)) b;have N:=kW (λx=>!decide (x.slot<n)) b;have ao:((M.take i.toNat).filter λx=>decide (x.slot<n)).length<=M.length:=ajj (ajr ..) (by rw[ajn];omega);have ar:((M.take i.toNat).filter λx=>!decide (x.slot<n)).length<=M.length:=ajj (ajr ..) (by rw[ajn];omega);refine⟨x.slot,v4.at.1,?_⟩;refine ID (λhb=>?_) λhb=>?_
  ·have G:decide (x.slot<n)=false:=decide_eq_false ω;rw[if_neg (by rw[G];decide),ajT]at L;rw[if_pos (by rw[G];rfl)]at N;refine pZ v4 (Tr (z.ext B) ω λs8 h8 Q f8 D=>?_);rw[wrap_i64 (n:=i+1) ω ω]
   have O:∀i,In s8 i->In u i\/Y.size<=i:=λi⟨l,a,e⟩=>by
    rcases D l a with⟨q,g,S⟩|g
    ·exact .inl ⟨q,g,ω⟩
    ·exact .inr ω
   refine⟨⟨Ω,Ω,ai0 (o.trans B) f8 λj⟨l,a,hj⟩=>by have:=v l a;omega,s,λl a=>?_,λi e b=>?_,⟨bs,?_,?_,(y.ext B).only f8 I,?_⟩,?_⟩,Ω⟩
   ·rcases D l a with⟨q,g,S⟩|g
    ·have:=v q g;omega
    ·omega
   ·rcases O i b with d|d
    ·exact ap i e d
    ·obtain⟨l,a,aw⟩:=e;have:=p.lt l a;omega
   ·try dsimp only
    rw[J,L];exact w
   ·exact(p.ext B).only f8 λl a b=>ap _ ⟨l,a,rfl⟩ b
   ·intro k c l a b;rcases O _ b with d|d
    ·exact I k c l a d
    ·have:=((y k c).2 l a).2.1;omega
   ·try dsimp only
    rw[J,N];exact Q
  ·have G:decide (x.slot<n)=true:=decide_eq_true ω;rw[if_pos G]at L;rw[if_neg (by rw[G];decide),ajT]at N;have ac:=ht x (ajf b);refine⟨x.text,Mz v4,Gf ac λh5 Z ok e5 x5 ab=>⟨_,_,_,_,_,_,_,_,rfl,?_⟩⟩;refine af λh6 v6 x6 s6=>av (t0:=aU.tv) v6 (t:=((j9 x.text).ms Z).tv) ck eZ λh7 v7 f7 s7=>aZ v7 ?_;have U:Ext h5 h7:=ai0 x6 f7 λi e=>ω;have P:=B.trans (x5.trans U);have tl:=p.len;rw[aiY,<-aiY (f:=Bk.of),w,aiY]at tl;obtain⟨k,c⟩:∃k,k=Bk.mk x.root (j9 x.text) Z:=⟨_,rfl⟩;have z5:=x5.size;have aE:=U.size;refine cz (C:=ctx) (T:=58) (sz:=53) (x:=k.U5) X7 Tq (by rw[GF];decide) (by rw[GF];omega) (p.ext P) k.X1 k.X2 (K:=λa0 F=>_) ?_|>λH=>by rw[c]at H;exact H
   intro t8 h8 Q f8 D;rw[wrap_i64 (n:=i+1) ω ω];have K8:=Kept.step (k:=k) y p P z2 (by rw[c];exact e5.ext U) (λl a=>by rw[c]at a;have:=ab l a;omega) f8 D
   have O:∀i,In t8 i->In t i\/h7.size<=i:=λi⟨l,a,e⟩=>by
    rcases D l a with⟨q,g,S⟩|g
    ·exact .inl ⟨q,g,ω⟩
    ·exact .inr ω
   have ul:∀i,In u i->i<V.size:=λi⟨l,a,e⟩=>by have:=z.lt l a;omega
   refine⟨⟨Ω,Ω,ai0 (o.trans P) f8 λj⟨l,a,hj⟩=>by have:=s l a;omega,λl a=>?_,v,λi e b=>?_,⟨bs++[k],?_,?_,K8,?_⟩,?_⟩,Ω⟩
   ·rcases D l a with⟨q,g,S⟩|g
    ·have:=s q g;omega
    ·omega
   ·rcases O i e with d|d
    ·exact ap i d b
    ·have:=ul i b;omega
   ·try dsimp only
    rw[J,L,ajq,ajq,w,c];rfl
   ·rw[ajq];exact Q
   ·intro k' ad l a b;rcases List.mem_append.1 ad with d|d
    ·exact I k' d l a b
    ·rw[List.mem_singleton.1 d,c]at a;have:=ab l a;have:=ul _ b;omega
   ·try dsimp only
    rw[J,N];exact(z.ext P).only f8 λl a b=>ap _ b ⟨l,a,rfl⟩
 ·have ae:i.toNat=M.length:=ω;rw[ae,ajs]at w z;have a1:(M.filter λx=>!decide (x.slot<n)).length<=M.length:=ajr ..;refine Iq (r.ext o) z ω (λl a=>by have:=v l a;omega) λX r3 f3=>?_;exact hr X u t bs r3 ⟨(ajp o).trans f3,λl a=>.inr (v l a)⟩ w (p.only f3 λl a=>by have:=s l a;omega) (y.only f3 λk c l a=>by have:=((y k c).2 l a).1;omega) s
end
end Pool
end Go.Proofs.YtennbinbffdimaaGreat
namespace Go.Vc
open Go
def TJ:Option Nat->Fence
 |none=>Fence.wide
 |some l=>Fence.wide.inRound l
theorem I_(ro:Option Nat)(f:FuncId):(TJ ro).fn f:=by cases ro<;>trivial
theorem E5(ro:Option Nat):(TJ ro).round=ro:=by cases ro<;>rfl
theorem A7(ro:Option Nat){p:Prop}:(TJ ro).depth.isSome=true->p:=by cases ro<;>(intro h;cases h)
theorem R4{ro:Option Nat}{n:Nat}{P:Program}{f:FuncId}{args:Array Value}{w:World}{R:Ending->World->Prop}(h:Calls P f args w R):CallsIn (TJ ro) n P f args w R:=by
 cases ro with
 |none=>exact callsIn_wide.2 h
 |some l=>exact CallsIn.inRound l (callsIn_wide.2 h)
theorem VI{ro:Option Nat}{n:Nat}{P:Program}{row:String}{args:Array Value}{w:World}{R:Value->World->Prop}(h:Rows P row args w R):RowsIn (TJ ro) n P row args w R:=by
 cases ro with
 |none=>exact λc a _=>let⟨v,b,r,s⟩:=h c a;⟨v,b,r,stepsIn_wide.2 s⟩
 |some l=>exact λc a _=>let⟨v,b,r,s⟩:=h c a;⟨v,b,r,stepsIn_wide.2 s⟩
theorem adv{ro:Option Nat}{n:Nat}{P:Program}{o:Oper}{a:Act}{w:World}{next:Act->World->Prop}{Q:Exit->Act->World->Prop}(q:∀c,o.op≠.defer c)(h:o.wp P a w next Q):o.wpIn (TJ ro) n P a w next Q:=by
 refine⟨λf _=>I_ ro f,?_⟩;rw[E5,Oper.semAt_eq ro _ _ q];unfold Oper.wp at h;generalize(execOp a.eval o).run P w=r at h⊢;cases r with
 |ok x b=>
  cases x with
  |enter f args=>exact⟨A7 ro,R4 h⟩
  |row row args=>exact⟨A7 ro,VI h⟩
  |_=>first|exact h|exact h.elim
 |halt x b=>
  cases x with
  |_=>first|exact h|exact h.elim
def qn(env:Env)(a:Act):Prop:=dF env {a with defers:=[]}
theorem qn.put{env:Env}{a:Act}(q:qn env a)(o:Option Tmp){r:Option TV}{v:Value}(A:Rel r v):qn (env.put o r) (a.put o v):=by
 have:=dF.put q o A;unfold qn;cases o<;>exact this
theorem qn.eval{env:Env}{a:Act}(q:qn env a){x:Operand}{tv:TV}(h:env.ev x=some tv):a.eval x=tv.val:=dF.known q h
def Ni(P:Program)(W:World)(ro:Option Nat)(n l:Nat)(args:List Value)(h:aa)(R:Value->aa->Prop):Prop:=
 ∀w:World,w.heap=h->fc false W w->YieldAt (TJ ro) n P l args.toArray w λe a=>fc false w a/\∃v,e=.returned v/\R v a.heap
abbrev YW:=Nat->List Value->aa->(Value->aa->Prop)->Prop
def TK(Y:YW)(C:Ctx)(o:Oper)(ρ:Operand->Option TV)(h:aa)(K:Option TV->aa->Prop):Prop:=match o.op with
 |.call c=>match c.callee with
  |.value f=>match ρ f,allKnown (c.args.toList.map ρ)with
   |some (.one u),some args=>∃l,u.v=.func (.yield l) #[] #[]/\Y l (ajw args) h λv a=>Ex (C.ti o.type).sh λtv=>v=tv.val/\K (some tv) a
   |_,_=>LN C o ρ h K
  |_=>LN C o ρ h K
 |.defer _=>False
 |_=>LN C o ρ h K
def ic(Y:YW)(C:Ctx)(all:List Oper):List Oper->Nat->Env->aa->(Env->aa->Prop)->Prop
 |[],_,env,h,Q=>Q env h
 |o::q,i,env,h,Q=>match tO all o env with
  |some true=>TK Y C o env.ev h λr a=>BW (vu i q) r λA=>ic Y C all q (i+1) (env.put o.dst A) a Q
  |some false=>ic Y C all q (i+1) (env.put o.dst (some (.aX []))) h Q
  |none=>False
section
variable{C:Ctx}
theorem PX{Y:YW}{o:Oper}{ρ:Operand->Option TV}{h:aa}{K:Option TV->aa->Prop}(q:TK Y C o ρ h K):
 ((∀c,o.op≠.defer c)/\LN C o ρ h K)\/∃c f u args l,o.op=.call c/\c.callee=.value f/\ρ f=some (.one u)/\allKnown (c.args.toList.map ρ)=some args/\u.v=.func (.yield l) #[] #[]/\
   Y l (ajw args) h λv e=>Ex (C.ti o.type).sh λtv=>v=tv.val/\K (some tv) e:=by
 unfold TK at q;split at q
 ·rename_i c b;have a:∀c,o.op≠.defer c:=λd a=>by rw[b]at a;cases a
  split at q
  ·rename_i f g;split at q
   ·rename_i u args i j;obtain⟨l,k,m⟩:=q;exact .inr ⟨c,f,u,args,l,b,g,i,j,k,m⟩
   ·exact .inl ⟨a,q⟩
  ·exact .inl ⟨a,q⟩
 ·exact q.elim
 ·rename_i n;exact .inl ⟨λc p=>n c p,q⟩
theorem Lg(E:C.Ok)(G:C.strict=false){W:World}{ro:Option Nat}{n:Nat}{o:Oper}{env:Env}{a:Act}{w:World}(H:fc false W w){K:Option TV->aa->Prop}{next:Act->World->Prop}{Q:Exit->Act->World->Prop}
 (q:TK (Ni C.P W ro (n-1)) C o env.ev w.heap K)(A:qn env a)(B:∀r v g,K r g.heap->Rel r v->fc false w g->next (a.put o.dst v) g):o.wpIn (TJ ro) n C.P a w next Q:=by
 rcases PX q with⟨b,q⟩|⟨c,f,u,args,l,h,i,j,k,m,p⟩
 ·have d:T0 C.strict C.P o {a with defers:=[]} w K:=vl E q A;rw[G]at d;have s:T0 false C.P o a w K:=d;exact adv b (s.wp B)
 ·refine⟨λf _=>I_ ro f,?_⟩;have b:∀c,o.op≠.defer c:=λd b=>by rw[h]at b;cases b
  rw[E5,Oper.semAt_eq ro _ _ b];have t:a.eval f=.func (.yield l) #[] #[]:=by rw[A.eval j];exact m
  have x:c.args.toList.map a.eval=ajw args:=fq _ _ _ k (dF.Ec A c.args.toList);have y:c.args.map a.eval=(ajw args).toArray:=by apply Array.toList_inj.1;simpa using x
  obtain⟨fn,tmps,assign,z,D,F⟩:=p w rfl H
  have I:(execOp a.eval o).run C.P w=.ok (.round l fn tmps assign z) w:=by
   simp only[execOp,h,resolve,i,t,Deferred.ofValue,invoke,y,Sem.run_bind,Sem.run_pure,Result.andThen_ok];simpa using D
  rw[I];refine⟨A7 ro,F.mono λe g⟨J,v,L,M⟩=>?_⟩;subst L;obtain⟨tv,_,N,O⟩:=qB _ _ M;exact B (some tv) v g O (.some N) J
theorem GL(A:C.Ok)(B:C.strict=false){ro:Option Nat}{n:Nat}{all:List Oper}{QQ:Exit->Act->World->Prop}{w0:World}{D:List Deferred}{Q:Env->aa->Prop}
 (E:∀env a w,qn env a->a.defers=D->fc false w0 w->Q env w.heap->QQ .normal a w):
 ∀(q:List Oper)(i:Nat)(env:Env)(a:Act)(w:World),ic (Ni C.P w0 ro (n-1)) C all q i env w.heap Q->qn env a->a.defers=D->fc false w0 w->wpListIn (TJ ro) n C.P all.toArray QQ q a w
 |[],i,env,a,w,b,c,e,d=>E env a w c e d b
 |o::q,i,env,a,w,b,c,e,d=>by
  have h:∀v,(a.put o.dst v).defers=D:=λv=>by cases o.dst<;>exact e
  simp only[ic]at b;unfold wpListIn;split at b
  ·rename_i g;rw[if_pos (dg (a:={a with defers:=[]}) c g)];refine Lg A B d b c λr v j k l m=>?_;obtain⟨t,p,s⟩:=iC k l;exact GL A B E q (i+1) _ _ j s (c.put o.dst p) (h v) (d.trans m)
  ·rename_i g;rw[if_neg (by rw[dg (a:={a with defers:=[]}) c g];simp)];exact⟨λf _=>I_ ro f,GL A B E q (i+1) _ _ w b (c.put o.dst (.some rfl)) (h _) d⟩
  ·exact b.elim
theorem Ja(A:C.Ok)(B:C.strict=false){ro:Option Nat}{n:Nat}{all l2:List Oper}{QQ:Exit->Act->World->Prop}{w0:World}{D:List Deferred}{Q:Env->aa->Prop}
 (E:∀env a w,qn env a->a.defers=D->fc false w0 w->Q env w.heap->wpListIn (TJ ro) n C.P all.toArray QQ l2 a w):
 ∀(q:List Oper)(i:Nat)(env:Env)(a:Act)(w:World),ic (Ni C.P w0 ro (n-1)) C all q i env w.heap Q->qn env a->a.defers=D->fc false w0 w->wpListIn (TJ ro) n C.P all.toArray QQ (q++l2) a w
 |[],i,env,a,w,b,c,e,d=>E env a w c e d b
 |o::q,i,env,a,w,b,c,e,d=>by
  have h:∀v,(a.put o.dst v).defers=D:=λv=>by cases o.dst<;>exact e
  simp only[ic]at b;rw[List.cons_append];unfold wpListIn;split at b
  ·rename_i g;rw[if_pos (dg (a:={a with defers:=[]}) c g)];refine Lg A B d b c λr v j k l m=>?_;obtain⟨t,p,s⟩:=iC k l;exact Ja A B E q (i+1) _ _ j s (c.put o.dst p) (h v) (d.trans m)
  ·rename_i g;rw[if_neg (by rw[dg (a:={a with defers:=[]}) c g];simp)];exact⟨λf _=>I_ ro f,Ja A B E q (i+1) _ _ w b (c.put o.dst (.some rfl)) (h _) d⟩
  ·exact b.elim
theorem abX{P:Program}{ro:Option Nat}{n l:Nat}{o:Oper}{c:Call}{f:Operand}{a:Act}{w:World}{vs:Array Value}{next:Act->World->Prop}{Q:Exit->Act->World->Prop}{R:Ending->World->Prop}(q:o.op=.call c)(A:c.callee=.value f)
 (B:a.eval f=.func (.yield l) #[] #[])(E:c.args.map a.eval=vs)(G:YieldAt (TJ ro) (n-1) P l vs w R)(H:∀e b,R e b->∃v,e=.returned v/\next (a.put o.dst v) b):o.wpIn (TJ ro) n P a w next Q:=by
 refine⟨λf _=>I_ ro f,?_⟩;have g:∀c,o.op≠.defer c:=λd g=>by rw[q]at g;cases g
 rw[E5,Oper.semAt_eq ro _ _ g];obtain⟨fn,tmps,assign,h,i,j⟩:=G
 have k:(execOp a.eval o).run P w=.ok (.round l fn tmps assign h) w:=by
  simp only[execOp,q,resolve,A,B,Deferred.ofValue,invoke,E,Sem.run_bind,Sem.run_pure,Result.andThen_ok];simpa using i
 rw[k];refine⟨A7 ro,j.mono λe b m=>?_⟩;obtain⟨v,rfl,p⟩:=H e b m;exact p
def eU:Code->List Oper
 |.region _ ops _=>ops.toList
 |_=>[]
def adw:Code->Bool
 |.region _ _ a=>!a
 |_=>false
theorem ig(A:C.Ok)(B:C.strict=false){ro:Option Nat}{n:Nat}{c:Code}(q:adw c=true){QQ:Exit->Act->World->Prop}{env:Env}{a:Act}{w:World}{Q:Env->aa->Prop}(E:ic (Ni C.P w ro (n-1)) C (eU c) (eU c) 0 env w.heap Q)(G:qn env a)
 (H:∀e b d,qn e b->b.defers=a.defers->fc false w d->Q e d.heap->QQ .normal b d):c.wpIn (TJ ro) n C.P QQ a w:=by
 cases c with
 |region id ops g=>
  cases g with
  |false=>
   have f:=GL A B (ro:=ro) (n:=n) (all:=ops.toList) (QQ:=QQ) (w0:=w) (D:=a.defers) (Q:=Q) H ops.toList 0 env a w E G rfl (fc.refl w);have:ops.toList.toArray=ops:=by simp
   rw[this]at f;exact wpIn_region_list f
  |true=>cases q
 |_=>cases q
def Ay:Code->Code
 |.seq a _=>a
 |c=>c
def pP:Code->Code
 |.seq _ b=>b
 |c=>c
def aa4:Code->Code
 |.cond _ a _=>a
 |c=>c
def Nj:Code->Code
 |.block _ c=>c
 |c=>c
def adx:Code->Code
 |.loop c=>c
 |c=>c
def aeJ:Code->Operand
 |.rangeFunc g _ _ _=>g
 |_=>.tmp 0
def aaq:Code->Code
 |.rangeFunc _ _ c _=>c
 |c=>c
def abY:Code->Code
 |.rangeFunc _ _ _ c=>c
 |c=>c
def aa5(f:Func):Code:=f.body.getD .skip
def wkE:List (Option TV)->List (Option TV)->Prop
 |[],[]=>True
 |none::a,_::b=>wkE a b
 |some x::a,some y::b=>x=y/\wkE a b
 |_,_=>False
theorem Nk:∀{a b:List (Option TV)},wkE a b->a.length=b.length/\∀(i:Nat)(tv:TV),a[i]? =some (some tv)->b[i]? =some (some tv)
 |[],[],_=>⟨rfl,λi tv h=>by simp at h⟩
 |[],_::_,h=>h.elim
 |none::a,[],h=>h.elim
 |some x::a,[],h=>h.elim
 |none::a,y::b,h=>by
  obtain⟨q,A⟩:=Nk (a:=a) (b:=b) h;refine⟨by simp[q],λi tv c=>?_⟩;cases i with
  |zero=>simp at c
  |succ i=>exact A i tv c
 |some x::a,none::b,h=>h.elim
 |some x::a,some y::b,h=>by
  obtain⟨rfl,h⟩:=h;obtain⟨q,A⟩:=Nk (a:=a) (b:=b) h;refine⟨by simp[q],λi tv c=>?_⟩;cases i with
  |zero=>exact c
  |succ i=>exact A i tv c
theorem qn.weak{a b:Env}{s:Act}(q:qn b s)(h:wkE a b):qn a s:=by
 obtain⟨c,d⟩:=Nk h;exact⟨rfl,by rw[c];exact q.size,λi tv e=>q.slot i tv (d i tv e)⟩
end
end Go.Vc
namespace Go.Proofs.YtennbinbffdimaaGreat
open Go Go.Vc
namespace Gate
noncomputable def vB:Code:=aa5 Tryz.f252
noncomputable def vR0:Code:=Ay vB
noncomputable def vL:Code:=adx (Nj (pP vB))
noncomputable def vRc:Code:=Ay vL
noncomputable def vB1:Code:=Nj (Ay (pP (pP vL)))
noncomputable def vR2:Code:=Ay vB1
noncomputable def vR3:Code:=Ay (pP vB1)
noncomputable def vR4:Code:=pP (pP (pP vL))
theorem YX:vB=.seq vR0 (.block 0 (.loop (.seq vRc (.seq (.cond (.tmp 8) .skip (.exit 0)) (.seq (.block 1 (.seq vR2 (.seq vR3 (.cond (.tmp 14) .ret .skip)))) vR4))))):=κ
section
variable{Y:YW}{h:aa}{y:Vc.One}{p:OL}{Q:Env->aa->Prop}{S:Sl}{n k:Int}
abbrev vE(y:Vc.One)(p:OL)(S:Sl)(n k:Int):Env:=[some (.one y),some (.ptr p),none,none,none,some (.slice S),some (.i n),some (.i k),none,none,none,none,none,none,none,none]
theorem abZ:ic Y ctx (eU vR0) (eU vR0) 0 [some (.one y),some (.ptr p),none,none,none,none,none,none,none,none,none,none,none,none,none,none] h Q=
 (Nn p λl=>∃s:Sl,ah h l.b l.o (aW s)/\Q (vE y p s s.len 0) h):=κ
theorem ab0:ic Y ctx (eU vRc) (eU vRc) 0 (vE y p S n k) h Q=Q [some (.one y),some (.ptr p),none,none,none,some (.slice S),some (.i n),some (.i k),some (.bool (decide (k<n))),none,none,none,none,none,none,none] h:=κ
theorem ab1:ic Y ctx (eU vR2) (eU vR2) 0 (vE y p S n k) h Q=
 (0<=k/\k<(S.len:Int)/\Nn S.a λl=>∃(b:Bs 32),∃(m:Int),∃(a:Int),(ay h l.b (l.o+k.toNat*34) 32 b/\ah h l.b (l.o+k.toNat*34+32) (.i m)/\ah h l.b (l.o+k.toNat*34+32+1) (.i a))/\
  Vc.Bind (iu h (ajx [.bytes 32 (ai1 32),.i 0,.i 0]) 69) λq=>gi q h.size 0 34/\Vc.Bind (ajC q h.size 0 (.agg [.bytes 32 b,.i m,.i a])) λA=>
   Q [some (.one y),some (.ptr p),none,none,some (.ptr (PT h.size)),some (.slice S),some (.i n),some (.i k),none,some (.ptr (some ⟨l.b,l.o+k.toNat*34⟩)),some (.agg [.bytes 32 b,.i m,.i a]),none,none,none,none,none] A):=κ
noncomputable def vO(i:Nat):Oper:=(eU vR3).getD i default
theorem VJ:(vO 2).guard=none:=κ
theorem aar:(vO 2).dst=some 13:=κ
theorem YY:∃c:Call,(vO 2).op=.call c/\c.callee=.value (.tmp 11)/\c.args=#[.tmp 12]:=⟨_,(by kernel_rfl:(vO 2).op=.call (match(vO 2).op with|.call c=>c|_=>default)),κ,κ⟩
theorem aas{q:Nat}:ic Y ctx [vO 0,vO 1,vO 2,vO 3] [vO 0,vO 1] 0 [some (.one y),some (.ptr p),none,none,some (.ptr (PT q)),some (.slice S),some (.i n),some (.i k),none,none,none,none,none,none,none,none] h Q=
 (∃(b:Bs 32),∃(m:Int),∃(a:Int),(ay h q 0 32 b/\ah h q 32 (.i m)/\ah h q 33 (.i a))/\
  Q [some (.one y),some (.ptr p),none,none,some (.ptr (PT q)),some (.slice S),some (.i n),some (.i k),none,none,none,some (.one y),some (.agg [.bytes 32 b,.i m,.i a]),none,none,none] h):=κ
theorem aat{c:Bool}:ic Y ctx [vO 0,vO 1,vO 2,vO 3] [vO 3] 3 [some (.one y),some (.ptr p),none,none,none,some (.slice S),some (.i n),some (.i k),none,none,none,none,none,some (.bool c),none,none] h Q=
 Q [some (.one y),some (.ptr p),none,none,none,some (.slice S),some (.i n),some (.i k),none,none,none,none,none,some (.bool c),some (.bool (!c)),none] h:=κ
theorem VK:∃id,vR3=.region id #[vO 0,vO 1,vO 2,vO 3] false:=⟨_,(by kernel_rfl:vR3=.region (match vR3 with|.region id _ _=>id|_=>0) #[vO 0,vO 1,vO 2,vO 3] false)⟩
theorem ab2:ic Y ctx (eU vR4) (eU vR4) 0 (vE y p S n k) h Q=
 Q [some (.one y),some (.ptr p),none,none,none,some (.slice S),some (.i n),some (.i (ai9 .i64 (k+1))),none,none,none,none,none,none,none,some (.i (ai9 .i64 (k+1)))] h:=κ
end
end Gate
namespace Gate
open Go Go.Vc Go.RowKit
open Board (av uo)
open Pool (rts jV Im)
theorem fE:ctx.strict=false:=rfl
section
variable{h:aa}{S:Sl}{N:List Nd}
theorem uY{A B C:World}(q:fc false A B)(E:fc false A C)(G:C.heap=B.heap):B.grownBy C none:=
 ⟨E.os.trans q.os.symm,E.tape.trans q.tape.symm,E.output.trans q.output.symm,by rw[G];exact ai6 _,λ_ _ _=>by rw[G]⟩
theorem qp{n:Nat}{A B:World}(q:fc false A B)(x:Ext A.heap B.heap)(E:n<=A.heap.size):Below n A B:=⟨q.os,q.tape,q.output,x.size,λk a=>x.same k ω⟩
theorem aau(e:ak 34 h S (ZJ N)){k:Nat}{x:Nd}(q:N[k]? =some x){K:Vc.Loc->Bs 32->Int->Int->Prop}(B:∀l,K l x.root x.slot x.par):
 0<=(k:Int)/\(k:Int)<(S.len:Int)/\Nn S.a λl=>∃(b:Bs 32),∃(m:Int),∃(A:Int),(ay h l.b (l.o+(k:Int).toNat*34) 32 b/\ah h l.b (l.o+(k:Int).toNat*34+32) (.i m)/\ah h l.b (l.o+(k:Int).toNat*34+32+1) (.i A))/\K l b m A:=by
 have c:=e.len;have:=(aji.1 q).1;rw[aiY]at c;refine e.read ω ω λl t _ a d=>?_;rw[ajb,ai4,q]at a;cases a;exact⟨_,_,_,d,B l⟩
theorem Nl{m q n0:Nat}{w:World}(hq:Var 165 w.heap q (.slice S))(e:ak 34 w.heap S (ZJ N))(hS:∀i,In S i->i<n0)(O:n0<=w.heap.size)(cf:N.length<1000):
 SeqStopsK Fence.wide m Tryz.prog 252 #[(ajQ (PT q)).val] (λx:Nd=>#[x.tv.val]) (Below n0) (λA=>A=N) (λ_=>True) N.length w:=by
 intro l o P W C u hJx hY h0;have a9:=e.len;rw[aiY]at a9;obtain⟨y,hy⟩:∃y:Vc.One,y.v=.func (.yield l) #[] #[]:=⟨⟨.func (.yield l) #[] #[],rfl⟩,rfl⟩;have a':Var 165 W.heap q (.slice S):=(C.block q hq.lt).trans hq
 have ba:∀{W':World},Below n0 W W'->ak 34 W'.heap S (ZJ N):=λ{W'} b=>by
  have f:ag (λi=>n0<=i) w.heap W'.heap:=⟨ajj C.size b.size,λi F O=>by rw[b.block i ω,C.block i ω]⟩;exact e.only f λl hl B=>by have:=hS l.b ⟨l,hl,rfl⟩;omega
 refine callsIn_of_wp Tryz.func252 (show Tryz.f252.body=some vB by kernel_rfl) trivial ?_ rfl;rw[YX];have i0:=B4 [.one y,.ptr (PT q)] 16
 have args:(#[Value.func (.yield l) #[] #[]]++#[(ajQ (PT q)).val]:Array Value)=(ajw [.one y,.ptr (PT q)]).toArray:=by
  show _=(#[y.v,(ajQ (PT q)).val]:Array Value);rw[hy];rfl
 rw[args,show Tryz.f252.ntmps=16 by kernel_rfl];generalize hA:({tmps:=(ajw [.one y,.ptr (PT q)]).toArray++Array.replicate (16-(ajw [.one y,.ptr (PT q)]).toArray.size) undef,defers:=[]}:Act)=G at i0⊢;have d0:G.defers=[]:=by rw[<-hA]
 have bb:qn [some (.one y),some (.ptr (PT q)),none,none,none,none,none,none,none,none,none,none,none,none,none,none] G:=by
  unfold qn;have:({G with defers:=[]}:Act)=G:=by rw[<-hA]
  rw[this];exact i0
 refine wpIn_seq (ig (ro:=none) (n:=m) bI fE (c:=vR0) κ (env:=[some (.one y),some (.ptr (PT q)),none,none,none,none,none,none,none,none,none,none,none,none,none,none])
  (Q:=λenv h=>env=vE y (PT q) S S.len 0/\h=W.heap) ?_ bb ?_)
 ·rw[abZ];exact⟨S,a'.ah rfl,rfl,rfl⟩
 rintro ch a1 w1 bc bd H ⟨rfl,R⟩
 have out:∀(I:Exit)(a:Act)(w:World),(I=.normal\/I=.ret)->a.defers=[]->((∃A,A=N/\o A w)\/(∃pre:List Nd,True/\P pre w))->bodyPost Tryz.prog Tryz.f252 (λe W'=>(∃v,e=.returned v)/\((∃A,A=N/\o A W')\/∃pre:List Nd,True/\P pre W')) I a w:=λI a w T hd B=>by
  rcases T with rfl|rfl
  ·exact bodyPost_end (results_none κ _ _ _) hd ⟨⟨_,rfl⟩,B⟩
  ·exact bodyPost_ret (results_none κ _ _ _) hd ⟨⟨_,rfl⟩,B⟩
 refine wpIn_block ?_;refine wpIn_loop (λa w'=>∃k:Nat,k<=N.length/\qn (vE y (PT q) S S.len k) a/\a.defers=[]/\o (N.take k) w'/\Below n0 W w') (λa _=>N.length-(match a.tmps.getD 7 undef with|.int _ k=>k.toNat|_=>0)) ⟨0,ajz _,bc,bd.trans d0,?_,?_⟩ ?_
 ·rw[ajW];exact u [] W w1 none h0 (uY (fc.refl W) H R) (λr d=>by cases d)
 ·exact⟨H.os,H.tape,H.output,by rw[R];exact ai6 _,λk _=>by rw[R]⟩
 rintro a2 U ⟨k,hk,am,ao,bi,bj⟩
 have ap:∀{a:Act}{z:Int},qn (vE y (PT q) S S.len z) a->(match a.tmps.getD 7 undef with|.int _ k=>k.toNat|_=>0)=z.toNat:=λ{a z} T=>by
  have:=T.slot 7 (.i z) rfl
  have e2:a.tmps.getD 7 undef=(TV.i z).val:=by
   rw[Array.getD_eq_getD_getElem?,show a.tmps[7]? =some (TV.i z).val from this];rfl
  rw[e2];rfl
 refine wpIn_seq (ig (ro:=none) (n:=m) bI fE (c:=vRc) κ (env:=vE y (PT q) S S.len k) (Q:=λenv h=>env=[some (.one y),some (.ptr (PT q)),none,none,none,some (.slice S),some (.i S.len),some (.i k),some (.bool (decide ((k:Int)<S.len))),none,none,none,none,none,none,none]/\h=U.heap) ?_ am ?_)
 ·rw[ab0];exact⟨rfl,rfl⟩
 rintro ci a3 j ar aw J ⟨rfl,V⟩;have g3:=uY (fc.refl U) J V;have X:o (N.take k) j:=u _ U j none bi g3 (λr d=>by cases d);have Y:Below n0 W j:=bj.trans ⟨J.os,J.tape,J.output,by rw[V];exact ai6 _,λk _=>by rw[V]⟩;have t8:a3.eval (.tmp 8)=.bool (decide ((k:Int)<S.len)):=ar.eval (x:=.tmp 8) rfl;have bk:=ar.weak (a:=vE y (PT q) S S.len k) ⟨rfl,rfl,rfl,rfl,rfl,trivial⟩;by_cases aE:k<N.length
 ·rw[decide_eq_true ω]at t8;refine wpIn_seq (wpIn_cond (t:=true) t8 (wpIn_skip ?_));obtain⟨x,B⟩:∃x,N[k]? =some x:=⟨_,ai2 aE⟩;have e3:=ba Y
  refine wpIn_seq (wpIn_block (wpIn_seq (ig (ro:=none) (n:=m) bI fE (c:=vR2) κ (env:=vE y (PT q) S S.len k)
   (Q:=λenv h=>∃l:Vc.Loc,env=[some (.one y),some (.ptr (PT q)),none,none,some (.ptr (PT j.heap.size)),some (.slice S),some (.i S.len),some (.i k),none,some (.ptr (some ⟨l.b,l.o+(k:Int).toNat*34⟩)),some x.tv,none,none,none,none,none]/\Ext j.heap h/\Var 69 h j.heap.size x.tv) ?_ bk ?_)))
  ·rw[ab1];refine aau e3 B λl=>af λh1 v1 x1 s1=>av (t:=x.tv) v1 rfl rfl λh2 v2 f2 s2=>⟨l,rfl,ai0 x1 f2 λi F=>ai5 (ai7 F),v2⟩
  rintro cj a4 p bl bm K ⟨l4,rfl,Z,v4⟩;have bo:=bl.weak (a:=[some (.one y),some (.ptr (PT q)),none,none,some (.ptr (PT j.heap.size)),some (.slice S),some (.i S.len),some (.i k),none,none,none,none,none,none,none,none]) ⟨rfl,rfl,rfl,rfl,rfl,rfl,trivial⟩;have bp:o (N.take k) p:=u _ j p none X ⟨K.os,K.tape,K.output,Z.size,λi F _=>Z.same i F⟩ (λr d=>by cases d);have br:Below n0 W p:=Y.trans (qp K Z (ajj O (ajj C.size Y.size)));have bt:(N.take k).length<N.length:=by rw[ajn];omega
  have bx:N.take (k+1)=N.take k++[x]:=by rw[ajB,B];rfl
  obtain⟨cl,b0⟩:=VK;obtain⟨c3,o3,f3,b1⟩:=YY;rw[b0];refine wpIn_seq (wpIn_region_list ?_)
  refine Ja bI fE (ro:=none) (n:=m) (all:=[vO 0,vO 1,vO 2,vO 3]) (l2:=[vO 2,vO 3]) (w0:=p) (D:=[])
   (Q:=λenv h=>env=[some (.one y),some (.ptr (PT q)),none,none,some (.ptr (PT j.heap.size)),some (.slice S),some (.i S.len),some (.i k),none,none,none,some (.one y),some x.tv,none,none,none]/\h=p.heap)
   ?_ [vO 0,vO 1] 0 _ a4 p (by rw[aas];exact⟨_,_,_,v4.at,rfl,rfl⟩) bo (bm.trans (aw.trans ao)) (fc.refl p)
  rintro cp a5 E ab b2 L ⟨rfl,ac⟩;have b3:o (N.take k) E:=u _ p E none bp (uY (fc.refl p) L ac) (λr d=>by cases d);have a0:Below n0 W E:=br.trans ⟨L.os,L.tape,L.output,by rw[ac];exact ai6 _,λk _=>by rw[ac]⟩;unfold wpListIn;rw[if_pos (by unfold Region.wanted;rw[VJ])];have b5:a5.eval (.tmp 11)=.func (.yield l) #[] #[]:=by rw[ab.eval (x:=.tmp 11) (tv:=.one y) rfl];exact hy
  have b6:a5.eval (.tmp 12)=x.tv.val:=ab.eval (x:=.tmp 12) (tv:=x.tv) rfl;refine abX o3 f3 b5 (vs:=#[x.tv.val]) (by rw[b1];simp[b6]) (hY (N.take k) x E b3 bt) λe g b7=>?_
  obtain⟨c,rfl,hc⟩:∃c:Bool,e=.returned (.bool c)/\((c=true/\o (N.take k++[x]) g/\Below n0 E g)\/(c=false/\P (N.take k++[x]) g)):=by
   rcases b7 with⟨rfl,ad,M⟩|⟨rfl,ae⟩
   ·exact⟨true,rfl,.inl ⟨rfl,ad,M⟩⟩
   ·exact⟨false,rfl,.inr ⟨rfl,ae⟩⟩
  refine⟨_,rfl,?_⟩;rw[aar];have b8:=(ab.put (some 13) (r:=some (.bool c)) (v:=.bool c) (.some rfl)).weak (a:=[some (.one y),some (.ptr (PT q)),none,none,none,some (.slice S),some (.i S.len),some (.i k),none,none,none,none,none,some (.bool c),none,none]) ⟨rfl,rfl,rfl,rfl,rfl,rfl,trivial⟩
  refine GL bI fE (ro:=none) (n:=m) (all:=[vO 0,vO 1,vO 2,vO 3]) (w0:=g) (D:=[])
   (Q:=λenv h=>env=[some (.one y),some (.ptr (PT q)),none,none,none,some (.slice S),some (.i S.len),some (.i k),none,none,none,none,none,some (.bool c),some (.bool (!c)),none]/\h=g.heap) ?_ [vO 3] 3 _ _ g (by rw[aat];exact⟨rfl,rfl⟩) b8 b2 (fc.refl g)
  rintro cs a7 s he7 hd7 hw7 ⟨rfl,al⟩;have g7:=uY (fc.refl g) hw7 al;have t14:a7.eval (.tmp 14)=.bool (!c):=he7.eval (x:=.tmp 14) rfl;rcases hc with⟨rfl,ad,M⟩|⟨rfl,ae⟩
  ·refine wpIn_cond (t:=false) t14 (wpIn_skip ?_);have b9:=he7.weak (a:=vE y (PT q) S S.len k) ⟨rfl,rfl,rfl,rfl,rfl,trivial⟩;refine ig (ro:=none) (n:=m) bI fE (c:=vR4) κ (env:=vE y (PT q) S S.len k) (Q:=λenv h=>env=[some (.one y),some (.ptr (PT q)),none,none,none,some (.slice S),some (.i S.len),some (.i ((k+1:Nat):Int)),none,none,none,none,none,none,none,some (.i ((k+1:Nat):Int))]/\h=s.heap) ?_ b9 ?_
   ·rw[ab2,wrap_i64 (n:=(k:Int)+1) ω ω];exact⟨rfl,rfl⟩
   rintro ct a8 w8 b' ca hw8 ⟨rfl,hh8⟩;have a6:=b'.weak (a:=vE y (PT q) S S.len ((k+1:Nat):Int)) ⟨rfl,rfl,rfl,rfl,rfl,trivial⟩;have g8:=uY (fc.refl s) hw8 hh8;have cc:o (N.take k++[x]) s:=u _ g s none ad g7 (λr d=>by cases d);have cd:o (N.take k++[x]) w8:=u _ s w8 none cc g8 (λr d=>by cases d);have sz6:n0<=g.heap.size:=ajj O (ajj C.size (ajj a0.size M.size));refine⟨⟨k+1,aE,a6,ca.trans hd7,by rw[bx];exact cd,a0.trans (M.trans ((qp hw7 (by rw[al];exact ai3 _) sz6).trans (qp hw8 (by rw[hh8];exact ai3 _) (by rw[al];exact sz6))))⟩,?_⟩;rw[ap a6,ap am];omega
  ·refine wpIn_cond (t:=true) t14 (wpIn_ret ?_);exact out .ret a7 s (.inr rfl) hd7 (.inr ⟨_,trivial,hJx _ g s none ae g7 (λr d=>by cases d)⟩)
 ·rw[decide_eq_false ω]at t8;refine wpIn_seq (wpIn_cond (t:=false) t8 (wpIn_exit ?_));have ce:k=N.length:=ω;rw[ce,ajs]at X;exact out .normal a3 j (.inl rfl) (aw.trans ao) (.inl ⟨N,rfl,X⟩)
end
end Gate
namespace Gate
noncomputable def rB:Code:=aa5 Tryz.f125
noncomputable def rQ0:Code:=Ay rB
noncomputable def rQ1:Code:=Ay (pP rB)
noncomputable def rX:Code:=Ay (pP (pP rB))
noncomputable def rQ2:Code:=Ay rX
noncomputable def rQ3:Code:=Ay (aa4 (pP rX))
noncomputable def rF:Code:=Nj (pP (aa4 (pP rX)))
noncomputable def rA:Code:=aaq rF
noncomputable def rR:Code:=Nj (abY rF)
noncomputable def rQ6:Code:=Ay (pP (pP (pP rB)))
theorem YZ:rB=.seq rQ0 (.seq rQ1 (.seq (.seq rQ2 (.cond (.tmp 6) (.seq rQ3 (.block 0 (.rangeFunc (.tmp 11) #[12] rA (.block 1 rR)))) .skip)) (.seq rQ6 .ret))):=κ
section
variable{Y:YW}{h:aa}{p:OL}{Q:Env->aa->Prop}{b c o:Nat}{u:Vc.One}
theorem ab3:ic Y ctx (eU rQ0) (eU rQ0) 0 [some (.ptr p),none,none,none,none,none,none,none,none,none,none,none,none,none,none,none,none,none,none] h Q=
 Q [some (.ptr p),none,some (.slice aiX),none,none,none,none,none,none,none,none,none,none,none,none,none,none,none,none] h:=κ
theorem ab4:ic Y ctx (eU rQ1) (eU rQ1) 0 [some (.ptr p),none,some (.slice aiX),none,none,none,none,none,none,none,none,none,none,none,none,none,none,none,none] h Q=
 Vc.Bind (iu h (.slice aiX) 48) λa=>Q [some (.ptr p),none,some (.slice aiX),some (.ptr (PT h.size)),none,none,none,none,none,none,none,none,none,none,none,none,none,none,none] a:=κ
theorem ab5:ic Y ctx (eU rQ2) (eU rQ2) 0 [some (.ptr p),none,some (.slice aiX),some (.ptr (PT o)),none,none,none,none,none,none,none,none,none,none,none,none,none,none,none] h Q=
 Q [some (.ptr p),none,some (.slice aiX),some (.ptr (PT o)),none,some (.ptr p),some (.bool (!p.isNone)),none,none,none,none,none,none,none,none,none,none,none,none] h:=κ
theorem ab6:ic Y ctx (eU rQ3) (eU rQ3) 0 [some (.ptr (PT b)),none,some (.slice aiX),some (.ptr (PT o)),none,none,none,none,none,none,none,none,none,none,none,none,none,none,none] h Q=
 ∃s:Sl,ah h b 0 (aW s)/\oI ctx.strict ctx.P 195 (ajw [.slice s]) h λv a=>∃u:Vc.One,v=(TV.one u).val/\
  Q [some (.ptr (PT b)),none,some (.slice aiX),some (.ptr (PT o)),none,none,none,some (.ptr (PT b)),some (.ptr (PT b)),some (.ptr (PT b)),some (.slice s),some (.one u),none,none,none,none,none,none,none] a:=κ
theorem adz{x:Bs 32}{m q:Int}:ic Y ctx (eU rA) (eU rA) 0 [none,none,none,some (.ptr (PT o)),none,none,none,none,none,none,none,none,some (.agg [.bytes 32 x,.i m,.i q]),none,none,none,none,none,none] h Q=
 Vc.Bind (iu h (ajx [.bytes 32 (ai1 32),.i 0,.i 0]) 69) λA=>gi A h.size 0 34/\Vc.Bind (ajC A h.size 0 (.agg [.bytes 32 x,.i m,.i q])) λa=>
  Q [none,none,none,some (.ptr (PT o)),some (.ptr (PT h.size)),none,none,none,none,none,none,none,some (.agg [.bytes 32 x,.i m,.i q]),none,none,none,none,none,none] a:=κ
theorem adA:ic Y ctx (eU rR) (eU rR) 0 [none,none,none,some (.ptr (PT o)),some (.ptr (PT c)),none,none,none,none,none,none,none,none,none,none,none,none,none,none] h Q=
 ∃s:Sl,ah h o 0 (aW s)/\∃x:Bs 32,ay h c 0 32 x/\∃new,cv (h.push (row (aiZ [ajm 32 x]) 52)) (ajo (some (Vc.Loc.mk h.size 0)) 1 1) 32 new/\(∀v∈new,bQ v=true)/\aq ctx 52 s 1 new (h.push (row (aiZ [ajm 32 x]) 52)) λa q=>
  gi q o 0 1/\Vc.Bind (ajC q o 0 (.slice a)) λb=>Q [none,none,none,some (.ptr (PT o)),some (.ptr (PT c)),none,none,none,none,none,none,none,none,some (.slice s),some (.ptr (PT c)),some (.bytes 32 x),some (.slice (ajo (some (Vc.Loc.mk h.size 0)) 1 1)),some (.slice a),none] b:=κ
theorem ab7:ic Y ctx (eU rQ6) (eU rQ6) 0 [none,none,none,some (.ptr (PT o)),none,none,none,none,none,none,none,none,none,none,none,none,none,none,none] h Q=
 ∃s:Sl,ah h o 0 (aW s)/\Q [none,none,some (.slice s),some (.ptr (PT o)),none,none,none,none,none,none,none,none,none,none,none,none,none,none,some (.slice s)] h:=κ
end
end Gate
namespace Gate
open Go Go.Vc Go.RowKit
open Board (av uo)
open Pool (rts jV Im)
theorem Lh{q:List Value}{T:TypeId}:(Vc.row q T).isCells=true:=rfl
theorem A9{T:TypeId}{sz:Nat}{h:aa}{s:Sl}{ts:List TV}(o:Vc.Own T sz h s ts){i:Nat}(q:In s i):∃x,h[i]? =some x/\x.isCells=true:=by
 obtain⟨l,a,rfl⟩:=q;rcases o.row with rfl|⟨b,e,c,d,_⟩
 ·cases a
 ·rw[c]at a;cases a;exact⟨_,d,Lh⟩
theorem CF{W W':World}{row:Option Nat}(q:W.grownBy W' row):ag (λi=>row=some i) W.heap W'.heap:=by
 obtain⟨_,_,_,a,b⟩:=q;exact⟨a,λi c d=>b i c (λe=>d e.symm)⟩
theorem Li{A W W':World}{row:Option Nat}(q:W.grownBy W' row)(e:fc false A W):fc false A W':=by
 obtain⟨a,b,c,_,_⟩:=q;exact⟨a.trans e.os,b.trans e.tape,c.trans e.output,λh=>by cases h⟩
section
variable{R:Rq}{h h':aa}{b r:Nat}{A:Sl}{L:List Nd}{most:Int}
def aa6(w:World)(pre:List Nd)(W:World):Prop:=∃s,Vc.Own 52 32 W.heap s (rts (pre.map Nd.root))/\Var 48 W.heap w.heap.size (.slice s)/\Ext w.heap W.heap/\(∀i,In s i->w.heap.size<i)/\fc false w W
theorem R5{w:World}{B:Nat}(q:w.heap.size<=B):OwnFrom B (aa6 w):=by
 intro pre W W' row ⟨s,o,v,x,lo,k⟩ d g;have f:=CF d
 have no:∀i(x:Obj),W.heap[i]? =some x->x.isCells=true->¬row=some i:=λi x a b e=>by
  obtain⟨_,y,h,j⟩:=g i e;rw[a]at h;cases h;rw[b]at j;cases j
 refine⟨s,o.keep f λi c=>?_,v.only f (no _ _ v Lh),ai0 x f λi c=>?_,lo,Li d k⟩
 ·obtain⟨x,a,b⟩:=A9 o c;exact no i x a b
 ·exact ajj q (g i c).1
def TL(o:Nat)(x:Nd)(a:Act)(W:World):Prop:=∃c,qn [none,none,none,some (.ptr (PT o)),some (.ptr (PT c)),none,none,none,none,none,none,none,none,none,none,none,none,none,none] a/\a.defers=[]/\Var 69 W.heap c x.tv
theorem No{o B:Nat}(x:Nd)(a:Act):OwnFrom B (λ(_:Unit) W=>TL o x a W):=by
 intro _ W W' row ⟨c,e,d,v⟩ f g;refine⟨c,e,d,v.only (CF f) λe=>?_⟩;obtain⟨_,y,b,h⟩:=g c e;rw[show W.heap[c]? =_ from v]at b;cases b;cases h
theorem R6(p:yK h b r A L most)(hr:∀h' s,Vc.Own 52 32 h' s (rts (L.map Nd.root))->Ext h h'->(∀i,In s i->h.size<=i)->R (ajE s).val h'):
 Cl 125 [.ptr (PT b)] h R:=by
 intro w hw;subst hw;have bk:=p.ok.len;have bl:=p.ok.most;refine(callsIn_wide (n:=5)).1 (callsIn_of_wp_marks Tryz.func125 (show Tryz.f125.body=some rB by kernel_rfl) trivial ?_ rfl);rw[YZ];have i0:=B4 [.ptr (PT b)] 19;rw[show Tryz.f125.ntmps=19 by kernel_rfl];generalize hA:({tmps:=(ajw [.ptr (PT b)]).toArray++Array.replicate (19-(ajw [.ptr (PT b)]).toArray.size) undef,defers:=[]}:Act)=V at i0⊢;have d0:V.defers=[]:=by rw[<-hA]
 have ap:qn [some (.ptr (PT b)),none,none,none,none,none,none,none,none,none,none,none,none,none,none,none,none,none,none] V:=by
  unfold qn;have:({V with defers:=[]}:Act)=V:=by rw[<-hA]
  rw[this];exact i0
 refine wpIn_seq (ig (ro:=none) (n:=5) bI fE (c:=rQ0) κ (Q:=λenv h=>env=[some (.ptr (PT b)),none,some (.slice aiX),none,none,none,none,none,none,none,none,none,none,none,none,none,none,none,none]/\h=w.heap) (by rw[ab3];exact⟨rfl,rfl⟩) ap ?_);rintro bm a1 w1 ar aw aE ⟨rfl,a0⟩
 refine wpIn_seq (ig (ro:=none) (n:=5) bI fE (c:=rQ1) κ (Q:=λenv h=>env=[some (.ptr (PT b)),none,some (.slice aiX),some (.ptr (PT w.heap.size)),none,none,none,none,none,none,none,none,none,none,none,none,none,none,none]/\Var 48 h w.heap.size (.slice aiX)/\Ext w.heap h/\h.size=w.heap.size+1)
  (by rw[ab4,a0];exact af λh1 v1 H s1=>⟨rfl,v1,H,s1⟩) ar ?_)
 rintro bo a2 w2 he2 hd2 hw2 ⟨rfl,I,x2,z2⟩
 refine wpIn_seq (wpIn_seq (ig (ro:=none) (n:=5) bI fE (c:=rQ2) κ (Q:=λenv h=>env=[some (.ptr (PT b)),none,some (.slice aiX),some (.ptr (PT w.heap.size)),none,some (.ptr (PT b)),some (.bool (!(some (Vc.Loc.mk b 0)).isNone)),none,none,none,none,none,none,none,none,none,none,none,none]/\h=w2.heap)
  (by rw[ab5];exact⟨rfl,rfl⟩) he2 ?_))
 rintro bp a3 m ae a4 a5 ⟨rfl,X⟩;refine wpIn_cond (t:=true) (ae.eval (x:=.tmp 6) (tv:=.bool true) rfl) ?_;rw[if_pos rfl];have a6:=ae.weak (a:=[some (.ptr (PT b)),none,some (.slice aiX),some (.ptr (PT w.heap.size)),none,none,none,none,none,none,none,none,none,none,none,none,none,none,none]) ⟨rfl,rfl,rfl,trivial⟩;have p3:yK m.heap b r A L most:=by rw[X];exact p.ext x2
 refine wpIn_seq (ig (ro:=none) (n:=5) bI fE (c:=rQ3) κ (Q:=λenv h=>∃u:Vc.One,u.v=.func (.func 252) #[] #[(ajQ (PT m.heap.size)).val]/\env=[some (.ptr (PT b)),none,some (.slice aiX),some (.ptr (PT w.heap.size)),none,none,none,some (.ptr (PT b)),some (.ptr (PT b)),some (.ptr (PT b)),some (.slice A),some (.one u),none,none,none,none,none,none,none]/\
  Var 165 h m.heap.size (.slice A)/\Ext m.heap h) ?_ a6 ?_)
 ·rw[ab6];refine⟨A,p3.var.ah rfl,?_⟩;refine iN A ?_;exact af λh1 v1 H s1=>⟨⟨_,rfl⟩,rfl,⟨⟨_,rfl⟩,rfl,rfl,v1,H⟩⟩
 rintro br J w4 Y a7 a8 ⟨u,hu,rfl,vq,x4⟩;have bt:=Y.weak (a:=[none,none,none,some (.ptr (PT w.heap.size)),none,none,none,none,none,none,none,some (.one u),none,none,none,none,none,none,none]) ⟨rfl,rfl,trivial⟩;have x3:Ext w.heap m.heap:=by rw[X];exact x2
 have C:=x3.trans x4;have z3:w.heap.size<m.heap.size:=by rw[X];omega
 have z4:=x4.size;have v4:Var 48 w4.heap w.heap.size (.slice aiX):=(show Var 48 m.heap w.heap.size (.slice aiX) by rw[X];exact I).ext x4;have a9:fc false w w4:=((aE.trans hw2).trans a5).trans a8;have dd4:J.defers=[]:=a7.trans (a4.trans (hd2.trans (aw.trans d0)));have hg:J.eval (.tmp 11)=.func (.func 252) #[] #[(ajQ (PT m.heap.size)).val]:=by rw[Y.eval (x:=.tmp 11) (tv:=.one u) rfl];exact hu
 have ba:∀i,In A i->i<w.heap.size:=λi d=>by
  obtain⟨x,Z,_⟩:=A9 p.own d;exact(aj6.1 Z).1
 refine wpIn_block (wpIn_rangeFunc_ownH (F:=Fence.wide) (n:=5) (α:=Nd) (w0:=w4) (N:=L.length) (encs:=λx:Nd=>#[x.tv.val]) (S:=λxs=>xs=L) (Sp:=λ_=>True) (Kp:=Below w.heap.size) rfl δ hg trivial (enters_of Tryz.func252 κ rfl)
  (Nl vq (p.ext C).own.elems ba C.size ω) belowK_t (belowK_b C.size) (Below.refl _ _) (λ_=>rfl) (aa6 w) (λ_ _ _=>False) (R5 C.size) (λ_ _ _ _ _ h=>h.elim) ?_ (TL w.heap.size) (λx a=>No x a) ?_ ?_ ?_ ?_)
 ·exact⟨aiX,Vc.Own.nil _ _ _,v4,C,λi⟨l,hl,_⟩=>(by cases hl),a9⟩
 ·intro l pre x W K M hK;obtain⟨s,o,v,q,lo,O⟩:=M
  have ad:qn [none,none,none,some (.ptr (PT w.heap.size)),none,none,none,none,none,none,none,none,some x.tv,none,none,none,none,none,none] {tmps:=(#[12].zip #[x.tv.val]).foldl (λt(p,v)=>t.setIfInBounds p v) J.tmps,defers:=[]}:=by
   have:=(Y.put (some 12) (r:=some x.tv) (.some rfl)).weak (a:=[none,none,none,some (.ptr (PT w.heap.size)),none,none,none,none,none,none,none,none,some x.tv,none,none,none,none,none,none]) ⟨rfl,rfl,trivial⟩;have e:(#[12].zip #[x.tv.val]).foldl (λt(p,v)=>t.setIfInBounds p v) J.tmps=J.tmps.setIfInBounds 12 x.tv.val:=by simp
   rw[e];exact this
  refine ig (ro:=some l) (n:=3) bI fE (c:=rA) κ (Q:=λenv h=>env=[none,none,none,some (.ptr (PT w.heap.size)),some (.ptr (PT W.heap.size)),none,none,none,none,none,none,none,some x.tv,none,none,none,none,none,none]/\Ext W.heap h/\Var 69 h W.heap.size x.tv) ?_ ad ?_
  ·rw[show x.tv=ajx [.bytes 32 x.root,.i x.slot,.i x.par]from rfl,adz];exact af λh1 v1 H s1=>av (t:=x.tv) v1 rfl rfl λh2 I f2 s2=>⟨rfl,ai0 H f2 λi d=>ai5 (ai7 d),I⟩
  rintro al T U ab ac g ⟨rfl,E,v5⟩;refine hK _ _ ⟨E.size,λk o _ G _=>(E.same k (aj6.1 G).1).trans G⟩ (qp g E q.size) ⟨s,o.ext E,v.ext E,q.trans E,lo,O.trans g⟩ ⟨W.heap.size,ab.weak ⟨rfl,rfl,trivial⟩,ac,v5⟩
 ·intro l pre x a' W hl _ M ⟨c,ad,bx,vc⟩ b0;obtain⟨s,o,v,q,lo,O⟩:=M;have bb:=o.len;rw[kz,aiY]at bb;have ns:¬In s w.heap.size:=λd=>Nat.lt_irrefl _ (lo _ d);refine wpIn_block (ig (ro:=some l) (n:=3) bI fE (c:=rR) κ (Q:=λenv h=>∃j:Sl,Vc.Own 52 32 h j (rts ((pre++[x]).map Nd.root))/\Var 48 h w.heap.size (.slice j)/\ag (λi=>In s i\/i=w.heap.size) W.heap h/\(∀i,In j i->w.heap.size<i)) ?_ ad ?_)
  ·rw[adA];refine⟨s,v.ah rfl,x.root,vc.at.1,Rn o (by rw[aiY];omega) λj h' o' B n'=>?_⟩;have v':Var 48 h' w.heap.size (.slice s):=v.only B ns;have bc:¬In j w.heap.size:=λd=>(n' _ d).elim ns λh=>by have:=v.lt;omega
   refine av (t:=.slice j) v' rfl rfl λh2 I f2 s2=>⟨j,?_,I,?_,λi d=>(n' i d).elim (lo i) λh=>(by have:=v.lt;omega)⟩
   ·rw[ajq];exact o'.keep f2 λi d e=>bc (e▸d)
   ·exact(B.mono λ_ d=>.inl d).trans (f2.mono λ_ d=>.inr d)
  rintro al T U ab ac g ⟨j,o',v',B,bd⟩;refine⟨⟨B.size,λk y G hy hc=>?_⟩,⟨g.os,g.tape,g.output,B.size,λk G=>?_⟩,⟨j,o',v',?_,bd,O.trans g⟩⟩
  ·refine(B.same k (aj6.1 hy).1 λe=>?_).trans hy;rcases e with e|e
   ·obtain⟨z,hz,am⟩:=A9 o e;rw[hy]at hz;cases hz;rw[hc]at am;cases am
   ·omega
  ·refine B.same k (aj0 G q.size) λe=>?_;rcases e with e|e
   ·exact Nat.lt_asymm (lo k e) G
   ·omega
  ·refine ai0 q B λi e=>?_;rcases e with e|e
   ·exact Nat.le_of_lt (lo i e)
   ·exact ai5 e.symm
 ·intro D xs W hD bi M hK;obtain⟨s,o,v,q,lo,O⟩:=M;subst bi
  refine wpIn_seq (ig (ro:=none) (n:=5) bI fE (c:=rQ6) κ (env:=[none,none,none,some (.ptr (PT w.heap.size)),none,none,none,none,none,none,none,none,none,none,none,none,none,none,none])
   (Q:=λenv h=>env=[none,none,some (.slice s),some (.ptr (PT w.heap.size)),none,none,none,none,none,none,none,none,none,none,none,none,none,none,some (.slice s)]/\h=W.heap) ?_ ?_ ?_)
  ·rw[ab7];exact⟨s,v.ah rfl,rfl,rfl⟩
  ·exact Y.weak ⟨rfl,trivial⟩
  rintro al T U ab ac g ⟨rfl,ao⟩;refine wpIn_ret ?_;show LeavesInM Fence.wide 5 Tryz.prog Tryz.f125 T.tmps _ T.defers .returning U;rw[ac];have bj:U.heap[D]? =some (.deferred (some [])):=by rw[ao];exact hK
  have wr:=run_takeDeferred (P:=Tryz.prog) bj;have t2:=ab.eval (x:=.tmp 2) rfl;rw[dd4];refine⟨by simp,.inl ⟨D,_,rfl,wr,_,results_tmp (t:=2) κ _ _ _,?_⟩⟩;have gr:=grownBy_putObj' U D (.deferred none);have f:=CF gr
  have nD:∀i,In s i->¬some D=some i:=λi d e=>by
   cases e;obtain⟨x,Z,hc⟩:=A9 o d;rw[hK]at Z;cases Z;cases hc
  refine⟨Li gr (O.trans g),_,rfl,?_⟩;have e2:T.tmps.getD 2 undef=(ajE s).val:=t2;rw[e2];rw[<-ao]at o q;exact hr _ s (o.keep f nD) (ai0 q f λi d=>by cases d;have:=C.size;omega) λi d=>Nat.le_of_lt (lo i d)
 ·intro D c pre W _ _ hf;exact hf.elim
end
end Gate
namespace Gate
open Board (Vd Cf Vt av uo)
open Pool (rts jV Im)
section
variable{R:Rq}{h h':aa}{b r:Nat}{A:Sl}{N:List Nd}{most:Int}
theorem R7(p:yK h b r A N most){root:Bs 32}(ar:place root N<0->∀h',Ext h h'->R (ajc [.ptr none,.i 7]).val h')
 (hr:∀k:Nat,place root N=(k:Int)->∀h' c S',kX h' c (e_ N most k) most S'->Ext h h'->(∀i,S' i->h.size<=i)->R (ajc [.ptr (PT c),.i 0]).val h'):
 Cl 244 [.ptr (PT b),.bytes 32 root] h R:=by
 apply E6;delta BM BJ gM BI c7 bV c5 jS bu aJ bK aT bh;have a8:=p.ok.len;have K:=p.ok.most;refine af λh1 v1 L s1=>aja ⟨root,v1.bytes,dx (p.ext L) λh2 s=>⟨_,rfl,?_⟩⟩;have M:=L.trans s;refine cL (p.ext M) λO u=>⟨_,_,_,_,rfl,?_⟩;have aw:=M.trans u;refine af λh4 v4 x4 s4=>av (t:=(dm N (place root N)).1.tv) v4 rfl rfl λv P f5 s5=>?_;have w:Ext O v:=ai0 x4 f5 λi a=>ai5 (ai7 a);have g:=aw.trans w;by_cases f:0<=place root N
 ·obtain⟨k,x,q1,B,C,q4,q5⟩:=fB f;have D:dm N (place root N)=(x,true):=by rw[B];exact uI C
  rw[D]at P⊢;have aE:Var 69 v O.size (.agg [.bytes 32 x.root,.i x.slot,.i x.par]):=P;refine aja ⟨root,((v1.ext s).ext u|>.ext w).bytes,x.slot,aE.at.2.1,?_⟩;refine Dh (p.ext g) ⟨_,rfl,ai3 _,Ev (p.ext g) ⟨_,rfl,ai3 _,?_⟩⟩;rw[wrap_i64 (n:=(N.length:Int)+(most-N.length)) ω ω,show(N.length:Int)+(most-N.length)=most by omega];have Q:=p.ok.slots x (ajf C);refine DP (λhc=>absurd ⟨K.1,K.2,Q.1,Q.2⟩ hc) λ_ h6 c l A' p6 S a0=>⟨_,_,rfl,root,(((v1.ext s).ext u|>.ext w).ext S).bytes,?_⟩;have T:=g.trans S;refine dx (p.ext T) λh7 U=>⟨_,rfl,?_⟩;have a1:=T.trans U;dsimp only;rw[B,wrap_i64 (n:=(k:Int)+1) ω ω]
  refine⟨λσ V=>∃d:Nat,σ=((k+1+d:Nat):Int)/\k+1+d<=N.length/\Ext h V/\∃l A',yK V c l A' (jW N most k d) most/\∀i,kH c l A' i->h.size<=i,λσ _=>(N.length-σ).toNat,
   ⟨0,ω,ω,a1,l,A',?_,λi a=>by have:=a0 i a;have:=g.size;omega⟩,?_⟩
  ·have e:jW N most k 0=[⟨root,x.slot,-1⟩]:=by unfold jW;rw[uI C,q4]
   rw[e];exact p6.ext U
  rintro σ h8 ⟨d,rfl,hd,j,E,W,p8,m⟩;refine Dh (p.ext j) ⟨_,rfl,ID (λa=>?_) λa=>?_⟩
  ·have o:N[k+1+d]? =some N[k+1+d]:=ai2 ω;obtain⟨y,hy⟩:∃y,y=N[k+1+d]'ω:=⟨_,rfl⟩;rw[<-hy]at o;have X:=p.ok.up _ _ o ω;obtain⟨z,Y⟩:∃z,N[y.par.toNat]? =some z:=⟨_,ai2 ω⟩;refine cL (p.ext j) λZ x9=>⟨_,_,_,_,rfl,af λa9 v10 a2 a'=>av (t:=(dm N ((k+1+d:Nat):Int)).1.tv) v10 rfl rfl λab v11 f11 ba=>?_⟩;rw[uI o]at v11;have F:Var 69 ab Z.size (.agg [.bytes 32 y.root,.i y.slot,.i y.par]):=v11;have a3:Ext Z ab:=ai0 a2 f11 λi a=>ai5 (ai7 a);have ac:=x9.trans a3;refine⟨y.par,F.at.2.2,cL (p.ext (j.trans ac)) λad G=>⟨_,_,_,_,rfl,af λbb a4 a5 bc=>av (t:=(dm N y.par).1.tv) a4 rfl rfl λae al f14 bd=>?_⟩⟩;rw[gW X.1 Y]at al;have am:Var 69 ae ad.size (.agg [.bytes 32 z.root,.i z.slot,.i z.par]):=al;have H:Ext ad ae:=ai0 a5 f14 λi a=>ai5 (ai7 a);have ao:=ac.trans (G.trans H);refine⟨z.root,am.at.1,dx (p8.ext ao) λbi q=>⟨_,rfl,?_⟩⟩;have I:=ao.trans q;have J:=j.trans I
   have e:jW N most k (d+1)=if 0<=place z.root (jW N most k d)then iF (jW N most k d) most y.root z.root y.slot else jW N most k d:=by
    show z_ N most (jW N most k d) ((k+1+d:Nat):Int)=_;unfold z_;rw[uI o,gW X.1 Y]
   have wr:ai9 .i64 (((k+1+d:Nat):Int)+1)=((k+1+(d+1):Nat):Int):=by rw[wrap_i64 ω ω];omega
   rw[wr];refine ID (λf=>?_) λf=>?_
   ·rw[if_pos f]at e;refine⟨y.root,((F.ext (G.trans H)).ext q).at.1,z.root,(am.ext q).at.1,y.slot,((F.ext (G.trans H)).ext q).at.2.1,Ot (p8.ext I) λbj a6 a7 ap=>⟨_,rfl,?_⟩⟩;refine⟨⟨d+1,rfl,ω,ai0 J ap.only λi a=>m i a,E,a6,by rw[e];exact a7,λi a=>(ap.new i a).elim (m i) λh=>by have:=J.size;omega⟩,by dsimp only;omega⟩
   ·rw[if_neg f]at e;exact⟨⟨d+1,rfl,ω,J,E,W,by rw[e];exact p8.ext I,m⟩,by dsimp only;omega⟩
  ·have:d=N.length-(k+1):=ω;refine hr k B h8 c _ ⟨E,W,?_,rfl⟩ j m;unfold e_;rw[<-this];exact p8
 ·have D:(dm N (place root N)).2=false:=by
   unfold dm nodeAt;rw[if_neg f]
  rw[D];exact ajh (ar ω v g)
def D5(st:List Int)(t:Tb)(L:List Nd)(j:Nat):Nat->Int:=λi=>if i<j then cZ st t L i else 0
def Gn(st:List Int)(t:Tb)(x:Nd):Dl:=(x.root,nY t st x.root)
theorem VL{st:List Int}{t:Tb}{L:List Nd}:D5 st t L L.length=cZ st t L:=by
 funext i;unfold D5;split
 ·rfl
 ·exact(jB ω).symm
theorem Lj{st:List Int}{t:Tb}{L:List Nd}(q:xV st)(B:(L.map Nd.root).Nodup):∀n j,j+n=L.length->EB L ((L.drop j).map (Gn st t)) (D5 st t L j)/\laid L ((L.drop j).map (Gn st t)) (D5 st t L j)=cZ st t L
 |0,j,h=>by
  rw[List.drop_eq_nil_of_le ω,show j=L.length by omega,VL];exact⟨⟨λi _=>sC q i,wo q B⟩,rfl⟩
 |n+1,j,h=>by
  have c:j<L.length:=ω;obtain⟨l,d⟩:=Lj q B n (j+1) ω;rw[List.drop_eq_getElem_cons c,ajD];have f:L[j]? =some L[j]:=ai2 c;have b:place (Gn st t L[j]).1 L=(j:Int):=js B f;have a:(Gn st t L[j]).2=cZ st t L j:=(wm f).symm;have m:=sC (t:=t) (L:=L) q j;have o:=XI (t:=t) q B j
  have g:bump (D5 st t L j) (place (Gn st t L[j]).1 L).toNat (Gn st t L[j]).2=D5 st t L (j+1):=by
   rw[b,a,ajb];funext i;unfold bump D5;by_cases e:i=j
   ·rw[e,if_pos rfl,if_neg ω,if_pos ω];omega
   ·rw[if_neg e];by_cases h:i<j
    ·rw[if_pos h,if_pos ω]
    ·rw[if_neg h,if_neg ω]
  have k:D5 st t L j (place (Gn st t L[j]).1 L).toNat=0:=by
   rw[b,ajb];exact if_neg ω
  refine⟨⟨by rw[b];omega,by rw[a];omega,by rw[a];omega,by rw[k,a];omega,by rw[k,a];omega,by rw[g];exact l⟩,?_⟩;unfold laid at d⊢;rw[aj5,g];exact d
theorem VM{st:List Int}{t:Tb}{L:List Nd}{r:Bs 32}(h:0<=place r L):cZ st t L (place r L).toNat=nY t st r:=by
 obtain⟨k,x,d,a,b,c,e⟩:=fB h;rw[a,ajb,wm b,c]
theorem PY:(ctx.ti 314).bytes=40:=κ
theorem aav:(ctx.ti 314).size=33:=κ
theorem Y0:(ctx.ti 314).z.size=33:=κ
theorem aeB{h:aa}{s:Sl}{L:List Dl}{x:Dl}{K:Sl->aa->Prop}(o:Vc.Own 314 33 h s (L.map xS))(q:L.length<100000)(B:∀a h',Vc.Own 314 33 h' a ((L++[x]).map xS)->ag (In s) h h'->(∀i,In a i->In s i\/h.size<=i)->K a h'):
 ∃new,cv (h.push (row (aiZ [ajx [.bytes 32 x.1,.i x.2]]) 314)) (ajo (some (Vc.Loc.mk h.size 0)) 1 1) 33 new/\(∀v∈new,bQ v=true)/\aq ctx 314 s 1 new (h.push (row (aiZ [ajx [.bytes 32 x.1,.i x.2]]) 314)) K:=by
 have c:=o.len;rw[aiY]at c;refine cz (C:=ctx) (T:=314) (sz:=33) (x:=xS x) aav Y0 (by rw[PY];decide) (by rw[PY];omega) o (Ky x) (QV x) λa h' d e f=>B a h' (by simpa using d) e λi⟨l,q,j⟩=>?_;rcases f l q with⟨g,b,k⟩|b
 ·exact .inl ⟨g,b,ω⟩
 ·exact .inr ω
theorem aaw{k:Nat}(o:Cb N most)(q:k<N.length){x:Nd}(B:x∈e_ N most k):0<=place x.root N:=by
 have:x.root∈(e_ N most k).map Nd.root:=aje.2 ⟨x,B,rfl⟩;rw[FE o q]at this;obtain⟨i,a,b⟩:=aje.1 this;have a:=(AV.1 a).1;rw[wK (ai2 a)]at b;rw[<-b,js o.nodup (ai2 a)];omega
theorem VN{we:Nat}{st:List Int}{t:Tb}{S0 S1:Nat->Prop}(so:xV st)(am:kX h b N most S0)(ao:dY h we b N (cZ st t N) S1){root:Bs 32}(ap:place root N<0->∀h',Ext h h'->R (ajc [.ptr none,.ptr none,.i 7]).val h')
 (E:∀k:Nat,place root N=(k:Int)->∀h' g U m e,kX h' g (e_ N most k) most m->dY h' U g (e_ N most k) (cZ st t (e_ N most k)) e->Ext h h'->(∀i,m i->h.size<=i)->(∀i,e i->h.size<=i)->(∀i,m i->¬e i)->
  R (ajc [.ptr (PT g),.ptr (PT U),.i 0]).val h'):
 Cl 178 [.ptr (PT b),.ptr (PT we),.bytes 32 root] h R:=by
 apply Gm;delta jZ FW jT bV dL fJ bu fU bK bN aT bh;obtain⟨r,A,p,a3⟩:=am;refine af λh1 v1 s s1=>⟨root,v1.bytes,R7 (p.ext s) (λhn C F=>⟨_,_,rfl,ajh (ap hn C (s.trans F))⟩) λk hk C g m t2 F n2=>⟨_,_,rfl,aja ?_⟩⟩;have H:=s.trans F;obtain⟨L,I⟩:∃L,L=e_ N most k:=⟨_,rfl⟩;have ar:k<N.length:=by have:=(qJ root N).2.1;omega
 have aw:∀x∈L,0<=place x.root N:=λx J=>aaw p.ok ar (I▸J);rw[<-I]at t2;have E:=E k hk;rw[<-I]at E;have K:=t2.lt;obtain⟨V,W,d,M⟩:=t2;have a4:=d.ok.len;have a5:=d.ok.most;refine Kz d λh3 w3 O3 X3 B3 G3 aE P o=>⟨_,rfl,?_⟩;have Y:=H.trans P;refine R6 (d.ext P) λZ sl o4 u m4=>⟨_,rfl,?_⟩;have a0:=Y.trans u;have ol:=o4.len;rw[kz,aiY]at ol;refine⟨λσ hh=>∃i:Nat,σ.2=i/\i<=L.length/\Vc.Own 314 33 hh σ.1 (((L.take i).map (Gn st t)).map xS)/\Ext Z hh/\∀j,In σ.1 j->Z.size<=j,λσ _=>(L.length-σ.2).toNat,⟨0,rfl,ω,Vc.Own.nil _ _ _,ai3 _,λj⟨l,hl,_⟩=>(by cases hl)⟩,?_⟩;rintro⟨D,ii⟩ h5 ⟨i,a,ab,v,f,w⟩;dsimp only at a v w⊢;subst a;have a1:=a0.trans f;refine ID (λa6=>?_) λa7=>?_
 ·have y:L[i]? =some (L[i]'ω):=ai2 ω;obtain⟨x,J⟩:∃x,x=L[i]'ω:=⟨_,rfl⟩;rw[<-J]at y;have ac:=aw x (ajf y);refine th (o4.ext f).elems ω (x:=x.root) (by rw[ajb,ai4,y];rfl) ?_;refine af λh6 v6 x6 s6=>av (t:=.bytes 32 x.root) v6 jV.symm (jV.trans jV.symm) λh7 v7 f7 s7=>?_;have ad:Ext h5 h7:=ai0 x6 f7 λi a=>ai5 (ai7 a);have ae:=a1.trans ad;refine⟨_,v7.bytes,_,v7.bytes,?_⟩;obtain⟨O,X,B,G,wp,_⟩:=ao;refine Ye (WP.ext wp ae) (p.ext ae) λh8 x8=>⟨_,rfl,x8,?_⟩;have Q:=ad.trans x8;have c:lY N (cZ st t N) x.root=nY t st x.root:=by unfold lY;rw[if_pos ac,VM ac]
  rw[c];have a2:(L.take i).length=i:=by rw[ajn];omega
  refine aeB (x:=Gn st t x) (v.ext Q) (by rw[aiY,a2];omega) λs9 h9 o9 f9 n9=>?_;rw[wrap_i64 (n:=(i:Int)+1) ω ω];refine⟨⟨i+1,by simp,ω,?_,ai0 (f.trans Q) f9 λj q=>w j q,λj q=>?_⟩,ω⟩
  ·have:(L.take (i+1)).map (Gn st t)=(L.take i).map (Gn st t)++[Gn st t x]:=by rw[ajB,y,ajq];rfl
   rw[this];exact o9
  ·exact(n9 j q).elim (w j) λh=>by have:=f.size;have:=Q.size;omega
 ·have ab:i=L.length:=ω;rw[ab,ajs]at v;have z:=Lj (t:=t) so d.ok.nodup L.length 0 ω;rw[List.drop_zero]at z;have pz:D5 st t L 0=λ_=>0:=rfl;rw[pz]at z;have S:=(P.trans u).trans f;have al:=u.trans f;refine IN (own:=λ_=>0) ⟨V,W,d.ext S,rfl⟩ ⟨O3,X3,B3,G3,WP.ext aE al,rfl⟩ (λi a c=>?_) (λ_ _=>ai8 _) ?_ v.elems (λj q c=>?_) (by rw[aiY];omega) z.1 λh6 e w6 T=>⟨_,rfl,?_⟩
  ·have:=K i (M▸a);have:=(o i c).1;omega
  ·unfold tot;rw[nN λ_ _=>rfl];decide
  ·have:=w j q;have:=(o j c).2;have:=u.size;omega
  ·rw[z.2]at w6;have n6:∀i,e i->C.size<=i:=λi a=>(T.new i a).elim (λh=>(o i h).1) λh=>by have:=S.size;omega
   refine E h6 g w3 m e ⟨V,W,(d.ext S).only T.only λi a c=>?_,M⟩ w6 (ai0 (Y.trans al) T.only λi a=>?_) (λi a=>?_) (λi a=>?_) λi a c=>?_
   ·have:=K i (M▸a);have:=(o i c).1;omega
   ·have:=(o i a).1;have:=H.size;omega
   ·have:=n2 i a;have:=s.size;omega
   ·have:=n6 i a;have:=H.size;omega
   ·have:=K i a;have:=n6 i c;omega
theorem Sep.ab8{F:Nat->Nat->Prop}{q B:Nat->Prop}(s:Sep h F)(n0:∀i,q i->h.size<=i)(E:∀i,B i->h.size<=i)(nC:∀i,q i->¬B i)(G:∀i,q i->i<h'.size)(H:∀i,B i->i<h'.size)(sz:h.size<=h'.size):
 Sep h' (mK (mK F 0 q) 1 B):=by
 have g:∀j i,mK (mK F 0 q) 1 B j i->(j=1/\B i)\/(j=0/\q i)\/F j i:=λj i d=>by
  by_cases f:j=1
  ·rw[f,bF]at d;exact .inl ⟨f,d⟩
  ·rw[au f]at d;by_cases k:j=0
   ·rw[k,bF]at d;exact .inr (.inl ⟨k,d⟩)
   ·rw[au k]at d;exact .inr (.inr d)
 refine⟨λa b i m n=>?_,λj i d=>?_⟩
 ·rcases g a i m with⟨f,c⟩|⟨f,c⟩|c<;>rcases g b i n with⟨l,e⟩|⟨l,e⟩|e
  ·rw[f,l]
  ·exact absurd c (nC i e)
  ·have:=E i c;have:=s.lt _ _ e;omega
  ·exact absurd e (nC i c)
  ·rw[f,l]
  ·have:=n0 i c;have:=s.lt _ _ e;omega
  ·have:=E i e;have:=s.lt _ _ c;omega
  ·have:=n0 i e;have:=s.lt _ _ c;omega
  ·exact s.nC _ _ _ c e
 ·rcases g j i d with⟨_,c⟩|⟨_,c⟩|c
  ·exact H i c
  ·exact G i c
  ·have:=s.lt _ _ c;omega
theorem R8{g:Nat}{a:Ad}{c:Cf}{V:List Vd}{s:St}{q:Nat->Nat->Prop}(p:aQ h g a c V s q){root:Bs 32}(U:place root s.N<0->∀h',Ext h h'->R (TV.i 7).val h')
 (W:∀k:Nat,place root s.N=(k:Int)->∀h' A H,aQ h' g A c V {s with N:=e_ s.N c.no k} H->A.kd=a.kd->A.bk=a.bk->Step (cO q) h (cO H) h'->R (TV.i 0).val h'):
 Cl 115 [.ptr (PT a.bk),.bytes 32 root] h R:=by
 apply yF;delta iR aD bV dw bu dO bK aT bh
 refine af λo v1 l s1=>aja ⟨_,(p.ext l).bk.ah rfl,_,(p.ext l).bk.ah rfl,root,v1.bytes,VN p.st (p.ext l).tree (p.ext l).D9 (λQ r B=>⟨_,_,_,rfl,ajh (U Q r (l.trans B))⟩)
  λk C r u D v w t2 S B n0 T X=>⟨_,_,_,rfl,aja ?_⟩⟩
 have E:=l.trans B;have d:=p.ext E;refine aF d.bk (i:=1) (t:=.ptr (PT u)) rfl rfl rfl rfl λh3 Y f3 Z=>aF Y (i:=2) (t:=.ptr (PT D)) rfl rfl rfl rfl λm v4 f4 s4=>?_;have f24:ag (·=a.bk) r m:=f3.trans f4;have ab:m.size=r.size:=s4.trans Z;have I:q 3 a.bk:=by rw[p.f3]
 have ac:=p.sep.lt 3 _ I;have ad:=E.size;have z1:=l.size;have F:∀i,v i->h.size<=i:=λi b=>by have:=n0 i b;omega
 have G:∀i,w i->h.size<=i:=λi b=>by have:=T i b;omega
 have n:∀k,k≠3->∀i,q k i->i≠a.bk:=λk C i b e=>p.sep.off C i b (e▸I);obtain⟨F',x⟩:∃F',F'=mK (mK q 0 v) 1 w:=⟨_,rfl⟩;have J:F' 0=v:=by rw[x,au δ,bF]
 have K:F' 1=w:=by rw[x,bF]
 have f:∀k,k≠0->k≠1->F' k=q k:=λk y o=>by rw[x,au o,au y]
 have t4:kX m u (e_ s.N c.no k) c.no v:=t2.only f24 λi b e=>by have:=F i b;omega
 have L:dY m D u (e_ s.N c.no k) (cZ (bJ V) s.tb (e_ s.N c.no k)) w:=S.only f24 λi b e=>by have:=G i b;omega
 have M:∀j i,F' j i->q j i\/h.size<=i:=λj i b=>by
  by_cases o:j=1
  ·rw[o,K]at b;exact .inr (G i b)
  ·by_cases y:j=0
   ·rw[y,J]at b;exact .inr (F i b)
   ·rw[f j y o]at b;exact .inl b
 have P:aQ m g {a with tr:=u,we:=D} c V {s with N:=e_ s.N c.no k} F':=by
  refine⟨?_,by rw[J];exact t4,by rw[K];exact L,?_,v4,?_,?_,?_,?_,?_,?_,?_,?_,?_,?_,p.can⟩
  ·rw[x];exact p.sep.ab8 F G X t4.lt L.lt ω
  ·rw[f 2 δ δ];exact d.ij.only f24 (n 2 δ)
  ·rw[f 3 δ δ];exact p.f3
  ·rw[f 4 δ δ];exact d.kids.only f24 (n 4 δ)
  ·rw[f 5 δ δ];exact d.wait.only f24 (n 5 δ)
  ·rw[f 6 δ δ];exact d.who.only f24 (n 6 δ)
  ·exact d.jL.only f24 (n 7 δ _ (by rw[p.f7]))
  ·rw[f 7 δ δ];exact p.f7
  ·exact d.var.only f24 (n 8 δ _ (by rw[p.f8]))
  ·rw[f 8 δ δ];exact p.f8
  ·exact TV.bX f24 d.vals λi b e=>p.off 3 i (by rw[p.f3];exact e) b
  ·exact λj i b O=>(M j i b).elim (λz=>p.off j i z O) λz=>by have:=p.x.PC i O;omega
 refine W k C m _ F' P rfl rfl ⟨(ajp E).trans (f24.mono λi e=>⟨3,by rw[p.f3];exact e⟩),λi⟨j,hj⟩=>(M j i hj).imp (λz=>⟨j,z⟩) id⟩
theorem R9{g:Nat}{a:Ad}{c:Cf}{V:List Vd}{s:St}{q:Nat->Nat->Prop}(p:aQ h g a c V s q)(E:∀h',Ext h h'->R (ajm 32 (DN s.N (cZ (bJ V) s.tb s.N))).val h'):
 Cl 121 [.ptr (PT a.bk)] h R:=by
 apply yG;delta De dH xQ bu fU bK;refine af λm v1 b n=>aja ⟨_,(p.ext b).bk.ah rfl,?_⟩;obtain⟨r,A,e,o⟩:=(p.ext b).tree;obtain⟨O,X,B,G,f,u⟩:=(p.ext b).D9;refine Rp f e λv d=>⟨_,rfl,av (t:=.bytes 32 (DN s.N (cZ (bJ V) s.tb s.N))) (v1.ext d) jV.symm (jV.trans jV.symm) λj k f3 w=>⟨_,k.bytes,E j (ai0 (b.trans d) f3 λi l=>?_)⟩⟩;rw[l];exact ai6 _
end
end Gate
namespace Gate
open Board (Vd Cf av uo)
open Pool (It WL dD Fit)
def bg(c:Cf)(s:St)(root:Bs 32):Int×St:=
 if place root s.N<0 then(7,s)
 else(0,{s with N:=e_ s.N c.no (place root s.N).toNat,kids:=s.kids.filter λx=>!decide (x.slot<=(iL {s with N:=e_ s.N c.no (place root s.N).toNat}).slot)})
section
variable{R:Rq}{h h':aa}{g:Nat}{a:Ad}{c:Cf}{V:List Vd}{s:St}{Fp:Nat->Nat->Prop}
theorem JP(p:aQ h g a c V s Fp){root:Bs 32}
 (q:∀h' f m,aQ h' g f c V (bg c s root).2 m->Step (cO Fp) h (cO m) h'->R (TV.i (bg c s root).1).val h'):
 Cl 41 [.ptr (PT g),.bytes 32 root] h R:=by
 apply tH;delta aD nT c7 bV dw jS bu dO fU bK aT bh;refine af λj v1 b M=>aja ⟨_,(p.ext b).var.ah rfl,root,v1.bytes,R8 (p.ext b) (λB n o=>⟨_,rfl,ajh ?_⟩) λk C n f D r O P E=>⟨_,rfl,aja ?_⟩⟩
 ·have e:bg c s root=(7,s):=by unfold bg;rw[if_pos B]
  rw[e]at q;exact q n a Fp (p.ext (b.trans o)) (.an (b.trans o))
 ·have e:bg c s root=(0,{s with N:=e_ s.N c.no k,kids:=s.kids.filter λx=>!decide (x.slot<=(iL {s with N:=e_ s.N c.no k}).slot)}):=by
   unfold bg;rw[if_neg ω,C,ajb]
  rw[e]at q;refine IG r λF G=>⟨_,_,rfl,af λQ v4 H S=>aH v4 (t:=.bytes 32 (iL {s with N:=e_ s.N c.no k}).root) uo λu T f5 U=>?_⟩;have I:Ext F u:=ai0 H f5 λi d=>ai5 (ai7 d);have v:=G.trans I;have l:=r.ext v;obtain⟨w,W,J,K⟩:=l.kids;refine⟨_,l.var.ah rfl,Pool.Rl J λy z L A=>⟨_,rfl,?_⟩⟩
  have st:Step (D 4) u (λi=>i=f.kd\/dD w z i) y:=by
   rw[K]
   exact⟨A.only.mono λi d=>.inr d,λi d=>by
    rcases d with j|j
    ·exact .inl (.inl j)
    ·exact(A.new i j).imp .inr id⟩
  exact q y f _ (l.ru ⟨w,z,L,rfl⟩ st) (.cut b ((E.trans (.an v)).trans (ajd st)))
theorem R_{k:Nat}(q:Kept c s k){root:Bs 32}:Kept c (bg c s root).2 k:=by
 unfold bg;split
 ·exact q
 ·have b:=q.left;have:=ajr (λx:It=>!decide (x.slot<=(iL {s with N:=e_ s.N c.no (place root s.N).toNat}).slot)) s.kids;have d:=q.By;exact⟨q.now,q.An,by dsimp only;omega,q.Ao,λx a=>q.D1 x (ajv.1 a).1,by dsimp only;omega,q.gone⟩
end
end Gate
namespace Gate
open Board (Vd Cf Vt Ms Dm jI av aP aU jb EG aZ eZ ck)
open Pool (It oc RL eC Fit Bk j9 jV Im rts)
def BQ(Q S:Nat->Prop)(h:aa):Prop:=∀i,Q i->¬S i/\i<h.size
theorem BQ.step{Q S S':Nat->Prop}{h h':aa}(q:BQ Q S h)(st:Step S h S' h'):BQ Q S' h':=λi b=>by
 obtain⟨c,e⟩:=q i b;have:=st.only.size;refine⟨λd=>?_,ω⟩;rcases st.new i d with a|a
 ·exact c a
 ·omega
theorem BQ.elems{Q S:Nat->Prop}{h h':aa}(q:BQ Q S h)(f:ag S h h'){sz:Nat}{s:Sl}{ts:List TV}(e:ak sz h s ts)(A:∀i,In s i->Q i):ak sz h' s ts:=
 TV.bX f e λi a=>(q i (A i a)).1
theorem PZ(t:Tb)(v:Vt):(cH t v).2.first.length<=t.first.length+1:=by
 unfold cH
 repeat' split
 all_goals (simp only[ajk,ajO];omega)
theorem P4(N:List Nd)(t:Tb)(v:Vt):(ia N t v).2.first.length<=t.first.length+1:=by
 unfold ia;split
 ·dsimp only;omega
 ·split
  ·dsimp only;omega
  ·exact PZ t v
theorem tI(N:List Nd):∀(W:List Vt)(t:Tb),(gC N t W).first.length<=t.first.length+W.length
 |[],t=>by simp[gC]
 |v::W,t=>by
  have a:=P4 N t v;have b:=tI N W (ia N t v).2;show(gC N (ia N t v).2 W).first.length<=_;rw[aju];omega
theorem Jb{c:Cf}{V:List Vd}(q:V.length<=64)(x:It):(pg c V x).length<=65:=by
 have:=Board.qz (n:=V.length) (aN:=c.aN) (m:=(j9 x.text).ms aiX) (row:=(j9 x.text).row);unfold pg Board.jb;split
 ·simp
 ·rw[aiY];omega
theorem tJ{c:Cf}{V:List Vd}(q:V.length<=64)(N:List Nd):∀(L:List It)(t:Tb),(fm c V N t L).first.length<=t.first.length+65*L.length
 |[],t=>by simp[fm]
 |x::L,t=>by
  have a:=tI N (pg c V x) t;have b:=tJ (c:=c) q N L (gC N t (pg c V x));have d:=Jb (c:=c) q x;show(fm c V N (gC N t (pg c V x)) L).first.length<=_;rw[aju];omega
def Sa(s:St)(k:Nat):Prop:=s.tb.first.length+65*s.wait.length<=65*k
section
variable{R:Rq}{h h':aa}{g:Nat}{a:YK}{c:Cf}{V:List Vd}{s:St}{Fp:Nat->Nat->Prop}
theorem P6(p:aS h g a c V s Fp)(q:s.tb.first.length<49999){v:Vt}
 (E:∀h' S',aS h' g a c V {s with tb:=(ia s.N s.tb v).2} (mK Fp 1 S')->Step (Fp 1) h S' h'->R (TV.i (ia s.N s.tb v).1).val h'):
 Cl 112 [.ptr (PT a.bk),v.tv] h R:=by
 obtain⟨A,B,D,b,l⟩:=p.tree;obtain⟨m,d,Ha,e,tb,f⟩:=p.ij;refine PF p.bk b tb q λi j k st=>?_;rw[<-f]at st;exact E i _ (p.DY ⟨j,d,Ha,e,k,rfl⟩ st) st
theorem Ct(p:aS h g a c V s Fp){k:Nat}(O:Kept c s k)(fw:Sa s k)(q:k<700)
 (U:∀h' aw,aS h' g a c V (eM c V s).2 aw->Step (cO Fp) h (cO aw) h'->R (ajy (eM c V s).1).val h'):
 Cl 40 [.ptr (PT g)] h R:=by
 apply qj;delta aG gU bO c7 c5 i_ bN aT mN;have kn:=O.now;have cw:=Clock.AZ c.win;have cp:=p.can.pe;have cd:=p.can.dec;have S:=p.good;obtain⟨T,X,z⟩:=p.var;refine⟨_,z.ah rfl,?_⟩;by_cases aE:1073741824<=s.now
 ·have e:eM c V s=(false,s):=by unfold eM;rw[if_pos aE]
  rw[e]at U;exact Clock.Vm p.jL (show s.now=1073741824 by omega) ⟨_,rfl,ajh (U h Fp p (.an (ai3 _)))⟩
 refine Clock.Ct p.jL ω kn.1 λD c1 f1 s1=>⟨_,rfl,aja ?_⟩;obtain⟨Y,bj⟩:=p.M1 c1 f1;obtain⟨n,hn⟩:∃n,n=s.now+1:=⟨_,rfl⟩;rw[<-hn]at Y;clear z T X;obtain⟨T,X,z⟩:=Y.var;obtain⟨A,B,rp,hP⟩:=Y.who;refine⟨_,z.ah rfl,Peers.RV Peers.TE rp (by have:=S.2;dsimp only;omega) S.1.low cd λK A2 B2 bk g2=>⟨rfl,?_⟩⟩
 have a0:Step (Fp 5) D (Peers.dD a.wh A2 B2) K:=by
  rw[hP];exact⟨g2.1,g2.2⟩
 have gt:Peers.Good (Peers.tick c.dec s.sc)/\((Peers.tick c.dec s.sc).length:Int)<=c.pe:=⟨S.1.tick cd.1,by have:=Peers.Ab c.dec s.sc;have:=S.2;omega⟩;have G:=Y.DX (P:=Peers.tick c.dec s.sc) (gone:=s.gone) ⟨A2,B2,bk,rfl⟩ gt a0;have am:=bj.trans (ajd a0);obtain⟨Z,bl⟩:∃Z,Z=mK Fp 5 (Peers.dD a.wh A2 B2):=⟨_,rfl⟩;rw[<-bl]at G am;clear z T X;obtain⟨T,X,z⟩:=G.var;obtain⟨wA,wp,hW⟩:=G.wait;refine⟨_,z.ah rfl,_,z.ah rfl,n,G.jL.now,?_⟩;refine Pool.Nh (n:=n) wp (λx r=>(O.Ao x r).1) λh3 A3 t bs w3 g3 ab o3 K3 bm=>⟨_,rfl,?_⟩
 have ao:Step (Z 4) K (λi=>i=a.wt\/In A3 i) h3:=by
  rw[hW];exact uU g3
 have p3:=G.Ai ⟨A3,w3,rfl⟩ ao;have a1:=am.trans (ajd ao);obtain⟨H,a2⟩:∃H,H=mK Z 4 (λi=>i=a.wt\/In A3 i):=⟨_,rfl⟩;rw[<-a2]at p3 a1;have z2:=am.only.size;have z3:=ao.only.size;have bo:=o3.lt;obtain⟨L,hL⟩:∃L,L=s.wait.filter λx=>decide (x.slot<n):=⟨_,rfl⟩;have ab:bs.map Bk.of=L.map λx=>(x.root,j9 x.text):=by rw[hL];exact ab
 have ct:bs.length=L.length:=by have:=congrArg List.length ab;simpa using this
 have hwl:=O.An;have cx:L.length<=s.wait.length:=by rw[hL];exact ajr _ _
 have ce:=p.can.ew;have tl:=o3.elems.len;rw[aiY]at tl;have a3:=p.can.len;have el:=p.el;have bp:=D4 p.can el;obtain⟨Q,hQ⟩:∃Q:Nat->Prop,Q=λi=>In t i\/∃k∈bs,In k.b i:=⟨_,rfl⟩
 have a4:∀i,H 1 i->i<K.size:=λi b=>by
  rw[a2,au δ]at b;exact G.sep.lt 1 i b
 have br:BQ Q (H 1) h3:=λi b=>by
  rw[hQ]at b;rcases b with⟨l,u,e⟩|⟨y,hy,l,u,e⟩
  ·have D:=bm l u;have K:=bo l u;exact⟨λr=>by have:=a4 i r;omega,ω⟩
  ·have D:=(K3 y hy).2 l u;exact⟨λr=>by have:=a4 i r;omega,ω⟩
 obtain⟨o,M⟩:∃o:St,o={s with now:=n,sc:=Peers.tick c.dec s.sc,gone:=s.gone,wait:=s.wait.filter λx=>!decide (x.slot<n)}:=⟨_,rfl⟩;have p3:aS h3 g a c V o H:=by rw[M];exact p3
 have hT:eM c V s=(true,{o with tb:=dB (fm c V s.N s.tb L) (Vc.mx (n-Clock.eD c.win) 0)}):=by unfold eM;rw[if_neg aE,hL,M,hn]
 rw[hT]at U;have hN:o.N=s.N:=by rw[M]
 have bt:o.tb=s.tb:=by rw[M]
 have cy:s.tb.first.length+65*s.wait.length<=65*k:=fw
 have tf:∀i,i<=L.length->(fm c V s.N s.tb (L.take i)).first.length+65*(L.length-i)<=65*k:=λi b=>by
  have D:=tJ (c:=c) a3.2 s.N (L.take i) s.tb;rw[ajn]at D;have:min i L.length=i:=ω;rw[this]at D;omega
 refine⟨λσ f=>∃i:Nat,σ=i/\i<=bs.length/\∃F,aS f g a c V {o with tb:=fm c V s.N s.tb (L.take i)} F/\Step (cO Fp) h (cO F) f/\BQ Q (F 1) f/\ak 53 f t (bs.map Bk.U5)/\∀k∈bs,ak 1 f k.b (aP k.d.row),
  λσ _=>(bs.length-σ).toNat,⟨0,rfl,ajz _,H,by rw[ajW];unfold fm;rw[List.foldl_nil,<-bt];exact p3,a1,br,o3.elems,λk q=>(K3 k q).1⟩,?_⟩
 rintro σ h4 ⟨i,rfl,b,F4,C,a5,bx,e4,k4⟩;refine ID (λa6=>?_) λa6=>?_
 ·have b0:i<bs.length:=ω;obtain⟨x,r⟩:∃x,L[i]? =some x:=⟨_,ai2 ω⟩;refine e4.read ω a6 λl1 t1 cA a7 b1=>?_;rw[ajb,ai4]at a7;obtain⟨y,hy,rfl⟩:=ajK.1 a7
  have a8:y.d=j9 x.text:=by
   have ac:(bs.map Bk.of)[i]? =some y.of:=by rw[ai4,hy];rfl
   rw[ab,ai4,r]at ac;injection ac with ac;injection ac with cB b2;exact b2.symm
  have b3:=ajf hy;refine⟨y.ms.kind,y.ms.slot,y.ms.target,y.ms.ax,y.ms.body,y.ms.bits,y.ms.tag,b1,?_⟩;refine af λh5 v5 x5 s5=>av (t0:=aU.tv) v5 (t:=y.ms.tv) ck eZ λh6 v6 f6 s6=>?_;have ad:Ext h4 h6:=ai0 x5 f6 λi b=>ai5 (ai7 b);have p6:=C.ext ad;have cC:=ad.size;obtain⟨cI,cJ,b5⟩:=p6.var;refine⟨c.vals,c.ep,c.aN,c.no,c.eu,c.ew,c.quo,c.pe,c.gY,c.win,c.bD,c.dec,b5.at.1,aZ (m:=y.ms) v6 ?_⟩
  have b6:y.d.row.length<500:=by
   have b7:x∈s.wait:=by
    have:=ajf r;rw[hL]at this;exact(ajv.1 this).1
   obtain⟨_,d,hd,_,_⟩:=O.Ao x b7;rw[a8,Pool.qx hd];exact Pool.mZ hd
  refine Board.I9 (c:=c) (m:=y.ms) (row:=y.d.row) bp ((k4 y b3).ext ad) b6 λh7 w e7 x7 b8=>⟨_,rfl,?_⟩;have ae:=ad.trans x7;have z7:=x7.size;have p7:=p6.ext x7;obtain⟨W,a9⟩:∃W,W=jb c.vals.len c.aN y.ms y.d.row:=⟨_,rfl⟩;rw[<-a9]at e7
  have a':W=pg c V x:=by
   rw[a9];unfold pg Bk.ms;rw[I2,<-a8,el]
  have cK:W.length<=65:=by rw[a'];exact Jb a3.2 x
  obtain⟨B',hB⟩:∃B',B'=fm c V s.N s.tb (L.take i):=⟨_,rfl⟩;have b9:=tf i ω;rw[<-hB]at p7 b9;have ba:=e7.len;unfold EG at ba;rw[aiY]at ba
  have b':∀l,W≠[]->w.a=some l->l.b<h7.size:=λl E u=>by
   obtain⟨v,hv⟩:∃v,W[0]? =some v:=⟨_,ai2 (List.length_pos_iff.2 E)⟩;have ca:=e7.get l u 0 v.tv (by unfold EG;rw[ai4,hv];rfl);exact vn (show ah h7 l.b (l.o+0*34) (.i v.who)from ca.1)
  have cc:BQ (λi=>Q i\/(W≠[]/\In w i)) (F4 1) h7:=λj hj=>by
   rcases hj with hj|⟨E,l,u,e⟩
   ·have:=bx j hj;exact⟨this.1,by have:=ae.size;omega⟩
   ·have D:=b8 l u;have K:=b' l E u;exact⟨λq=>by have:=C.sep.lt 1 j q;omega,ω⟩
  refine⟨λσ f=>∃j:Nat,σ=j/\j<=W.length/\∃F,aS f g a c V {o with tb:=gC s.N B' (W.take j)} F/\Step (cO Fp) h (cO F) f/\BQ (λi=>Q i\/(W≠[]/\In w i)) (F 1) f/\ak 53 f t (bs.map Bk.U5)/\(∀k∈bs,ak 1 f k.b (aP k.d.row))/\(W≠[]->ak 34 f w (EG W)),
   λσ _=>(W.length-σ).toNat,⟨0,rfl,ajz _,F4,by rw[ajW];exact p7,a5.trans (.an ae),cc,e4.ext ae,λk q=>(k4 k q).ext ae,λ_=>e7⟩,?_⟩
  rintro σ h8 ⟨j,rfl,hj,F8,p8,bb,ap,e8,k8,w8⟩;refine ID (λhjt=>?_) λhjt=>?_
  ·have I:j<W.length:=ω;have E:W≠[]:=λe=>by rw[e]at I;simp at I
   obtain⟨v,hv⟩:∃v,W[j]? =some v:=⟨_,ai2 I⟩;refine TB (w8 E) hv ?_;refine af λh9 v9 x9 s9=>av (t:=v.tv) v9 rfl rfl λbc v10 f10 cM=>?_;have J:Ext h8 bc:=ai0 x9 f10 λi b=>ai5 (ai7 b);have bd:=p8.ext J;obtain⟨cP,cR,cf⟩:=bd.var
   have ch:(gC s.N B' (W.take j)).first.length<49999:=by
    have:=tI s.N (W.take j) B';rw[ajn]at this;omega
   refine⟨_,cf.ah rfl,v.who,v.slot,v.target,v10.at,P6 bd ch λcS ci cj N=>⟨_,rfl,?_⟩⟩;have cT:=J.size;have al:BQ (λi=>Q i\/(W≠[]/\In w i)) (F8 1) bc:=λi b=>⟨(ap i b).1,by have:=(ap i b).2;omega⟩
   have eT:gC s.N B' (W.take (j+1))=(ia s.N (gC s.N B' (W.take j)) v).2:=by
    unfold gC;rw[ajB,hv,ajU];rfl
   rw[show ai9 .i64 ((j:Int)+1)=((j+1:Nat):Int) by rw[wrap_i64 ω ω];omega]
   refine⟨⟨j+1,rfl,I,mK F8 1 ci,?_,(bb.trans (.an J)).trans (ajd N),by rw[bF];exact al.step N,al.elems N.only (e8.ext J) λi b=>.inl (by rw[hQ];exact .inl b),λk q=>al.elems N.only ((k8 k q).ext J) λi b=>.inl (by rw[hQ];exact .inr ⟨k,q,b⟩),
    λ_=>al.elems N.only ((w8 E).ext J) λi b=>.inr ⟨E,b⟩⟩,by dsimp only;omega⟩
   rw[eT,show ia s.N=ia o.N by rw[hN]];exact cj
  ·have I:j=W.length:=ω;rw[I,ajs]at p8;rw[show ai9 .i64 ((i:Int)+1)=((i+1:Nat):Int) by rw[wrap_i64 ω ω];omega];refine⟨⟨i+1,rfl,b0,F8,?_,bb,λi b=>ap i (.inl b),e8,k8⟩,by dsimp only;omega⟩
   have eT:fm c V s.N s.tb (L.take (i+1))=gC s.N B' (pg c V x):=by
    rw[hB];unfold fm;rw[ajB,r,ajU];rfl
   rw[eT,<-a'];exact p8
 ·have cl:i=L.length:=ω;rw[cl,ajs]at C;have n3:o.now=n:=by rw[M]
  obtain⟨cU,cX,bi⟩:=C.var;refine⟨_,bi.ah rfl,_,C.bk.ah rfl,_,bi.ah rfl,Clock.FF C.jL (by dsimp only;omega) (by dsimp only;omega) cw.1 cw.2 ⟨_,rfl,ai3 _,?_⟩⟩;obtain⟨Fi,La,Ha,Ou,tb,hB⟩:=C.ij;refine MZ tb ?_ λh5 Fi' cs ar=>⟨rfl,?_⟩
  ·dsimp only;rw[n3];unfold Vc.mx;split<;>omega
  ·rw[<-hB]at ar;have p5:=C.DY ⟨Fi',La,Ha,Ou,cs,rfl⟩ ar;refine U h5 _ ?_ (a5.trans (ajd ar));dsimp only at p5⊢;rw[n3]at p5⊢;exact p5
theorem Sb(p:aS h g a c V s Fp){root:Bs 32}(I:place root s.N<0->∀h',Ext h h'->R (TV.i 7).val h')
 (J:∀k:Nat,place root s.N=(k:Int)->∀h' u C,aS h' g u c V {s with N:=e_ s.N c.no k} C->u.kd=a.kd->u.bk=a.bk->Step (cO Fp) h (cO C) h'->R (TV.i 0).val h'):
 Cl 118 [.ptr (PT a.bk),.bytes 32 root] h R:=by
 obtain⟨A,B,D,K,L⟩:=p.tree;refine RR p.bk K I λk v q w A' B' D' t4 v4 f4 lo=>?_;have E:Fp 2 a.bk:=by rw[p.f2]
 have M:=p.sep.lt 2 _ E;have f:∀k,k≠2->∀i,Fp k i->¬i=a.bk:=λk v i o e=>p.sep.off v i o (e▸E);have z:=f4.size;obtain⟨l,F⟩:∃l,l=BP w A' B' D':=⟨_,rfl⟩;have r:∀i,l i->h.size<=i:=λi o=>lo i (F▸o);have G:w_ q w (e_ s.N c.no k) c.no l:=⟨A',B',D',t4,F⟩
 have st:Step (cO Fp) h (cO (mK Fp 0 l)) q:=⟨f4.mono λi e=>⟨2,by rw[p.f2];exact e⟩,λi⟨j,b⟩=>by
  by_cases e:j=0
  ·rw[e,bF]at b;exact .inr (r i b)
  ·rw[au e]at b;exact .inl ⟨j,b⟩⟩
 have P:aS q g {a with tr:=w} c V {s with N:=e_ s.N c.no k} (mK Fp 0 l):=by
  refine⟨⟨λx y i m n=>?_,λj i b=>?_⟩,by rw[bF];exact G,?_,v4,?_,?_,?_,?_,p.good,?_,?_,?_,?_,?_,?_,p.can⟩
  ·by_cases d:x=0<;>by_cases t:y=0
   ·rw[d,t]
   ·rw[d,bF]at m;rw[au t]at n;have:=r i m;have:=p.sep.lt y i n;omega
   ·rw[t,bF]at n;rw[au d]at m;have:=r i n;have:=p.sep.lt x i m;omega
   ·rw[au d]at m;rw[au t]at n;exact p.sep.nC _ _ _ m n
  ·by_cases d:j=0
   ·rw[d,bF]at b;exact G.lt i b
   ·rw[au d]at b;have:=p.sep.lt j i b;omega
  ·rw[au δ];exact p.ij.only f4 (f 1 δ)
  ·rw[au δ];exact p.f2
  ·rw[au δ];exact p.kids.only f4 (f 3 δ)
  ·rw[au δ];exact p.wait.only f4 (f 4 δ)
  ·rw[au δ];exact p.who.only f4 (f 5 δ)
  ·exact p.jL.only f4 (f 6 δ _ (by rw[p.f6]))
  ·rw[au δ];exact p.f6
  ·exact oF p.var f4 (f 7 δ _ (by rw[p.f7]))
  ·rw[au δ];exact p.f7
  ·exact TV.bX f4 p.vals λi o e=>p.off 2 i (by rw[p.f2];exact e) o
  ·intro j i b H;by_cases d:j=0
   ·rw[d,bF]at b;have:=r i b;have:=p.PC i H;omega
   ·rw[au d]at b;exact p.off j i b H
 exact J k v q _ _ P rfl rfl st
theorem Jc(p:aS h g a c V s Fp){root:Bs 32}
 (q:∀h' f l,aS h' g f c V (bg c s root).2 l->Step (cO Fp) h (cO l) h'->R (TV.i (bg c s root).1).val h'):
 Cl 42 [.ptr (PT g),.bytes 32 root] h R:=by
 apply mw;delta gT Be Bd c7 bV dw jS bu bK bN aT;refine af λJ v1 d K=>?_;obtain⟨L,M,w⟩:=(p.ext d).var;refine⟨_,w.ah rfl,root,v1.bytes,Sb (p.ext d) (λy j m=>⟨_,rfl,aja ?_⟩) λk z j f A b O P B=>⟨_,rfl,ajh ?_⟩⟩
 ·have e:bg c s root=(7,s):=by unfold bg;rw[if_pos y]
  rw[e]at q;exact q j a Fp (p.ext (d.trans m)) (.an (d.trans m))
 ·have e:bg c s root=(0,{s with N:=e_ s.N c.no k,kids:=s.kids.filter λx=>!decide (x.slot<=(iL {s with N:=e_ s.N c.no k}).slot)}):=by
   unfold bg;rw[if_neg ω,z,ajb]
  rw[e]at q;obtain⟨Q,C,S,n,T⟩:=b.tree;have D:=b.tok.QD;obtain⟨u,o⟩:∃u,(e_ s.N c.no k)[(0:Int).toNat]? =some u:=⟨_,ai2 D⟩;have E:iL {s with N:=e_ s.N c.no k}=u:=by unfold iL;rw[gW (ai8 0) o]
  rw[E]at q;obtain⟨U,W,r⟩:=b.var;obtain⟨X,F,G⟩:=b.kids;refine⟨_,r.ah rfl,_,r.ah rfl,_,b.bk.ah rfl,C,n.var.ah rfl,zZ n.b.elems (ai8 0) (AU o) (Pool.MO F λt v H I=>⟨_,rfl,?_⟩)⟩;have st:Step (A 3) j (λi=>i=f.kd\/In v i) t:=by rw[G];exact uU I
  exact q t f _ (b.ru ⟨v,H,rfl⟩ st) (.cut d (B.trans (ajd st)))
end
end Gate
namespace Gate
open Board (Vd Cf Ms)
open Pool (It Fit)
def gD(s:St)(P:List (Int×Int)):St:={s with sc:=P}
section
variable{c:Cf}{V:List Vd}{s:St}{P:List (Int×Int)}
theorem Sc{no:Int}{r:Bs 32}{q:List (Bs 32)}{x:It}:a_ no r (gD s P,q) x=(gD (a_ no r (s,q) x).1 P,(a_ no r (s,q) x).2):=by
 unfold a_;have e:(gD s P).N=s.N:=rfl;simp only[e];split
 ·rfl
 ·split
  ·rfl
  ·rfl
theorem Jd{no:Int}{r:Bs 32}:∀(L:List It)(s:St)(q:List (Bs 32)),L.foldl (a_ no r) (gD s P,q)=(gD (L.foldl (a_ no r) (s,q)).1 P,(L.foldl (a_ no r) (s,q)).2)
 |[],_,_=>rfl
 |x::L,s,q=>by
  rw[aj5,aj5,Sc];obtain⟨p,A⟩:∃p,p=a_ no r (s,q) x:=⟨_,rfl⟩;rw[<-A];exact Jd L p.1 p.2
theorem D6{no:Int}:∀(f:Nat)(q:List (Bs 32))(s:St),fZ no f q (gD s P)=gD (fZ no f q s) P
 |0,_,_=>rfl
 |_+1,[],_=>rfl
 |f+1,r::q,s=>by
  unfold fZ;have e:(gD s P).kids=s.kids:=rfl;rw[e,show({gD s P with kids:=s.kids.filter λx=>!decide (x.fr=r)}:St)=gD {s with kids:=s.kids.filter λx=>!decide (x.fr=r)} P from rfl,Jd];exact D6 f _ _
theorem P8{peer:Int}{m:Ms}{row:List Bool}{text:LU}:fk c (gD s P) peer m row text=((fk c s peer m row text).1,gD (fk c s peer m row text).2 P):=by
 unfold fk;have e:(gD s P).N=s.N:=rfl;have a:(gD s P).kids=s.kids:=rfl;rw[e,a];split
 ·rfl
 split
 ·rfl
 split
 ·rfl
 ·unfold tw;rw[show({gD s P with N:=iF (gD s P).N c.no (Board.bT m row) m.target m.slot}:St)=gD {s with N:=iF s.N c.no (Board.bT m row) m.target m.slot} P from rfl,a,D6]
theorem P_{m:Ms}{row:List Bool}:dQ c V (gD s P) m row=dQ c V s m row:=rfl
theorem Qa{peer:Int}{text:LU}(q:Peers.score P peer=Peers.score s.sc peer):bG c V (gD s P) peer text=((bG c V s peer text).1,gD (bG c V s peer text).2 P):=by
 unfold bG;have e:(gD s P).sc=P:=rfl;rw[e,q];split
 ·rfl
 split
 ·rfl
 split
 ·rfl
 ·rw[P_];split
  ·rfl
  split
  ·exact P8
  ·rfl
theorem Sd:eM c V (gD s P)=((eM c V s).1,gD (eM c V s).2 (if 1073741824<=s.now then P else Peers.tick c.dec P)):=by
 unfold eM;have e:(gD s P).now=s.now:=rfl;rw[e];split
 ·rfl
 ·rfl
theorem Qb{root:Bs 32}:bg c (gD s P) root=((bg c s root).1,gD (bg c s root).2 P):=by
 unfold bg;have e:(gD s P).N=s.N:=rfl;rw[e];split
 ·rfl
 ·rfl
theorem nj{q:Sl}{peer:Int}{text:LU}:bG {c with vals:=q} V s peer text=bG c V s peer text:=rfl
theorem Lk{q:Sl}:eM {c with vals:=q} V s=eM c V s:=rfl
theorem Se{q:Sl}{root:Bs 32}:bg {c with vals:=q} s root=bg c s root:=rfl
theorem Ll{k:Nat}(q:Kept c s k):Kept c s (k+1):=⟨q.now,q.An,q.By,q.Ao,q.D1,by have:=q.left;omega,by have:=q.gone;omega⟩
theorem Y1{k:Nat}(f:Sa s k):Sa s (k+1):=by unfold Sa at*;omega
theorem ab9{k:Nat}{Q:List (Int×Int)}{n:Int}(f:Sa s k):Sa {s with sc:=Q,gone:=n} k:=f
theorem TM{k:Nat}{Q:List (Int×Int)}(q:Kept c s k):Kept c (gD s Q) k:=⟨q.now,q.An,q.By,q.Ao,q.D1,q.left,q.gone⟩
theorem VO{k:Nat}(q:Kept c s k)(f:Sa s k){peer:Int}{text:LU}(A:text.length<1000):Sa (bG c V s peer text).2 (k+1):=by
 have a:∀m row,(fk c s peer m row text).2.wait=s.wait/\(fk c s peer m row text).2.tb=s.tb:=λm row=>by
  have:=(IW (c:=c) q (peer:=peer) A (m:=m) (row:=row)).2;exact⟨this.wait,this.tb⟩
 unfold Sa at*;unfold bG;split
 ·dsimp only;omega
 split
 ·dsimp only;omega
 split
 ·dsimp only;omega
 split
 ·dsimp only;omega
 split
 ·rw[(a _ _).1,(a _ _).2];omega
 ·have:=TA (want:=FJ) (most:=c.ew) (quota:=c.quo) (peer:=peer) (text:=text) (S:=s.wait);dsimp only;omega
theorem xA{k:Nat}(q:Kept c s k){peer:Int}{text:LU}(A:text.length<1000){Q:List (Int×Int)}{n:Int}(B:0<=n/\n<=1):Kept c {(bG c V s peer text).2 with sc:=Q,gone:=s.gone+n} (k+1):=by
 obtain⟨a,_,_,_,_⟩:=wZ (V:=V) q (peer:=peer) A;have:=q.gone;exact⟨a.now,a.An,a.By,a.Ao,a.D1,a.left,by dsimp only;omega⟩
theorem Lm{k:Nat}(q:Kept c s k):Kept c (eM c V s).2 (k+1):=by
 unfold eM;split
 ·exact Ll q
 ·have:=ajr (λx:It=>!decide (x.slot<s.now+1)) s.wait;have b:=q.An;have d:=q.now;have e:=q.left;have f:=q.gone;exact⟨by dsimp only;omega,by dsimp only;omega,q.By,λx a=>q.Ao x (ajv.1 a).1,q.D1,by dsimp only;omega,by dsimp only;omega⟩
theorem Y2{k:Nat}(q:V.length<=64)(f:Sa s k):Sa (eM c V s).2 (k+1):=by
 unfold Sa at*;unfold eM;split
 ·dsimp only;omega
 ·have a:=tJ (c:=c) q s.N (s.wait.filter λx=>decide (x.slot<s.now+1)) s.tb;have b:=wY s.wait λx=>decide (x.slot<s.now+1)
  have d:(dB (fm c V s.N s.tb (s.wait.filter λx=>decide (x.slot<s.now+1))) (Vc.mx (s.now+1-Clock.eD c.win) 0)).first.length<=(fm c V s.N s.tb (s.wait.filter λx=>decide (x.slot<s.now+1))).first.length:=by
   unfold dB;split
   ·exact ai6 _
   ·exact ajr _ _
  dsimp only;omega
theorem VP{k:Nat}(f:Sa s k){root:Bs 32}:Sa (bg c s root).2 k:=by
 unfold bg;split
 ·exact f
 ·exact f
end
end Gate
end Go.Proofs.YtennbinbffdimaaGreat

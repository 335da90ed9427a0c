/- Texts that the proof needs, joined. -/
import Derived.Shelf.SlSortCmp.NoneTotal
import Derived.Ground.SlsfProg
import Derived.Test.YtennbinbffdimaaGreatProg
import Derived.Test.YtennbinbffdimaaGreatPk2
set_option maxRecDepth 100000
open Go.IntKind renaming wrap->afK,bits->afL,u64->afS,u32->agt,i64->ahA
open List renaming length_map->afM,length_append->afQ,getD_eq_getElem?_getD->afW,length_drop->afZ,length_take->af7,replicate->af8,getElem?_eq_getElem->agh,length_singleton->agj,getElem?_map->ago,range->agw,mem_map->agy,map_append->agA,map_cons->agB,getElem?_append_right->agD,append_assoc->agF,getElem?_append_left->agG,getElem?_eq_some_iff->agI,take_length->agJ,drop_eq_nil_of_le->agO,length_cons->agR,map_set->agS,eq_nil_of_length_eq_zero->agT,sum_cons->ag0,take_add_one->ag1,take_of_length_le->ag2,toArray->ag4,drop_eq_getElem_cons->ag6,ext_getElem->ag7,drop_zero->ag9,map_take->aha,length->ahc,mem_singleton->ahh,mem_of_getElem?->ahi,map_nil->ahk,getElem?_take->ahm,nil_append->aho,getElem?_set->ahr,getElem?_eq_none->ahs,mem_append->aht,mem_cons->ahv,append_nil->ahB,cons_append->ahC,any_eq_true->ahE
open Go.Vc.ag renaming cut->afN,an->aga,refl->agp
open Int renaming toNat->afO,le_refl->afT,fdiv->af3,tmod->agc,toNat_natCast->agm,tdiv->agr,tmod_eq_emod_of_nonneg->agN,tdiv_eq_ediv_of_nonneg->agX,natCast_nonneg->ag3,add_zero->ag5
open BitVec renaming ofInt->afP,toNat->agb,ofInt_natCast->ahp,toNat_ofNat->ahq
open Nat renaming le_refl->afR,zero_le->agd,le_trans->agv,mul_one->agL,pow_le_pow_right->agQ,sub_zero->agY,lt_or_ge->ahe,mod_eq_of_lt->ahf,lt_irrefl->ahg,lt_of_lt_of_le->ahn,mod_lt->ahw,pow_succ->ahD,sub_self->ahF
open Go.Vc.If renaming no->afU,yes->af2,split->agi,dec->agW
open Go.Vc.Sl renaming nil->afV,mk->agk
open UInt8 renaming ofNat->afX,toNat_inj->agE,lt_iff_toNat_lt->agU,toNat_ofNat'->ag8
open Go.Vc.aj renaming cells->afY,size->agM,vals->agZ
open Go.Op renaming bytesLess->af0
open Go.Vc.TV renaming bool->af1,aX->af4,int->age,ptr->agf,slice->agl,str->agq,size->ags,bytes->agK,put->agV,ai->ahl,val->ahy
open Go.Vc.Ext renaming push->af5,refl->af9
open Go.Vc.Bs renaming zero->af6,ext'->agP
open Go.Vc.Own renaming nil->agn,new->agx
open Go.Value renaming int->agu,agg->ahx
open Option renaming map_eq_some_iff->agz,map_some->ahb
open ByteArray renaming mk->agC
open Bool renaming and_eq_true->agH,or_eq_true->ahd,false_and->ahj
open Array renaming size_push->ahu
open Classical renaming byContradiction->ahz
namespace Go.Proofs.YtennbinbffdimaaGreat
open Go Go.Vc
namespace Gate
open Pool (xE)
abbrev Dl:=Bs 32×Int
def xS(x:Dl):TV:=.agg [.bytes 32 x.1,.i x.2]
theorem Ky(x:Dl):(xS x).size=33:=by simp only[xS,ags,agM]
theorem QV(x:Dl):(xS x).plain=true:=by simp only[xS,TV.plain,aj.plain,Bool.and_self]
def jG(L:List Nd)(own:Nat->Int):Nat->Int:=pS L.length (dV L) own
def abu(L:List Nd)(own:Nat->Int)(k:Nat):Int:=pX (nP L.length (dV L) (jG L own) (lM L) k)
def Mk(L:List Nd)(own:Nat->Int)(k:Nat):Int:=(C2 L.length (dV L) (jG L own) (lM L) k:Int)
section
variable{R:Rq}{h h':aa}{w tb r:Nat}{O S B G A:Sl}{L:List Nd}{most:Int}{own:Nat->Int}
abbrev WT(h:aa)(w tb:Nat)(O S B G:Sl)(L:List Nd)(own:Nat->Int):Prop:=WP h w tb O S B G (gy L.length own) (gy L.length (jG L own)) (gy L.length (abu L own)) (gy L.length (Mk L own))
theorem qN{i:Nat}(q:In afV i):False:=by obtain⟨l,a,_⟩:=q;cases a
theorem S_(n:Nat)(v:Int):pad [] n v=gy n λ_=>v:=by
 unfold pad gy;rw[List.map_const',List.length_range];rfl
theorem Kz(t:yK h tb r A L most)(q:∀h' w O S B G,WT h' w tb O S B G L (λ_=>0)->Ext h h'->(∀i,gV w O S B G i->h.size<=i/\i<h'.size)->R (agf (PT w)).val h'):
 Cl 143 [.ptr (PT tb)] h R:=by
 apply F0;delta mD gM rG fh eE;have x:=t.ok.QD;refine Dh t ⟨_,rfl,ID (λy=>ω) λ_=>af λn v1 f z=>?_⟩;have b:∀i,¬In afV i:=λi a=>qN a;have o:WP n h.size tb afV afV afV afV [] [] [] []:=⟨v1,agn ..,agn ..,agn ..,agn ..,⟨b _,b _,b _,b _⟩,λi a=>(b i a).elim,λi a=>(b i a).elim,λi a=>(b i a).elim,λi a=>(b i a).elim,λi a=>(b i a).elim,λi a=>(b i a).elim⟩
 have d:∀i,gV h.size afV afV afV afV i->i=h.size:=λi a=>by
  rcases a with a|a|a|a|a
  ·exact a
  all_goals exact(b i a).elim
 have t1:=t.ext f;refine Ku o t1 (λi a g=>by have:=d i g;have:=t.lt a;omega) rfl rfl rfl (agd _) λp O S B G l j=>⟨rfl,?_⟩;rw[S_,S_]at l
 have s:∀i,kH tb r A i->¬gV h.size O S B G i:=λi a g=>by
  have:=t.lt a;rcases j.new i g with c|c
  ·have:=d i c;omega
  ·have:=f.size;omega
 have t2:=t1.only j.only λi a g=>by have:=d i g;have:=t.lt a;omega
 have e:gy L.length (λ_=>0)=gy L.length (jG L λ_=>0):=fD λk _=>(Kx k).symm;have u:WP p h.size tb O S B G (gy L.length λ_=>0) (gy L.length (jG L λ_=>0)) (gy L.length λ_=>-1) (gy L.length λ_=>-1):=by rw[<-e];exact l
 refine Kw u t2 s rfl (vP _ _) (vP _ _) λv m f3=>⟨rfl,?_⟩;refine q v h.size O S B G m (afN (S:=λi=>i=h.size\/gV h.size O S B G i) f ((j.only.mono λi a=>.inl (d i a)).trans (f3.mono λi a=>.inr (a.elim (λh=>.inr (.inr (.inr (.inl h)))) λh=>.inr (.inr (.inr (.inr h)))))) λi a=>?_) λi a=>⟨?_,m.lt a⟩
 ·rcases a with rfl|a
  ·exact afR _
  ·rcases j.new i a with c|c
   ·have:=d i c;omega
   ·have:=f.size;omega
 ·rcases j.new i a with c|c
  ·have:=d i c;omega
  ·have:=f.size;omega
def EB(L:List Nd):List Dl->(Nat->Int)->Prop
 |[],own=>(∀i,i<L.length->0<=own i)/\tot L.length own<4611686018427387904
 |x::a,own=>0<=place x.1 L/\-4611686018427387904<x.2/\x.2<4611686018427387904/\0<=own (place x.1 L).toNat+x.2/\own (place x.1 L).toNat+x.2<4611686018427387904/\EB L a (bump own (place x.1 L).toNat x.2)
def laid(L:List Nd)(q:List Dl)(own:Nat->Int):Nat->Int:=q.foldl (λo x=>bump o (place x.1 L).toNat x.2) own
theorem Xn(n i:Nat)(own:Nat->Int)(d:Int):(gy n λk=>if k=i then own i+d else own k)=gy n (bump own i d):=fD λk _=>by
 unfold bump;by_cases h:k=i
 ·subst h;rfl
 ·rw[if_neg h,if_neg h]
theorem Uq{D:Sl}{q:List Dl}{ss bs fs:List Int}(p:WP h w tb O S B G (gy L.length own) ss bs fs)(t:yK h tb r A L most)(e:ak 33 h D (q.map xS))(aw:q.length<1000)(ok:EB L q own)
 (U:∀h' s,Ext h h'->Own 3 1 h' s (dX (gy L.length (laid L q own)))->(∀i,In s i->h.size<=i)->R (af4 [.slice s,.i 0]).val h'):
 Cl 281 [.ptr (PT w),.slice D] h R:=by
 apply sR;delta BM jZ HE iJ dL dI jY iI bK bN bh eE;have aE:=t.ok.len;have a0:=t.ok.most;have z:=af5 h (row (afY []) 3);have E:=p.ext z;have lo:=E.lo;rw[vP]at lo;have o0:=agx (T:=3) (sz:=1) h [] (by simp);refine⟨O,E.var.ah rfl,pT (C:=ctx) (T:=3) (sz:=1) κ κ (by rw[show(ctx.ti 3).bytes=8 by kernel_rfl];decide) δ (by rw[show(ctx.ti 3).bytes=8 by kernel_rfl];show(0+O.len)*8<=_;omega) o0 E.o.elems (Ew _) (λt ht=>by obtain⟨x,_,rfl⟩:=agy.1 ht;rfl) λs g F V f2 n2=>?_⟩;have x2:Ext h g:=z.trans (V rfl);have z12:=(V rfl).size;have z1:=z.size
 have fresh:∀i,In s i->h.size<=i:=λi⟨l,hl,f⟩=>by
  rcases n2 l hl with⟨l',H,g⟩|H
  ·cases H;simp only at g;omega
  ·omega
 simp only[aho]at F;have ad:=F.len;rw[afM,vP]at ad;have I:=e.len;rw[afM]at I
 refine⟨λσ b=>0<=σ.2.2/\σ.2.2<=q.length/\Ext h b/\∃done c a,q=done++c/\σ.2.2=done.length/\EB L c a/\laid L c a=laid L q own/\Own 3 1 b s (dX (gy L.length a)),
  λσ _=>((q.length:Int)-σ.2.2).toNat,⟨afT 0,by(try dsimp only);omega,x2,[],q,own,rfl,rfl,ok,rfl,F⟩,?_⟩
 rintro⟨q1,q2,i⟩ W ⟨X,i1,x3,done,c,a,j,ae,Y,o,Z⟩;dsimp only at X i1 ae⊢;refine ID (λf=>?_) λf=>?_
 ·have K:c≠[]:=by
   intro hn;rw[j,hn]at I;simp at I;omega
  obtain⟨x,al,rfl⟩:=List.exists_cons_of_ne_nil K;obtain⟨d,k1,k2,k3,k4,am⟩:=Y
  have bY:q[i.toNat]? =some x:=by
   rw[j,agD ω,show i.toNat-done.length=0 by omega];rfl
  refine(e.ext x3).read X ω λl u _ hu ao=>?_;rw[ago,bY]at hu;cases hu;refine⟨x.1,x.2,ao,af λh4 v4 v s4=>aH v4 (t:=xS x) rfl λh5 v5 f5 s5=>?_⟩;have ab:Ext W h5:=afN v f5 λi f=>ω;have M:=x3.trans ab;refine⟨some ⟨tb,0⟩,(p.var.ext M).ah rfl,x.1,v5.at.1,dx (t.ext M) λh6 N=>⟨_,rfl,?_⟩⟩;intro J HJ;have v6:Var 314 h6 W.size (xS x):=Var.ext (t:=xS x) v5 N;have ap:=M.trans N;have o6:=(Z.ext ab).ext N;refine ID (λb=>ω) λ_=>⟨x.2,v6.at.2,ID (λb=>ω) λ_=>⟨x.2,v6.at.2,ID (λb=>ω) λ_=>?_⟩⟩;refine HJ _ h6 ?_;clear HJ J;have pl:=qJ x.1 L;have P:(place x.1 L).toNat<L.length:=ω;refine gz o6 d (ja a P) ⟨x.2,v6.at.2,?_⟩;dsimp only;rw[wrap_i64 ω ω];refine o6.aH (sz:=1) (n:=1) (t:=.i (a (place x.1 L).toNat+x.2)) d (by simp;omega) rfl rfl λh7 y f7 s7=>?_
  have e7:(dX (gy L.length a)).set (place x.1 L).toNat (.i (a (place x.1 L).toNat+x.2))=dX (gy L.length (bump a (place x.1 L).toNat x.2)):=by
   rw[<-Xn,<-Gv];simp[dX,agS]
  rw[e7]at y;have ar:Ext h h7:=afN ap f7 λi f=>fresh i f;have hb:bump a (place x.1 L).toNat x.2 (place x.1 L).toNat=a (place x.1 L).toNat+x.2:=by unfold bump;rw[if_pos rfl]
  refine gz y d (ja _ P) (ID (λb=>ω) λ_=>gz y d (ja _ P) (ID (λb=>ω) λ_=>?_));rw[wrap_i64 (n:=i+1) ω ω];exact⟨⟨by(try dsimp only);omega,by(try dsimp only);omega,ar,done++[x],al,_,by rw[j];simp,by(try dsimp only);simp;omega,am,o,y⟩,by(try dsimp only);omega⟩
 ·have K:c=[]:=by
   have:c.length=0:=by
    have:=congrArg ahc j;simp at this;omega
   exact agT this
  subst K;have o:a=laid L q own:=o;rw[<-o]at U;obtain⟨pos,lim⟩:=Y
  refine⟨λσ b=>0<=σ.2.2.2/\σ.2.2.2<=L.length/\Ext h b/\Own 3 1 b s (dX (gy L.length a))/\σ.2.2.1=4611686018427387903-tot σ.2.2.2.toNat a,
   λσ _=>((L.length:Int)-σ.2.2.2).toNat,⟨afT 0,by(try dsimp only);omega,x3,Z,rfl⟩,?_⟩
  rintro⟨q1,q2,left,k⟩ h4 ⟨d,k1,v,Q,ac⟩;dsimp only at d k1 ac⊢;refine ID (λhk=>?_) λhk=>U h4 s v Q fresh;have kn:k.toNat<L.length:=ω;refine gz Q d (ja a kn) ?_;have hs:tot (k.toNat+1) a=tot k.toNat a+a k.toNat:=jy _ _;have a1:=pos _ kn;have a2:0<=tot k.toNat a:=Gx _ λi f=>pos i ω
  have a3:tot (k.toNat+1) a<=tot L.length a:=by
   have:∀m,k.toNat+1<=m->m<=L.length->tot (k.toNat+1) a<=tot m a:=by
    intro m
    induction m with
    |zero=>intro h;omega
    |succ m ih=>
     intro H g;by_cases h9:k.toNat+1=m+1
     ·rw[h9];exact afT _
     ·rw[jy m a];have:=ih ω ω;have:=pos m ω;omega
   exact this _ ω (afR _)
  rw[wrap_i64 (n:=left-a k.toNat) ω ω,wrap_i64 (n:=k+1) ω ω];refine ID (λb=>ω) λ_=>⟨⟨by(try dsimp only);omega,by(try dsimp only);omega,v,Q,?_⟩,by(try dsimp only);omega⟩;rw[show(k+1).toNat=k.toNat+1 by omega,hs,ac];omega
end
end Gate
namespace Gate
open Pool (xE)
section
variable{R:Rq}{h h':aa}{w tb r:Nat}{O S B G A D:Sl}{L:List Nd}{most:Int}{own:Nat->Int}{n:Nat}{par:Nat->Nat}
def mix(own out:Nat->Int)(i:Int)(k:Nat):Int:=if i<(k:Int)then out k else own k
theorem Xo(own out:Nat->Int)(i:Nat):mix own out ((i:Int)-1)=bump (mix own out i) i (out i-own i):=by
 funext k;simp only[mix,bump];by_cases h:k=i
 ·subst h;rw[if_pos ω,if_pos rfl,if_neg ω];omega
 ·rw[if_neg h];by_cases a:(i:Int)<k
  ·rw[if_pos ω,if_pos a]
  ·rw[if_neg ω,if_neg a]
theorem OC(up:Up n par)(own:Nat->Int){i k:Nat}(q:i<n)(E:k<n)(d:Int):pS n par (bump own i d) k=pS n par own k+if bL par k i=true then d else 0:=by
 have:=NZ up own q E d;unfold bump;rw[this];unfold one;split<;>omega
theorem EB.pos{q:List Dl}:∀{own:Nat->Int},EB L q own->(∀i,i<L.length->0<=laid L q own i)/\tot L.length (laid L q own)<4611686018427387904:=by
 induction q with
 |nil=>intro own ok;exact ok
 |cons x q a=>intro own ok;exact a ok.2.2.2.2.2
theorem HS{E:List Dl}{J M U W:Sl}{H ss bs I:List Int}(p0:WP h w tb J M U W H ss bs I)(t0:yK h tb r A L most)(ab:∀i,kH tb r A i->¬gV w J M U W i)
 (q1:ss.length=H.length)(q2:bs.length=H.length)(q3:I.length=H.length)(q4:H.length<=L.length)
 (g1:pad H L.length 0=gy L.length own)(g2:pad ss L.length 0=gy L.length (jG L own))(pos:∀i,i<L.length->0<=own i)(a5:tot L.length own<4611686018427387904)
 (e:ak 33 h D (E.map xS))(hD:∀i,In D i->¬gV w J M U W i)(ao:E.length<1000)(ok:EB L E own)
 (hr:∀h' O S B G,WT h' w tb O S B G L (laid L E own)->Step (gV w J M U W) h (gV w O S B G) h'->R (TV.i 0).val h'):
 Cl 236 [.ptr (PT w),.slice D] h R:=by
 apply rJ;delta zu xL iQ aD BI c7 dw dO aJ bN aT bh;have up:=t0.ok.tree;have a6:=t0.ok.len;have a7:=t0.ok.most;have n0:=t0.ok.QD;obtain⟨C,ap⟩:=ok.pos;obtain⟨out,ae⟩:∃out,out=laid L E own:=⟨_,rfl⟩;refine afU (Ku p0 t0 ab q1 q2 q3 q4 λh1 O S B G K N=>⟨rfl,?_⟩);rw[g1,g2]at K;have ar:(pad bs L.length (-1)).length=L.length:=by unfold pad;simp;omega
 have aw:(pad I L.length (-1)).length=L.length:=by unfold pad;simp;omega
 have t1:=t0.only N.only ab;have e1:ak 33 h1 D (E.map xS):=e.only N.only λl hl=>hD l.b ⟨l,hl,rfl⟩
 have P:∀i,kH tb r A i->¬gV w O S B G i:=λi c d=>by
  rcases N.new i d with h9|h9
  ·exact ab i c h9
  ·have:=t0.lt c;omega
 refine Uq K t1 e1 ao ok λh2 s x2 o2 fr=>⟨_,_,rfl,afU ?_⟩;rw[<-ae]at o2 C ap;have p2:=K.ext x2;have t2:=t1.ext x2;have aE:=o2.len;rw[afM,vP]at aE;rw[wrap_i64 (n:=(s.len:Int)-1) ω ω];have nS:∀i,In s i->¬gV w O S B G i:=λi c d=>by have:=fr i c;have:=K.lt d;omega
 have both:∀i k,0<=mix own out i k\/L.length<=k:=λi k=>by
  by_cases p:k<L.length
  ·left;unfold mix;split
   ·exact C k p
   ·exact pos k p
  ·right;omega
 have a0:∀(i:Int) k,k<L.length->0<=jG L (mix own out i) k/\jG L (mix own out i) k<9223372036854775808:=λi k p=>by
  have h0:∀j,j<L.length->0<=mix own out i j:=λj y=>(both i j).resolve_right ω;obtain⟨a,b⟩:=ZO up h0 p;refine⟨a,?_⟩
  have:tot L.length (mix own out i)<=tot L.length (λj=>own j+out j):=Mj _ λj y=>by
   have:=pos j y;have:=C j y;unfold mix;split<;>omega
  rw[ZN]at this;unfold jG;omega
 refine⟨λσ f=>-1<=σ/\σ<L.length/\WP f w tb O S B G (gy L.length own) (gy L.length (jG L (mix own out σ))) (pad bs L.length (-1)) (pad I L.length (-1))/\Own 3 1 f s (dX (gy L.length out))/\yK f tb r A L most/\ag (In S) h2 f,
  λσ _=>(σ+1).toNat,⟨ω,ω,?_,o2,t2,agp _ _⟩,?_⟩
 ·rw[show gy L.length (jG L (mix own out ((s.len:Int)-1)))=gy L.length (jG L own)from fD λk p=>Cg up p λj y=>by unfold mix;rw[if_neg ω]];exact p2
 rintro i h3 ⟨i0,i1,g,Q,t3,f3⟩;refine ID (λal=>?_) λac=>?_
 ·have q:i.toNat<L.length:=ω;refine gz Q al (ja out q) ⟨O,g.var.ah rfl,gz g.o al (ja own q) ?_⟩;have a1:=pos _ q;have a2:=C _ q;have a3:=Ch _ pos _ q;have a4:=Ch _ C _ q;dsimp only;rw[wrap_i64 (n:=out i.toNat-own i.toNat) ω ω,wrap_i64 (n:=i-1) ω ω];have ei:i=((i.toNat:Nat):Int):=ω;have T:=Xo own out i.toNat;rw[<-ei]at T;refine ID (λhz=>?_) λhz=>?_
  ·refine⟨⟨ω,ω,?_,Q,t3,f3⟩,by(try dsimp only);omega⟩;rw[T,show bump (mix own out i) i.toNat (out i.toNat-own i.toNat)=mix own out i from funext λk=>by unfold bump;split<;>omega];exact g
  ·refine⟨λκ f=>-1<=κ/\κ<L.length/\(0<=κ->bL (dV L) κ.toNat i.toNat=true)/\WP f w tb O S B G (gy L.length own) (gy L.length λm=>jG L (mix own out i) m+if κ<(m:Int)/\bL (dV L) m i.toNat=true then out i.toNat-own i.toNat else 0) (pad bs L.length (-1)) (pad I L.length (-1))/\
    Own 3 1 f s (dX (gy L.length out))/\yK f tb r A L most/\ag (In S) h2 f,
    λκ _=>(κ+1).toNat,⟨ω,ω,λ_=>qH _,?_,Q,t3,f3⟩,?_⟩
   ·rw[show(gy L.length λm=>jG L (mix own out i) m+if i<(m:Int)/\bL (dV L) m i.toNat=true then out i.toNat-own i.toNat else 0)=gy L.length (jG L (mix own out i))from fD λm hm=>?_]
    ·exact g
    ·rw[if_neg (λd=>by have:=za up _ q d.2;omega),ag5]
   rintro κ h4 ⟨k0,k1,kanc,z,o4,t4,f4⟩;refine ID (λp=>?_) λp=>?_
   ·have F:κ.toNat<L.length:=ω;have V:=kanc p;refine⟨S,z.var.ah rfl,gz z.s p (ja _ F) ?_⟩
    have val:afK .i64 ((jG L (mix own out i) κ.toNat+if κ<((κ.toNat:Nat):Int)/\bL (dV L) κ.toNat i.toNat=true then out i.toNat-own i.toNat else 0)+(out i.toNat-own i.toNat))=jG L (mix own out i) κ.toNat+(out i.toNat-own i.toNat):=by
     rw[if_neg ω,ag5];have b1:=a0 (i-1) κ.toNat F;unfold jG at b1⊢;rw[T,OC up _ q F,if_pos V]at b1;exact wrap_i64 ω ω
    rw[val];refine z.cD p ω λh5 Y f5 s5=>?_;have o5:=o4.keep f5 λj y d=>nS j y (.inr (.inr (.inl d)));have t5:=t4.only f5 λj y d=>P j y (.inr (.inr (.inl d)));have d:L[κ.toNat]? =some L[κ.toNat]:=agh F;obtain⟨x,hxe⟩:∃x,x=L[κ.toNat]:=⟨_,rfl⟩;rw[<-hxe]at d;refine⟨some ⟨tb,0⟩,Y.var.ah rfl,cL t5 λh6 x6=>⟨_,_,_,_,rfl,?_⟩⟩;rw[gW p d];refine af λh7 v7 x7 s7=>aH v7 (t:=x.tv) rfl λh8 v8 f8 s8=>⟨x.par,v8.at.2.2,?_⟩;have Z:Ext h5 h8:=x6.trans (afN x7 f8 λi c=>ω)
    have hp:-1<=x.par/\x.par<κ/\(0<κ->x.par=((dV L κ.toNat:Nat):Int))/\(κ=0->x.par=-1):=by
     by_cases am:0<κ
     ·have:=t0.ok.up _ x d ω;have:=AJ d;exact⟨ω,ω,λ_=>ω,λ_=>ω⟩
     ·have hz0:κ.toNat=0:=ω;rw[hz0]at d;have:=t0.ok.first x d;exact⟨ω,ω,λ_=>ω,λ_=>this⟩
    refine⟨⟨hp.1,ω,λh0=>?_,?_,o5.ext Z,t5.ext Z,(f4.trans f5).trans (.an Z)⟩,by(try dsimp only);omega⟩
    ·by_cases am:0<κ
     ·rw[hp.2.2.1 am];exact abt up q ω V
     ·have:=hp.2.2.2 ω;omega
    ·rw[show(gy L.length λm=>jG L (mix own out i) m+if x.par<(m:Int)/\bL (dV L) m i.toNat=true then out i.toNat-own i.toNat else 0)=gy L.length λm=>if m=κ.toNat then jG L (mix own out i) κ.toNat+(out i.toNat-own i.toNat)else jG L (mix own out i) m+if κ<(m:Int)/\bL (dV L) m i.toNat=true then out i.toNat-own i.toNat else 0 from fD λm hm=>?_]
     ·exact Y.ext Z
     ·by_cases ad:m=κ.toNat
      ·rw[if_pos ad,ad,if_pos ⟨ω,V⟩]
      ·rw[if_neg ad];congr 1;by_cases u:bL (dV L) m i.toNat=true
       ·by_cases ac:κ<(m:Int)
        ·rw[if_pos ⟨ω,u⟩,if_pos ⟨ac,u⟩]
        ·rw[if_neg (λf=>?_),if_neg (λf=>ac f.1)];have h1:=Uo up (m:=m) (k:=κ.toNat) ω _ q u V;have h2:=za up _ (by have:=up κ.toNat ω F;omega) h1;have:=hp.2.2.1 ω;omega
       ·rw[if_neg (λf=>u f.2),if_neg (λf=>u f.2)]
   ·refine⟨⟨ω,ω,?_,o4,t4,f4⟩,by(try dsimp only);omega⟩;rw[show gy L.length (jG L (mix own out (i-1)))=gy L.length λm=>jG L (mix own out i) m+if κ<(m:Int)/\bL (dV L) m i.toNat=true then out i.toNat-own i.toNat else 0 from fD λm hm=>?_]
    ·exact z
    ·unfold jG;rw[T,OC up _ q hm];congr 1;by_cases u:bL (dV L) m i.toNat=true
     ·rw[if_pos u,if_pos ⟨ω,u⟩]
     ·rw[if_neg u,if_neg (λf=>u f.2)]
 ·have c:i=-1:=ω;subst c;have em:jG L (mix own out (-1))=jG L out:=congrArg _ (funext λk=>by unfold mix;rw[if_pos ω]);rw[em]at g;have v3:=g.var;refine⟨v3.gi (o:=1) (n:=1) (by simp[ags,agM]),?_⟩;refine(aF v3 (i:=1) (t:=.slice s) rfl rfl rfl rfl λh4 v4 f4 s4=>?_).2;have nw:¬In s w:=λc=>nS w c (.inl rfl);have dS:∀{X:Sl},(∀i,In X i->gV w O S B G i)->∀i,In s i->¬In X i:=λhX i c d=>nS i c (hX i d)
  have z:WP h4 w tb s S B G (gy L.length out) (gy L.length (jG L out)) (pad bs L.length (-1)) (pad I L.length (-1)):=
   ⟨v4,Q.keep f4 λi c v=>nw (v▸c),g.s.keep f4 λi c v=>g.now.2.1 (v▸c),g.b.keep f4 λi c v=>g.now.2.2.1 (v▸c),g.f.keep f4 λi c v=>g.now.2.2.2 (v▸c),⟨nw,g.now.2⟩,
    dS λi c=>.inr (.inr (.inl c)),dS λi c=>.inr (.inr (.inr (.inl c))),dS λi c=>.inr (.inr (.inr (.inr c))),g.sb,g.sf,g.bf⟩
  have t4:=t3.only f4 λi c v=>P i c (.inl v)
  have ap4:∀i,kH tb r A i->¬gV w s S B G i:=λi c d=>by
   rcases d with d|d|d
   ·exact P i c (.inl d)
   ·have:=fr i d;have:=t1.lt c;omega
   ·exact P i c (.inr (.inr d))
  refine Kw z t4 ap4 rfl ar aw λh5 Y f5=>⟨rfl,?_⟩;rw[<-ae]at hr;refine hr h5 s S B G Y (N.trans (M'':=gV w s S B G) ⟨((aga x2).trans (f3.mono λi c=>.inr (.inr (.inl c)))).trans ((f4.mono λi c=>.inl c).trans (f5.mono λi c=>c.elim (λh=>.inr (.inr (.inr (.inl h)))) λh=>.inr (.inr (.inr (.inr h))))),λi c=>?_⟩);rcases c with c|c|c
  ·exact .inl (.inl c)
  ·exact .inr (fr i c)
  ·exact .inl (.inr (.inr c))
end
end Gate
namespace Board
theorem iy:∀a:LU,af0 a a=false
 |[]=>rfl
 |x::q=>by simp[af0,iy q,UInt8.lt_irrefl]
theorem Ca:∀a b:LU,af0 a b=true->af0 b a=false
 |[],[],h=>by cases h
 |[],y::c,_=>rfl
 |x::d,[],h=>by cases h
 |x::d,y::c,h=>by
  simp only[af0,ahd,agH,decide_eq_true_eq,beq_iff_eq]at h;simp only[af0,Bool.or_eq_false_iff,Bool.and_eq_false_iff,decide_eq_false_iff_not,beq_eq_false_iff_ne];rw[agU]at h;rw[agU];rcases h with h|⟨h,q⟩
  ·refine⟨ω,.inl ?_⟩;rintro rfl;omega
  ·subst h;exact⟨ω,.inr (Ca d c q)⟩
theorem kE:∀a b c:LU,af0 a b=true->af0 b c=true->af0 a c=true
 |[],[],_,h,_=>by cases h
 |_::_,[],_,h,_=>by cases h
 |_,_::_,[],_,k=>by cases k
 |[],_::_,_::_,_,_=>rfl
 |x::A,y::B,z::E,h,k=>by
  simp only[af0,ahd,agH,decide_eq_true_eq,beq_iff_eq]at h k⊢;rw[agU]at h k⊢;rcases h with h|⟨h,G⟩
  ·rcases k with k|⟨k,q⟩
   ·left;omega
   ·left;rw[<-k];exact h
  ·rcases k with k|⟨k,q⟩
   ·left;rw[h];exact k
   ·right;exact⟨h.trans k,kE A B E G q⟩
theorem iE:∀a b:LU,a≠b->af0 a b=true\/af0 b a=true
 |[],[],h=>absurd rfl h
 |[],y::d,_=>.inl rfl
 |x::f,[],_=>.inr rfl
 |x::f,y::d,h=>by
  simp only[af0,ahd,agH,decide_eq_true_eq,beq_iff_eq];rw[agU,agU];by_cases e:x=y
  ·subst e;rcases iE f d (λq=>h (by rw[q]))with c|c
   ·exact .inl (.inr ⟨rfl,c⟩)
   ·exact .inr (.inr ⟨rfl,c⟩)
  ·have:x.toNat≠y.toNat:=λq=>e (agE.1 q);rcases ahe x.toNat y.toNat with c|c
   ·exact .inl (.inl c)
   ·exact .inr (.inl ω)
section
variable{R:Rq}{h:aa}
abbrev ints(l:List Int):List TV:=l.map (TV.i)
theorem qO:(ctx.ti 3).bytes=8:=κ
theorem KA:(ctx.ti 3).size=1:=κ
theorem EC:(ctx.ti 3).z.size=1:=κ
end
end Board
namespace Board
abbrev aP(l:List Bool):List TV:=l.map af1
section
variable{R:Rq}{h:aa}
theorem gX{s:Sl}{l:List Int}{i:Int}(e:ak 1 h s (ints l))(q:0<=i)(B:i<l.length){K:Int->Prop}(A:∀x,l[i.toNat]? =some x->K x):
 0<=i/\i<(s.len:Int)/\Nn s.a λ(p:Vc.Loc)=>∃(n:Int),ah h p.b (p.o+i.toNat*1) (.i n)/\K n:=by
 have b:=e.len;rw[afM]at b;refine e.read q ω λp t f a c=>?_;rw[ago]at a;obtain⟨x,d,rfl⟩:=agz.1 a;exact⟨x,c,A x d⟩
theorem jH{s:Sl}{l:List Bool}{i:Int}(e:ak 1 h s (aP l))(q:0<=i)(B:i<l.length){K:Bool->Prop}(A:∀x,l[i.toNat]? =some x->K x):
 0<=i/\i<(s.len:Int)/\Nn s.a λ(p:Vc.Loc)=>∃(n:Bool),ah h p.b (p.o+i.toNat*1) (.bool n)/\K n:=by
 have b:=e.len;rw[afM]at b;refine e.read q ω λp t f a c=>?_;rw[ago]at a;obtain⟨x,d,rfl⟩:=agz.1 a;exact⟨x,c,A x d⟩
theorem jA{s:Sl}{l:List Int}(e:ak 1 h s (ints l)):l.length=s.len:=by have:=e.len;rwa [afM]at this
theorem zF{α:Type}{l:List α}{i:Nat}{x:α}(h:l[i]? =some x):l.drop i=x::l.drop (i+1):=by
 obtain⟨a,rfl⟩:=agI.1 h;exact ag6 a
end
end Board
namespace Board
theorem wrap_u32(n:Int):afK .u32 n=n%4294967296:=by
 unfold afK;show(if(false&&_)=true then _ else n%2^32)=n%4294967296;simp
def mQ(x n:Int):Int:=afK .u32 (↑(agb (afP (afL .u32) (af3 x ((2:Int)^min (afO (afK .u64 n)) (afL .u32)))|||afP (afL .u32) (afK .u32 (x*(2:Int)^min (afO (afK .u64 (afK .i64 ((32:Int)-n)))) (afL .u32))))):Int)
theorem nr(x:Int)(n:Int)(a b:Nat)
 (q:mQ x n=afK .u32 (↑(agb (afP 32 (af3 x ((2:Int)^a))|||afP 32 (afK .u32 (x*(2:Int)^b)))):Int))
 (A:eB x n=afK .u32 (↑(agb (afP 32 (afK .u32 (x*(2:Int)^b))|||afP 32 (af3 x ((2:Int)^a)))):Int)):mQ x n=eB x n:=by
 rw[q,A,BitVec.or_comm]
theorem abv(x:Int):mQ x 2=eB x 2:=nr x 2 2 30 κ κ
theorem Xp(x:Int):mQ x 6=eB x 6:=nr x 6 6 26 κ κ
theorem abw(x:Int):mQ x 7=eB x 7:=nr x 7 7 25 κ κ
theorem Ta(x:Int):mQ x 11=eB x 11:=nr x 11 11 21 κ κ
theorem ZP(x:Int):mQ x 13=eB x 13:=nr x 13 13 19 κ κ
theorem ZQ(x:Int):mQ x 17=eB x 17:=nr x 17 17 15 κ κ
theorem ZR(x:Int):mQ x 18=eB x 18:=nr x 18 18 14 κ κ
theorem ZS(x:Int):mQ x 19=eB x 19:=nr x 19 19 13 κ κ
theorem ZT(x:Int):mQ x 22=eB x 22:=nr x 22 22 10 κ κ
theorem Tc(x:Int):mQ x 25=eB x 25:=nr x 25 25 7 κ κ
theorem HT(A B k:Nat)(q:B<2^k)(E:A*2^k+B<4294967296):((agb (afP 32 ((A*2^k:Nat):Int)|||afP 32 (B:Int)):Nat):Int)=((A*2^k+B:Nat):Int):=by
 rw[ahp,ahp,BitVec.toNat_or,ahq,ahq,ahf ω,ahf ω];have:=Nat.shiftLeft_add_eq_or_of_lt q A;rw[Nat.shiftLeft_eq]at this;rw[this]
theorem Dj(n:Nat)(h:n<4294967296):afK .u32 (n:Int)=(n:Int):=by
 rw[wrap_u32];omega
theorem Xq(a b c d:Nat)(q:a<256)(A:b<256)(B:c<256)(E:d<256):be a b c d=(((a*256+b)*256+c)*256+d:Nat):=by
 have e:be a b c d=afK .u32 (↑(agb (afP 32 (afK .u32 (↑(agb (afP 32 (afK .u32 (↑(agb (afP 32 (afK .u32 (afK .u32 (a:Int)*2^24))|||afP 32 (afK .u32 (afK .u32 (b:Int)*2^16)))):Int))|||
  afP 32 (afK .u32 (afK .u32 (c:Int)*2^8)))):Int))|||afP 32 (afK .u32 (d:Int)))):Int):=by
  unfold be;kernel_rfl
 have f:afK .u32 (afK .u32 (a:Int)*2^24)=((a*2^24:Nat):Int):=by rw[wrap_u32,wrap_u32];omega
 have g:afK .u32 (afK .u32 (b:Int)*2^16)=((b*2^16:Nat):Int):=by rw[wrap_u32,wrap_u32];omega
 have h:afK .u32 (afK .u32 (c:Int)*2^8)=((c*2^8:Nat):Int):=by rw[wrap_u32,wrap_u32];omega
 rw[e,f,g,h,Dj d ω,HT a (b*2^16) 24 ω ω,Dj (a*2^24+b*2^16) ω];rw[show a*2^24+b*2^16=(a*256+b)*2^16 by omega,HT (a*256+b) (c*2^8) 16 ω ω,Dj ((a*256+b)*2^16+c*2^8) ω];rw[show(a*256+b)*2^16+c*2^8=((a*256+b)*256+c)*2^8 by omega,HT ((a*256+b)*256+c) d 8 ω ω,Dj _ ω]
def grow(n:Int)(b:UInt8):Int:=afK .u32 (afK .u32 (n*256)+afK .u32 (b.toNat:Int))
theorem ac8(a b c d:UInt8):grow (grow (grow (grow 0 a) b) c) d=be (a.toNat:Int) (b.toNat:Int) (c.toNat:Int) (d.toNat:Int):=by
 have e:=a.toNat_lt;have f:=b.toNat_lt;have g:=c.toNat_lt;have h:=d.toNat_lt;rw[Xq _ _ _ _ e f g h];unfold grow;simp only[wrap_u32];omega
theorem Ur(n q A B E G H I J M:Int)(O:J=afK .u32 (↑(agb (afP (afL agt) (afK agt (↑(agb (afP (afL agt) E^^^afP (afL agt) G)):Int))^^^afP (afL agt) (af3 n ((2:Int)^min (afO (3:Int)) (afL agt))))):Int))
 (U:M=afK .u32 (↑(agb (afP (afL agt) (afK agt (↑(agb (afP (afL agt) H^^^afP (afL agt) I)):Int))^^^afP (afL agt) (af3 q ((2:Int)^min (afO (10:Int)) (afL agt))))):Int)):
 afK .u32 (afK .u32 (afK .u32 (A+B)+J)+M)=ex n q A B E G H I:=by
 unfold ex;rw[<-O,<-U];simp only[wrap_u32];omega
theorem mR{n:Nat}(w:Ws n)(i j:Nat)(c:Int):wd (w.set i c) j=if i=j/\i<n then c else wd w j:=by
 unfold wd Ws.set;simp only[afW,ahr];by_cases h:i=j
 ·subst h;rw[if_pos rfl];by_cases a:i<n
  ·rw[if_pos (by rw[w.h];exact a),if_pos ⟨rfl,a⟩];rfl
  ·rw[if_neg (by rw[w.h];exact a),if_neg (λb=>a b.2),ahs (by rw[w.h];omega)]
 ·rw[if_neg h,if_neg (λb=>h b.1)]
theorem qP(v:Ws 8)(j:Nat)(q:0<j)(A:j<8):wd (shift v) j=wd v (j-1):=by
 obtain⟨l,h⟩:=v
 match l,h with
 |[a,b,c,d,e,f,g,k],_=>
  have:j=1\/j=2\/j=3\/j=4\/j=5\/j=6\/j=7:=ω;rcases this with rfl|rfl|rfl|rfl|rfl|rfl|rfl<;>rfl
theorem ac9{n:Nat}{a b:Ws n}(h:∀j,j<n->wd a j=wd b j):a=b:=by
 apply Ws.ext';apply ag7 (by rw[a.h,b.h]);intro j c d;have:=h j (by rw[<-a.h];exact c);unfold wd at this;simpa[afW,c,d]using this
theorem QW(w v:Ws 8):∀i j,i<=8->wd (pS w v i) j=if j<i then afK .u32 (wd w j+wd v j)else wd w j
 |0,j,_=>by simp[pS]
 |i+1,j,h=>by
  rw[pS,mR,QW w v i i ω,QW w v i j ω,if_neg (ahg i)];by_cases a:i=j
  ·subst a;rw[if_pos ⟨rfl,ω⟩,if_pos (Nat.lt_succ_self i)]
  ·rw[if_neg (λb=>a b.1)];by_cases q:j<i
   ·rw[if_pos q,if_pos ω]
   ·rw[if_neg q,if_neg ω]
theorem Ml(w:Ws 64):∀i j,i<=48->j<16+i->∀k,i<=k->k<=48->wd (FZ w k) j=wd (FZ w i) j
 |i,j,_,b,k,c,d=>by
  induction k with
  |zero=>have:i=0:=ω
         subst this;rfl
  |succ k a=>
   by_cases h:i=k+1
   ·subst h;rfl
   ·rw[FZ,mR,if_neg ω];exact a ω ω
theorem ZU(bs:LU)(i j:Nat)(A:j<i)(q:i<=16):wd (Ce bs i) j=wd (Ce bs 16) j:=by
 have:∀k,i<=k->k<=16->wd (Ce bs k) j=wd (Ce bs i) j:=by
  intro k
  induction k with
  |zero=>intro a _;have:i=0:=ω
         omega
  |succ k b=>
   intro a c;by_cases h:i=k+1
   ·subst h;rfl
   ·rw[Ce,mR,if_neg ω];exact b ω ω
 exact(this 16 q (afR _)).symm
end Board
namespace Board
section
variable{R:Rq}{h:aa}
theorem gG{x n:Int}(q:R (age .u32 (mQ x n)).val h):Cl 276 [.int .u32 x,.i n] h R:=by
 apply uq;delta aG;exact⟨wrap_u64_nonneg _,wrap_u64_nonneg _,q⟩
def aaR(bs:LU)(i:Nat):Nat->Int
 |0=>0
 |k+1=>grow (aaR bs i k) (bs.getD (4*i+k) 0)
def Part(w:Ws 64)(bs:LU)(i:Nat):Prop:=(∀j,j<i->wd w j=wd (zx bs) j)/\∀j,i<=j->wd w j=0
theorem ZV(bs:LU)(j:Nat)(q:j<16):wd (zx bs) j=be (FY bs (4*j)) (FY bs (4*j+1)) (FY bs (4*j+2)) (FY bs (4*j+3)):=by
 unfold zx;rw[Ml (Ce bs 16) 0 j (agd _) ω 48 (agd _) (afR _),FZ,<-ZU bs (j+1) j (Nat.lt_succ_self j) ω,Ce,mR,if_pos ⟨rfl,ω⟩]
theorem Xr(bs:LU)(j:Nat)(A:16<=j)(q:j<64):wd (zx bs) j=Xi (zx bs) j:=by
 unfold zx;obtain⟨i,rfl⟩:∃i,j=16+i:=⟨j-16,ω⟩;have e:∀k,k<16+i->wd (FZ (Ce bs 16) 48) k=wd (FZ (Ce bs 16) i) k:=λk a=>Ml (Ce bs 16) i k ω a 48 ω (afR _);rw[Ml (Ce bs 16) (i+1) (16+i) ω ω 48 ω (afR _),FZ,mR,if_pos ⟨rfl,q⟩];unfold Xi;rw[e _ ω,e _ ω,e _ ω,e _ ω]
theorem eight(X:Ws 8):Ws.set (Ws.set (Ws.set (Ws.set (Ws.set (Ws.set (Ws.set (Ws.set (Ws.zero 8) 0 (wd X 0)) 1 (wd X 1)) 2 (wd X 2)) 3 (wd X 3)) 4 (wd X 4)) 5 (wd X 5)) 6 (wd X 6)) 7 (wd X 7)=X:=by
 obtain⟨l,h⟩:=X
 match l,h with
 |[a,b,c,d,e,f,g,k],_=>rfl
theorem Xs(w k:Ws 64)(i:Nat)(v:Ws 8):
 wd (qM w k i v) 0=t0 (wd v 7) (eB (wd v 4) 6) (eB (wd v 4) 11) (eB (wd v 4) 25) (wd v 4) (wd v 5) (wd v 6) (wd k i) (wd w i) (eB (wd v 0) 2) (eB (wd v 0) 13) (eB (wd v 0) 22) (wd v 0) (wd v 1) (wd v 2) (wd v 1) (wd v 2)/\
 wd (qM w k i v) 1=wd v 0/\wd (qM w k i v) 2=wd v 1/\wd (qM w k i v) 3=wd v 2/\
 wd (qM w k i v) 4=t4 (wd v 3) (wd v 7) (eB (wd v 4) 6) (eB (wd v 4) 11) (eB (wd v 4) 25) (wd v 4) (wd v 5) (wd v 6) (wd k i) (wd w i)/\
 wd (qM w k i v) 5=wd v 4/\wd (qM w k i v) 6=wd v 5/\wd (qM w k i v) 7=wd v 6:=by
 unfold qM;refine⟨?_,?_,?_,?_,?_,?_,?_,?_⟩<;>rw[mR,mR]
 ·rw[if_pos ⟨rfl,δ⟩]
 ·rw[if_neg δ,if_neg δ,qP _ _ δ δ]
 ·rw[if_neg δ,if_neg δ,qP _ _ δ δ]
 ·rw[if_neg δ,if_neg δ,qP _ _ δ δ]
 ·rw[if_neg δ,if_pos ⟨rfl,δ⟩,qP _ _ δ δ]
 ·rw[if_neg δ,if_neg δ,qP _ _ δ δ]
 ·rw[if_neg δ,if_neg δ,qP _ _ δ δ]
 ·rw[if_neg δ,if_neg δ,qP _ _ δ δ]
set_option maxHeartbeats 1000000 in
theorem qQ{w0:Ws 8}{bs:LU}(hl:bs.length=64)(hr:∀L,Ext h L->R (TV.words .u32 8 (zA w0 bs)).val L):Cl 221 [.words .u32 8 w0,.words .u32 64 sx,.str bs] h R:=by
 apply ur;delta BN Ft dz aG xI Db c5 Ui Jz c4 zk Uh abq bh;refine af λh1 v1 x1 s1=>af λz v2 M s2=>af λq v3 E s3=>af λA v4 B s4=>?_;have va:=((v1.ext M).ext E).ext B;have vb:=(v2.ext E).ext B;have vc:=v3.ext B;have ab:=((x1.trans M).trans E).trans B;refine⟨λi l=>0<=i/\i<=64/\ag (·=q.size) A l/\∃w:Ws 64,Var 293 l q.size (.words .u32 64 w)/\Part w bs i.toNat,λi _=>((64:Int)-i).toNat,⟨afT 0,δ,agp _ _,Ws.zero 64,v4,(λj o=>absurd o (by simp)),λj _=>?_⟩,?_⟩
 ·unfold wd Ws.zero;simp only[afW,List.getElem?_replicate];split<;>rfl
 rintro i r ⟨F,i1,u,w,s,v,N⟩;refine ID (λG=>?_) λG=>?_
 ·have a3:(i+1).toNat=i.toNat+1:=ω
  have next:∀(l:aa)(p:Ws 64),ag (·=q.size) A l->Var 293 l q.size (.words .u32 64 p)->(∀j,j≠i.toNat->wd p j=wd w j)->wd p i.toNat=wd (zx bs) i.toNat->
   ((0<=i+1/\i+1<=64/\ag (·=q.size) A l/\∃w:Ws 64,Var 293 l q.size (.words .u32 64 w)/\Part w bs (i+1).toNat)/\((64:Int)-(i+1)).toNat<((64:Int)-i).toNat):=by
   intro l p oh vh O H;refine⟨⟨ω,ω,oh,p,vh,λj o=>?_,λj o=>?_⟩,ω⟩
   ·by_cases P:j=i.toNat
    ·rw[P];exact H
    ·rw[O j P];exact v j ω
   ·rw[O j ω];exact N j ω
  rw[wrap_i64 (n:=i+1) ω ω];refine ID (λac=>?_) λac=>?_
  ·
   refine⟨λk l=>0<=k/\k<=4/\ag (·=q.size) A l/\∃p:Ws 64,Var 293 l q.size (.words .u32 64 p)/\(∀j,j≠i.toNat->wd p j=wd w j)/\wd p i.toNat=aaR bs i.toNat k.toNat,λk _=>((4:Int)-k).toNat,
    ⟨afT 0,δ,u,w,s,(λj _=>rfl),N _ (afR _)⟩,?_⟩
   rintro k y ⟨k0,k1,x,p,v6,Q,I⟩;refine ID (λC=>?_) λC=>?_
   ·rw[wrap_i64 (n:=4*i) ω ω,wrap_i64 (n:=4*i+k) ω ω,wrap_i64 (n:=k+1) ω ω];refine⟨F,ω,_,bw v6 ω,ω,ω,F,ω,nU v6 (i:=i.toNat) ω ω λh7 v7 o7 s7=>?_⟩;refine⟨⟨ω,ω,x.trans o7,_,v7,λj o=>?_,?_⟩,Ω⟩
    ·rw[mR,if_neg (λJ=>o J.1.symm)];exact Q j o
    ·rw[mR,if_pos ⟨rfl,ω⟩,I];have ad:(4*i+k).toNat=4*i.toNat+k.toNat:=ω;have ae:(k+1).toNat=k.toNat+1:=ω;rw[ad,ae];rfl
   ·have al:k.toNat=4:=ω;rw[al]at I;refine next y p x v6 Q ?_
    rw[I,ZV bs i.toNat ω];exact ac8 _ _ _ _
  ·rw[wrap_i64 (n:=i-15) ω ω,wrap_i64 (n:=i-2) ω ω,wrap_i64 (n:=i-16) ω ω,wrap_i64 (n:=i-7) ω ω];have am:(i-15).toNat=i.toNat-15:=ω;have e2:(i-2).toNat=i.toNat-2:=ω;have ao:(i-16).toNat=i.toNat-16:=ω;have e7:(i-7).toNat=i.toNat-7:=ω;rw[am,e2,ao,e7];refine⟨ω,ω,_,bw s ω,ω,ω,_,bw s ω,ω,ω,_,bw s ω,ω,ω,_,bw s ω,δ,δ,?_⟩;refine gG ⟨_,rfl,af9 _,gG ⟨_,rfl,af9 _,gG ⟨_,rfl,af9 _,gG ⟨_,rfl,af9 _,?_⟩⟩⟩⟩;refine⟨F,ω,nU s (i:=i.toNat) ω ω λy v6 x s6=>?_⟩;refine next y _ (u.trans x) v6 (λj o=>by rw[mR,if_neg (λJ=>o J.1.symm)]) ?_
   rw[mR,if_pos ⟨rfl,ω⟩,Xr bs i.toNat ω ω,Ur _ _ _ _ _ _ _ _ _ _ rfl rfl];unfold Xi;rw[v _ ω,v _ ω,v _ ω,v _ ω,abw,ZR,ZQ,ZS]
 ·have H:w=zx bs:=ac9 λj o=>v j ω;subst H;have m:Var 289 r h.size (.words .u32 8 w0):=va.only u ω;have ap:Var 293 r h1.size (.words .u32 64 sx):=vb.only u ω;have ar:Var 289 r z.size (.words .u32 8 (Ws.zero 8)):=vc.only u ω
  refine⟨δ,δ,_,bw m δ,δ,δ,_,bw m δ,δ,δ,_,bw m δ,δ,δ,_,bw m δ,δ,δ,_,bw m δ,
   δ,δ,_,bw m δ,δ,δ,_,bw m δ,δ,δ,_,bw m δ,?_⟩
  refine⟨λσ l=>l=r/\0<=σ.2.2.2.2.2.2.2.2/\σ.2.2.2.2.2.2.2.2<=64/\∃V:Ws 8,V=AM (zx bs) sx w0 σ.2.2.2.2.2.2.2.2.toNat/\σ.1=wd V 0/\σ.2.1=wd V 1/\σ.2.2.1=wd V 2/\σ.2.2.2.1=wd V 3/\σ.2.2.2.2.1=wd V 4/\σ.2.2.2.2.2.1=wd V 5/\σ.2.2.2.2.2.2.1=wd V 6/\σ.2.2.2.2.2.2.2.1=wd V 7,
   λσ _=>((64:Int)-σ.2.2.2.2.2.2.2.2).toNat,⟨rfl,afT 0,(by decide:(0:Int)<=64),w0,rfl,rfl,rfl,rfl,rfl,rfl,rfl,rfl,rfl⟩,?_⟩
  rintro⟨a,b,c,d,e,f,g,k,j⟩ l ⟨aw,K,j1,V,D,S,T,U,W,Y,Z,hg,C⟩;obtain rfl:=aw.symm;dsimp only at K j1 D S T U W Y Z hg C⊢;subst S T U W Y Z hg C;refine ID (λo=>?_) λo=>?_
  ·rw[wrap_i64 (n:=j+1) ω ω];refine⟨K,ω,_,bw ap ω,K,ω,_,bw s ω,?_⟩;refine gG ⟨_,rfl,af9 _,gG ⟨_,rfl,af9 _,gG ⟨_,rfl,af9 _,gG ⟨_,rfl,gG ⟨_,rfl,gG ⟨_,rfl,?_⟩⟩⟩⟩⟩⟩;have aE:(j+1).toNat=j.toNat+1:=ω;obtain⟨r0,r1,r2,r3,r4,r5,r6,r7⟩:=Xs (zx bs) sx j.toNat V;refine⟨⟨by trivial,Ω,Ω,qM (zx bs) sx j.toNat V,?_,?_,?_,?_,?_,?_,?_,?_,?_⟩,Ω⟩
   ·rw[aE,AM,<-D]
   ·rw[r0,<-Xp,<-Ta,<-Tc,<-abv,<-ZP,<-ZT];rfl
   ·exact r1.symm
   ·exact r2.symm
   ·exact r3.symm
   ·rw[r4,<-Xp,<-Ta,<-Tc];rfl
   ·exact r5.symm
   ·exact r6.symm
   ·exact r7.symm
  ·have a0:j.toNat=64:=ω;rw[a0]at D
   refine⟨δ,δ,_,bw m δ,δ,δ,_,bw m δ,δ,δ,_,bw m δ,δ,δ,_,bw m δ,δ,δ,_,bw m δ,
    δ,δ,_,bw m δ,δ,δ,_,bw m δ,δ,δ,_,bw m δ,?_⟩
   have e8:=eight (zA w0 bs)
   have sw:∀j,j<8->wd (zA w0 bs) j=afK .u32 (wd w0 j+wd V j):=λj o=>by
    unfold zA;rw[QW _ _ 8 j (afR _),if_pos o,D]
   rw[sw 0 δ,sw 1 δ,sw 2 δ,sw 3 δ,sw 4 δ,sw 5 δ,sw 6 δ,sw 7 δ]at e8;have a1:Ext h r:=afN ab u λi G=>ω
   have a2:∀X:Ws 8,X=zA w0 bs->gi r z.size 0 8/\Bind (agV r z.size 0 (TV.words .u32 8 X)) λl=>∃w:Ws 8,jc l z.size 0 .u32 8 w/\R (TV.words .u32 8 w).val l:=by
    intro X hX;subst hX;exact aH ar (t:=.words .u32 8 (zA w0 bs)) bM λy v6 x s6=>⟨_,v6.at,hr y (afN a1 x λi G=>ω)⟩
   exact a2 _ e8
end
end Board
namespace Board
def iS(x y:Int):Int:=(afK afS (afK afS (afK afS (af3 x ((2:Int)^min (afO (32:Int)) (afL afS))*af3 y ((2:Int)^min (afO (32:Int)) (afL afS)))+af3 (afK afS (afK afS (af3 x ((2:Int)^min (afO (32:Int)) (afL afS))*afK afS (↑(agb (afP (afL afS) y&&&afP (afL afS) (4294967295:Int))):Int))+af3 (afK afS (afK afS (↑(agb (afP (afL afS) x&&&afP (afL afS) (4294967295:Int))):Int)*afK afS (↑(agb (afP (afL afS) y&&&afP (afL afS) (4294967295:Int))):Int))) ((2:Int)^min (afO (32:Int)) (afL afS)))) ((2:Int)^min (afO (32:Int)) (afL afS)))+af3 (afK afS (afK afS (↑(agb (afP (afL afS) (afK afS (afK afS (af3 x ((2:Int)^min (afO (32:Int)) (afL afS))*afK afS (↑(agb (afP (afL afS) y&&&afP (afL afS) (4294967295:Int))):Int))+af3 (afK afS (afK afS (↑(agb (afP (afL afS) x&&&afP (afL afS) (4294967295:Int))):Int)*afK afS (↑(agb (afP (afL afS) y&&&afP (afL afS) (4294967295:Int))):Int))) ((2:Int)^min (afO (32:Int)) (afL afS))))&&&afP (afL afS) (4294967295:Int))):Int)+afK afS (afK afS (↑(agb (afP (afL afS) x&&&afP (afL afS) (4294967295:Int))):Int)*af3 y ((2:Int)^min (afO (32:Int)) (afL afS))))) ((2:Int)^min (afO (32:Int)) (afL afS))))
def mF(x y:Int):Int:=afK .u64 (x*y)
def Mn(x p q:Int):Bool:=
 if q=2 then(if p<iS x x then true else if iS x x=p then decide (0<mF x x)else false)
 else
  let a:=(mF (iS x x) x+iS (mF x x) x+0)%18446744073709551616
  let top:=afK .u64 (iS (iS x x) x+(mF (iS x x) x+iS (mF x x) x+0)/18446744073709551616)
  if top=af3 p ((2:Int)^min (afO 32) (afL .u64))then
   (if a=afK .u64 (p*(2:Int)^min (afO 32) (afL .u64))then decide (0<mF (mF x x) x)
    else decide (afK .u64 (p*(2:Int)^min (afO 32) (afL .u64))<a))
  else decide (af3 p ((2:Int)^min (afO 32) (afL .u64))<top)
def Ci(p q:Int):Nat->Int->Int
 |0,x=>x
 |k+1,x=>if Mn (afK .u64 (x+afK .u64 (1*(2:Int)^min (afO (afK .u64 (k:Int))) (afL .u64)))) p q=true then Ci p q k x
  else Ci p q k (afK .u64 (x+afK .u64 (1*(2:Int)^min (afO (afK .u64 (k:Int))) (afL .u64))))
def KB(p q:Int):Int:=afK .u32 (agc (Ci p q 40 0) 4294967296)
def lU:Nat->List Int
 |0=>[]
 |k+1=>if(lU k).all (λp=>!decide (agc ((k:Int)+2) p=0))=true then lU k++[(k:Int)+2]else lU k
abbrev ZW(l:List Int):List TV:=l.map (age .u64)
section
variable{R:Rq}{h:aa}
theorem HU{x y:Int}(q:R (af4 [.int .u64 (iS x y),.int .u64 (mF x y)]).val h):Cl 312 [.int .u64 x,.int .u64 y] h R:=by
 apply xT;delta dz aG Xb Eu W5;exact⟨δ,δ,δ,δ,δ,q⟩
theorem QX{x p A:Int}(q:R (af1 (Mn x p A)).val h):Cl 275 [.int .u64 x,.int .u64 p,.i A] h R:=by
 apply uu;delta dz aG bO Eu i_ mN;refine HU ⟨_,_,rfl,?_⟩;unfold Mn at q;refine ID (λd=>?_) λd=>?_
 ·rw[if_pos d]at q;refine ID (λa=>?_) λa=>agW.2 ⟨λb=>?_,λb=>?_⟩
  ·rw[if_pos a]at q;exact q
  ·rw[if_neg a,if_pos b]at q;exact q
  ·rw[if_neg a,if_neg b]at q;exact q
 ·rw[if_neg d]at q;refine HU ⟨_,_,rfl,HU ⟨_,_,rfl,wrap_u64_nonneg _,?_⟩⟩;refine⟨wrap_u64_nonneg _,afT _,δ,δ,agi (λc=>⟨δ,?_⟩) λc=>⟨δ,agi (λe=>?_) λe=>?_⟩⟩
  ·have a:¬(afK .u64 (iS (iS x x) x+(mF (iS x x) x+iS (mF x x) x+0)/18446744073709551616)=af3 p ((2:Int)^min (afO 32) (afL .u64))):=by simpa using c
   simp only[if_neg a]at q;exact q
  ·have a:(afK .u64 (iS (iS x x) x+(mF (iS x x) x+iS (mF x x) x+0)/18446744073709551616)=af3 p ((2:Int)^min (afO 32) (afL .u64))):=by simpa using c
   have b:¬((mF (iS x x) x+iS (mF x x) x+0)%18446744073709551616=afK .u64 (p*(2:Int)^min (afO 32) (afL .u64))):=by simpa using e
   simp only[if_pos a,if_neg b]at q;exact q
  ·have a:(afK .u64 (iS (iS x x) x+(mF (iS x x) x+iS (mF x x) x+0)/18446744073709551616)=af3 p ((2:Int)^min (afO 32) (afL .u64))):=by simpa using c
   have b:((mF (iS x x) x+iS (mF x x) x+0)%18446744073709551616=afK .u64 (p*(2:Int)^min (afO 32) (afL .u64))):=by simpa using e
   simp only[if_pos a,if_pos b]at q;exact q
theorem KC{p q:Int}(A:R (age .u32 (KB p q)).val h):Cl 220 [.int .u64 p,.i q] h R:=by
 apply vQ;delta Xf aG aT;obtain⟨G,b⟩:∃G,G=Ci p q 40 0:=⟨_,rfl⟩;unfold KB at A;rw[<-b]at A;refine⟨λσ c=>c=h/\∃k:Nat,k<=40/\σ.2=(k:Int)-1/\G=Ci p q k σ.1,λσ _=>(σ.2+1).toNat,⟨rfl,40,afR _,rfl,b⟩,?_⟩;clear b;rintro⟨x,i⟩ c ⟨rfl,k,j,d,a⟩;dsimp only at d a⊢;subst d;refine ID (λf=>?_) λf=>?_
 ·obtain⟨m,rfl⟩:∃m,k=m+1:=⟨k-1,ω⟩;have g:((m+1:Nat):Int)-1=(m:Int):=ω;rw[g,wrap_i64 (n:=(m:Int)-1) ω ω];rw[Ci]at a;refine⟨wrap_u64_nonneg _,QX ⟨_,rfl,?_⟩⟩;cases e:Mn (afK .u64 (x+afK .u64 (1*(2:Int)^min (afO (afK .u64 (m:Int))) (afL .u64)))) p q with
  |true=>
   rw[if_pos e]at a;exact afU ⟨⟨by trivial,m,ω,rfl,a⟩,Ω⟩
  |false=>
   rw[if_neg (by rw[e];decide)]at a;exact af2 ⟨wrap_u64_nonneg _,⟨by trivial,m,ω,rfl,a⟩,Ω⟩
 ·have:k=0:=ω;subst this;rw[Ci]at a;rw[a]at A;exact⟨δ,A⟩
theorem Td:(ctx.ti 53).bytes=8:=κ
theorem abx:(ctx.ti 53).size=1:=κ
theorem ZX:(ctx.ti 53).z.size=1:=κ
theorem HV{s:Sl}{l:List Int}{i:Int}(e:ak 1 h s (ZW l))(q:0<=i)(B:i<l.length){K:Int->Prop}(A:∀x,l[i.toNat]? =some x->K x):
 0<=i/\i<(s.len:Int)/\Nn s.a λ(p:Vc.Loc)=>∃(n:Int),ah h p.b (p.o+i.toNat*1) (.int .u64 n)/\K n:=by
 have b:=e.len;rw[afM]at b;refine e.read q ω λp t f a c=>?_;rw[ago]at a;obtain⟨x,d,rfl⟩:=agz.1 a;exact⟨x,c,A x d⟩
theorem HW:∀k,∀p∈lU k,p≠0
 |0,p,a=>by cases a
 |k+1,p,a=>by
  rw[lU]at a;split at a
  ·rcases aht.1 a with b|b
   ·exact HW k p b
   ·have:=ahh.1 b;omega
  ·exact HW k p a
theorem OD:∀k,(lU k).length<=k
 |0=>afR _
 |k+1=>by
  have:=OD k;rw[lU];split
  ·rw[afQ,agj];omega
  ·omega
theorem bH{n:Int}(q:0<=n)(A:n<18446744073709551616):afK .u64 n=n:=by
 have:afK .u64 n=n%18446744073709551616:=by
  unfold afK;show(if(false&&_)=true then _ else n%2^64)=n%18446744073709551616;simp
 rw[this];omega
theorem Fw{n:Int}(q:Nat)(U:q<1000)(E:∀j,j<q->((lU j).length:Int)<n)(W:n<=((lU q).length:Int))(G:∀r s,Own 53 1 r s (ZW (lU q))->Ext h r->R (agl s).val r):
 Cl 219 [.i n] h R:=by
 apply sS;delta zn nR dL;refine⟨λσ b=>∃j:Nat,j<=q/\σ.2=(j:Int)+2/\Own 53 1 b σ.1 (ZW (lU j))/\(∀l,σ.1.a=some l->h.size<=l.b)/\Ext h b,λσ _=>((q:Int)+2-σ.2).toNat,⟨0,agd _,rfl,agn _ _ _,(λl d=>by cases d),af9 _⟩,?_⟩;rintro⟨s,c⟩ t ⟨j,P,u,a,k,m⟩;dsimp only at u a k⊢;subst u;have F:=a.len;rw[afM]at F;have Q:=OD j;refine ID (λH=>?_) λH=>?_
 ·have S:j<q:=by
   rcases ahe j q with g|g
   ·exact g
   ·have:j=q:=ω;subst this;omega
  refine⟨λσ b=>b=t/\0<=σ.2/\σ.2<=s.len/\σ.1=((lU j).take σ.2.toNat).all (λp=>!decide (agc ((j:Int)+2) p=0)),λσ _=>((s.len:Int)-σ.2).toNat,⟨rfl,afT 0,Ω,rfl⟩,?_⟩;rintro⟨f,i⟩ b ⟨I,v,J,o⟩;obtain rfl:=I.symm;dsimp only at v J o⊢;refine ID (λK=>?_) λK=>?_
  ·refine HV a.elems v ω λx w=>?_;have L:=HW j x (ahi w);have y:(i+1).toNat=i.toNat+1:=ω;rw[wrap_i64 (n:=i+1) ω ω]
   have z:((lU j).take (i.toNat+1)).all (λp=>!decide (agc ((j:Int)+2) p=0))=(f&&!decide (agc ((j:Int)+2) x=0)):=by
    rw[bq w,List.all_append,<-o];simp
   cases f with
   |true=>
    refine af2 ⟨L,⟨by trivial,Ω,Ω,?_⟩,Ω⟩
    try dsimp only
    rw[y,z,Bool.true_and]
   |false=>
    refine afU ⟨⟨by trivial,Ω,Ω,?_⟩,Ω⟩
    try dsimp only
    rw[y,z,ahj]
  ·have M:i.toNat=(lU j).length:=ω;rw[M,agJ]at o;rw[bH (n:=(j:Int)+2+1) ω ω];have A:lU (j+1)=if f=true then lU j++[(j:Int)+2]else lU j:=by rw[lU,<-o]
   cases f with
   |true=>
    refine af2 (cz (C:=ctx) (T:=53) (sz:=1) (x:=.int .u64 ((j:Int)+2)) abx ZX (by rw[Td];decide) (by rw[Td];omega) a rfl rfl λV X B f4 b4=>?_);refine⟨⟨j+1,ω,Ω,?_,λl d=>?_,afN m f4 λi⟨l,d,e⟩=>by rw[<-e];exact k l d⟩,Ω⟩
    ·rw[A,if_pos rfl];simp only[ZW,agA,agB,ahk]at B⊢;exact B
    ·rcases b4 l d with⟨N,D,O⟩|D
     ·rw[<-O];exact k N D
     ·have:=m.size;omega
   |false=>
    refine afU ⟨⟨j+1,ω,Ω,?_,k,m⟩,Ω⟩;rw[A,if_neg δ];exact a
 ·have:j=q:=by
   rcases ahe j q with g|g
   ·have:=E j g;omega
   ·omega
  subst this;exact G t s a m
theorem KD:∀k m,k<=m->(lU k).length<=(lU m).length:=by
 intro k m c
 induction m with
 |zero=>have:k=0:=ω
        subst this;exact afR _
 |succ m a=>
  by_cases b:k=m+1
  ·subst b;exact afR _
  ·have:=a ω;rw[lU];split
   ·rw[afQ];omega
   ·exact this
theorem p8:(lU 17).length=7/\(lU 18).length=8:=by decide+kernel
theorem p64:(lU 309).length=63/\(lU 310).length=64:=by decide+kernel
theorem firsts:(lU 18).map (λp=>KB p 2)=fV.l:=by decide+kernel
theorem ada:(lU 310).map (λp=>KB p 3)=sx.l:=by decide+kernel
end
end Board
namespace Board
def pY(n:Nat):Nat:=(119-n%64)%64
def uv(n:Int):Nat->LU
 |0=>[]
 |m+1=>uv n m++[afX (afK .u8 (af3 (afK .u64 (afK .u64 n*8)) ((2:Int)^min (afO (afK .u64 (afK .i64 (8*(7-(m:Int)))))) (afL .u64)))).toNat]
def F_(s:LU):LU:=((s++[128])++af8 (pY s.length) 0)++uv (s.length:Int) 8
def kS(t:LU)(w:Ws 8):Nat->Ws 8
 |0=>w
 |n+1=>zA (kS t w n) ((t.drop (64*n)).take 64)
def k_(s:LU):Bs 32:=Mh (kS (F_ s) fV ((F_ s).length/64)) 8
theorem vR(n:Int):∀m,(uv n m).length=m
 |0=>rfl
 |m+1=>by simp[uv,vR n m]
theorem Fx(s:LU):(F_ s).length=s.length+1+pY s.length+8:=by
 unfold F_;rw[afQ,afQ,afQ,vR];simp
theorem OE(s:LU):(F_ s).length%64=0:=by
 rw[Fx];unfold pY;omega
def rb(w:Ws 8)(i:Nat):UInt8:=if i%4=3 then afX (afK .u8 (wd w (i/4))).toNat else afX (ob (wd w (i/4)) (24-8*((i%4:Nat):Int))).toNat
def ZY(w:Ws 8):Nat->Bs 32
 |0=>af6 32
 |i+1=>(ZY w i).set i (rb w i)
theorem Xt(w:Ws 8):ZY w 32=Mh w 8:=κ
theorem Xu:∀i:Fin 32,min (afO (afK .u64 (afK .i64 (24-afK .i64 (8*agc ((i.val:Nat):Int) 4))))) (afL .u32)=24-8*(i.val%4):=by decide+kernel
theorem aby:∀i:Fin 32,min (afO (24-8*((i.val%4:Nat):Int))) (afL .u32)=24-8*(i.val%4):=by decide+kernel
theorem adb(w:Ws 8)(i:Nat)(q:i<32):rb w i=afX (afK .u8 (af3 (wd w (i/4)) ((2:Int)^min (afO (afK .u64 (afK .i64 (24-afK .i64 (8*agc (i:Int) 4))))) (afL .u32)))).toNat:=by
 have a:=Xu ⟨i,q⟩;have b:=aby ⟨i,q⟩;dsimp only at a b;rw[a];unfold rb ob;rw[b];split
 ·rename_i c;rw[c]
  have:af3 (wd w (i/4)) ((2:Int)^(24-8*3))=wd w (i/4):=by
   show af3 (wd w (i/4)) 1=wd w (i/4);exact Int.fdiv_one _
  rw[this]
 ·rfl
section
variable{R:Rq}{h:aa}
theorem str1{h:aa}{c:Int}(c0:0<=c)(q:c<256):jM (h.push (row (afY [age .u8 c]) 5)) (agk (some (Vc.Loc.mk h.size 0)) 1 1) [afX c.toNat]:=by
 refine⟨rfl,.inr ⟨_,rfl,λj a=>?_⟩⟩;have b:j=0:=by simpa using a
 subst b;have d:=cg h (row (afY [age .u8 c]) 5);have:=vA (o:=0) d (v:=agu .u8 c) rfl;unfold ah at this;rw[this]
 have e:((afX c.toNat).toNat:Int)=c:=by
  rw[ag8];omega
 show some (agu .u8 c)=some (agu .u8 ((afX c.toNat).toNat:Int));rw[e]
theorem filled{n:Nat}{W:Ws n}{l:List Int}(q:l.length=n)(h:∀j x,l[j]? =some x->wd W j=x):W.l=l:=by
 apply ag7 (by rw[W.h,q]);intro j a b;have:=h j l[j] (agh b);unfold wd at this;rw[<-this];simp[afW,a]
set_option maxHeartbeats 1000000 in
theorem kI{s:LU}(hs:s.length<100000)(hr:∀U,Ext h U->R (agK 32 (k_ s)).val U):Cl 156 [.str s] h R:=by
 apply zG;delta BN Ft aG gu De Ol W9 gU xI dH c5 c4 bu fU bK bN bh;refine af λV v1 x1 s1=>⟨by show((s.length+1:Nat):Int)<=_;omega,?_⟩;have bx:pY s.length<64:=by unfold pY;omega
 refine⟨λt c=>c=V/\∃k,k<=pY s.length/\t=(s++[128])++af8 k 0,λt _=>s.length+200-t.length,⟨rfl,0,agd _,by simp⟩,?_⟩;rintro t c ⟨am,k,hk,rfl⟩;obtain rfl:=am.symm;have B:((s++[128])++af8 k (0:UInt8)).length=s.length+1+k:=by simp;omega
 refine⟨δ,agi (λz=>?_) λz=>?_⟩
 ·have X:¬agc (((s++[128])++af8 k (0:UInt8)).length:Int) 64=56:=by simpa using z
  rw[B,agN ω]at X;have b0:k≠pY s.length:=λe=>X (by rw[e];unfold pY;omega);have ao:ahc (agC #[(0:UInt8)]).data.toList=1:=rfl;refine⟨by rw[ao];have b1:=B;omega,⟨by trivial,k+1,ω,?_⟩,?_⟩
  ·show((s++[128])++af8 k 0)++[0]=_;rw[List.replicate_succ',agF]
  ·show s.length+200-(((s++[128])++af8 k (0:UInt8))++[0]).length<s.length+200-((s++[128])++af8 k (0:UInt8)).length;rw[afQ,B,agj];omega
 have heq:agc (((s++[128])++af8 k (0:UInt8)).length:Int) 64=56:=by simpa using z
 rw[B,agN ω]at heq;have ap:k=pY s.length:=by unfold pY at hk⊢;omega
 subst ap;have ar:F_ s=((s++[128])++af8 (pY s.length) 0)++uv (s.length:Int) 8:=rfl;generalize(s++[128])++af8 (pY s.length) (0:UInt8)=base at*;refine⟨λσ c=>∃m:Nat,m<=8/\σ.2=7-(m:Int)/\σ.1=base++uv (s.length:Int) m/\Ext V c,λσ _=>(σ.2+1).toNat,⟨0,δ,rfl,by simp[uv],af9 _⟩,?_⟩;rintro⟨t,kk⟩ d ⟨m,hm,Y,Z,G⟩;dsimp only at Y Z⊢;subst Y Z;refine ID (λh0=>?_) λh0=>?_
 ·have C:=aO (af3 (afK .u64 (afK .u64 (s.length:Int)*8)) ((2:Int)^min (afO (afK .u64 (afK .i64 (8*(7-(m:Int)))))) (afL .u64)));rw[wrap_i64 (n:=7-(m:Int)-1) ω ω];refine⟨wrap_u64_nonneg _,_,str1 C.1 C.2,?_,⟨m+1,ω,Ω,?_,G.trans (af5 _ _)⟩,Ω⟩
  ·rw[afQ,vR,B,agj];omega
  ·show(base++uv (s.length:Int) m)++_=base++uv (s.length:Int) (m+1);rw[uv,agF]
 have aw:m=8:=ω;subst aw;rw[<-ar];have b2:=OE s;have b3:=Fx s;generalize hT:F_ s=T at*;have aE:=x1.trans G;refine af λh3 v3 x3 s3=>Fw 18 δ (λj f=>?_) (by rw[p8.2];decide) λh4 a0 J x4=>⟨_,rfl,?_⟩
 ·have:=KD j 17 ω;rw[p8.1]at this;omega
 have l4:=J.len;rw[afM,p8.2]at l4;have v4:=v3.ext x4
 refine⟨λi c=>0<=i/\i<=8/\ag (·=d.size) h4 c/\∃W:Ws 8,Var 289 c d.size (.words .u32 8 W)/\∀j x,j<i.toNat->(lU 18)[j]? =some x->wd W j=KB x 2,λi _=>((8:Int)-i).toNat,
  ⟨afT 0,δ,agp _ _,_,v4,λj x f=>absurd f (by simp)⟩,?_⟩
 rintro i q ⟨v,i1,f5,W,K,D⟩
 have a1:∀l,a0.a=some l->l.b≠d.size:=λl r=>by
  intro A;rcases J.row with H|⟨b,a2,L,z,_⟩
  ·rw[H]at r;cases r
  ·rw[L]at r;cases r;have:b=d.size:=A;subst this;have o:h4[d.size]? =_:=v4;rw[z]at o;injection o with o;unfold row at o;injection o with _ p;exact absurd p δ
 have o5:=J.only f5 a1;refine ID (λg=>?_) λg=>?_
 ·rw[wrap_i64 (n:=i+1) ω ω];refine HV o5.elems v (by rw[p8.2];omega) λx u=>KC ⟨_,rfl,v,ω,nU K (i:=i.toNat) ω ω λh6 v6 f6 s6=>?_⟩;have M:(i+1).toNat=i.toNat+1:=ω;refine⟨⟨ω,ω,f5.trans f6,_,v6,λj y f a=>?_⟩,Ω⟩;rw[mR];by_cases E:i.toNat=j
  ·subst E;rw[if_pos ⟨rfl,ω⟩];rw[u]at a;injection a with a;rw[a]
  ·rw[if_neg (λA=>E A.1)];exact D j y ω a
 have a3:i=8:=ω;subst a3
 have a4:W=fV:=by
  apply Ws.ext';rw[<-firsts];refine filled (by rw[afM,p8.2]) λj x u=>?_;rw[ago]at u;obtain⟨y,a,rfl⟩:=agz.1 u;have f:=(agI.1 a).1;rw[p8.2]at f;exact D j y (by simpa using f) a
 subst a4;have b5:d.size<q.size:=K.lt;have ab:Ext d q:=afN (x3.trans x4) f5 λi g=>ω;have b6:=ab.size;refine af λh6 v6 x6 s6=>Fw 310 δ (λj f=>?_) (by rw[p64.2];decide) λN a5 O P=>⟨_,rfl,?_⟩
 ·have:=KD j 309 ω;rw[p64.1]at this;omega
 have l7:=O.len;rw[afM,p64.2]at l7;have v7:=v6.ext P;have a6:Var 289 N d.size (.words .u32 8 fV):=(K.ext x6).ext P
 refine⟨λi c=>0<=i/\i<=64/\ag (·=q.size) N c/\∃W:Ws 64,Var 293 c q.size (.words .u32 64 W)/\∀j x,j<i.toNat->(lU 310)[j]? =some x->wd W j=KB x 3,λi _=>((64:Int)-i).toNat,
  ⟨afT 0,δ,agp _ _,_,v7,λj x f=>absurd f (by simp)⟩,?_⟩
 rintro i Q ⟨v,i1,f8,W,v8,D⟩
 have a7:∀l,a5.a=some l->l.b≠q.size:=λl r=>by
  intro A;rcases O.row with H|⟨b,a2,L,z,_⟩
  ·rw[H]at r;cases r
  ·rw[L]at r;cases r;have:b=q.size:=A;subst this;have o:N[q.size]? =_:=v7;rw[z]at o;injection o with o;unfold row at o;injection o with _ p;exact absurd p δ
 have o8:=O.only f8 a7;refine ID (λg=>?_) λg=>?_
 ·rw[wrap_i64 (n:=i+1) ω ω];refine HV o8.elems v (by rw[p64.2];omega) λx u=>KC ⟨_,rfl,v,ω,nU v8 (i:=i.toNat) ω ω λp w f9 s9=>?_⟩;have M:(i+1).toNat=i.toNat+1:=ω;refine⟨⟨ω,ω,f8.trans f9,_,w,λj y f a=>?_⟩,Ω⟩;rw[mR];by_cases E:i.toNat=j
  ·subst E;rw[if_pos ⟨rfl,ω⟩];rw[u]at a;injection a with a;rw[a]
  ·rw[if_neg (λA=>E A.1)];exact D j y ω a
 have a8:i=64:=ω;subst a8
 have a9:W=sx:=by
  apply Ws.ext';rw[<-ada];refine filled (by rw[afM,p64.2]) λj x u=>?_;rw[ago]at u;obtain⟨y,a,rfl⟩:=agz.1 u;have f:=(agI.1 a).1;rw[p64.2]at f;exact D j y (by simpa using f) a
 subst a9;have a':Var 289 Q d.size (.words .u32 8 fV):=a6.only f8 ω;have ba:Ext q Q:=afN (x6.trans P) f8 λi g=>ω;refine⟨λat_ c=>∃n:Nat,64*n<=T.length/\at_=((64*n:Nat):Int)/\Var 289 c d.size (.words .u32 8 (kS T fV n))/\ag (·=d.size) Q c,λat_ _=>((T.length:Int)-at_).toNat,⟨0,agd _,rfl,a',agp _ _⟩,?_⟩;rintro at_ p ⟨n,H,rfl,w,f9⟩;have bb:Var 293 p q.size (.words .u32 64 sx):=v8.only f9 ω;refine ID (λg=>?_) λg=>?_
 ·rw[wrap_i64 (n:=((64*n:Nat):Int)+64) ω ω];refine⟨_,w.at,_,bb.at,ω,ω,ω,ω,?_⟩
  have bc:List.take ((((64*n:Nat):Int)+64).toNat-((64*n:Nat):Int).toNat) (List.drop ((64*n:Nat):Int).toNat T)=(T.drop (64*n)).take 64:=by
   have e1:(((64*n:Nat):Int)+64).toNat-((64*n:Nat):Int).toNat=64:=ω;rw[e1,agm]
  rw[bc];refine qQ (by rw[af7,afZ];omega) λac F=>⟨_,rfl,?_⟩;refine aH (w.ext F) (t:=.words .u32 8 (kS T fV (n+1))) bM λI v11 f11 b7=>?_;have bd:=w.lt;refine⟨⟨n+1,ω,ω,v11,f9.trans ((aga F).trans f11)⟩,Ω⟩
 have bi:n=T.length/64:=ω;rw[bi]at w;have z9:=f9.size;have bd:=w.lt;have b8:h.size<d.size:=by have:=G.size;omega
 refine af λac v10 F b9=>?_;refine⟨λi c=>0<=i/\i<=32/\ag (·=p.size) ac c/\Var 52 c p.size (.bytes 32 (ZY (kS T fV (T.length/64)) i.toNat)),λi _=>((32:Int)-i).toNat,⟨afT 0,δ,agp _ _,v10⟩,?_⟩;rintro i I ⟨v,i1,f11,v11⟩;have bj:Var 289 I d.size (.words .u32 8 (kS T fV (T.length/64))):=(w.ext F).only f11 ω;refine ID (λg=>?_) λg=>?_
 ·have hq:agr i 4=i/4:=agX v;have bk:(i/4).toNat=i.toNat/4:=ω;rw[wrap_i64 (n:=i+1) ω ω,hq,wrap_i64 (n:=i/4) ω ω,bk];refine⟨δ,ω,ω,_,bw bj ω,δ,wrap_u64_nonneg _,v,ω,?_⟩;have C:=aO (af3 (wd (kS T fV (T.length/64)) (i.toNat/4)) ((2:Int)^min (afO (afK .u64 (afK .i64 (24-afK .i64 (8*agc i 4))))) (afL .u32)));refine j3 v11 (i:=i.toNat) ω ω C.1 C.2 λad S f12 bl=>?_;have M:(i+1).toNat=i.toNat+1:=ω;refine⟨⟨ω,ω,f11.trans f12,?_⟩,Ω⟩;rw[M,ZY,adb _ _ ω];have bm:((i.toNat:Nat):Int)=i:=ω;rw[bm];exact S
 have bo:i.toNat=32:=ω;rw[bo,Xt]at v11;have ae:Ext p I:=afN F f11 λi g=>ω;have al:=ab.trans ba;have bp:Var 52 I h.size (.bytes 32 (af6 32)):=((((v1.ext G).ext al).only f9 ω).ext ae);have br:k_ s=Mh (kS T fV (T.length/64)) 8:=by unfold k_;rw[hT]
 refine⟨_,v11.bytes,aH bp (t:=.bytes 32 (Mh (kS T fV (T.length/64)) 8)) uo λad S f12 bl=>⟨_,S.bytes,?_⟩⟩;rw[<-br];refine hr ad ?_;have bt:Ext h p:=afN (aE.trans al) f9 λi g=>ω;exact afN (bt.trans ae) f12 λi g=>ω
end
end Board
namespace Board
abbrev gH(bs:LU):List Value:=bs.map λc=>agu .u8 (c.toNat:Int)
theorem qR(bs:LU):∀v∈gH bs,bQ v=true:=λv a=>by
 obtain⟨c,_,rfl⟩:=agy.1 a;rfl
structure vS(Q:Nat->Prop)(h:aa)(s:Sl)(bs:LU):Prop where
 len:bs.length=s.len
 cap:s.len<=s.cap
 row:(s.a=none/\s.cap=0)\/∃b pre rest,s.a=some ⟨b,pre.length⟩/\h[b]? =some (Go.Vc.row (pre++gH bs++rest) 5)/\s.cap-s.len<=rest.length
 sP:∀l,s.a=some l->Q l.b
 new:∀i,h.size<=i->Q i
section
variable{R:Rq}{h:aa}{Q:Nat->Prop}{s:Sl}{bs:LU}
theorem vS.lt(r:vS Q h s bs):∀l,s.a=some l->l.b<h.size:=λl a=>by
 rcases r.row with⟨c,_⟩|⟨b,pre,f,d,e,_⟩
 ·rw[c]at a;cases a
 ·rw[d]at a;cases a;exact jo e
theorem vS.only{S:Nat->Prop}{q:aa}(r:vS Q h s bs)(o:ag S h q)(A:∀l,s.a=some l->¬S l.b):vS Q q s bs:=by
 refine⟨r.len,r.cap,?_,r.sP,λi d=>r.new i (agv o.size d)⟩;rcases r.row with e|⟨b,pre,f,a,c,g⟩
 ·exact .inl e
 ·exact .inr ⟨b,pre,f,a,(o.same b (jo c) (A _ a)).trans c,g⟩
theorem vS.elems(r:vS Q h s bs):ak 1 h s (Ox bs):=by
 refine⟨by rw[afM];exact r.len,λa=>?_,λl d i t g=>?_⟩
 ·rcases r.row with⟨_,e⟩|⟨b,pre,j,f,_⟩
  ·have:=r.len;have:=r.cap;have:bs=[]:=agT ω;rw[this];rfl
  ·rw[f]at a;cases a
 ·rcases r.row with⟨a,_⟩|⟨b,pre,j,f,k,_⟩
  ·rw[a]at d;cases d
  ·rw[f]at d;cases d;rw[ago]at g;obtain⟨c,e,rfl⟩:=agz.1 g;show ah h b (pre.length+i*1) (.int .u8 (c.toNat:Int));refine vA k ?_;have m:=(agI.1 e).1;rw[agL,agF,agD (Nat.le_add_right _ _),Nat.add_sub_cancel_left,agG (by rw[afM];exact m),ago,e];rfl
theorem vS.aek(r:vS Q h s bs){q:aa}(o:ag (In s) h q):ag Q h q:=o.mono λi⟨l,a,e⟩=>by rw[<-e];exact r.sP l a
theorem ade{us:LU}{K:Sl->aa->Prop}(r:vS Q h s bs)(q:bs.length+us.length<1000000)
 (A:∀m n,vS Q n m (bs++us)->ag (In s) h n->(∀l,m.a=some l->(∃u,s.a=some u/\u.b=l.b)\/h.size<=l.b)->K m n):
 aq ctx 5 s us.length (gH us) h K:=by
 have y:=r.len;have I:=r.cap;have o:(gH bs).length=s.len:=by rw[afM];exact y
 have v:(gH us).length=us.length:=afM ..;have both:gH (bs++us)=gH bs++gH us:=agA ..;refine⟨gH bs,?_,by rw[Ey];omega,by rw[Ey];decide,λp=>?_,λp a=>?_,λp c e=>?_⟩
 ·rw[S8];refine⟨by rw[o,agL],?_⟩;rcases r.row with⟨a,e⟩|⟨b,pre,f,d,g,_⟩
  ·exact .inl ⟨ω,a⟩
  ·refine .inr ⟨_,d,λj t=>?_⟩;show lz h b (pre.length+j)=_;rw[agh t];refine vA g ?_;rw[agF,agD (Nat.le_add_right _ _),Nat.add_sub_cancel_left,agG t,agh t]
 ·rcases r.row with⟨a,e⟩|⟨b,pre,f,d,g,J⟩
  ·exact⟨.inl ω,λl q=>by rw[a]at q;cases q⟩
  ·refine⟨.inr (by rw[d];rfl),λl q=>?_⟩;rw[d]at q;cases q;rw[S8];show gi h b (pre.length+s.len*1) (gH us).length/\_;rw[agL]
   have w:pre.length+s.len+(gH us).length<=(pre++gH bs++f).length:=by
    rw[afQ,afQ,o,v];omega
   refine⟨gO g w,?_⟩;obtain⟨B,x,C⟩:=iO (gH us) h b (pre.length+s.len) _ 5 g w
   refine A _ _ ⟨by rw[afQ];show _=s.len+us.length;omega,p,.inr ⟨b,pre,f.drop us.length,rfl,?_,?_⟩,?_,λi k=>r.new i (by rw[x]at k;exact k)⟩ ⟨by rw[x];exact afR _,λD L a=>C D (λE=>a ⟨_,d,E.symm⟩)⟩ λl q=>by
    cases q;exact .inl ⟨_,d,rfl⟩
   ·rw[B,both];congr 2;have F:pre.length+s.len=(pre++gH bs).length:=by rw[afQ,o]
    rw[F,List.take_left,v,List.drop_append,agO ω,aho,Nat.add_sub_cancel_left,<-agF]
   ·rw[afZ];show s.cap-(s.len+us.length)<=_;omega
   ·intro l q;cases q;exact r.sP _ d
 ·rcases r.row with⟨_,e⟩|⟨b,pre,f,d,_⟩
  ·have G:us=[]:=agT ω;have H:bs=[]:=agT ω;subst G H;refine A _ _ ⟨by simp;omega,by show s.len+0<=s.cap;omega,.inl ⟨a,e⟩,(λl q=>by have q:s.a=some l:=q;rw[a]at q;cases q),r.new⟩ (agp _ _) (λl q=>by have q:s.a=some l:=q;rw[a]at q;cases q)
  ·rw[d]at a;cases a
 ·refine A _ _ ⟨by rw[afQ];show _=s.len+us.length;omega,e,.inr ⟨h.size,[],bZ (ctx.ti 5).z (c-(s.len+us.length)),rfl,?_,?_⟩,?_,?_⟩ (aga (af5 _ _)) ?_
  ·rw[cg,both,aho]
  ·rw[iD,QO,agL];exact afR _
  ·intro l q;cases q;exact r.new _ (afR _)
  ·intro i k;rw[ahu]at k;exact r.new i ω
  ·intro l q;cases q;exact .inr (afR _)
theorem ED{c:Int}{K:Sl->aa->Prop}(r:vS Q h s bs)(q:bs.length<900000)(c0:0<=c)(B:c<256)
 (A:∀a b,vS Q b a (bs++[afX c.toNat])->ag (In s) h b->(∀l,a.a=some l->(∃f,s.a=some f/\f.b=l.b)\/h.size<=l.b)->K a b):
 ∃new,cv (h.push (row (afY [age .u8 c]) 5)) (agk (some (Vc.Loc.mk h.size 0)) 1 1) 1 new/\(∀v∈new,bQ v=true)/\aq ctx 5 s 1 new (h.push (row (afY [age .u8 c]) 5)) K:=by
 have e:((afX c.toNat).toNat:Int)=c:=by
  rw[ag8];omega
 have d:=af5 h (row (afY [age .u8 c]) 5);refine⟨gH [afX c.toNat],⟨rfl,.inr ⟨_,rfl,λj i=>?_⟩⟩,qR _,?_⟩
 ·have k:j=0:=by simpa using i
  subst k;have:=vA (o:=0) (cg h (row (afY [age .u8 c]) 5)) (v:=agu .u8 c) rfl;unfold ah at this;rw[this];show some (agu .u8 c)=some (agu .u8 ((afX c.toNat).toNat:Int));rw[e]
 ·have m:vS Q (h.push (row (afY [age .u8 c]) 5)) s bs:=r.only (aga d (S:=λ_=>False)) (λ_ _ n=>n);refine ade (us:=[afX c.toNat]) m (by simp;omega) λa b p t u=>A a b p ((aga d).trans t) λl q=>?_;rcases u l q with g|g
  ·exact .inl g
  ·exact .inr (by have:=d.size;omega)
theorem vS.after{q:aa}(r:vS Q h s bs)(A:64<=bs.length)(o:ag (λi=>¬In s i) h q)(B:∀i,q.size<=i->Q i):vS Q q (aA s 64 s.len 1) (bs.drop 64):=by
 have p:=r.len;have t:=r.cap;refine⟨by simp only[aA,afZ];omega,by simp only[aA];omega,?_,λl g=>?_,B⟩
 ·rcases r.row with⟨_,a⟩|⟨b,pre,c,d,e,u⟩
  ·omega
  ·have f:q[b]? =some (Go.Vc.row (pre++gH bs++c) 5):=(o.same b (jo e) (λj=>j ⟨_,d,rfl⟩)).trans e;by_cases a:s.cap=64
   ·refine .inr ⟨b,pre,gH bs++c,by simp only[aA];rw[if_pos a,d],?_,by simp only[aA];omega⟩;have:bs.drop 64=[]:=agO ω;rw[this,f];simp
   ·refine .inr ⟨b,pre++gH (bs.take 64),c,?_,?_,by simp only[aA];omega⟩
    ·simp only[aA];rw[if_neg a,d,afQ,afM,af7,Nat.min_eq_left A,agL];rfl
    ·rw[f];congr 2;have:gH bs=gH (bs.take 64)++gH (bs.drop 64):=by rw[<-agA,List.take_append_drop]
     rw[this];simp
 ·obtain⟨k,m,n⟩:=EA g;rw[<-n];exact r.sP k m
theorem Dk(T q:LU)(w:Ws 8):∀k,64*k<=T.length->kS (T++q) w k=kS T w k
 |0,_=>rfl
 |k+1,a=>by
  rw[kS,kS,Dk T q w k ω,List.drop_append_of_le_length ω,List.take_append_of_le_length (by rw[afZ];omega)]
structure HX(Q:Nat->Prop)(h:aa)(b:Nat)(T:LU)(k:Nat)(N:Int)(s:Sl):Prop where
 var:Var 333 h b (.agg [.words .u32 8 (kS T fV k),.slice s,.int .u64 N])
 row:vS Q h s (T.drop (64*k))
 fit:64*k<=T.length
 sP:Q b
 apart:∀l,s.a=some l->l.b≠b
variable{b k:Nat}{T:LU}{N:Int}
theorem HX.words(st:HX Q h b T k N s):jc h b 0 .u32 8 (kS T fV k):=st.var.at.1
theorem HX.rest(st:HX Q h b T k N s):ah h b 8 (aW s):=st.var.at.2.1
theorem HX.count(st:HX Q h b T k N s):ah h b 9 (.int .u64 N):=st.var.at.2.2
theorem HX.grown{q:aa}{A:Sl}{B:LU}(st:HX Q h b T k N s)(r1:vS Q q A (T.drop (64*k)++B))(E:ag (In s) h q)(G:∀l,A.a=some l->(∃c,s.a=some c/\c.b=l.b)\/h.size<=l.b){K:aa->Prop}
 (H:∀a,HX Q a b (T++B) k N A->ag Q h a->a.size=q.size->K a):gi q b 8 1/\Bind ((agl A).put q b 8) K:=by
 have f:∀l,A.a=some l->l.b≠b:=λl d e=>by
  rcases G l d with⟨c,g,m⟩|g
  ·exact st.apart c g (m.trans e)
  ·have:=st.var.lt;omega
 have v1:=st.var.only E (λ⟨l,d,e⟩=>st.apart l d e);refine aF (i:=1) (t0:=.slice s) v1 rfl rfl rfl rfl λa n(j:ag (·=b) q a) o=>H a ⟨?_,?_,?_,st.sP,f⟩ ((st.row.aek E).trans (j.mono λi p=>by subst p;exact st.sP)) o
 ·rw[Dk T B fV k st.fit];exact n
 ·rw[List.drop_append_of_le_length st.fit];exact r1.only j f
 ·rw[afQ];have:=st.fit;omega
theorem HX.step(st:HX Q h b T k N s)(A:64<=s.len)
 (B:∀a r,Var 333 a b (.agg [.words .u32 8 (kS T fV (k+1)),.slice s,.int .u64 N])->ag (·=b) h a->(∀K:aa->Prop,(∀c,HX Q c b T (k+1) N (aA s 64 s.len 1)->ag Q h c->K c)->gi a b 8 1/\Bind ((agl (aA s 64 s.len 1)).put a b 8) K)->r=a->R (af4 []).val a):
 Cl 292 [.ptr (PT b),.slice (aA s 0 64 1)] h R:=by
 have t:=st.row.len;rw[afZ]at t;have o:=AL (i:=0) (j:=64) st.row.elems ω A st.row.cap;rw[ag9,agY,<-aha]at o;have v:=st.fit
 refine QT h R b (kS T fV k) s (aA s 0 64 1) ((T.drop (64*k)).take 64) N st.var o (by rw[af7,afZ];omega) (λl f=>by
  obtain⟨m,n,a⟩:=EA f;rw[<-a];exact st.apart m n) λa p g=>?_
 refine B a a p g (λK u=>?_) rfl;refine aF (i:=1) (t0:=.slice s) p rfl rfl rfl rfl λc v4(q:ag (·=b) a c) w=>u c ⟨v4,?_,ω,st.sP,λl f=>?_⟩ ((g.mono λi d=>by subst d;exact st.sP).trans (q.mono λi d=>by subst d;exact st.sP))
 ·have:T.drop (64*(k+1))=(T.drop (64*k)).drop 64:=by rw[List.drop_drop];congr 1
  rw[this];refine st.row.after (by rw[afZ];omega) ((g.trans q).mono λi d=>?_) λi d=>st.row.new i (by have:=g.size;omega);rintro⟨l,f,e⟩;exact st.apart l f (e.trans d)
 ·obtain⟨m,n,a⟩:=EA f;rw[<-a];exact st.apart m n
theorem Us(st:HX Q h b T k (T.length:Int) s){text:LU}(E:T.length+text.length<800000)
 (q:∀f d p,HX Q f b (T++text) p ((T++text).length:Int) d->d.len<64->ag Q h f->R (af4 []).val f):
 Cl 258 [.ptr (PT b),.str text] h R:=by
 apply Bi;delta dz aG aI jv eX c4 bN;refine⟨_,st.count,?_⟩
 have r:afK .u64 ((T.length:Int)+afK .u64 (text.length:Int))=((T++text).length:Int):=by
  rw[bH (n:=(text.length:Int)) ω ω,bH ω ω,afQ];omega
 dsimp only;rw[r];refine aF (i:=2) (t0:=.int .u64 (T.length:Int)) st.var rfl rfl rfl rfl λg v1(m:ag (·=b) h g) D=>?_;have j:HX Q g b T k ((T++text).length:Int) s:=⟨v1,st.row.only m st.apart,st.fit,st.sP,st.apart⟩;have f1:ag Q h g:=m.mono λi t=>by subst t;exact st.sP
 have dl:(T.drop (64*k)).length<=T.length:=by rw[afZ];omega
 refine⟨s,j.rest,ade j.row ω λd F u v w=>j.grown u v w λG x f3 H=>?_⟩;refine⟨λ_ e=>∃a l,HX Q e b (T++text) l ((T++text).length:Int) a/\ag Q h e,λ_ e=>Oz e b,⟨d,k,x,f1.trans f3⟩,?_⟩;rintro _ y ⟨a,l,c,f4⟩;refine⟨a,c.rest,ID (λz=>?_) λz=>q y a l c ω f4⟩;have I:=c.row.cap;refine⟨a,c.rest,δ,ω,?_⟩;refine c.step ω λJ _ A K B _=>⟨rfl,a,A.at.2.1,δ,ω,B _ λL o f6=>?_⟩;refine⟨⟨_,_,o,f4.trans f6⟩,?_⟩;have M:=uk c.rest;have C:=uk o.rest;simp only[aA]at C;dsimp only;omega
def rlx(x:Int):Nat->LU
 |0=>[]
 |m+1=>rlx x m++[afX (afK .u8 (af3 x ((2:Int)^min (afO (afK .u64 (afK .i64 (8*(7-(m:Int)))))) (afL .u64)))).toNat]
def lnx(x:Int):Nat->LU
 |0=>[]
 |i+1=>lnx x i++[afX (afK .u8 (af3 x (2^min (afO (afK .i64 (56-afK .i64 (8*(i:Int))))) (afL .u64)))).toNat]
theorem Xv(n:Int):∀m,uv n m=rlx (afK .u64 (afK .u64 n*8)) m
 |0=>rfl
 |m+1=>by rw[uv,rlx,Xv n m]
theorem Xw(n:Int):∀m,lens n m=lnx (afK .u64 (n*8)) m
 |0=>rfl
 |m+1=>by rw[lens,lnx,Xw n m];rfl
theorem ZZ(x:Int):rlx x 8=lnx x 8:=κ
theorem QY(n:Int)(q:0<=n)(A:n<18446744073709551616):uv n 8=lens n 8:=by
 rw[Xv,Xw,bH q A,ZZ]
set_option maxHeartbeats 1000000 in
theorem Ut(st:HX Q h b T k (T.length:Int) s)(hl:T.length<700000)(I:∀J,ag Q h J->R (agK 32 (k_ T)).val J):Cl 259 [.ptr (PT b)] h R:=by
 apply Bj;delta dz aG Xc aI De SK dH lS jv c5 bu fU bK bN;have blt:=st.var.lt;have Y:=st.row.lt;refine af λq v1 y s1=>?_;have u:HX (λi=>Q i/\i≠h.size) q b T k (T.length:Int) s:=⟨st.var.ext y,⟨st.row.len,st.row.cap,(st.row.only (aga y (S:=λ_=>False)) (λ_ _ Z=>Z)).row,λl K=>⟨st.row.sP l K,by have:=Y l K;omega⟩,λi d=>⟨st.row.new i ω,ω⟩⟩,st.fit,⟨st.sP,ω⟩,st.apart⟩;have f1:ag Q h q:=aga y;have a6:=st.fit;have ab:=st.row.len;rw[afZ]at ab;refine⟨_,u.count,s,u.rest,?_⟩;refine ED u.row (by rw[afZ];omega) δ δ λs2 h2 L o2 b2=>?_;have ac:afX (afO 128)=128:=δ;rw[ac]at L;refine u.grown L o2 b2 λh3 ad f3 s3=>?_;have a7:pY T.length<64:=by unfold pY;omega
 have v:∀j,((T++[128])++af8 j (0:UInt8)).length=T.length+1+j:=λj=>by simp;omega
 refine⟨λ_ a=>∃r j,HX (λi=>Q i/\i≠h.size) a b ((T++[128])++af8 j 0) k (T.length:Int) r/\j<=pY T.length/\ag (λi=>Q i/\i≠h.size) q a,λ_ a=>T.length+100-Oz a b,⟨s2,0,by simpa using ad,agd _,f3⟩,?_⟩;rintro _ h4 ⟨f,j,g,hj,f4⟩;have l4:=g.row.len;rw[afZ,v]at l4
 have ae:agc (f.len:Int) 64=((f.len%64:Nat):Int):=by
  rw[agN ω];rfl
 refine⟨f,g.rest,δ,?_⟩;rw[ae];refine agi (λM=>?_) (λheq=>?_)
 ·have al:¬f.len%64=56:=λe=>by rw[e]at M;simp at M
  have N:j<pY T.length:=by
   rcases ahe j (pY T.length)with o|o
   ·exact o
   ·exfalso;apply al;have:j=pY T.length:=ω;unfold pY at this;omega
  refine⟨f,g.rest,?_⟩;refine ED g.row (by rw[afZ,v];omega) δ δ λw h5 r5 o5 b5=>?_;refine g.grown r5 o5 b5 λx c f6 m=>?_;have e0:afX (afO 0)=0:=δ
  have er:((T++[128])++af8 j 0)++[afX (afO 0)]=(T++[128])++af8 (j+1) 0:=by
   rw[e0,agF,List.replicate_succ']
  rw[er]at c;have z:=c.row.len;rw[afZ,v]at z;refine⟨⟨w,j+1,c,ω,f4.trans f6⟩,?_⟩;have g1:=uk g.rest;have O:=uk c.rest;dsimp only;omega
 have a8:f.len%64=56:=by simp at heq;omega
 have N:j=pY T.length:=by unfold pY at hj⊢;omega
 subst N
 have am:F_ T=((T++[128])++af8 (pY T.length) 0)++lens (T.length:Int) 8:=by
  unfold F_;rw[QY _ ω ω]
 have U:=v (pY T.length);generalize(T++[128])++af8 (pY T.length) (0:UInt8)=base at*;refine⟨λi a=>0<=i/\i<=8/\∃r,HX (λi=>Q i/\i≠h.size) a b (base++lens (T.length:Int) i.toNat) k (T.length:Int) r/\ag (λi=>Q i/\i≠h.size) q a,λi _=>((8:Int)-i).toNat,⟨afT 0,δ,f,by simpa[lens]using g,f4⟩,?_⟩;rintro i h5 ⟨V,i1,w,p,f5⟩;have l5:=p.row.len;rw[afZ,afQ,zB,U]at l5;refine ID (λd=>?_) λd=>?_
 ·refine⟨w,p.rest,?_,af5 _ _,?_⟩
  ·rw[wrap_i64 (n:=8*i) ω ω,wrap_i64 ω ω];omega
  refine ED p.row (by rw[afZ,afQ,zB,U];omega) (aO _).1 (aO _).2 λm x r6 o6 b6=>?_;refine p.grown r6 o6 b6 λA ao f7 s7=>?_;rw[wrap_i64 (n:=i+1) ω ω];have B:(i+1).toNat=i.toNat+1:=ω;refine⟨⟨ω,ω,m,?_,f5.trans f7⟩,Ω⟩;rw[B];unfold lens Mg;rw[show((i.toNat:Nat):Int)=i by omega,<-agF];exact ao
 have ap:i.toNat=8:=ω;rw[ap,<-am]at p;have a9:=OE T;have ar:k_ T=Mh (kS (F_ T) fV ((F_ T).length/64)) 8:=rfl;rw[ar]at I;generalize F_ T=P at*;refine⟨λ_ a=>∃r k',HX (λi=>Q i/\i≠h.size) a b P k' (T.length:Int) r/\ag (λi=>Q i/\i≠h.size) q a,λ_ a=>Oz a b,⟨w,k,p,f5⟩,?_⟩;rintro _ x ⟨m,k6,c,f6⟩;have z:=c.row.len;have a':=c.fit;rw[afZ]at z;refine⟨m,c.rest,ID (λba=>?_) λhz=>?_⟩
 ·have aw:64<=m.len:=ω;have hc:=c.row.cap;refine⟨m,c.rest,δ,ω,?_⟩;refine c.step aw λA _ C o7 aE _=>⟨rfl,m,C.at.2.1,δ,ω,aE _ λW X f8=>?_⟩;refine⟨⟨_,_,X,f6.trans f8⟩,?_⟩;have g1:=uk c.rest;have O:=uk X.rest;simp only[aA]at O;dsimp only;omega
 have a0:k6=P.length/64:=ω;refine af λA C D s7=>?_;refine⟨_,(c.var.ext D).at.1,?_⟩;rw[a0];have bb:=f6.size;refine⟨λi a=>0<=i/\i<=8/\Var 52 a x.size (.bytes 32 (Mh (kS P fV (P.length/64)) i.toNat))/\ag (·=x.size) A a,λi _=>((8:Int)-i).toNat,⟨afT 0,δ,C,agp _ _⟩,?_⟩;rintro i W ⟨V,i1,E,F⟩;refine ID (λd=>?_) λd=>?_
 ·rw[wrap_i64 (n:=4*i) ω ω,wrap_i64 (n:=4*i+1) ω ω,wrap_i64 (n:=4*i+2) ω ω,wrap_i64 (n:=4*i+3) ω ω,wrap_i64 (n:=i+1) ω ω];refine⟨V,ω,δ,δ,δ,ω,ω,j3 E (i:=4*i.toNat) ω ω (aO _).1 (aO _).2 λo G H s9=>?_⟩;refine⟨ω,ω,j3 G (i:=4*i.toNat+1) ω ω (aO _).1 (aO _).2 λbc v10 a1 bd=>?_⟩;refine⟨ω,ω,j3 v10 (i:=4*i.toNat+2) ω ω (aO _).1 (aO _).2 λbi v11 a2 bj=>?_⟩;refine⟨ω,ω,j3 v11 (i:=4*i.toNat+3) ω ω (aO _).1 (aO _).2 λbk a3 a4 bl=>?_⟩;have B:(i+1).toNat=i.toNat+1:=ω;refine⟨⟨ω,ω,?_,F.trans (H.trans (a1.trans (a2.trans a4)))⟩,Ω⟩;rw[B];unfold Mh ac4 ob;exact a3
 ·have a5:i.toNat=8:=ω;rw[a5]at E;have vr:Var 52 W h.size (.bytes 32 (af6 32)):=((v1.only f6 (λo=>o.2 rfl)).ext D).only F ω;refine⟨_,E.bytes,aH vr (t:=.bytes 32 (Mh (kS P fV (P.length/64)) 8)) uo λo G H s9=>⟨_,G.bytes,?_⟩⟩;refine I _ (f1.trans ((f6.mono λi d=>d.1).trans ((aga D).trans ((F.mono λi d=>?_).trans (H.mono λi d=>?_)))))
  ·subst d;exact st.row.new _ ω
  ·subst d;exact st.row.new _ (afR _)
theorem nV{s:Sl}{ts:List (LU)}(e:ak 1 h s (ts.map agq))(q:ts.flatten.length<700000)(U:ts.length<100000)(B:∀m,Ext h m->R (agK 32 (k_ ts.flatten)).val m):Cl 201 [.slice s] h R:=by
 apply Mm;delta BN aG gU dH c5 fh xQ bu fU bK bN eE;refine af λV v1 p W=>?_;refine vJ λr f=>⟨_,rfl,af λb C u X=>?_⟩;have Y:=p.size;have Z:=f.size;have D:HX (λi=>h.size<i) b r.size [] 0 0 afV:=⟨C,⟨rfl,afR _,.inl ⟨rfl,rfl⟩,(λl q=>by cases q),λi c=>ω⟩,afR _,ω,λl q=>by cases q⟩;have E:Ext h b:=(p.trans f).trans u;have F:Var 52 b h.size (.bytes 32 (af6 32)):=(v1.ext f).ext u;have v:∀a,ag (λi=>h.size<i) b a->Ext h a:=λa o=>afN E o λi c=>ω;have hn:ts.length=s.len:=by have:=e.len;rwa [afM]at this
 refine⟨λi a=>0<=i/\i<=s.len/\(∃G k,HX (λi=>h.size<i) a r.size (ts.take i.toNat).flatten k ((ts.take i.toNat).flatten.length:Int) G)/\ag (λi=>h.size<i) b a,λi _=>((s.len:Int)-i).toNat,⟨afT 0,ω,⟨afV,0,D⟩,agp _ _⟩,?_⟩;rintro i H ⟨I,i1,⟨s4,k4,g⟩,d⟩;refine ID (λc=>?_) λc=>?_
 ·refine(e.ext (v H d)).read I ω λl t ab w J=>?_;rw[ago]at w;obtain⟨x,K,rfl⟩:=agz.1 w;refine⟨x,J,?_⟩;have y:=bq K;have z:=xM ts (i.toNat+1);rw[y,List.flatten_append,afQ]at z;have A:([x]:List (LU)).flatten=x:=by simp
  rw[A]at z;refine Us g ω λj L M N _ f5=>⟨rfl,?_⟩;rw[wrap_i64 (n:=i+1) ω ω];have O:(i+1).toNat=i.toNat+1:=ω;refine⟨⟨ω,ω,⟨L,M,?_⟩,d.trans f5⟩,Ω⟩;rw[O,y,List.flatten_append,A];exact N
 ·have P:i.toNat=ts.length:=ω;rw[P,agJ]at g;refine Ut g q λj f5=>⟨_,rfl,?_⟩;have Q:Var 52 j h.size (.bytes 32 (af6 32)):=(F.only d (ahg _)).only f5 (ahg _);refine aH Q (t:=.bytes 32 (k_ ts.flatten)) uo λS v6 T s6=>⟨_,v6.bytes,?_⟩;exact B S (afN (v j (d.trans f5)) T λi c=>ω)
end
end Board
namespace Board
def KE(n:Int):Nat->LU
 |0=>[]
 |k+1=>afX (afK .u8 (agc n 256)).toNat::KE (afK .u64 (agr n 256)) k
theorem dy:∀(k:Nat)(n:Int),(KE n k).length=k
 |0,_=>rfl
 |k+1,n=>by simp[KE,dy k]
theorem zH:∀(k:Nat)(n:Int),0<=n->n<18446744073709551616->KE n k=vM n k
 |0,_,_,_=>rfl
 |k+1,n,a,e=>by
  have b:agc n 256=n%256:=agN a;have c:agr n 256=n/256:=agX a
  have d:af3 n ((2:Int)^min (afO 8) (afL .u64))=n/256:=by
   show af3 n 256=n/256;exact Int.fdiv_eq_ediv_of_nonneg n δ
  rw[KE,vM,b,c,d,bH (n:=n/256) ω ω,zH k (n/256) ω ω,wrap_u8,wrap_u8];congr 3;omega
section
variable{R:Rq}{h:aa}
theorem bE:∀(k:Nat)(n:Int)(h:aa)(R:Rq),k<=8->(∀A,Ext h A->R (agq (KE n k)).val A)->Cl 222 [.int .u64 n,.i (k:Int)] h R
 |0,n,h,R,_,q=>by
  apply mG;delta aG gu Dd zo Mf dI eE;exact ID (λ_=>q h (af9 _)) λB=>absurd δ B
 |k+1,n,h,R,f,q=>by
  apply mG;delta aG gu Dd zo Mf dI eE;refine ID (λB=>ω) λ_=>⟨δ,δ,?_⟩
  have e:afK .i64 (mn ((k+1:Nat):Int) 8-1)=(k:Int):=by
   rw[J7,wrap_i64 ω ω];omega
  rw[e];have b:=aO (agc n 256);have c:=dy k (afK .u64 (agr n 256));refine⟨⟨af5 _ _,_,str1 b.1 b.2,bE k _ _ _ ω λd a=>⟨_,rfl,a,?_,?_⟩⟩,bE k _ _ _ ω λd a=>⟨_,rfl,a,af5 _ _,_,str1 b.1 b.2,?_,?_⟩⟩
  ·rw[c,agj];omega
  ·exact q d ((af5 _ _).trans a)
  ·rw[c,agj];omega
  ·exact q _ (a.trans (af5 _ _))
theorem Mo{a b:Bs 32}(q:∀k,Ext h k->R (af1 (af0 a.l b.l)).val k):Cl 133 [.bytes 32 a,.bytes 32 b] h R:=by
 apply lV;delta HB bV bK mN;refine af λC v1 l D=>af λr m g E=>?_;have n:=v1.ext g
 have gP:∀{h:aa}{b:Nat}{x:Bs 32}{i:Nat},Var 52 h b (.bytes 32 x)->(d:i<32)->ah h b (0+i*1) (.int .u8 ((x.l[i]'(by rw[x.h];exact d)).toNat:Int)):=by
  intro h b x i v d;have:=v.bytes i d;rw[agL];unfold ah;rw[this];have c:i<x.l.length:=by rw[x.h];exact d
  simp[List.getD,c]
 refine⟨λs o=>0<=s.2/\s.2<=32/\o=r/\af0 a.l b.l=af0 (a.l.drop s.2.toNat) (b.l.drop s.2.toNat),λs _=>((32:Int)-s.2).toNat,⟨by simp,by simp,rfl,by simp⟩,?_⟩;rintro⟨x,i⟩ o ⟨e,t,rfl,c⟩;simp only at e t c⊢;have F:=a.h;have G:=b.h;refine ID (λd=>?_) λd=>?_
 ·have f:i.toNat<32:=ω;have u:a.l.drop i.toNat=a.l[i.toNat]::a.l.drop (i.toNat+1):=ag6 ω;have w:b.l.drop i.toNat=b.l[i.toNat]::b.l.drop (i.toNat+1):=ag6 ω;rw[u,w]at c;simp only[af0]at c;refine⟨e,d,_,gP n f,e,d,_,gP m f,?_⟩;refine agi (λp=>?_) (λy=>?_)
  ·refine⟨e,d,_,gP n f,e,d,_,gP m f,?_⟩
   have z:(a.l[i.toNat]==b.l[i.toNat])=false:=by
    rw[beq_eq_false_iff_ne];intro A;rw[A]at p;simp at p
   rw[z,ahj,Bool.or_false]at c
   have:af0 a.l b.l=decide (((a.l[i.toNat]).toNat:Int)<((b.l[i.toNat]).toNat:Int)):=by
    rw[c];refine decide_eq_decide.2 ?_;rw[agU];omega
   dsimp only;rw[<-this];exact q _ (l.trans g)
  ·have B:a.l[i.toNat]=b.l[i.toNat]:=by
    simp only[Bool.not_eq_false',decide_eq_true_eq]at y;exact agE.1 ω
   rw[wrap_i64 ω ω];refine⟨⟨ω,ω,by trivial,?_⟩,Ω⟩;have j:(i+1).toNat=i.toNat+1:=ω;rw[j,c,B];have:¬(b.l[i.toNat]<b.l[i.toNat]):=UInt8.lt_irrefl _;simp[this]
 ·have j:i.toNat=32:=ω;rw[j,agO ω,agO ω]at c;simp only[af0]at c;rw[c]at q;exact q _ (l.trans g)
theorem fM(n:Int):0<=afK .u64 n/\afK .u64 n<18446744073709551616:=by
 have:afK .u64 n=n%18446744073709551616:=by
  unfold afK;show(if(false&&_)=true then _ else n%2^64)=n%18446744073709551616;simp
 rw[this];omega
end
end Board
namespace Board
section
variable{R:Rq}{h:aa}
def xN:LU:=(agC #[(98:UInt8),(111:UInt8),(97:UInt8),(114:UInt8),(100:UInt8)]).data.toList
def rK(slot who:Int):Bs 32:=k_ ((xN++vM (afK .u64 slot) 4)++vM (afK .u64 who) 2)
theorem Xx{R:Rq}{h:aa}{slot who:Int}(q:∀b,Ext h b->R (agK 32 (rK slot who)).val b):Cl 314 [.i slot,.i who] h R:=by
 apply Ga;delta jg gu Kl dH rH dI xQ bu fU bK bh eE;refine af λm v1 n A=>?_;have r1:Row (λi=>h.size<i) m afV []:=⟨agn _ _ _,(λl o=>by cases o),λi c=>ω⟩;refine gw (k:=4) r1 δ δ λB C p r=>⟨_,rfl,?_⟩;have D:=fL 4 (afK .u64 slot);have l2:=fL 2 (afK .u64 who);refine gw (k:=2) p (by rw[afQ];simp only[List.length_nil];omega) δ λa E s u=>⟨_,rfl,_,s.str,?_⟩;have d:=r.trans u;have v:Ext h a:=afN n d λi c=>ω;have w:Var 52 a h.size (.bytes 32 (af6 32)):=v1.only d (ahg _);have e:[xN,([]++vM (afK .u64 slot) 4)++vM (afK .u64 who) 2].flatten=(xN++vM (afK .u64 slot) 4)++vM (afK .u64 who) 2:=by simp
 have f:=af5 a (row (afY [agq xN,agq (([]++vM (afK .u64 slot) 4)++vM (afK .u64 who) 2)]) 9);refine nV (ts:=[xN,([]++vM (afK .u64 slot) 4)++vM (afK .u64 who) 2]) ?_ ?_ (by simp) λF g=>⟨_,rfl,?_⟩
 ·exact(agx (T:=9) (sz:=1) a [agq xN,agq (([]++vM (afK .u64 slot) 4)++vM (afK .u64 who) 2)] (λt j=>by
   simp only[ahv,List.not_mem_nil,or_false]at j;rcases j with rfl|rfl<;>rfl)).elems
 ·have:xN.length=5:=δ;rw[e,afQ,afQ];omega
 ·rw[e];refine aH ((w.ext f).ext g) (t:=.bytes 32 (rK slot who)) uo λx y z G=>⟨_,y.bytes,?_⟩;exact q x (afN ((v.trans f).trans g) z λi c=>ω)
structure gA where
 BO:Bs 32
 who:Int
instance:Inhabited gA:=⟨⟨af6 32,0⟩⟩
def gA.tv(s:gA):TV:=.agg [.bytes 32 s.BO,.i s.who]
def Gb(x y:gA):Int:=
 if af0 x.BO.l y.BO.l=true then-1 else if af0 y.BO.l x.BO.l=true then 1 else if x.who<y.who then-1 else if y.who<x.who then 1 else 0
theorem OF{x:Int}(q:R (af1 false).val h):iB Tryz.prog 334 (agZ [.i x]) h R:=by
 apply zI;have:(!decide (x=x))=false:=by simp
 rw[this];exact q
theorem HY{x y:Int}(q:R (TV.i (if x<y then-1 else if y<x then 1 else 0)).val h):iB Tryz.prog 336 (agZ [.i x,.i y]) h R:=by
 apply vT;delta qL lR dO aT bh;refine OF ⟨_,rfl,OF ⟨_,rfl,?_⟩⟩;refine afU (afU (ID (λa=>?_) λa=>agW.2 ⟨λb=>?_,λb=>?_⟩))
 ·rw[if_pos a]at q;exact q
 ·rw[if_neg a,if_pos b]at q;exact q
 ·rw[if_neg a,if_neg b]at q;exact q
theorem sy{x y:gA}(q:∀f,Ext h f->R (TV.i (Gb x y)).val f):iB Tryz.prog 316 (agZ [x.tv,y.tv]) h R:=by
 apply Cj x.BO x.who y.BO y.who;delta dZ qL cV lR bu dO bK aT bh;refine af λp v1 n r=>af λs g i t=>?_;have j:=v1.ext i;have c:=n.trans i;refine⟨x.BO,j.at.1,y.BO,g.at.1,mP λo a=>⟨_,rfl,agi (λe=>?_) λe=>?_⟩⟩
 ·have:=q o (c.trans a)
  rwa [show Gb x y=-1 from if_pos e]at this
 ·have k:=j.ext a;have l:=g.ext a;refine⟨y.BO,l.at.1,x.BO,k.at.1,mP λm b=>⟨_,rfl,agi (λd=>?_) λd=>?_⟩⟩
  ·have:=q m ((c.trans a).trans b)
   rwa [show Gb x y=1 by unfold Gb;rw[if_neg (by rw[e];decide),if_pos d]]at this
  ·refine⟨x.who,(k.ext b).at.2,y.who,(l.ext b).at.2,HY ⟨_,rfl,?_⟩⟩;have:=q m ((c.trans a).trans b)
   rwa [show Gb x y=if x.who<y.who then-1 else if y.who<x.who then 1 else 0 by unfold Gb;rw[if_neg (by rw[e];decide),if_neg (by rw[d];decide)]]at this
end
end Board
end Go.Proofs.YtennbinbffdimaaGreat
namespace Go.Vc
open Go Go.Proofs Go.Shelf Go.RowKit Go.Lib Go.Sort
theorem Uu{v:Value}(h:bQ v=true):v.oneCell'=true:=by
 cases v<;>first|rfl|(simp[bQ]at h)
theorem Z0{w A:World}(B:fc true w A)(e:Ext w.heap A.heap):∃q b,A=Go.Sort.grow (w.drewN q) b:=by
 refine⟨A.drawn-w.drawn,A.heap.extract w.heap.size,?_⟩;obtain⟨a,h,j,b,op⟩:=A;obtain⟨c,k,l,m,n⟩:=w;have o:b=m:=B.os;have p:h=k:=B.tape;have r:op=n:=B.output;have s:l<=j:=B.drawn rfl;subst o;subst p;subst r;simp only[Go.Sort.grow,World.drewN];congr 1
 ·apply Array.ext_getElem?;intro i;rw[Array.getElem?_append];have t:c.size<=a.size:=e.size;split
  ·rename_i d;exact e.same i d
  ·rename_i d;rw[Array.getElem?_extract];split
   ·rename_i f;congr 1;omega
   ·rename_i f
    have:a.size<=i:=by
     rcases ahe i a.size with g|g
     ·exfalso;apply f;show i-c.size<min a.size a.size-c.size;rw[Nat.min_self];omega
     ·exact g
    exact Array.getElem?_eq_none this
 ·omega
section
variable{α:Type}[Inhabited α]{tv:α->TV}{k:Nat}
omit [Inhabited α]in
theorem Dn(q:∀x,(tv x).size=k)(L:List α):∀t∈L.map tv,t.size=k:=λt a=>by
 obtain⟨x,_,rfl⟩:=agy.1 a;exact q x
theorem KF(A:∀x,(tv x).size=k)(L:List α)(j:Nat)(q:j<L.length*k):(afY (L.map tv))[j]? =some ((flatK (λx=>(tv x).cells) k L.toArray)[j]!):=by
 have a:0<k:=Nat.pos_of_ne_zero (λe=>by rw[e,Nat.mul_zero]at q;omega);rw[get_flatK _ _ _ _ (by simpa using q)];have b:j/k<L.length:=(Nat.div_lt_iff_lt_mul a).2 q;have c:j%k<k:=ahw _ a;have:=aj.qt (L.map tv) (j/k) (j%k) (tv L[j/k]) (Dn A L) (by simp[b]) c;rw[Nat.div_add_mod' j k]at this;rw[this];have d:j%k<(tv L[j/k]).cells.length:=by rw[ahl,A];exact c
 have f:(L.toArray)[j/k]! =L[j/k]:=by simp[b]
 rw[f,agh d];simp[d]
theorem holds_of{T:TypeId}{w:World}{L:List α}{b:Nat}{A:List Value}(B:∀x,(tv x).size=k)(q:w.heap[b]? =some (row (afY (L.map tv)++A) T)):
 HoldsK (λx=>(tv x).cells) k w b 0 L.toArray:=by
 intro j a;rw[size_flatK]at a;have d:j<L.length*k:=by simpa using a
 have c:=KF B L j d;have e:j<(afY (L.map tv)).length:=(agI.1 c).1;refine⟨?_,?_⟩
 ·rw[cell?_eq];unfold lz;rw[q];simp only[row,Nat.zero_add];rw[List.getElem?_toArray,agG e,c];rfl
 ·unfold World.frozen?;rw[q];simp[row]
theorem Uv(A:∀x,(tv x).size=k)(L L':List α)(B:List Value)(q:L'.length=L.length):
 putCells id 0 (flatK (λx=>(tv x).cells) k L'.toArray) (afY (L.map tv)++B).toArray=(afY (L'.map tv)++B).toArray:=by
 have b:=aj.bz (L.map tv) (Dn A L);have c:=aj.bz (L'.map tv) (Dn A L');rw[afM]at b c;apply Array.ext_getElem?;intro i;unfold putCells;rw[Array.getElem?_mapIdx,List.getElem?_toArray,List.getElem?_toArray];simp only[agd,true_and,Nat.zero_add,agY,size_flatK,id];have d:L'.toArray.size=L'.length:=by simp
 rw[d];by_cases a:i<L'.length*k
 ·rw[agG (by rw[b,<-q];exact a),agG (by rw[c];exact a),KF A L' i a,agh (by rw[b,<-q];exact a)];simp[a]
 ·rw[agD (by rw[b,<-q];omega),agD (by rw[c];omega),b,c,q];have e:¬i<L.length*k:=by rw[<-q];exact a
  simp[e]
theorem OG{P:Program}{ρ:Ren}(E:SlLaysF0.n6 P ρ){T:TypeId}(O:∀w,(isAgg (ρ.t 24)).run P w=.ok true w)(U:∀w,(Go.sizeOf (ρ.t 24)).run P w=.ok k w)
 (A:∀x,(tv x).size=k)(W:∀x,(tv x).plain=true){q:α->α->Int}(Z:SWO (ltOf q)){g:Nat}{cb:Array Value}(ab:LL P g){h:aa}
 (ac:∀c x y,iB P g ([.agg (tv x).cells.toArray,.agg (tv y).cells.toArray]++cb.toList) c λv Q=>v=.int .i64 (q x y)/\Ext c Q)
 {s:Sl}{L:List α}(o:Own T k h s (L.map tv))(ao:L.length<1000000){R:Value->aa->Prop}
 (G:∀(c:aa)(L':List α),L'.Perm L->L'.Pairwise (λx y=>ltOf q y x=false)->Own T k c s (L'.map tv)->ag (In s) h c->R (af4 []).val c):
 bB P (ρ.f 6) [(agl s).val,.func (.func g) #[] cb] h R:=by
 have f:=o.len;rw[afM]at f;rcases o.row with F|⟨b,r,t,u,S⟩
 ·intro w z;have V:L=[]:=agT (by rw[f,F];rfl);subst V;have:=AnyF.slices_SortFunc_none E none 0 (.func (.func g) #[] cb) w;rw[F];refine this.mono λe H=>?_;rintro⟨rfl,rfl⟩;refine⟨fc.refl _,_,rfl,?_⟩;rw[z];exact G h [] (List.Perm.refl _) List.Pairwise.nil o (agp _ _)
 ·intro w z;subst z;have X:=holds_of A u;have I:b<w.heap.size:=jo u
  have Y:CmpLays P g cb (λx=>(tv x).cells) k q b 0 L.toArray.size w:=by
   intro m d J _ x y;have l:=ac (sortWorldK (λx=>(tv x).cells) k w b 0 m J d).heap x y (sortWorldK (λx=>(tv x).cells) k w b 0 m J d) rfl;have ea:([ahx (tv x).cells.toArray,ahx (tv y).cells.toArray]++cb.toList).toArray=#[ahx (tv x).cells.toArray,ahx (tv y).cells.toArray]++cb:=by apply Array.toList_inj.1;simp
   rw[ea]at l;refine l.mono λe H=>?_;rintro⟨B,v,rfl,rfl,l⟩;exact⟨rfl,Z0 B l⟩
  have B:=AnyQ.slices_SortFunc E k O U (λx=>(tv x).cells) (λx=>by rw[ahl,A]) (λx v hv=>Uu (TV.gj _ (W x) v hv)) q Z g cb b 0 s.cap L.toArray w (λargs w=>ab args w) Y X I (by simp;omega)
  have e1:(agl s).val=.slice (some ⟨b,0,none⟩) L.toArray.size s.cap:=by
   simp only[ahy,aW,Sl.lq t,Vc.Loc.addr,List.size_toArray,f]
  rw[e1];refine B.mono λe H=>?_;rintro⟨rfl,a,n,d,K,ad,rfl⟩;have p:a.size=L.length:=by have:=K.1;simpa using this
  have ae:a.toList.Perm L:=by
   have:=K.2.2;have e2:a.extract 0 L.toArray.size=a:=by rw[Array.extract_eq_self_of_le (by simp[p])]
   have e3:L.toArray.extract 0 L.toArray.size=L.toArray:=by rw[Array.extract_eq_self_of_le (afR _)]
   rw[e2,e3]at this;exact this
  have C:(sortWorldK (λx=>(tv x).cells) k w b 0 n a d).heap=(w.heap.modify b (onCells (putCells id 0 (flatK (λx=>(tv x).cells) k a))))++d:=rfl;have hd:a=a.toList.toArray:=by simp
  have al:(sortWorldK (λx=>(tv x).cells) k w b 0 n a d).heap[b]? =some (row (afY (a.toList.map tv)++r) T):=by
   rw[C,Array.getElem?_append_left (by simpa using I),Array.getElem?_modify,if_pos rfl,u];simp only[ahb,onCells,row];have M:=Uv (k:=k) (tv:=tv) A L a.toList r (by simp[p]);rw[<-hd]at M;rw[M]
  refine⟨⟨rfl,rfl,rfl,λ_=>Nat.le_add_right _ _⟩,_,rfl,?_⟩;refine G _ a.toList ae ?_ ⟨Dn A _,by simp[p,f],o.cap,.inr ⟨b,r,t,al,S⟩⟩ ⟨?_,λi D hn=>?_⟩
  ·rw[List.pairwise_iff_getElem];intro i j D hj am;have h1:i<a.size:=by simpa using D
   have N:j<a.size:=by simpa using hj
   have:=ad i j (agd _) am (by simpa[p]using N);simpa[h1,N]using this
  ·rw[C];simp
  ·rw[C,Array.getElem?_append_left (by simpa using D),Array.getElem?_modify,if_neg (λe=>hn ⟨_,t,e⟩)]
end
end Go.Vc
namespace Go.Proofs
open Go.Shelf
def Tryz.sortIts_ren:Go.Shelf.Ren:=⟨λ|6=>254|15=>273|14=>291|28=>310|29=>311|20=>317|21=>318|22=>319|23=>320|24=>321|25=>322|26=>323|27=>324|46=>337|47=>330|48=>331|49=>338|50=>339|57=>350|n=>n,λ|22=>240|24=>242|25=>329|3=>3|39=>88|0=>0|53=>288|55=>53|4=>4|46=>372|45=>371|50=>169|5=>5|9=>9|66=>397|70=>401|76=>408|77=>409|n=>n,λ|n=>n⟩
theorem Tryz.sortIts:Go.Proofs.SlLaysF0.n6 Tryz.prog Tryz.sortIts_ren:={
 mixed:=κ
 f6:=⟨Tryz.f254.name,δ,Tryz.func254.trans (congrArg some κ)⟩
 f14:=⟨Tryz.f291.name,δ,Tryz.func291.trans (congrArg some κ)⟩
 f15:=Tryz.func273.trans (congrArg some κ)
 f20:=⟨Tryz.f317.name,δ,Tryz.func317.trans (congrArg some κ)⟩
 f21:=⟨Tryz.f318.name,δ,Tryz.func318.trans (congrArg some κ)⟩
 f22:=⟨Tryz.f319.name,δ,Tryz.func319.trans (congrArg some κ)⟩
 f23:=⟨Tryz.f320.name,δ,Tryz.func320.trans (congrArg some κ)⟩
 f24:=⟨Tryz.f321.name,δ,Tryz.func321.trans (congrArg some κ)⟩
 f25:=⟨Tryz.f322.name,δ,Tryz.func322.trans (congrArg some κ)⟩
 f26:=⟨Tryz.f323.name,δ,Tryz.func323.trans (congrArg some κ)⟩
 f27:=⟨Tryz.f324.name,δ,Tryz.func324.trans (congrArg some κ)⟩
 f28:=Tryz.func310.trans (congrArg some κ)
 f29:=Tryz.func311.trans (congrArg some κ)
 f46:=⟨Tryz.f337.name,δ,Tryz.func337.trans (congrArg some κ)⟩
 f47:=Tryz.func330.trans (congrArg some κ)
 f48:=Tryz.func331.trans (congrArg some κ)
 f49:=⟨Tryz.f338.name,δ,Tryz.func338.trans (congrArg some κ)⟩
 f50:=⟨Tryz.f339.name,δ,Tryz.func339.trans (congrArg some κ)⟩
 f57:=⟨Tryz.f350.name,δ,Tryz.func350.trans (congrArg some κ)⟩
 t0:=Tryz.underlying0
 a0:=Tryz.isAgg0
 z0:=Tryz.sizeOf0
 v0:=Tryz.zeroValue0
 t3:=Tryz.underlying3
 a3:=Tryz.isAgg3
 z3:=Tryz.sizeOf3
 v3:=Tryz.zeroValue3
 t4:=Tryz.underlying4
 a4:=Tryz.isAgg4
 z4:=Tryz.sizeOf4
 v4:=Tryz.zeroValue4
 t5:=Tryz.underlying5
 a5:=Tryz.isAgg5
 z5:=Tryz.sizeOf5
 v5:=Tryz.zeroValue5
 t9:=Tryz.underlying9
 a9:=Tryz.isAgg9
 z9:=Tryz.sizeOf9
 v9:=Tryz.zeroValue9
 t22:=Tryz.underlying240
 a22:=Tryz.isAgg240
 z22:=Tryz.sizeOf240
 v22:=Tryz.zeroValue240
 t25:=Tryz.underlying329
 a25:=Tryz.isAgg329
 z25:=Tryz.sizeOf329
 v25:=Tryz.zeroValue329
 t39:=Tryz.underlying88
 a39:=Tryz.isAgg88
 z39:=Tryz.sizeOf88
 v39:=Tryz.zeroValue88
 t45:=Tryz.underlying371
 a45:=Tryz.isAgg371
 z45:=Tryz.sizeOf371
 v45:=Tryz.zeroValue371
 t46:=Tryz.underlying372
 a46:=Tryz.isAgg372
 z46:=Tryz.sizeOf372
 v46:=Tryz.zeroValue372
 t50:=Tryz.underlying169
 a50:=Tryz.isAgg169
 z50:=Tryz.sizeOf169
 v50:=Tryz.zeroValue169
 t53:=Tryz.underlying288
 a53:=Tryz.isAgg288
 z53:=Tryz.sizeOf288
 v53:=Tryz.zeroValue288
 t55:=Tryz.underlying53
 a55:=Tryz.isAgg53
 z55:=Tryz.sizeOf53
 v55:=Tryz.zeroValue53
 t66:=Tryz.underlying397
 a66:=Tryz.isAgg397
 z66:=Tryz.sizeOf397
 v66:=Tryz.zeroValue397
 t70:=Tryz.underlying401
 a70:=Tryz.isAgg401
 z70:=Tryz.sizeOf401
 v70:=Tryz.zeroValue401
 t76:=Tryz.underlying408
 a76:=Tryz.isAgg408
 z76:=Tryz.sizeOf408
 v76:=Tryz.zeroValue408
 t77:=Tryz.underlying409
 a77:=Tryz.isAgg409
 z77:=Tryz.sizeOf409
 v77:=Tryz.zeroValue409}
def Tryz.sortSts_ren:Go.Shelf.Ren:=⟨λ|6=>315|15=>273|14=>335|28=>310|29=>311|20=>342|21=>343|22=>344|23=>345|24=>346|25=>347|26=>348|27=>349|46=>351|47=>330|48=>331|49=>352|50=>353|57=>354|n=>n,λ|22=>382|24=>385|25=>387|3=>3|39=>88|0=>0|53=>288|55=>53|4=>4|46=>372|45=>371|50=>169|5=>5|9=>9|66=>397|70=>401|76=>408|77=>409|n=>n,λ|n=>n⟩
theorem Tryz.sortSts:Go.Proofs.SlLaysF0.n6 Tryz.prog Tryz.sortSts_ren:={
 mixed:=κ
 f6:=⟨Tryz.f315.name,δ,Tryz.func315.trans (congrArg some κ)⟩
 f14:=⟨Tryz.f335.name,δ,Tryz.func335.trans (congrArg some κ)⟩
 f15:=Tryz.func273.trans (congrArg some κ)
 f20:=⟨Tryz.f342.name,δ,Tryz.func342.trans (congrArg some κ)⟩
 f21:=⟨Tryz.f343.name,δ,Tryz.func343.trans (congrArg some κ)⟩
 f22:=⟨Tryz.f344.name,δ,Tryz.func344.trans (congrArg some κ)⟩
 f23:=⟨Tryz.f345.name,δ,Tryz.func345.trans (congrArg some κ)⟩
 f24:=⟨Tryz.f346.name,δ,Tryz.func346.trans (congrArg some κ)⟩
 f25:=⟨Tryz.f347.name,δ,Tryz.func347.trans (congrArg some κ)⟩
 f26:=⟨Tryz.f348.name,δ,Tryz.func348.trans (congrArg some κ)⟩
 f27:=⟨Tryz.f349.name,δ,Tryz.func349.trans (congrArg some κ)⟩
 f28:=Tryz.func310.trans (congrArg some κ)
 f29:=Tryz.func311.trans (congrArg some κ)
 f46:=⟨Tryz.f351.name,δ,Tryz.func351.trans (congrArg some κ)⟩
 f47:=Tryz.func330.trans (congrArg some κ)
 f48:=Tryz.func331.trans (congrArg some κ)
 f49:=⟨Tryz.f352.name,δ,Tryz.func352.trans (congrArg some κ)⟩
 f50:=⟨Tryz.f353.name,δ,Tryz.func353.trans (congrArg some κ)⟩
 f57:=⟨Tryz.f354.name,δ,Tryz.func354.trans (congrArg some κ)⟩
 t0:=Tryz.underlying0
 a0:=Tryz.isAgg0
 z0:=Tryz.sizeOf0
 v0:=Tryz.zeroValue0
 t3:=Tryz.underlying3
 a3:=Tryz.isAgg3
 z3:=Tryz.sizeOf3
 v3:=Tryz.zeroValue3
 t4:=Tryz.underlying4
 a4:=Tryz.isAgg4
 z4:=Tryz.sizeOf4
 v4:=Tryz.zeroValue4
 t5:=Tryz.underlying5
 a5:=Tryz.isAgg5
 z5:=Tryz.sizeOf5
 v5:=Tryz.zeroValue5
 t9:=Tryz.underlying9
 a9:=Tryz.isAgg9
 z9:=Tryz.sizeOf9
 v9:=Tryz.zeroValue9
 t22:=Tryz.underlying382
 a22:=Tryz.isAgg382
 z22:=Tryz.sizeOf382
 v22:=Tryz.zeroValue382
 t25:=Tryz.underlying387
 a25:=Tryz.isAgg387
 z25:=Tryz.sizeOf387
 v25:=Tryz.zeroValue387
 t39:=Tryz.underlying88
 a39:=Tryz.isAgg88
 z39:=Tryz.sizeOf88
 v39:=Tryz.zeroValue88
 t45:=Tryz.underlying371
 a45:=Tryz.isAgg371
 z45:=Tryz.sizeOf371
 v45:=Tryz.zeroValue371
 t46:=Tryz.underlying372
 a46:=Tryz.isAgg372
 z46:=Tryz.sizeOf372
 v46:=Tryz.zeroValue372
 t50:=Tryz.underlying169
 a50:=Tryz.isAgg169
 z50:=Tryz.sizeOf169
 v50:=Tryz.zeroValue169
 t53:=Tryz.underlying288
 a53:=Tryz.isAgg288
 z53:=Tryz.sizeOf288
 v53:=Tryz.zeroValue288
 t55:=Tryz.underlying53
 a55:=Tryz.isAgg53
 z55:=Tryz.sizeOf53
 v55:=Tryz.zeroValue53
 t66:=Tryz.underlying397
 a66:=Tryz.isAgg397
 z66:=Tryz.sizeOf397
 v66:=Tryz.zeroValue397
 t70:=Tryz.underlying401
 a70:=Tryz.isAgg401
 z70:=Tryz.sizeOf401
 v70:=Tryz.zeroValue401
 t76:=Tryz.underlying408
 a76:=Tryz.isAgg408
 z76:=Tryz.sizeOf408
 v76:=Tryz.zeroValue408
 t77:=Tryz.underlying409
 a77:=Tryz.isAgg409
 z77:=Tryz.sizeOf409
 v77:=Tryz.zeroValue409}
end Go.Proofs
namespace Go.Proofs.YtennbinbffdimaaGreat
open Go Go.Vc
namespace Board
def sb(x y:gA):Prop:=af0 x.BO.l y.BO.l=true\/(x.BO=y.BO/\x.who<y.who)
theorem Xy{x y:gA}:Gb x y<0↔sb x y:=by
 unfold Gb sb;by_cases a:af0 x.BO.l y.BO.l=true
 ·rw[if_pos a];simp[a]
 ·rw[if_neg a];by_cases b:af0 y.BO.l x.BO.l=true
  ·rw[if_pos b];constructor
   ·intro h;omega
   ·rintro(h|⟨h,_⟩)
    ·exact absurd h a
    ·rw[h,iy]at b;cases b
  ·rw[if_neg b]
   have e:x.BO=y.BO:=by
    apply agP;apply ahz;intro d;rcases iE _ _ d with h|h
    ·exact a h
    ·exact b h
   by_cases c:x.who<y.who
   ·rw[if_pos c];simp[e,c]
   ·rw[if_neg c];split<;>simp[a,c]
theorem KG(x:gA):¬sb x x:=by
 rintro(h|⟨_,h⟩)
 ·rw[iy]at h;cases h
 ·omega
theorem Dp{x y z:gA}(h:sb x y)(k:sb y z):sb x z:=by
 rcases h with h|⟨h,a⟩<;>rcases k with k|⟨k,b⟩
 ·exact .inl (kE _ _ _ h k)
 ·exact .inl (by rw[<-k];exact h)
 ·exact .inl (by rw[h];exact k)
 ·exact .inr ⟨h.trans k,ω⟩
theorem OH{x y:gA}(h:x.who≠y.who):sb x y\/sb y x:=by
 by_cases e:x.BO=y.BO
 ·rcases Int.lt_or_gt_of_ne h with a|a
  ·exact .inl (.inr ⟨e,a⟩)
  ·exact .inr (.inr ⟨e.symm,a⟩)
 ·rcases iE x.BO.l y.BO.l (λb=>e (agP b))with a|a
  ·exact .inl (.inl a)
  ·exact .inr (.inl a)
theorem OI(x y:gA):sb x y\/sb y x\/x=y:=by
 by_cases h:x.who=y.who
 ·by_cases e:x.BO=y.BO
  ·cases x;cases y;simp_all
  ·rcases iE x.BO.l y.BO.l (λb=>e (agP b))with a|a
   ·exact .inl (.inl a)
   ·exact .inr (.inl (.inl a))
 ·rcases OH h with a|a
  ·exact .inl a
  ·exact .inr (.inl a)
theorem aaS{x y:gA}:Go.Proofs.ltOf Gb x y=true↔sb x y:=by
 unfold Go.Proofs.ltOf;rw[decide_eq_true_iff,Xy]
theorem Ck{x y:gA}:Go.Proofs.ltOf Gb x y=false↔¬sb x y:=by
 rw[<-aaS];simp
theorem swo:Go.Sort.SWO (Go.Proofs.ltOf Gb) where
 irrefl x:=by rw[Ck];exact KG x
 trans x y z h k:=by rw[aaS]at*;exact Dp h k
 ntrans x y z h k:=by
  rw[Ck]at*
  intro hz
  rcases OI x y with h1|h1|h1
  ·exact h h1
  ·exact k (Dp h1 hz)
  ·subst h1;exact k hz
def QZ(slot:Int)(n:Nat):List gA:=(agw n).map λ(i:Nat)=>⟨rK slot (i:Int),(i:Int)⟩
theorem Xz(slot:Int)(n:Nat):QZ slot (n+1)=QZ slot n++[⟨rK slot (n:Int),(n:Int)⟩]:=by
 unfold QZ;rw[List.range_succ,agA];rfl
theorem vU(slot:Int)(n:Nat):(QZ slot n).length=n:=by simp[QZ]
noncomputable def leb(x y:gA):Bool:=!Go.Proofs.ltOf Gb y x
noncomputable def sorted(slot:Int)(n:Nat):List gA:=(QZ slot n).mergeSort leb
theorem Gy{x y:gA}:leb x y=true↔¬sb y x:=by
 unfold leb;rw[Bool.not_eq_true',Ck]
theorem sorted_perm(slot:Int)(n:Nat):(sorted slot n).Perm (QZ slot n):=List.mergeSort_perm _ _
theorem Fy(slot:Int)(n:Nat):(sorted slot n).Pairwise λx y=>¬sb y x:=by
 have:=List.pairwise_mergeSort (le:=leb) (λa b c h k=>by
  rw[Gy]at*;exact Ck.1 (swo.ntrans _ _ _ (Ck.2 k) (Ck.2 h))) (λa b=>by
  rw[ahd,Gy,Gy];by_cases h:sb b a
  ·right;intro d;exact KG _ (Dp h d)
  ·exact .inl h) (QZ slot n)
 exact this.imp λ{x y} h=>Gy.1 h
theorem nt{slot:Int}{n:Nat}{L:List gA}(q:L.Perm (QZ slot n))(A:L.Pairwise λx y=>¬sb y x):L=sorted slot n:=by
 refine List.Perm.eq_of_pairwise (le:=λx y=>¬sb y x) (λa b _ _ h k=>?_) A (Fy slot n) (q.trans (sorted_perm slot n).symm);rcases OI a b with c|c|c
 ·exact absurd c k
 ·exact absurd c h
 ·exact c
noncomputable def mem(n:Nat)(aN slot:Int):List Int:=
 if slot<0\/1073741824<slot then[]else((sorted slot n).take (min (max aN 0) (n:Int)).toNat).map gA.who
theorem ny(slot:Int)(n:Nat):(sorted slot n).length=n:=by rw[(sorted_perm slot n).length_eq,vU]
structure Cf where
 vals:Sl
 ep:Int
 aN:Int
 no:Int
 eu:Int
 ew:Int
 quo:Int
 pe:Int
 gY:Int
 win:Int
 bD:Int
 dec:Int
def Cf.tv(c:Cf):TV:=.agg [.slice c.vals,.i c.ep,.i c.aN,.i c.no,.i c.eu,.i c.ew,.i c.quo,.i c.pe,.i c.gY,.i c.win,.i c.bD,.i c.dec]
section
variable{R:Rq}{h:aa}
abbrev OJ(l:List gA):List TV:=l.map gA.tv
theorem gA.size(s:gA):s.tv.size=33:=by simp only[gA.tv,ags,agM]
theorem gA.plain(s:gA):s.tv.plain=true:=by rfl
theorem Dq:(ctx.ti 385).bytes=40:=κ
theorem Mp:(ctx.ti 385).size=33:=κ
theorem Mq:(ctx.ti 385).z.size=33:=κ
theorem ael:∀w,(isAgg (Tryz.sortSts_ren.t 24)).run Tryz.prog w=.ok true w:=λw=>by
 have a:∃c,Tryz.prog.underlying 385=some (.struct c):=by
  cases b:(ctx.ti 385).d with
  |none=>have:(ctx.ti 385).d.isSome=true:=κ
         rw[b]at this;cases this
  |some d=>
   have f:=bI.d b;have e:(match(ctx.ti 385).d with|some (.struct _)=>true|_=>false)=true:=κ;rw[b]at e;cases d<;>first|(exact⟨_,f⟩)|cases e
 obtain⟨c,a⟩:=a;have:=mI (P:=Tryz.prog) (w:=w) a;exact this
theorem aem:∀w,(sizeOf (Tryz.sortSts_ren.t 24)).run Tryz.prog w=.ok 33 w:=λw=>by
 have:=CX (C:=ctx) bI (t:=385) κ w;rw[Mp]at this;exact this
theorem Uw{s:Sl}{L:List gA}(o:Own 385 33 h s (OJ L))(A:L.length<1000)
 (q:∀a L',L'.Perm L->L'.Pairwise (λx y=>¬sb y x)->Own 385 33 a s (OJ L')->ag (In s) h a->R (af4 []).val a):Cl 315 [.slice s,.fn (.func 316) [] []] h R:=by
 refine OG (tv:=gA.tv) (k:=33) (P:=Tryz.prog) Tryz.sortSts (T:=385) ael aem gA.size gA.plain swo (g:=316) (cb:=#[]) (bI.Ju κ) (λa x y=>?_) o ω (λa L' b c d f=>?_)
 ·exact sy (x:=x) (y:=y) λj e=>⟨rfl,e⟩
 ·refine q a L' b (c.imp λ{x y} i=>?_) d f
  rwa [Ck]at i
theorem Ux{s:Sl}{L:List gA}{i:Int}(e:ak 33 h s (OJ L))(q:0<=i)(B:i<L.length){K:Bs 32->Int->Prop}(A:∀x,L[i.toNat]? =some x->K x.BO x.who):
 0<=i/\i<(s.len:Int)/\Nn s.a λ(l:Vc.Loc)=>∃(b:Bs 32),∃(n:Int),(ay h l.b (l.o+i.toNat*33) 32 b/\ah h l.b (l.o+i.toNat*33+32) (.i n))/\K b n:=by
 have c:=e.len;rw[afM]at c;refine e.read q ω λl t g a d=>?_;rw[ago]at a;obtain⟨x,f,rfl⟩:=agz.1 a;exact⟨x.BO,x.who,d,A x f⟩
theorem OK{s:Sl}{ts:List TV}{i j:Nat}(e:ak 33 h s ts)(q:i<=j)(A:j<=s.len)(B:s.len<=s.cap):ak 33 h (aA s i j 33) ((ts.drop i).take (j-i)):=by
 have g:=e.len;refine⟨by simp only[aA,af7,afZ];omega,λc=>?_,λl a k t d=>?_⟩
 ·unfold aA at c;simp only at c
  have:ts=[]\/i=j:=by
   split at c
   ·right;omega
   ·left;cases b:s.a with
    |none=>exact e.nil b
    |some l=>rw[b]at c;simp at c
  rcases this with rfl|rfl
  ·simp
  ·simp
 ·unfold aA at a;simp only at a;rw[ahm]at d;split at d
  ·rename_i m;rw[List.getElem?_drop]at d;split at a
   ·omega
   ·cases b:s.a with
    |none=>rw[b]at a;simp at a
    |some f=>
     rw[b]at a;simp only[ahb,Option.some.injEq]at a;subst a;have:=e.get f b (i+k) t d;rw[Nat.add_mul,<-Nat.add_assoc]at this;exact this
  ·cases d
theorem vV{c:Cf}{slot:Int}(hv:c.vals.len<900)(O:∀E F,Own 3 1 E F (ints (mem c.vals.len c.aN slot))->Ext h E->(∀l,F.a=some l->h.size<=l.b)->R (agl F).val E):
 Cl 279 [c.tv,.i slot] h R:=by
 apply Bl c.vals c.ep c.aN c.no c.eu c.ew c.quo c.pe c.gY c.win c.bD c.dec slot;delta fK zn nR pW jT dL fJ aJ bN aT;refine af λm v1 P s1=>?_;intro J hJ
 have Q:slot<0\/1073741824<slot->R (ahy (agl afV)) m:=λw=>by
  refine O m afV ?_ P (λl a=>by cases a);unfold mem;rw[if_pos w];exact agn _ _ _
 refine ID (λw=>Q (.inl w)) λw=>agW.2 ⟨λS=>Q (.inr S),λS=>?_⟩
 have ab:mem c.vals.len c.aN slot=((sorted slot c.vals.len).take (min (max c.aN 0) (c.vals.len:Int)).toNat).map gA.who:=by
  unfold mem;rw[if_neg ω]
 refine hJ _ _ ?_;have ac:∀d,ag (λi=>h.size<i) m d->Ext h d:=λd o=>afN P o λi G=>ω;have var:∀d,ag (λi=>h.size<i) m d->Var 24 d h.size c.tv:=λd o=>v1.only o (ahg _);refine⟨c.vals,v1.ah rfl,?_⟩
 refine⟨λσ d=>0<=σ.2/\σ.2<=c.vals.len/\Own 385 33 d σ.1 (OJ (QZ slot σ.2.toNat))/\(∀l,σ.1.a=some l->h.size<l.b)/\ag (λi=>h.size<i) m d,λσ _=>((c.vals.len:Int)-σ.2).toNat,
  ⟨afT 0,by dsimp only;omega,agn _ _ _,(λl a=>by cases a),agp _ _⟩,?_⟩
 rintro⟨s,i⟩ h2 ⟨i0,i1,q,y,f2⟩;dsimp only at i0 i1 q y⊢;have z2:=f2.size;refine ID (λG=>?_) λG=>?_
 ·refine Xx λf H=>⟨_,rfl,?_⟩;have r:=q.ext H;have I:=r.len;rw[afM,vU]at I;refine cz (C:=ctx) (T:=385) (sz:=33) (x:=(gA.mk (rK slot i) i).tv) Mp Mq (by rw[Dq];decide) (by rw[Dq];omega) r (gA.size _) rfl λs4 g p f4 b4=>?_;rw[wrap_i64 (n:=i+1) ω ω];have ad:(i+1).toNat=i.toNat+1:=ω;have z3:=H.size;refine⟨⟨ω,ω,?_,λl a=>?_,?_⟩,Ω⟩
  ·rw[ad,Xz];have ae:((i.toNat:Nat):Int)=i:=ω;rw[ae];show Own 385 33 g s4 ((QZ slot i.toNat++[gA.mk (rK slot i) i]).map gA.tv);rw[agA];exact p
  ·rcases b4 l a with⟨l',u,L⟩|u
   ·rw[<-L];exact y l' u
   ·omega
  ·refine f2.trans ((aga H).trans (f4.mono λj⟨l,a,e⟩=>?_));rw[<-e];exact y l a
 ·have al:i.toNat=c.vals.len:=ω;rw[al]at q;have U:=q.len;rw[afM,vU]at U;refine Uw q (by rw[vU];omega) λf L' hp hs r f3=>⟨rfl,?_⟩;obtain rfl:=nt hp hs;have M:ag (λi=>h.size<i) m f:=f2.trans (f3.mono λj⟨l,a,e⟩=>by rw[<-e];exact y l a);refine⟨c.aN,(var f M).ah rfl,?_⟩;have hm:mn (mx c.aN 0) (s.len:Int)=min (max c.aN 0) (c.vals.len:Int):=by rw[aaG,J7,U]
  dsimp only;rw[hm];have am:=r.cap;have ao:0<=min (max c.aN 0) (c.vals.len:Int):=ω;have a2:min (max c.aN 0) (c.vals.len:Int)<=(c.vals.len:Int):=ω;refine⟨ao,ω,?_⟩;generalize a3:(min (max c.aN 0) (c.vals.len:Int)).toNat=k at*;have a4:k<=c.vals.len:=ω
  have e3:ak 33 f (aA s 0 k 33) (OJ ((sorted slot c.vals.len).take k)):=by
   have:=OK (i:=0) (j:=k) r.elems (agd _) ω am;rw[ag9,agY,<-aha]at this;exact this
  have V:(aA s 0 k 33).len=k:=by simp[aA]
  have ap:((sorted slot c.vals.len).take k).length=k:=by rw[af7,ny];omega
  rw[V]
  refine⟨λσ d=>0<=σ.2/\σ.2<=k/\Own 3 1 d σ.1 (ints (((sorted slot c.vals.len).take σ.2.toNat).map gA.who))/\(∀l,σ.1.a=some l->f.size<=l.b)/\Ext f d,λσ _=>((k:Int)-σ.2).toNat,
   ⟨afT 0,by dsimp only;omega,agn _ _ _,(λl a=>by cases a),af9 _⟩,?_⟩
  rintro⟨t,j⟩ g ⟨W,j1,p,b4,z⟩;dsimp only at W j1 p b4⊢;have z3:=M.size;have z4:=z.size;refine ID (λhj=>?_) λhj=>?_
  ·have X:=Ux (e3.ext z) W (by rw[ap];omega) (K:=λb n=>Vc.Bind (iu g (TV.agg [agK 32 (af6 32),TV.i 0]) 385) λY=>
    gi Y g.size 0 33/\Vc.Bind (agV Y g.size 0 (TV.agg [agK 32 b,TV.i n])) λA=>∃(n:Int),ah A g.size 32 (Value.i n)/\
     ∃(new:List Value),cv (Array.push A (row (afY [TV.i n]) 3)) (agk (some (Vc.Loc.mk (Array.size A) 0)) 1 1) 1 new/\(∀(v:Value),v∈new->bQ v=true)/\
      aq ctx 3 t 1 new (Array.push A (row (afY [TV.i n]) 3)) λB h=>(0<=(B,afK ahA (j+1)).snd/\(B,afK ahA (j+1)).snd<=k/\Own 3 1 h B (ints (((sorted slot c.vals.len).take (afK ahA (j+1)).toNat).map gA.who))/\(∀l,B.a=some l->f.size<=l.b)/\Ext f h)/\((k:Int)-afK ahA (j+1)).toNat<((k:Int)-j).toNat) λx D=>?_
   ·rw[V]at X;exact X
   ·refine af λh5 v5 x5 s5=>aH v5 (t:=x.tv) (by simp only[gA.tv,ags,agM]) λh6 v6 o6 s6=>⟨x.who,v6.ah (by
     have:x.tv.cells=(agK 32 x.BO).cells++[Value.i x.who]:=by simp only[gA.tv,TV.cells,afY,ahB]
     rw[this,agD (by rw[ahl];exact afR _),ahl];rfl),?_⟩
    have N:Ext g h6:=afN x5 o6 λi G=>ω;have Z:=p.ext N;have I:=Z.len;have ar:((sorted slot c.vals.len).take j.toNat).length=j.toNat:=by rw[af7,ny];omega
    rw[afM,afM,ar]at I;refine cz (C:=ctx) (T:=3) (sz:=1) (x:=.i x.who) KA EC (by rw[qO];decide) (by rw[qO];omega) Z rfl rfl λs7 h7 o7 f7 b7=>?_;rw[wrap_i64 (n:=j+1) ω ω];have aw:(j+1).toNat=j.toNat+1:=ω
    have aE:(sorted slot c.vals.len)[j.toNat]? =some x:=by
     rw[ahm]at D;split at D
     ·exact D
     ·cases D
    refine⟨⟨by dsimp only;omega,by dsimp only;omega,?_,λl a=>?_,?_⟩,ω⟩
    ·rw[aw,bq aE];simp only[ints,agA,agB,ahk]at o7⊢;exact o7
    ·have z6:=N.size;rcases b7 l a with⟨l',u,L⟩|u
     ·rw[<-L];exact b4 l' u
     ·omega
    ·refine afN (z.trans N) f7 λi⟨l,a,e⟩=>?_;rw[<-e];exact b4 l a
  ·have a0:j.toNat=k:=ω;rw[a0]at p;have a1:Ext h g:=(ac f M).trans z;have:=O g t (by rw[ab];exact p) a1 (λl a=>by have:=b4 l a;omega);exact this
end
end Board
namespace Board
structure Vd where
 cW:Int
 key:LU
instance:Inhabited Vd:=⟨⟨0,[]⟩⟩
def Vd.tv(v:Vd):TV:=.agg [.i v.cW,.str v.key]
theorem Vd.size(v:Vd):v.tv.size=2:=by simp only[Vd.tv,ags,agM]
abbrev jI(l:List Vd):List TV:=l.map Vd.tv
def idx:List Int->Int->Int->Int
 |[],_,_=>-1
 |x::a,v,i=>if v=x then i else idx a v (i+1)
def sA:List Int->Int
 |[]=>-1
 |x::_=>x
def pk:List Int->List Bool->List Int
 |x::a,b::bs=>if b=true then x::pk a bs else pk a bs
 |_,_=>[]
theorem Mr:∀(q:List Int)(bs:List Bool)(x:Int)(b:Bool),q.length=bs.length->pk (q++[x]) (bs++[b])=pk q bs++(if b=true then[x]else[])
 |[],[],x,b,_=>by cases b<;>simp[pk]
 |[],_::_,_,_,h=>by cases h
 |_::_,[],_,_,h=>by cases h
 |y::a,c::d,x,b,h=>by
  have e:=Mr a d x b (by simpa using h);simp only[ahC,pk];rw[e];cases c<;>simp
section
variable{R:Rq}{h:aa}{c:Cf}
theorem Cm{s:Sl}{l:List Int}{v:Int}(e:ak 1 h s (ints l))(A:l.length<100000)(q:R (TV.i (idx l v 0)).val h):Cl 280 [.slice s,.i v] h R:=by
 apply nW;delta jN lR iP bN;have el:=jA e;refine⟨λσ c=>0<=σ.2/\σ.2<=s.len/\c=h/\idx l v 0=idx (l.drop σ.2.toNat) v σ.2,λσ _=>((s.len:Int)-σ.2).toNat,⟨afT 0,Ω,rfl,rfl⟩,?_⟩;rintro⟨f,i⟩ c ⟨d,g,rfl,a⟩;dsimp only at d g a⊢;refine ID (λj=>?_) λj=>?_
 ·refine gX e d ω λx k=>?_;rw[zF k,idx]at a;refine ID (λb=>?_) λb=>?_
  ·rw[if_pos b]at a;rw[a]at q;exact q
  ·rw[if_neg b]at a;rw[wrap_i64 (n:=i+1) ω ω];have m:(i+1).toNat=i.toNat+1:=ω;refine⟨⟨Ω,Ω,rfl,?_⟩,Ω⟩
   try dsimp only
   rw[m];exact a
 ·have o:l.drop i.toNat=[]:=agO ω;rw[o,idx]at a;rw[a]at q;exact q
theorem qS(n:Nat)(aN slot:Int):(mem n aN slot).length<=n:=by
 unfold mem;split
 ·exact agd _
 ·rw[afM,af7,ny];omega
theorem Q0{slot who:Int}(q:c.vals.len<900)(A:∀a,Ext h a->R (TV.i (idx (mem c.vals.len c.aN slot) who 0)).val a):Cl 235 [c.tv,.i slot,.i who] h R:=by
 apply Dr c.vals c.ep c.aN c.no c.eu c.ew c.quo c.pe c.gY c.win c.bD c.dec slot who;delta dw aT;refine af λg v1 b j=>?_;refine⟨c.vals,c.ep,c.aN,c.no,c.eu,c.ew,c.quo,c.pe,c.gY,c.win,c.bD,c.dec,v1.at,?_⟩;refine vV (c:=c) q λd k e f _=>⟨_,rfl,?_⟩;have:=qS c.vals.len c.aN slot;exact Cm e.elems ω ⟨_,rfl,A d (b.trans f)⟩
theorem JD{slot:Int}(q:c.vals.len<900)(A:∀b,Ext h b->R (TV.i (sA (mem c.vals.len c.aN slot))).val b):Cl 234 [c.tv,.i slot] h R:=by
 apply zJ c.vals c.ep c.aN c.no c.eu c.ew c.quo c.pe c.gY c.win c.bD c.dec slot;delta gT Be lR dw bN aT;refine af λm v1 f n=>?_;refine⟨c.vals,c.ep,c.aN,c.no,c.eu,c.ew,c.quo,c.pe,c.gY,c.win,c.bD,c.dec,v1.at,?_⟩;refine vV (c:=c) q λg o d j _=>⟨_,rfl,?_⟩;have e:=A g (f.trans j);have el:=jA d.elems;generalize mem c.vals.len c.aN slot=l at*;refine ID (λk=>gX d.elems (afT 0) ω λx a=>?_) λk=>?_
 ·cases l with
  |nil=>cases a
  |cons y p=>
   injection a with a;subst a;exact e
 ·have:l=[]:=agT ω;subst this;exact e
theorem EF{slot:Int}{bits:Sl}{row:List Bool}(G:c.vals.len<900)(e:ak 1 h bits (aP row))
 (A:∀a,Ext h a->(mem c.vals.len c.aN slot=[]\/row.length≠(mem c.vals.len c.aN slot).length)->R (af4 [.slice afV,.bool false]).val a)
 (H:∀a y,Own 3 1 a y (ints (pk (mem c.vals.len c.aN slot) row))->Ext h a->mem c.vals.len c.aN slot≠[]->row.length=(mem c.vals.len c.aN slot).length->R (af4 [.slice y,.bool true]).val a):
 Cl 233 [c.tv,.i slot,.slice bits] h R:=by
 apply EE c.vals c.ep c.aN c.no c.eu c.ew c.quo c.pe c.gY c.win c.bD c.dec slot bits;delta jT dL fJ sN bN aT;refine af λh1 v1 I s1=>?_;refine⟨c.vals,c.ep,c.aN,c.no,c.eu,c.ew,c.quo,c.pe,c.gY,c.win,c.bD,c.dec,v1.at,?_⟩;refine vV (c:=c) G λm o z x2 _=>⟨_,rfl,?_⟩;have q:=I.trans x2;have el:=jA z.elems;have ml:=qS c.vals.len c.aN slot;generalize mem c.vals.len c.aN slot=l at*;have K:row.length=bits.len:=by have:=e.len;rwa [afM]at this
 intro J L;refine ID (λM=>A m q (.inl (agT ω))) λM=>agi (λs=>?_) λs=>?_
 ·refine A m q (.inr λd=>?_);rw[K,el]at d;simp[d]at s
 ·have ab:bits.len=o.len:=by
   have:((bits.len:Nat):Int)=((o.len:Nat):Int):=by simpa using s
   omega
  refine L _ _ ?_
  refine⟨λσ B=>0<=σ.2/\σ.2<=o.len/\Own 3 1 B σ.1 (ints (pk (l.take σ.2.toNat) (row.take σ.2.toNat)))/\(∀p,σ.1.a=some p->m.size<=p.b)/\Ext m B/\σ.1.len<=σ.2.toNat,λσ _=>((o.len:Int)-σ.2).toNat,
   ⟨afT 0,Ω,agn _ _ _,(λp k=>by cases k),af9 _,agd _⟩,?_⟩
  rintro⟨t,i⟩ N ⟨u,O,f,r,g,P⟩;dsimp only at u O f r P⊢;refine ID (λQ=>?_) λQ=>?_
  ·refine gX (z.elems.ext g) u ω λx d=>jH ((e.ext q).ext g) u ω λb S=>?_;have D:(i+1).toNat=i.toNat+1:=ω;have v:=Mr (l.take i.toNat) (row.take i.toNat) x b (by rw[af7,af7];omega);rw[<-bq d,<-bq S]at v;rw[wrap_i64 (n:=i+1) ω ω];have z3:=g.size;cases b with
   |false=>
    refine afU ⟨⟨Ω,Ω,?_,r,g,Ω⟩,Ω⟩
    try dsimp only
    rw[D,v];simpa using f
   |true=>
    have U:=f.len;rw[afM]at U;refine af2 (cz (C:=ctx) (T:=3) (sz:=1) (x:=.i x) KA EC (by rw[qO];decide) (by rw[qO];omega) f rfl rfl λs4 h4 w f4 b4=>?_);have V:=w.len;rw[afQ,afM,agj]at V;refine⟨⟨Ω,Ω,?_,λp k=>?_,?_,Ω⟩,Ω⟩
    ·try dsimp only
     rw[D,v];simp only[ints,if_true,agA,agB,ahk]at w⊢;exact w
    ·rcases b4 p k with⟨W,E,X⟩|E
     ·rw[<-X];exact r W E
     ·omega
    ·refine afN g f4 λj⟨p,k,Y⟩=>?_;rw[<-Y];exact r p k
  ·have Z:i.toNat=l.length:=ω;have F:row.length=l.length:=ω;rw[Z,agJ,<-F,agJ]at f;exact H N t f (q.trans g) (λd=>by subst d;simp at el;omega) F
theorem Ds{s:Sl}{l:List Vd}{i:Int}(e:ak 2 h s (jI l))(q:0<=i)(B:i<l.length){K:Int->LU->Prop}(A:∀x,l[i.toNat]? =some x->K x.cW x.key):
 0<=i/\i<(s.len:Int)/\Nn s.a λ(p:Vc.Loc)=>∃(n:Int),∃(k:LU),(ah h p.b (p.o+i.toNat*2) (.i n)/\ah h p.b (p.o+i.toNat*2+1) (.string (agC k.toArray)))/\K n k:=by
 have b:=e.len;rw[afM]at b;refine e.read q ω λp t f a c=>?_;rw[ago]at a;obtain⟨x,d,rfl⟩:=agz.1 a;exact⟨x.cW,x.key,c,A x d⟩
theorem HZ{L:List Vd}(e:ak 2 h c.vals (jI L))(q:∀a,Ext h a->R (af1 true).val a)(A:∀a,Ext h a->c.vals.len<=100->R (af1 false).val a):Cl 18 [c.tv] h R:=by
 apply uw c.vals c.ep c.aN c.no c.eu c.ew c.quo c.pe c.gY c.win c.bD c.dec;delta iz Fq HB i_ c4 bN mN;refine af λm v1 d y=>⟨c.vals,v1.ah rfl,ID (λo=>q m d) λo=>⟨c.vals,v1.ah rfl,?_⟩⟩;have el:L.length=c.vals.len:=by have:=e.len;rwa [afM]at this
 refine⟨λσ p=>0<=σ.2/\σ.2<=c.vals.len/\Ext h p,λσ _=>((c.vals.len:Int)-σ.2).toNat,⟨afT 0,Ω,d⟩,?_⟩;rintro⟨f,i⟩ r ⟨g,s,b⟩;dsimp only at g s⊢;refine ID (λj=>?_) λj=>A r b ω;refine Ds (e.ext b) g ω λx z=>af λB u v C=>aH u (t:=x.tv) rfl λk v4 w D=>?_;have l:Ext h k:=b.trans (afN v w λi j=>ω);refine⟨x.key,v4.ah rfl,ID (λ_=>q k l) λ_=>?_⟩;rw[wrap_i64 (n:=i+1) ω ω];exact⟨⟨Ω,Ω,l⟩,Ω⟩
def dX(c:Cf):List Int:=[c.ep,32,c.aN,mn 16 (c.vals.len:Int),c.no,256,c.eu,64,c.ew,64,c.quo,64,c.pe,16,c.gY,256,c.win,64,c.bD,1048576,c.dec,1048576,(c.vals.len:Int),64]
theorem Dt(q:∀a s,ak 1 a s (ints (dX c))->Ext h a->R (agl s).val a):Cl 162 [c.tv] h R:=by
 apply rL c.vals c.ep c.aN c.no c.eu c.ew c.quo c.pe c.gY c.win c.bD c.dec;delta mC jg iz mO dI aJ bN aT bh eE;refine af λb v1 d f=>?_;refine⟨c.ep,v1.ah rfl,c.aN,v1.ah rfl,c.vals,v1.ah rfl,c.no,v1.ah rfl,c.eu,v1.ah rfl,c.ew,v1.ah rfl,c.quo,v1.ah rfl,c.pe,v1.ah rfl,c.gY,v1.ah rfl,c.win,v1.ah rfl,c.bD,v1.ah rfl,c.dec,v1.ah rfl,c.vals,v1.ah rfl,?_⟩
 have o:=agx (T:=3) (sz:=1) b (ints (dX c)) (λt e=>by
  obtain⟨x,_,rfl⟩:=agy.1 e;rfl)
 exact q _ _ o.elems (d.trans (af5 _ _))
structure Du(c:Cf):Prop where
 aen:1<=c.aN
 aeo:c.aN<=c.vals.len
 aep:c.aN<=16
 len:c.vals.len<=64
end
end Board
namespace Gate
open Board (Vd Cf vM)
def rD(n most:Int):Bool:=decide (1<=n)&&decide (n<=most)
def OM(v:Vd):Bool:=decide (0<=v.cW)&&decide (v.cW<4611686018427387904)&&rD v.key.length 32
def nX:List Vd->Int->Option Int
 |[],s=>some s
 |v::L,s=>if OM v=true/\s+v.cW<4611686018427387904 then nX L (s+v.cW)else none
def sB(c:Cf)(L:List Vd):Bool:=
 (nX L 0).isSome&&rD L.length 64&&(rD c.ep 32&&rD c.aN (min 16 L.length)&&rD c.no 256&&rD c.eu 64&&rD c.ew 64&&rD c.quo 64&&rD c.pe 16&&rD c.gY 256&&rD c.win 64&&rD c.bD 1048576&&rD c.dec 1048576)
theorem Z1{n m:Int}:rD n m=true↔1<=n/\n<=m:=by simp[rD]
structure Can(c:Cf)(L:List Vd):Prop where
 tot:∃s,nX L 0=some s
 len:1<=L.length/\L.length<=64
 ep:1<=c.ep/\c.ep<=32
 aN:1<=c.aN/\c.aN<=16/\c.aN<=L.length
 no:1<=c.no/\c.no<=256
 eu:1<=c.eu/\c.eu<=64
 ew:1<=c.ew/\c.ew<=64
 quo:1<=c.quo/\c.quo<=64
 pe:1<=c.pe/\c.pe<=16
 gY:1<=c.gY/\c.gY<=256
 win:1<=c.win/\c.win<=64
 bD:1<=c.bD/\c.bD<=1048576
 dec:1<=c.dec/\c.dec<=1048576
theorem lW{c:Cf}{L:List Vd}:sB c L=true↔Can c L:=by
 unfold sB;simp only[agH,Z1,Option.isSome_iff_exists];constructor
 ·rintro⟨⟨a,m⟩,⟨⟨⟨⟨⟨⟨⟨⟨⟨⟨b,n⟩,d⟩,e⟩,f⟩,g⟩,h⟩,i⟩,j⟩,k⟩,l⟩⟩;exact⟨a,ω,b,ω,d,e,f,g,h,i,j,k,l⟩
 ·rintro⟨a,m,b,n,d,e,f,g,h,i,j,k,l⟩;exact⟨⟨a,ω,ω⟩,⟨⟨⟨⟨⟨⟨⟨⟨⟨⟨b,ω,ω⟩,d⟩,e⟩,f⟩,g⟩,h⟩,i⟩,j⟩,k⟩,l⟩⟩
theorem Mt:∀{L:List Vd}{s t:Int},0<=s->s<4611686018427387904->nX L s=some t->(∀v∈L,OM v=true)/\t=s+(L.map Vd.cW).sum/\t<4611686018427387904
 |[],s,t,f,q,h=>by cases h;exact⟨λv A=>(by cases A),by simp,q⟩
 |v::L,s,t,f,q,h=>by
  unfold nX at h;split at h
  ·rename_i d;have A:0<=v.cW:=by have:=d.1;simp only[OM,agH,decide_eq_true_eq]at this;exact this.1.1
   obtain⟨a,b,c⟩:=Mt ω d.2 h;refine⟨λx e=>?_,by rw[b];simp;omega,c⟩;rcases ahv.1 e with rfl|e
   ·exact d.1
   ·exact a x e
  ·cases h
def vX:LU:=(agC #[(116:UInt8),(111:UInt8),(108:UInt8),(108:UInt8),(101:UInt8),(114:UInt8)]).data.toList
def Uy(n:Int):LU:=vM (afK .u64 n) 4
def oM(v:Vd):LU:=(vM (afK .u64 v.cW) 8++vM (afK .u64 (v.key.length:Int)) 1)++v.key
def jO(c:Cf)(n:Nat):List Int:=[c.ep,c.aN,c.no,c.eu,c.ew,c.quo,c.pe,c.gY,c.win,c.bD,c.dec,(n:Int)]
def oO(c:Cf)(L:List Vd):LU:=(jO c L.length).flatMap Uy++L.flatMap oM
def uy(c:Cf)(L:List Vd):Bs 32:=Board.k_ (vX++oO c L)
end Gate
namespace Board
structure Vt where
 who:Int
 slot:Int
 target:Bs 32
def Vt.tv(v:Vt):TV:=.agg [.i v.who,.i v.slot,.bytes 32 v.target]
abbrev EG(l:List Vt):List TV:=l.map Vt.tv
end Board
namespace Gate
open Pool (xE)
open Board (Vt)
structure Tb where
 slots:Int
 bR:List (Option Vt)
 out:List Bool
 first:List ((Int×Int)×Bs 32)
structure xU(t:Tb)(n:Nat):Prop where
 slots:1<=t.slots/\t.slots<=32
 nn:1<=n/\n<=64
 Bn:t.bR.length=n
 tW:t.out.length=n
 Q1:∀(i:Nat)(v:Vt),t.bR[i]? =some (some v)->v.who=i/\0<=v.slot/\v.slot<=1073741824
 one:(mB t.first).Nodup
 fst:∀e∈t.first,0<=e.1.1/\e.1.1<n/\0<=e.1.2/\e.1.2<=1073741824
def gZ(n:Nat)(q:Int):Tb:=⟨q,af8 n none,af8 n false,[]⟩
theorem ON{n:Nat}{q:Int}(h:1<=q/\q<=32)(A:1<=n/\n<=64):xU (gZ n q) n:=
 ⟨h,A,by simp[gZ],by simp[gZ],λi v a=>by
   have:=ahi a;simp[gZ,List.mem_replicate]at this,List.nodup_nil,λe b=>by cases b⟩
def dU(t:Tb)(who:Int):Option Vt:=if 0<=who then(t.bR.getD who.toNat none)else none
def Dv(t:Tb)(who:Int):Bool:=t.out.getD who.toNat false
def aL(t:Tb)(slot:Int):Int:=agr slot t.slots
def cH(t:Tb)(v:Vt):Int×Tb:=
 if¬(0<=v.who/\v.who<t.bR.length/\0<=v.slot/\v.slot<=1073741824)then(5,t)
 else if Dv t v.who=true then(4,t)
 else match kF (v.who,aL t v.slot) t.first with
  |some r=>if r=v.target then(1,t)else(2,{t with out:=t.out.set v.who.toNat true})
  |none=>match dU t v.who with
   |some l=>if aL t v.slot<aL t l.slot then(3,{t with first:=t.first++[((v.who,aL t v.slot),v.target)]})
    else(0,{t with bR:=t.bR.set v.who.toNat (some v),first:=t.first++[((v.who,aL t v.slot),v.target)]})
   |none=>(0,{t with bR:=t.bR.set v.who.toNat (some v),first:=t.first++[((v.who,aL t v.slot),v.target)]})
def dB(t:Tb)(slot:Int):Tb:=if slot<0 then t else{t with first:=t.first.filter λe=>decide (aL t slot<=e.1.2)}
theorem qT{t:Tb}{n:Nat}(o:xU t n){s:Int}(q:0<=s)(A:s<=1073741824):0<=aL t s/\aL t s<=1073741824:=by
 unfold aL;have:=o.slots;rw[agX q];exact⟨Int.ediv_nonneg q ω,Int.le_trans (Int.ediv_le_self _ q) A⟩
theorem xU.forget{t:Tb}{n:Nat}(o:xU t n)(slot:Int):xU (dB t slot) n:=by
 unfold dB;split
 ·exact o
 ·exact⟨o.slots,o.nn,o.Bn,o.tW,o.Q1,o.one.sublist (List.filter_sublist.map _),λe a=>o.fst e (List.mem_filter.1 a).1⟩
theorem vY{t:Tb}{n:Nat}(o:xU t n){k:Int×Int}{r:Bs 32}(q:kF k t.first=none):(mB (t.first++[(k,r)])).Nodup:=by
 have:=AI.1 q;unfold mB at this⊢;rw[agA,List.nodup_append];refine⟨o.one,by simp,λa c b d=>?_⟩;have:b=k:=by simpa using d
 rw[this];rintro rfl;exact(AI.1 q) c
theorem xU.take{t:Tb}{n:Nat}(o:xU t n)(v:Vt):xU (cH t v).2 n:=by
 unfold cH;split
 ·exact o
 ·rename_i h;have h:=Decidable.not_not.1 h;have f:=o.Bn;have d:=qT o h.2.2.1 h.2.2.2
  have more:∀e∈t.first++[((v.who,aL t v.slot),v.target)],0<=e.1.1/\e.1.1<n/\0<=e.1.2/\e.1.2<=1073741824:=λe b=>by
   rcases aht.1 b with b|b
   ·exact o.fst e b
   ·rw[ahh.1 b];exact⟨h.1,by simp only;omega,d⟩
  have Q1:∀(i:Nat)(x:Vt),(t.bR.set v.who.toNat (some v))[i]? =some (some x)->x.who=i/\0<=x.slot/\x.slot<=1073741824:=λi x a=>by
   rw[ahr]at a;split at a
   ·rename_i g;split at a
    ·cases a;exact⟨ω,h.2.2⟩
    ·cases a
   ·exact o.Q1 i x a
  split
  ·exact o
  ·split
   ·split
    ·exact o
    ·exact⟨o.slots,o.nn,o.Bn,by simp[o.tW],o.Q1,o.one,o.fst⟩
   ·rename_i c;split
    ·split
     ·exact⟨o.slots,o.nn,o.Bn,o.tW,o.Q1,vY o c,more⟩
     ·exact⟨o.slots,o.nn,by simp[o.Bn],o.tW,Q1,vY o c,more⟩
    ·exact⟨o.slots,o.nn,by simp[o.Bn],o.tW,Q1,vY o c,more⟩
def kJ(st:List Int)(i:Nat):Int:=st.getD i 0
def aK(t:Tb)(st:List Int)(i:Nat)(r:Bs 32):Int:=
 if t.out.getD i false=true then 0 else match t.bR.getD i none with
  |some v=>if v.target=r then kJ st i else 0
  |none=>0
def nY(t:Tb)(st:List Int)(r:Bs 32):Int:=((agw st.length).map λi=>aK t st i r).sum
structure xV(st:List Int):Prop where
 pos:∀x∈st,0<=x
 sum:st.sum<4611686018427387904
theorem Cn{st:List Int}(o:xV st)(i:Nat):0<=kJ st i:=by
 unfold kJ;rw[afW];cases h:st[i]? with
 |none=>simp
 |some x=>exact o.pos x (ahi h)
theorem kK{t:Tb}{st:List Int}(o:xV st)(i:Nat)(r:Bs 32):0<=aK t st i r:=by
 have:=Cn o i;unfold aK;split
 ·omega
 ·split
  ·split<;>omega
  ·omega
theorem abz{l:List Nat}{f g:Nat->Int}(h:∀x∈l,f x<=g x):(l.map f).sum<=(l.map g).sum:=by
 induction l with
 |nil=>simp
 |cons x l a=>
  simp only[agB,ag0];have:=h x (List.mem_cons_self ..);have:=a λy b=>h y (List.mem_cons_of_mem _ b);omega
theorem Z2{α:Type}{l:List α}{f:α->Int}(h:∀x∈l,0<=f x):0<=(l.map f).sum:=by
 induction l with
 |nil=>simp
 |cons x l a=>
  simp only[agB,ag0];have:=h x (List.mem_cons_self ..);have:=a λy b=>h y (List.mem_cons_of_mem _ b);omega
theorem OO{t:Tb}{st:List Int}(o:xV st)(r:Bs 32):0<=nY t st r:=Z2 λi _=>kK o i r
theorem XA(st:List Int):((agw st.length).map (kJ st)).sum=st.sum:=by
 have:(agw st.length).map (kJ st)=st:=by
  apply ag7
  ·simp
  ·intro i b a;simp[kJ,agh a]
 rw[this]
theorem XB{α:Type}(l:List α)(m:List Nat)(f:α->Nat->Int):(l.map λx=>(m.map (f x)).sum).sum=(m.map λi=>(l.map λx=>f x i).sum).sum:=by
 induction l with
 |nil=>simp[nN]
 |cons x l a=>
  simp only[agB,ag0,a];rw[<-sk]
theorem H6{t:Tb}{st:List Int}(o:xV st)(i:Nat):∀{q:List (Bs 32)},q.Nodup->(q.map λr=>aK t st i r).sum<=kJ st i
 |[],_=>Cn o i
 |r::q,f=>by
  obtain⟨A,B⟩:=List.nodup_cons.1 f;have m:=H6 (t:=t) o i B;simp only[agB,ag0];by_cases a:aK t st i r=0
  ·rw[a];omega
  ·have c:(t.bR.getD i none).map (·.target)=some r/\aK t st i r=kJ st i:=by
    unfold aK at a⊢;split at a
    ·exact absurd rfl a
    ·rename_i g;rw[if_neg g];cases b:t.bR.getD i none with
     |none=>rw[b]at a;exact absurd rfl a
     |some v=>
      rw[b]at a;simp only at a⊢;by_cases d:v.target=r
      ·rw[if_pos d];exact⟨by simp[d],rfl⟩
      ·rw[if_neg d]at a;exact absurd rfl a
   have h:∀x∈q,aK t st i x=0:=λx j=>by
    have k:x≠r:=λe=>A (by rw[<-e];exact j);cases b:t.bR.getD i none with
    |none=>rw[b]at c;cases c.1
    |some v=>
     rw[b]at c;have d:v.target=r:=by simpa using c.1
     have l:¬v.target=x:=λe=>k (by rw[<-e,d]);unfold aK;rw[b];simp only[l,if_false,ite_self]
   rw[nN h,c.2];omega
theorem Te{t:Tb}{st:List Int}(o:xV st){q:List (Bs 32)}(A:q.Nodup):(q.map λr=>nY t st r).sum<=st.sum:=by
 unfold nY;rw[XB,<-XA st];exact abz λi _=>H6 o i A
end Gate
namespace Gate
open Board (Vd Cf)
open Pool (It)
structure St where
 N:List Nd
 tb:Tb
 kids:List It
 wait:List It
 sc:List (Int×Int)
 gone:Int
 now:Int
 left:Int
def bJ(V:List Vd):List Int:=V.map Vd.cW
def cZ(st:List Int)(t:Tb)(N:List Nd)(i:Nat):Int:=((N[i]?).map λx=>nY t st x.root).getD 0
theorem XC(n:Nat)(q:Int)(st:List Int)(r:Bs 32):nY (gZ n q) st r=0:=by
 unfold nY
 have:∀i,aK (gZ n q) st i r=0:=λi=>by
  unfold aK gZ;simp only[afW,List.getElem?_replicate];by_cases a:i<n
  ·simp[a]
  ·simp[a]
 simp only[this];generalize agw st.length=l
 induction l with
 |nil=>rfl
 |cons x c b=>rw[agB,ag0,b];rfl
theorem Uz(n:Nat)(q:Int)(st:List Int)(N:List Nd):cZ st (gZ n q) N=λ_=>0:=by
 funext i;unfold cZ;cases N[i]? with
 |none=>rfl
 |some x=>exact XC n q st x.root
def kT(c:Cf)(V:List Vd):St:=⟨[⟨uy c V,0,-1⟩],gZ V.length c.ep,[],[],[],0,0,0⟩
theorem uz{c:Cf}{V:List Vd}(k:Can c V):∀v∈V,1<=v.key.length/\v.key.length<=32:=λv a=>by
 obtain⟨s,b⟩:=k.tot;have:=(Mt (afT 0) δ b).1 v a;unfold OM rD at this;simp only[agH,decide_eq_true_eq]at this;omega
theorem Q2{c:Cf}{V:List Vd}(k:Can c V):xV (bJ V):=by
 obtain⟨s,a⟩:=k.tot;obtain⟨b,f,g⟩:=Mt (afT 0) δ a;refine⟨λx d=>?_,by unfold bJ;omega⟩;obtain⟨v,e,rfl⟩:=agy.1 d;have:=b v e;unfold OM at this;simp only[agH,decide_eq_true_eq]at this;exact this.1.1
end Gate
namespace Gate
open Pool (xE)
open Board (Vt)
theorem Z3(v:Vt):v.tv.size=34:=by simp only[Vt.tv,ags,agM]
def EH:Vt:=⟨0,0,af6 32⟩
abbrev kM(k:Int×Int):TV:=.agg [.i k.1,.i k.2]
abbrev adf:TypeDesc:=TypeDesc.struct #[Field.mk "who" 3 0 false "" "toller/table" 0,Field.mk "epoch" 3 1 false "" "toller/table" 8]
theorem adg:(ctx.ti 3).d=some (.int .i64):=κ
theorem Tf:Zi ctx adf kM:=⟨λa b=>by
 simp only[jl,yO,Bool.and_true];rw[<-Bool.decide_and];exact decide_eq_decide.2 ⟨λh=>Prod.ext h.1 h.2,λh=>by rw[h];exact⟨rfl,rfl⟩⟩,λa=>by simp[c_,cm,adg,isInt]⟩
def XD(h:aa):Option Nat->Option Vt->Prop
 |none,none=>True
 |some q,some v=>Var 124 h q v.tv
 |_,_=>False
inductive zL(h:aa):List (Option Nat)->List (Option Vt)->Prop
 |nil:zL h [] []
 |cons {p v ps vs}:XD h p v->zL h ps vs->zL h (p::ps) (v::vs)
theorem zL.len{h:aa}{ps:List (Option Nat)}{vs:List (Option Vt)}(a:zL h ps vs):ps.length=vs.length:=by
 induction a with
 |nil=>rfl
 |cons _ _ b=>simp[b]
theorem zL.get{h:aa}{ps:List (Option Nat)}{vs:List (Option Vt)}(a:zL h ps vs):∀{i:Nat}{v:Option Vt},vs[i]? =some v->∃p,ps[i]? =some p/\XD h p v:=by
 induction a with
 |nil=>intro i v b;simp at b
 |cons c _ d=>
  intro i v b;cases i with
  |zero=>cases b;exact⟨_,rfl,c⟩
  |succ i=>obtain⟨p,e,f⟩:=d (by simpa using b);exact⟨p,by simpa using e,f⟩
theorem zL.set{h:aa}{ps:List (Option Nat)}{vs:List (Option Vt)}(a:zL h ps vs){p:Option Nat}{v:Option Vt}(q:XD h p v):∀i:Nat,zL h (ps.set i p) (vs.set i v):=by
 induction a with
 |nil=>intro i;exact .nil
 |cons b a c=>
  intro i;cases i with
  |zero=>exact .cons q a
  |succ i=>exact .cons b (c i)
theorem XD.only{S:Nat->Prop}{h h':aa}(f:ag S h h'){p:Option Nat}{v:Option Vt}(A:∀q,p=some q->¬S q)(a:XD h p v):XD h' p v:=by
 cases p with
 |none=>cases v with
  |none=>trivial
  |some v=>exact a
 |some q=>cases v with
  |none=>exact a
  |some v=>exact Var.only a f (A q rfl)
theorem zL.only{S:Nat->Prop}{h h':aa}(f:ag S h h'){ps:List (Option Nat)}{vs:List (Option Vt)}(a:zL h ps vs):(∀q,some q∈ps->¬S q)->zL h' ps vs:=by
 induction a with
 |nil=>intro _;exact .nil
 |cons d a e=>intro c;exact .cons (d.only f λq b=>c q (by simp[b])) (e λq b=>c q (List.mem_cons_of_mem _ b))
theorem zL.lt{h:aa}{ps:List (Option Nat)}{vs:List (Option Vt)}(a:zL h ps vs):∀q,some q∈ps->q<h.size:=by
 induction a with
 |nil=>intro q b;cases b
 |@cons p v ps vs c a d=>
  intro q b;rcases ahv.1 b with b|b
  ·subst b;cases v with
   |none=>exact absurd c (by simp[XD])
   |some v=>exact Var.lt c
  ·exact d q b
abbrev XE(ps:List (Option Nat)):List TV:=ps.map λp=>agf (p.map λq=>⟨q,0⟩)
abbrev VX(l:List Bool):List TV:=l.map af1
section
variable{R:Rq}{h h':aa}{b r n:Nat}{La Ou:Sl}{ps:List (Option Nat)}{t:Tb}
structure Jj(h:aa)(b r:Nat)(La Ou:Sl)(ps:List (Option Nat))(t:Tb)(n:Nat):Prop where
 var:Var 202 h b (.agg [.i t.slots,.slice La,.slice Ou,.map (some r)])
 la:Own 198 1 h La (XE ps)
 vs:zL h ps t.bR
 ou:Own 4 1 h Ou (VX t.out)
 map:k9 kM kR h r t.first
 ok:xU t n
 Z4:¬In La b/\¬In La r
 Z5:¬In Ou b/\¬In Ou r
 lo:∀i,In La i->¬In Ou i
 nv:∀q,some q∈ps->q≠b/\q≠r/\¬In La q/\¬In Ou q
def sV(b r:Nat)(La Ou:Sl)(ps:List (Option Nat))(i:Nat):Prop:=i=b\/i=r\/In La i\/In Ou i\/some i∈ps
theorem Jj.only{S:Nat->Prop}(p:Jj h b r La Ou ps t n)(f:ag S h h')(A:∀i,sV b r La Ou ps i->¬S i):Jj h' b r La Ou ps t n:=
 ⟨p.var.only f (A b (.inl rfl)),p.la.keep f λi a=>A i (.inr (.inr (.inl a))),p.vs.only f λq c=>A q (.inr (.inr (.inr (.inr c)))),p.ou.keep f λi a=>A i (.inr (.inr (.inr (.inl a)))),
  p.map.only f (A r (.inr (.inl rfl))),p.ok,p.Z4,p.Z5,p.lo,p.nv⟩
theorem Jj.ext(p:Jj h b r La Ou ps t n)(x:Ext h h'):Jj h' b r La Ou ps t n:=p.only (S:=λ_=>False) (.an x) λ_ _ a=>a
theorem Jj.lt(p:Jj h b r La Ou ps t n){i:Nat}(q:sV b r La Ou ps i):i<h.size:=by
 rcases q with rfl|rfl|q|q|q
 ·exact p.var.lt
 ·exact p.map.lt
 ·exact p.la.gv i q
 ·exact p.ou.gv i q
 ·exact p.vs.lt i q
theorem Jj.ll(p:Jj h b r La Ou ps t n):La.len=n:=by have:=p.la.len;rw[afM,p.vs.len,p.ok.Bn]at this;exact this.symm
def Qh(n:Nat)(who:Int):Bool:=decide (0<=who/\who<n)
theorem Mu(p:Jj h b r La Ou ps t n){who:Int}(q:R (af1 (Qh n who)).val h):Cl 135 [.ptr (PT b),.i who] h R:=by
 apply zK;delta aI gU bO bN mN;have l:=p.ll;refine af2 (ID (λa=>⟨La,p.var.ah rfl,?_⟩) λa=>?_)
 ·rw[show Qh n who=decide (who<(La.len:Int))from decide_eq_decide.2 ⟨λh=>ω,λh=>ω⟩]at q;exact q
 ·rw[show Qh n who=false from decide_eq_false λh=>a h.1]at q;exact q
def nZ(t:Tb)(who:Int):Vt×Bool:=match dU t who with
 |some v=>(v,true)
 |none=>(EH,false)
theorem XF{T:TypeId}{b:Nat}{x:Vt}(v:Var T h b x.tv){K:Int->Int->Bs 32->Prop}(q:K x.who x.slot x.target):
 ∃(n m:Int),∃(k:Bs 32),(ah h b 0 (.i n)/\ah h b 1 (.i m)/\ay h b 2 32 k)/\K n m k:=⟨_,_,_,v.at,q⟩
theorem Q3{A:Sl}(o:Own 198 1 h A (XE ps)){i:Int}(E:0<=i){p:Option Nat}(B:ps[i.toNat]? =some p){K:OL->Prop}(G:K (p.map λq=>⟨q,0⟩)):
 0<=i/\i<(A.len:Int)/\Nn A.a λl=>∃q:OL,ah h l.b (l.o+i.toNat*1) (Value.pointer (Option.map Loc.addr q))/\K q:=by
 have b:=o.len;have:=(agI.1 B).1;rw[afM]at b;refine o.elems.read E ω λl t _ a c=>?_;rw[ago,B]at a;cases a;exact⟨_,c,G⟩
theorem Tg{A:Sl}{l:List Bool}(o:Own 4 1 h A (VX l)){i:Int}(B:0<=i){v:Bool}(q:l[i.toNat]? =some v){K:Bool->Prop}(E:K v):
 0<=i/\i<(A.len:Int)/\Nn A.a λp=>∃c:Bool,ah h p.b (p.o+i.toNat*1) (Value.bool c)/\K c:=by
 have b:=o.len;have:=(agI.1 q).1;rw[afM]at b;refine o.elems.read B ω λp t _ a d=>?_;rw[ago,q]at a;cases a;exact⟨v,d,E⟩
theorem OP{g:aa}{q:Nat}(x:Ext h g)(v:Var 124 g q EH.tv)(E:h.size<=q)(B:∀h',Ext h h'->R (af4 [EH.tv,.bool false]).val h'):
 gi g q 0 34/\Bind (agV g q 0 EH.tv) λA=>∃(n m:Int),∃(k:Bs 32),(ah A q 0 (.i n)/\ah A q 1 (.i m)/\ay A q 2 32 k)/\R (ahy (.aX [.agg [.i n,.i m,.bytes 32 k],.bool false])) A:=
 aH v (t:=EH.tv) rfl λa b f2 _=>XF b (B a (afN x f2 λi c=>ω))
theorem EI{i:Int}(o:xU t n)(q:0<=i)(A:i<n):∃v,t.bR[i.toNat]? =some v/\dU t i=v:=by
 have a:=o.Bn;have:t.bR[i.toNat]? =some (t.bR[i.toNat]'ω):=agh ω;refine⟨_,this,?_⟩;unfold dU;rw[if_pos q,afW,this];rfl
theorem H_{i:Int}(o:xU t n)(h:¬(0<=i/\i<n)):dU t i=none:=by
 have a:=o.Bn;unfold dU;split
 ·rw[afW,ahs ω];rfl
 ·rfl
theorem EJ(p:Jj h b r La Ou ps t n){who:Int}(A:∀h',Ext h h'->R (af4 [(nZ t who).1.tv,.bool (nZ t who).2]).val h'):Cl 70 [.ptr (PT b),.i who] h R:=by
 apply vZ;delta Xg aI c7 aT;refine af λg v1 a o=>Mu (p.ext a) ⟨_,rfl,agi (λe=>?_) λc=>?_⟩
 ·have e:¬(0<=who/\who<n):=of_decide_eq_false (show Qh n who=false by simpa using e);unfold nZ at A;rw[H_ p.ok e]at A;exact OP a v1 (afR _) A
 ·have c:0<=who/\who<n:=of_decide_eq_true (show Qh n who=true by simpa using c);obtain⟨v,j,k⟩:=EI p.ok c.1 c.2;obtain⟨q,f,d⟩:=(p.ext a).vs.get j;unfold nZ at A;rw[k]at A;refine⟨La,(p.var.ext a).ah rfl,Q3 (p.ext a).la c.1 f ?_⟩;cases q with
  |none=>
   cases v with
   |some v=>exact absurd d (by simp[XD])
   |none=>exact af2 (OP a v1 (afR _) A)
  |some q=>
   cases v with
   |none=>exact absurd d (by simp[XD])
   |some v=>
    have d:Var 124 g q v.tv:=d;refine afU ⟨La,(p.var.ext a).ah rfl,Q3 (p.ext a).la c.1 f (XF d (aH v1 (t:=v.tv) rfl λl m f2 _=>XF m ?_))⟩;exact A l (afN a f2 λi s=>ω)
def AN(t:Tb)(n:Nat)(who:Int):Bool:=Qh n who&&!Dv t who
theorem Q4{i:Int}(o:xU t n)(q:0<=i)(A:i<n):t.out[i.toNat]? =some (Dv t i):=by
 have a:=o.tW;unfold Dv;rw[afW,agh ω];rfl
theorem OQ(p:Jj h b r La Ou ps t n){who:Int}(q:R (af1 (AN t n who)).val h):Cl 71 [.ptr (PT b),.i who] h R:=by
 apply sU;delta aI bO c7 aT mN;unfold AN at q;refine Mu p ⟨_,rfl,agi (λa=>?_) λc=>?_⟩
 ·rw[a,Bool.true_and]at q;have a:0<=who/\who<n:=of_decide_eq_true (show Qh n who=true by simpa using a);exact⟨Ou,p.var.ah rfl,Tg p.ou a.1 (Q4 p.ok a.1 a.2) q⟩
 ·rw[c,ahj]at q;exact q
end
end Gate
namespace Gate
open Pool (xE)
open Board (Vt)
section
variable{R:Rq}{h h':aa}{b r n:Nat}{La Ou:Sl}{ps:List (Option Nat)}{t:Tb}
theorem Th{T:TypeId}{b:Nat}{k:Int×Int}(v:Var T h b (kM k)){K:Int->Int->Prop}(q:K k.1 k.2):∃(n m:Int),(ah h b 0 (.i n)/\ah h b 1 (.i m))/\K n m:=⟨_,_,v.at,q⟩
theorem Jj.marked(p:Jj h b r La Ou ps t n){A:aa}{L':List ((Int×Int)×Bs 32)}(m:k9 kM kR A r L')(f:ag (·=r) h A)(o:xU {t with first:=L'} n):Jj A b r La Ou ps {t with first:=L'} n:=
 ⟨p.var.only f λe=>(p.map.ne p.var) e,p.la.keep f λ_ a e=>p.Z4.2 (e▸a),p.vs.only f λq c e=>(p.nv q c).2.1 e,p.ou.keep f λ_ a e=>p.Z5.2 (e▸a),m,o,p.Z4,p.Z5,p.lo,p.nv⟩
theorem Q5(p:Jj h b r La Ou ps t n){v:Vt}
 (A:∀h' Y,Jj h' b r La Ou Y (cH t v).2 n->Step (sV b r La Ou ps) h (sV b r La Ou Y) h'->R (TV.i (cH t v).1).val h'):
 Cl 172 [.ptr (PT b),v.tv] h R:=by
 apply wg (PT b) v.who v.slot v.target;delta mE sr aI aD dH Oh cV c7 C' fh bu dO aJ fU bK aT bh eE;have hs:=p.ok.slots;have ll:=p.ll;have H:=p.ok.take v;refine af λd v1 B s1=>?_;have v1:Var 124 d h.size v.tv:=v1;have y:=p.ext B;intro J Z
 have I:¬(0<=v.who/\v.who<n/\0<=v.slot/\v.slot<=1073741824)->R (TV.i 5).val d:=λhn=>by
  have e:cH t v=(5,t):=by unfold cH;rw[if_pos (by rw[p.ok.Bn];exact hn)]
  have:=A d ps;rw[e]at this;exact this y (.an B)
 refine⟨v.who,v1.ah rfl,Mu y ⟨_,rfl,agi (λhn=>I λw=>?_) λg=>⟨v.slot,v1.ah rfl,ID (λw=>I λC=>ω) λg1=>⟨v.slot,v1.ah rfl,ID (λw=>I λC=>ω) λg2=>?_⟩⟩⟩⟩
 ·have:Qh n v.who=true:=decide_eq_true ⟨w.1,w.2.1⟩;rw[this]at hn;cases hn
 have g:0<=v.who/\v.who<n:=of_decide_eq_true (show Qh n v.who=true by simpa using g);have can:0<=v.who/\v.who<t.bR.length/\0<=v.slot/\v.slot<=1073741824:=by rw[p.ok.Bn];omega
 refine Z 0 d ?_;clear Z J I
 have f:cH t v=if Dv t v.who=true then((4:Int),t)else match kF (v.who,aL t v.slot) t.first with
  |some r=>if r=v.target then(1,t)else(2,{t with out:=t.out.set v.who.toNat true})
  |none=>match dU t v.who with
   |some l=>if aL t v.slot<aL t l.slot then(3,{t with first:=t.first++[((v.who,aL t v.slot),v.target)]})
    else(0,{t with bR:=t.bR.set v.who.toNat (some v),first:=t.first++[((v.who,aL t v.slot),v.target)]})
   |none=>(0,{t with bR:=t.bR.set v.who.toNat (some v),first:=t.first++[((v.who,aL t v.slot),v.target)]}):=by
  unfold cH;rw[if_neg (λC=>C can)];rfl
 refine⟨Ou,y.var.ah rfl,v.who,v1.ah rfl,Tg y.ou g.1 (Q4 p.ok g.1 g.2) (agi (λz=>?_) λz=>?_)⟩
 ·rw[if_pos z]at f;rw[f]at A;exact A d ps y (.an B)
 rw[if_neg (by rw[z];decide)]at f;have Q:=qT p.ok can.2.2.1 can.2.2.2;have am:afK .i64 (agr v.slot t.slots)=aL t v.slot:=wrap_i64 (by unfold aL at Q;omega) (by unfold aL at Q;omega);obtain⟨k,K⟩:∃k:Int×Int,k=(v.who,aL t v.slot):=⟨_,rfl⟩;rw[<-K]at f;refine⟨v.who,v1.ah rfl,v.slot,v1.ah rfl,t.slots,y.var.ah rfl,ω,af λh2 v2 x2 s2=>⟨x2,?_⟩⟩;rw[am];refine aH v2 (t:=kM (v.who,aL t v.slot)) rfl λS T f3 s3=>?_;rw[<-K]at T;have U:Ext d S:=afN x2 f3 λi a=>ω;have V:=y.ext U;have ao:Var 124 S h.size v.tv:=Var.ext (t:=v.tv) v1 U;refine⟨some r,V.var.ah rfl,Th T ?_⟩;obtain⟨es,c,hb,hl,ap,w⟩:=V.map.look Tf k (af6 32);refine⟨es,c,hb,hl,_,ap,af λh4 v4 x4 s4=>⟨x4,aH v4 (t:=.bytes 32 _) rfl λD W f5 s5=>?_⟩⟩;have L:Ext S D:=afN x4 f5 λi a=>ω;have M:Ext h D:=(B.trans U).trans L;have s:=V.ext L;have N:Var 124 D h.size v.tv:=Var.ext (t:=v.tv) ao L;have ab:Var 310 D d.size (kM k):=Var.ext (t:=kM k) T L;rw[w];cases O:kF k t.first with
 |some q=>
  rw[O]at f W;simp only[Option.getD_some]at W;refine af2 ⟨_,W.bytes,_,N.at.2.2,?_⟩;have hd:decide (q.l=v.target.l)=decide (q=v.target):=El _ _;dsimp only;rw[hd];refine ID (λm=>?_) λm=>⟨Ou,s.var.ah rfl,v.who,N.ah rfl,?_⟩
  ·simp only[m,if_true]at f;rw[f]at A;exact A D ps s (.an M)
  ·simp only[m,if_false]at f;rw[f]at A H
   refine s.ou.aH (sz:=1) (n:=1) (t:=.bool true) g.1 (by simp[p.ok.tW];omega) rfl rfl λu o6 f6 s6=>A u ps ⟨s.var.only f6 p.Z5.1,s.la.keep f6 p.lo,s.vs.only f6 λq m=>(p.nv q m).2.2.2,?_,s.map.only f6 p.Z5.2,H,p.Z4,p.Z5,p.lo,p.nv⟩
    ⟨(aga M).trans (f6.mono λi a=>.inr (.inr (.inr (.inl a)))),λi a=>.inl a⟩
   simpa[VX,agS]using o6
 |none=>
  rw[O]at f;refine afU ⟨some r,s.var.ah rfl,Th ab ⟨v.target,N.at.2.2,s.map.put Tf k v.target λu m6 f6 s6=>?_⟩⟩;rw[N6 (AI.1 O)]at m6;have X:∀i,sV b r La Ou ps i->i<h.size:=λi a=>p.lt a;have a3:=p.map.lt;have z5:=M.size;have z1:=B.size;have P:Var 124 u h.size v.tv:=Var.only (t:=v.tv) N f6 ω;have ar:Var 310 u d.size (kM k):=Var.only (t:=kM k) ab f6 ω;obtain⟨old,ac,aw⟩:=EI p.ok g.1 g.2
  have aE:xU {t with first:=t.first++[(k,v.target)]} n:=⟨p.ok.slots,p.ok.nn,p.ok.Bn,p.ok.tW,p.ok.Q1,vY p.ok O,λe F=>by
   rcases aht.1 F with F|F
   ·exact p.ok.fst e F
   ·rw[ahh.1 F,K];exact⟨g.1,g.2,Q⟩⟩
  have j:=s.marked m6 f6 aE;obtain⟨q,m,G⟩:=j.vs.get ac;have ad:ag (sV b r La Ou ps) h u:=(aga M).trans (f6.mono λi a=>.inr (.inl a))
  have last:cH t v=(0,{t with bR:=t.bR.set v.who.toNat (some v),first:=t.first++[(k,v.target)]})->
   0<=v.who/\v.who<(La.len:Int)/\Nn La.a λl=>gi u l.b (l.o+v.who.toNat*1) 1/\Bind (agV u l.b (l.o+v.who.toNat*1) (.ptr (some (Loc.mk h.size 0)))) λw=>R (ahy (.i 0)) w:=λE=>by
   rw[E]at A H;refine j.la.aH (sz:=1) (n:=1) (t:=.ptr (some (Loc.mk h.size 0))) g.1 (by simp[p.vs.len,p.ok.Bn];omega) rfl rfl λh7 o7 f7 s7=>?_;have ae:¬In La h.size:=λa=>by have:=X _ (.inr (.inr (.inl a)));omega
   have a0:Var 124 h7 h.size v.tv:=Var.only (t:=v.tv) P f7 ae
   refine A h7 (ps.set v.who.toNat (some h.size)) ⟨j.var.only f7 p.Z4.1,?_,(j.vs.only f7 λq m=>(p.nv q m).2.2.1).set (p:=some h.size) (v:=some v) a0 _,j.ou.keep f7 λi a C=>p.lo i C a,j.map.only f7 p.Z4.2,H,p.Z4,p.Z5,p.lo,λq m=>?_⟩
    ⟨ad.trans (f7.mono λi a=>.inr (.inr (.inl a))),λi a=>?_⟩
   ·simpa[XE,agS]using o7
   ·rcases List.mem_or_eq_of_mem_set m with d|d
    ·exact p.nv q d
    ·cases d;exact⟨λe=>by have:=X b (.inl rfl);omega,λe=>ω,ae,λa=>by have:=X _ (.inr (.inr (.inr (.inl a))));omega⟩
   ·rcases a with a|a|a|a|a
    ·exact .inl (.inl a)
    ·exact .inl (.inr (.inl a))
    ·exact .inl (.inr (.inr (.inl a)))
    ·exact .inl (.inr (.inr (.inr (.inl a))))
    ·rcases List.mem_or_eq_of_mem_set a with d|d
     ·exact .inl (.inr (.inr (.inr (.inr d))))
     ·cases d;exact .inr (afR _)
  refine⟨La,j.var.ah rfl,v.who,P.ah rfl,Q3 j.la g.1 m ?_⟩;rw[aw]at f;cases q with
  |none=>
   cases old with
   |some _=>exact absurd G (by simp[XD])
   |none=>
    refine afU ⟨La,j.var.ah rfl,v.who,P.ah rfl,last f⟩
  |some q=>
   cases old with
   |none=>exact absurd G (by simp[XD])
   |some old=>
    have G:Var 124 u q old.tv:=G;have z:=p.ok.Q1 _ old ac;have al:=qT p.ok z.2.1 z.2.2;refine af2 ⟨old.slot,G.ah rfl,t.slots,j.var.ah rfl,ω,aL t v.slot,by have:=ar.ah (o:=1) (x:=.i k.2) rfl;rw[K]at this;exact this,?_⟩;rw[show afK .i64 (agr old.slot t.slots)=aL t old.slot from wrap_i64 (by unfold aL at al;omega) (by unfold aL at al;omega)];refine ID (λa1=>?_) λa2=>⟨La,j.var.ah rfl,v.who,P.ah rfl,last ?_⟩
    ·simp only[a1,if_true]at f;rw[f]at A;exact A u ps j ⟨ad,λi a=>.inl a⟩
    ·simp only[a2,if_false]at f;exact f
end
end Gate
namespace Gate
open Board (Vt)
theorem UA{n:Nat}{par q:Nat->Nat}(up:Up n par)(A:Up n q)(h:∀i,0<i->i<n->par i=q i)(k:Nat):∀i,i<n->bL par k i=bL q k i:=by
 intro i
 induction i using Nat.strongRecOn with
 |ind i c=>
  intro a;rw[gq up a,gq A a];by_cases b:0<i
  ·have d:=up i b a;rw[c (par i) d ω,h i b a]
  ·simp[b]
theorem UB{n:Nat}{f g:Nat->Int}(h:∀i,i<n->f i=g i):tot n f=tot n g:=by
 unfold tot;rw[List.map_congr_left λi a=>h i (List.mem_range.1 a)]
theorem XG{n:Nat}{par q:Nat->Nat}(up:Up n par)(B:Up (n+1) q)(h:∀i,0<i->i<n->par i=q i){own:Nat->Int}(A:own n=0){k:Nat}(E:k<n):pS (n+1) q own k=pS n par own k:=by
 have b:Up n q:=λi A a=>B i A ω;rw[Gw B own ω,Gw up own E,jy,A,Int.zero_mul,ag5];exact UB λi a=>by rw[UA up b h k i a]
theorem XH{n:Nat}{par:Nat->Nat}(up:Up (n+1) par){own:Nat->Int}(q:own n=0):pS (n+1) par own n=0:=by
 rw[Gw up own ω,jy,q,Int.zero_mul,ag5];refine nN λi a=>?_;have a:=List.mem_range.1 a
 have:bL par n i=false:=by
  cases b:bL par n i with
  |false=>rfl
  |true=>have:=za up i ω b;omega
 rw[this];simp[one]
theorem Ti{n:Nat}{f g:Nat->Int}(h:∀i,i<n->f i=g i)(q:g n=0):pad (gy n f) (n+1) 0=gy (n+1) g:=by
 unfold pad;rw[vP,show n+1-n=1 by omega,fD h];unfold gy;rw[List.range_succ,agA];simp[q]
section
variable{st:List Int}{t:Tb}{L:List Nd}{x:Nd}
theorem wm{i:Nat}{x:Nd}(h:L[i]? =some x):cZ st t L i=nY t st x.root:=by unfold cZ;rw[h];rfl
theorem jB{i:Nat}(h:L.length<=i):cZ st t L i=0:=by unfold cZ;rw[ahs h];rfl
theorem sC(o:xV st)(i:Nat):0<=cZ st t L i:=by
 by_cases h:i<L.length
 ·rw[wm (agh h)];exact OO o _
 ·rw[jB ω];exact afT 0
theorem wo(o:xV st)(q:(L.map Nd.root).Nodup):tot L.length (cZ st t L)<4611686018427387904:=by
 have a:=Te (t:=t) o q;have b:=o.sum
 have e:tot L.length (cZ st t L)=((L.map Nd.root).map λr=>nY t st r).sum:=by
  unfold tot;congr 1;apply ag7
  ·simp
  ·intro i a b;have c:i<L.length:=by simpa using a
   simp only[List.getElem_map,List.getElem_range];exact wm (agh c)
 omega
theorem XI(o:xV st)(q:(L.map Nd.root).Nodup)(i:Nat):cZ st t L i<4611686018427387904:=by
 by_cases h:i<L.length
 ·have:=Ch L.length (λj _=>sC (t:=t) (L:=L) o j) i h;have:=wo (t:=t) o q;omega
 ·rw[jB ω];decide
theorem OR(q:((L++[x]).map Nd.root).Nodup):cZ st t (L++[x])=laid (L++[x]) [(x.root,nY t st x.root)] (cZ st t L):=by
 have a:(L++[x])[L.length]? =some x:=by simp
 have b:place x.root (L++[x])=(L.length:Int):=js q a;funext i;unfold laid;simp only[List.foldl_cons,List.foldl_nil,b,agm];unfold bump;by_cases h:i=L.length
 ·subst h;rw[if_pos rfl,wm a,jB (afR _),Int.zero_add]
 ·rw[if_neg h];by_cases c:i<L.length
  ·unfold cZ;rw[agG c]
  ·have d:(L++[x]).length=L.length+1:=by simp
   rw[jB ω,jB ω]
theorem Z6(o:xV st)(q:((L++[x]).map Nd.root).Nodup):EB (L++[x]) [(x.root,nY t st x.root)] (cZ st t L):=by
 have b:(L++[x])[L.length]? =some x:=by simp
 have a:place x.root (L++[x])=(L.length:Int):=js q b;have e:=OR (st:=st) (t:=t) q;have c:=wo (t:=t) o q;have d:=λi=>sC (t:=t) (L:=L++[x]) o i;have f:=XI (t:=t) o q L.length;rw[wm b]at f;have g:=OO (t:=t) o x.root;unfold laid at e;simp only[List.foldl_cons,List.foldl_nil]at e;refine⟨by rw[a];omega,ω,ω,?_,?_,?_⟩
 ·rw[a,agm,jB (afR _)];simp only;omega
 ·rw[a,agm,jB (afR _)];simp only;omega
 ·unfold EB;rw[<-e];exact⟨λi _=>d i,c⟩
def oP(t:Tb)(st:List Int)(who:Int)(r:Bs 32):Int:=if 0<=who then aK t st who.toNat r else 0
theorem Tj{f g:Nat->Int}:∀(n w:Nat),w<n->(∀i,i≠w->f i=g i)->((agw n).map f).sum=((agw n).map g).sum+(f w-g w)
 |0,w,h,_=>ω
 |n+1,w,h,a=>by
  rw[List.range_succ,agA,agA,List.sum_append,List.sum_append];simp only[agB,ahk,ag0,List.sum_nil,ag5];by_cases e:w=n
  ·subst e;have:(agw w).map f=(agw w).map g:=List.map_congr_left λi b=>a i (by have:=List.mem_range.1 b;omega);rw[this];omega
  ·rw[Tj n w ω a,a n (λh=>e h.symm)];omega
theorem Z7{t':Tb}{w:Nat}(q:w<st.length)(r:Bs 32)(h:∀i,i≠w->aK t' st i r=aK t st i r):nY t' st r=nY t st r+(aK t' st w r-aK t st w r):=Tj _ w q h
theorem XJ{t':Tb}(r:Bs 32)(h:∀i,aK t' st i r=aK t st i r):nY t' st r=nY t st r:=by
 unfold nY;rw[List.map_congr_left λi _=>h i]
theorem OS{t':Tb}(h:∀r i,aK t' st i r=aK t st i r):cZ st t' L=cZ st t L:=by
 funext i;unfold cZ;cases L[i]? with
 |none=>rfl
 |some x=>simp only[ahb,Option.getD_some];exact XJ x.root (h x.root)
def oa(L:List Nd)(own:Nat->Int)(r:Bs 32)(d:Int):Nat->Int:=if 0<=place r L then bump own (place r L).toNat d else own
theorem Mv{own:Nat->Int}{r:Bs 32}{d:Int}(A:(L.map Nd.root).Nodup){i:Nat}{x:Nd}(q:L[i]? =some x):oa L own r d i=if r=x.root then own i+d else own i:=by
 unfold oa;by_cases h:r=x.root
 ·subst h;rw[if_pos rfl,js A q,if_pos ω];unfold bump;rw[if_pos ω]
 ·rw[if_neg h];split
  ·rename_i b;obtain⟨k,y,g,c,a,f,j⟩:=fB b;unfold bump;rw[if_neg];intro e;rw[c,agm]at e;rw[<-e,q]at a;cases a;exact h f.symm
  ·rfl
theorem OT{own:Nat->Int}{r:Bs 32}{d:Int}{i:Nat}(q:L.length<=i):oa L own r d i=own i:=by
 unfold oa;split
 ·rename_i a;obtain⟨k,y,b,c,e,f,g⟩:=fB a;unfold bump;rw[if_neg ω]
 ·rfl
theorem KH{t':Tb}{w:Nat}(A:(L.map Nd.root).Nodup)(B:w<st.length){q r1:Bs 32}{a b:Int}(E:∀i,i≠w->∀r,aK t' st i r=aK t st i r)
 (G:∀r,aK t st w r=if q=r then a else 0)(H:∀r,aK t' st w r=if r1=r then b else 0):cZ st t' L=oa L (oa L (cZ st t L) q (-a)) r1 b:=by
 funext i;by_cases d:i<L.length
 ·have c:L[i]? =some L[i]:=agh d;rw[Mv A c,Mv A c,wm c,wm c,Z7 B L[i].root λj e=>E j e _,G,H];by_cases f:q=L[i].root<;>by_cases g:r1=L[i].root<;>simp only[f,g,if_true,if_false]<;>omega
 ·rw[OT ω,OT ω,jB ω,jB ω]
theorem UC(t:Tb)(w:Nat)(r:Bs 32):aK t st w r=if((nZ t (w:Int)).1.target)=r then aK t st w (nZ t (w:Int)).1.target else 0:=by
 have e:dU t (w:Int)=t.bR.getD w none:=by
  unfold dU;rw[if_pos ω,agm]
 unfold nZ;rw[e];unfold aK;cases a:t.bR.getD w none with
 |none=>simp
 |some v=>
  simp only[if_true];by_cases h:v.target=r
  ·rw[if_pos h,if_pos h]
  ·rw[if_neg h,if_neg h];split<;>rfl
theorem UD(o:xV st){i:Nat}{w:Nat}(q:w<st.length){x:Nd}(A:L[i]? =some x):aK t st w x.root<=cZ st t L i:=by
 rw[wm A];unfold nY;exact Ch (f:=λj=>aK t st j x.root) st.length (λj _=>kK o j _) w q
theorem KI(o:xV st)(w:Nat)(r:Bs 32):aK t st w r<4611686018427387904:=by
 have b:=o.sum
 have c:kJ st w<=st.sum\/kJ st w=0:=by
  by_cases a:w<st.length
  ·left;rw[<-XA st];exact Ch (f:=kJ st) st.length (λj _=>Cn o j) w a
  ·right;unfold kJ;rw[afW,ahs ω];rfl
 have d:aK t st w r=0\/aK t st w r=kJ st w:=by
  unfold aK;split
  ·exact .inl rfl
  ·split
   ·split
    ·exact .inr rfl
    ·exact .inl rfl
   ·exact .inl rfl
 omega
theorem UE(o:xV st)(r:Bs 32){n:Nat}(q:n<=st.length):0<=tot n (λj=>aK t st j r)/\tot n (λj=>aK t st j r)<4611686018427387904:=by
 have a:=Te (t:=t) o (show[r].Nodup by simp);have c:=o.sum;have d:nY t st r=tot st.length (λj=>aK t st j r):=rfl;simp only[agB,ahk,ag0,List.sum_nil,ag5]at a
 have mono:∀k,tot n (λj=>aK t st j r)<=tot (n+k) (λj=>aK t st j r):=λk=>by
  induction k with
  |zero=>exact afT _
  |succ k e=>
   rw[show n+(k+1)=(n+k)+1 by omega,jy];have:=kK (t:=t) o (n+k) r;omega
 have b:=mono (st.length-n);rw[show n+(st.length-n)=st.length by omega]at b;exact⟨Gx n λi _=>kK o i r,ω⟩
theorem Q6{n:Nat}(ok:xU t n){v:Vt}(A:(cH t v).1=0\/(cH t v).1=2):
 (0<=v.who/\v.who<n)/\(∀i,i≠v.who.toNat->∀r,aK (cH t v).2 st i r=aK t st i r)/\
 ((cH t v).1=0->∀r,aK (cH t v).2 st v.who.toNat r=if v.target=r then aK (cH t v).2 st v.who.toNat v.target else 0)/\
 ((cH t v).1=2->∀r,aK (cH t v).2 st v.who.toNat r=0):=by
 have o:=ok.Bn;have lo:=ok.tW;unfold cH at A⊢;split at A
 ·rcases A with h|h<;>cases h
 rename_i b;have b:=Decidable.not_not.1 b;rw[if_neg (λf=>f b)];split at A
 ·rcases A with h|h<;>cases h
 rename_i g;rw[if_neg g];have c:0<=v.who/\v.who<n:=ω
 have a:∀F,(∀i,i≠v.who.toNat->∀r,aK {t with bR:=t.bR.set v.who.toNat (some v),first:=F} st i r=aK t st i r)/\
  ∀r,aK {t with bR:=t.bR.set v.who.toNat (some v),first:=F} st v.who.toNat r=if v.target=r then aK {t with bR:=t.bR.set v.who.toNat (some v),first:=F} st v.who.toNat v.target else 0:=by
  intro F;constructor
  ·intro i d r;unfold aK;simp only[afW,List.getElem?_set_ne (λh=>d h.symm)]
  ·intro r;unfold aK
   have:(t.bR.set v.who.toNat (some v)).getD v.who.toNat none=some v:=by
    rw[afW,List.getElem?_set_self ω];rfl
   simp only[this,if_true];by_cases h:v.target=r
   ·rw[if_pos h,if_pos h]
   ·rw[if_neg h,if_neg h];split<;>rfl
 cases e:kF (v.who,aL t v.slot) t.first with
 |some q=>
  rw[e]at A;simp only at A⊢;split at A
  ·rcases A with h|h<;>cases h
  rename_i j;rw[if_neg j];refine⟨c,λi d r=>?_,(λh=>by cases h),λ_ r=>?_⟩
  ·unfold aK;simp only[afW,List.getElem?_set_ne (λh=>d h.symm)]
  ·unfold aK
   have:(t.out.set v.who.toNat true).getD v.who.toNat false=true:=by
    rw[afW,List.getElem?_set_self ω];rfl
   simp only[this,if_true]
 |none=>
  rw[e]at A;simp only at A⊢;cases k:dU t v.who with
  |none=>
   simp only;exact⟨c,(a _).1,λ_=>(a _).2,(λh=>by cases h)⟩
  |some l=>
   rw[k]at A;simp only at A⊢;split at A
   ·rcases A with h|h<;>cases h
   rename_i m;rw[if_neg m];exact⟨c,(a _).1,λ_=>(a _).2,(λh=>by cases h)⟩
theorem UF{v:Vt}(A:(cH t v).1≠0)(B:(cH t v).1≠2):∀r i,aK (cH t v).2 st i r=aK t st i r:=by
 intro r i;unfold cH at A B⊢;split
 ·rfl
 split
 ·rfl
 rename_i d e;rw[if_neg d,if_neg e]at A B;cases b:kF (v.who,aL t v.slot) t.first with
 |some q=>
  rw[b]at B;simp only at B⊢;split
  ·rfl
  ·rename_i a;rw[if_neg a]at B;exact absurd rfl B
 |none=>
  rw[b]at A;simp only at A⊢;cases c:dU t v.who with
  |none=>rw[c]at A;exact absurd rfl A
  |some l=>
   rw[c]at A;simp only at A⊢;split
   ·rfl
   ·rename_i a;rw[if_neg a]at A;exact absurd rfl A
end
end Gate
namespace Board
def ee{n:Nat}(b:Bs n)(i:Nat):UInt8:=b.l.getD i 0
def j7{n:Nat}(f:Nat->UInt8)(b:Bs n):Nat->Bs n
 |0=>b
 |i+1=>(j7 f b i).set i (f i)
theorem kU{n:Nat}(f:Nat->UInt8)(b:Bs n):∀(k j:Nat),k<=n->ee (j7 f b k) j=if j<k then f j else ee b j
 |0,j,_=>by simp[j7]
 |k+1,j,e=>by
  have a:=kU f b k j ω;unfold ee at a⊢;simp only[j7,Bs.set,afW,ahr]at a⊢;by_cases c:k=j
  ·subst c;rw[if_pos rfl,if_pos (by rw[(j7 f b k).h];omega),if_pos (Nat.lt_succ_self k)];rfl
  ·rw[if_neg c,a];by_cases d:j<k
   ·rw[if_pos d,if_pos ω]
   ·rw[if_neg d,if_neg ω]
theorem Z8{n:Nat}(f:Nat->UInt8)(b:Bs n):(j7 f b n).l=(agw n).map f:=by
 apply ag7 (by rw[(j7 f b n).h];simp);intro j a d;have c:j<n:=by rw[<-(j7 f b n).h];exact a
 have:=kU f b n j (afR n);rw[if_pos c]at this;unfold ee at this;rw[afW,agh a]at this;simpa using this
theorem gP{T:TypeId}{h:aa}{b n:Nat}{x:Bs n}(v:Var T h b (.bytes n x)){i:Nat}(q:i<n):ah h b (0+i*1) (.int .u8 ((ee x i).toNat:Int)):=by
 refine v.ah ?_;simp only[TV.cells,agL,Nat.zero_add];exact getElem?_toBytes x i q
theorem Bs.Mw{n:Nat}{a b:Bs n}(h:∀j,j<n->ee a j=ee b j):a=b:=by
 apply agP;apply ag7 (by rw[a.h,b.h]);intro j c d;have e:j<n:=by rw[<-a.h];exact c
 have:=h j e;unfold ee at this;rw[afW,afW,agh c,agh d]at this;simpa using this
theorem Z9{x:aa}{K:aa->Prop}(h:K x):Bind x K:=h
section
variable{R:Rq}{h:aa}
theorem mS{T:TypeId}(h:aa)(ts:List (LU)):ak 1 (h.push (row (afY (ts.map agq)) T)) ⟨some ⟨h.size,0⟩,ts.length,ts.length⟩ (ts.map agq):=by
 have:=(agx (T:=T) (sz:=1) h (ts.map agq) (λt a=>by
  obtain⟨u,_,rfl⟩:=agy.1 a;rfl)).elems
 simpa using this
theorem Mx:(ctx.ti 9).bytes=16:=κ
theorem aaT:(ctx.ti 9).size=1:=κ
theorem XK:(ctx.ti 9).z.size=1:=κ
end
end Board
namespace Board
section
variable{R:Rq}{h:aa}
def Z_(c i:Int):Int:=afK .u8 ((afP (afL .u8) c|||afP (afL .u8) (afK .u8 (1*2^min (afO (agc i 8)) (afL .u8)))).toNat:Int)
def JE(q:LU)(i:Nat):LU:=q.set (i/8) (afX (Z_ (FY q (i/8)) (i:Int)).toNat)
def fS(row:List Bool):Nat->LU
 |0=>af8 (row.length/8+1) 0
 |i+1=>if row.getD i false=true then JE (fS row i) i else fS row i
def OU(row:List Bool):LU:=JE (fS row row.length) row.length
theorem cE(row:List Bool):∀i,(fS row i).length=row.length/8+1
 |0=>by simp[fS]
 |i+1=>by
  unfold fS;split
  ·simp[JE,cE row i]
  ·exact cE row i
theorem KJ(bs g:LU)(k:Nat):FY (bs++g) (bs.length+k)=FY g k:=by
 unfold FY;rw[afW,afW,agD ω];congr 4;omega
theorem Row.set{Q:Nat->Prop}{s:Sl}{bs:LU}(r:Row Q h s bs){i c:Int}(q:0<=i)(A:i<bs.length)(c0:0<=c)(E:c<256){K:aa->Prop}
 (B:∀a,Row Q a s (bs.set i.toNat (afX c.toNat))->ag Q h a->K a):0<=i/\i<(s.len:Int)/\Nn s.a λl=>gi h l.b (l.o+i.toNat*1) 1/\Bind ((age .u8 c).put h l.b (l.o+i.toNat*1)) K:=by
 refine r.own.aH (t:=.int .u8 c) q (by rw[afM];exact A) rfl rfl λb d f1 f=>B b ⟨?_,r.sP,λj g=>r.new j ω⟩ (r.cut f1)
 have e:HP (afX c.toNat)=age .u8 c:=by
  unfold HP;rw[ag8];congr 1;omega
 have:Ox (bs.set i.toNat (afX c.toNat))=(Ox bs).set i.toNat (age .u8 c):=by simp[Ox,agS,e]
 rw[this];exact d
theorem EK{Q:Nat->Prop}{s q:Sl}{bs:LU}{row:List Bool}(r:Row Q h s bs)(G:bs.length<1000)(H:row.length<1000)(A:row.length=q.len)(e:∀d,ag Q h d->ak 1 d q (aP row))
 (B:∀d m,Row Q d m (bs++OU row)->ag Q h d->R (agl m).val d):Cl 296 [.slice s,.slice q] h R:=by
 apply Dw;delta Oo xL aG HG gU c5 bN;have I:=r.len
 have v:agr (q.len:Int) 8=((row.length/8:Nat):Int):=by
  rw[agX ω,<-A];rfl
 rw[v,wrap_i64 (n:=((row.length/8:Nat):Int)) ω ω,wrap_i64 (n:=((row.length/8:Nat):Int)+1) ω ω];have w:afO (((row.length/8:Nat):Int)+1)=row.length/8+1:=ω;refine⟨δ,ω,ω,?_⟩;rw[w];have y:af8 (row.length/8+1) (agu .u8 0)=(fS row 0).map λc=>agu .u8 (c.toNat:Int):=by simp[fS]
 rw[y,<-cE row 0];refine Ez r (by rw[cE];omega) λa J r1 f1 K=>?_;have f1:=r.cut f1;refine⟨λi o=>0<=i/\i<=row.length/\Row Q o a (bs++fS row i.toNat)/\ag Q h o,λi _=>((row.length:Int)-i).toNat,⟨afT 0,ω,r1,f1⟩,?_⟩;rintro i z ⟨j,L,b,f2⟩;have l2:=b.len;rw[afQ,cE]at l2;rw[wrap_i64 (n:=i+1) ω ω];refine ID (λC=>?_) λC=>?_
 ·refine jH (e z f2) j ω λx D=>?_;have p:row.getD i.toNat false=x:=by rw[afW,D];rfl
  have t:(i+1).toNat=i.toNat+1:=ω;cases x with
  |false=>
   refine afU ⟨⟨ω,ω,?_,f2⟩,Ω⟩;rw[t];unfold fS;rw[p,if_neg δ];exact b
  |true=>
   have E:agr i 8=((i.toNat/8:Nat):Int):=by
    rw[agX j];omega
   have k:0<=agc i 8:=by rw[agN j];omega
   rw[E,wrap_i64 (n:=((i.toNat/8:Nat):Int)) ω ω,wrap_i64 (n:=(s.len:Int)+((i.toNat/8:Nat):Int)) ω ω];have M:i.toNat/8<row.length/8+1:=ω;have l:afO ((s.len:Int)+((i.toNat/8:Nat):Int))=bs.length+i.toNat/8:=ω;refine af2 ⟨δ,vH (bs:=bs++fS row i.toNat) b.own.elems ω (by rw[afQ,cE];omega) ⟨δ,k,?_⟩⟩;have f:0<=Z_ (FY (bs++fS row i.toNat) (afO ((s.len:Int)+((i.toNat/8:Nat):Int)))) i/\Z_ (FY (bs++fS row i.toNat) (afO ((s.len:Int)+((i.toNat/8:Nat):Int)))) i<256:=aO _;refine b.set (i:=(s.len:Int)+((i.toNat/8:Nat):Int)) (c:=Z_ (FY (bs++fS row i.toNat) (afO ((s.len:Int)+((i.toNat/8:Nat):Int)))) i) ω (by rw[afQ,cE];omega) f.1 f.2 λu g f3=>?_;refine⟨⟨ω,ω,?_,f2.trans f3⟩,Ω⟩;rw[l,KJ,List.set_append_right _ _ ω,show bs.length+i.toNat/8-bs.length=i.toNat/8 by omega]at g;rw[t];unfold fS;rw[p,if_pos rfl,JE,show((i.toNat:Nat):Int)=i by omega];exact g
 ·have F:i.toNat=row.length:=ω;rw[F]at b;have k:0<=agc (q.len:Int) 8:=by rw[agN ω];omega
  rw[wrap_i64 (n:=(a.len:Int)-1) ω ω];have l:afO ((a.len:Int)-1)=bs.length+row.length/8:=ω;refine vH (bs:=bs++fS row row.length) b.own.elems ω (by rw[afQ,cE];omega) ⟨δ,k,?_⟩;have f:0<=Z_ (FY (bs++fS row row.length) (afO ((a.len:Int)-1))) (q.len:Int)/\Z_ (FY (bs++fS row row.length) (afO ((a.len:Int)-1))) (q.len:Int)<256:=aO _;refine b.set (i:=(a.len:Int)-1) (c:=Z_ (FY (bs++fS row row.length) (afO ((a.len:Int)-1))) (q.len:Int)) ω (by rw[afQ,cE];omega) f.1 f.2 λu g f3=>?_;refine B u a ?_ (f2.trans f3);rw[l,KJ,List.set_append_right _ _ ω,show bs.length+row.length/8-bs.length=row.length/8 by omega,<-A]at g;exact g
structure Ms where
 kind:Int
 slot:Int
 target:Bs 32
 ax:Int
 body:Int
 bits:Sl
 tag:Bs 16
def Ms.tv(m:Ms):TV:=.agg [.i m.kind,.i m.slot,.bytes 32 m.target,.i m.ax,.int .u64 m.body,.slice m.bits,.bytes 16 m.tag]
def aU:Ms:=⟨0,0,af6 32,0,0,afV,af6 16⟩
theorem aZ{m:Ms}{b:Nat}(v:Var 58 h b m.tv){K:Int->Int->Bs 32->Int->Int->Sl->Bs 16->Prop}(H:K m.kind m.slot m.target m.ax m.body m.bits m.tag):
 ∃(n:Int),∃(q:Int),∃(A:Bs 32),∃(B:Int),∃(E:Int),∃(s:Sl),∃(G:Bs 16),(ah h b 0 (.i n)/\ah h b 1 (.i q)/\ay h b 2 32 A/\ah h b 34 (.i B)/\ah h b 35 (.int .u64 E)/\ah h b 36 (aW s)/\ay h b 37 16 G)/\K n q A B E s G:=
 ⟨m.kind,m.slot,m.target,m.ax,m.body,m.bits,m.tag,v.at,H⟩
theorem eZ{c d:Ms}:c.tv.size=d.tv.size:=by simp only[Ms.tv,ags,agM]
theorem ck{c:Ms}:53=c.tv.size:=by simp only[Ms.tv,ags,agM]
def dn(m:Ms)(row:List Bool):Bool:=
 !(decide (m.slot<0)||decide (1073741824<m.slot)||decide (m.ax<0)||decide (65535<m.ax)||(!decide (m.kind=1)&&!decide (m.body=0)))&&
   if m.kind=3 then decide (m.ax=0)&&(decide (row.length<=16)&&row.contains true)else(decide (m.kind=1)||decide (m.kind=2))&&decide (row.length=0)
def bidx:List Bool->Int->Int
 |[],_=>-1
 |b::bs,i=>if b=true then i else bidx bs (i+1)
theorem Fz:∀(l:List Bool)(i:Int),0<=i->(decide (0<=bidx l i)=l.contains true)
 |[],i,_=>by simp[bidx]
 |b::bs,i,q=>by
  unfold bidx;cases b with
  |true=>rw[if_pos rfl];simp[q]
  |false=>rw[if_neg δ,Fz bs (i+1) ω];simp
theorem OV{s:Sl}{l:List Bool}(e:ak 1 h s (aP l))(A:l.length<100000)(q:R (TV.i (bidx l 0)).val h):Cl 200 [.slice s,.bool true] h R:=by
 apply gN;delta jN lR iP bN;have el:l.length=s.len:=by have:=e.len;rwa [afM]at this
 refine⟨λσ b=>0<=σ.2/\σ.2<=s.len/\b=h/\bidx l 0=bidx (l.drop σ.2.toNat) σ.2,λσ _=>((s.len:Int)-σ.2).toNat,⟨afT 0,Ω,rfl,rfl⟩,?_⟩;rintro⟨f,i⟩ b ⟨c,d,rfl,a⟩;dsimp only at c d a⊢;refine ID (λg=>?_) λg=>?_
 ·refine jH e c ω λx j=>?_;rw[zF j,bidx]at a;cases x with
  |true=>
   rw[if_pos rfl]at a;rw[a]at q;exact af2 q
  |false=>
   rw[if_neg δ]at a;rw[wrap_i64 (n:=i+1) ω ω];have k:(i+1).toNat=i.toNat+1:=ω;refine afU ⟨⟨Ω,Ω,rfl,?_⟩,Ω⟩
   try dsimp only
   rw[k];exact a
 ·have m:l.drop i.toNat=[]:=agO ω;rw[m,bidx]at a;rw[a]at q;exact q
theorem sW{s:Sl}{l:List Bool}(e:ak 1 h s (aP l))(q:l.length<100000)(A:R (af1 (l.contains true)).val h):Cl 140 [.slice s,.bool true] h R:=by
 apply fN;refine OV e q ⟨_,rfl,?_⟩;dsimp only;rw[Fz l 0 (afT 0)];exact A
theorem Ia{m:Ms}{row:List Bool}(e:ak 1 h m.bits (aP row))(A:row.length<100000)(B:∀s,Ext h s->R (af1 (dn m row)).val s):Cl 232 [m.tv] h R:=by
 apply Gc m.kind m.slot m.target m.ax m.body m.bits m.tag;delta fK dh jw bO cV aJ bN mN;have el:row.length=m.bits.len:=by have:=e.len;rwa [afM]at this
 refine af λk v1 u K=>?_;have z:=v1.at (t:=m.tv);obtain⟨l,v,L,o,C,n,M⟩:=z;have a:=B k u;intro D w
 have x:∀b,m.slot>=0->m.slot<=1073741824->m.ax>=0->m.ax<=65535->(m.kind=1\/m.body=0)->D b k:=by
  intro b E F G H f;refine w b k ⟨_,l,?_⟩
  have p:(!(decide (m.slot<0)||decide (1073741824<m.slot)||decide (m.ax<0)||decide (65535<m.ax)||(!decide (m.kind=1)&&!decide (m.body=0))))=true:=by
   rcases f with f|f<;>simp[f]<;>omega
  unfold dn at a;rw[p,Bool.true_and]at a;refine ID (λq=>?_) λq=>?_
  ·rw[if_pos q]at a;refine⟨_,o,ID (λd=>⟨_,n,ID (λi=>⟨_,n,?_⟩) λi=>?_⟩) λd=>?_⟩
   ·refine sW (e.ext u) A ⟨_,rfl,?_⟩;rw[decide_eq_true d,decide_eq_true (show row.length<=16 by omega)]at a;exact a
   ·rw[decide_eq_true d,decide_eq_false (show¬row.length<=16 by omega)]at a;exact a
   ·rw[decide_eq_false d]at a;exact a
  ·rw[if_neg q,el]at a
   have I:decide (((m.bits.len:Nat):Int)=0)=decide (m.bits.len=0):=by
    by_cases y:m.bits.len=0
    ·rw[decide_eq_true y,decide_eq_true ω]
    ·rw[decide_eq_false y,decide_eq_false ω]
   rw[<-I]at a;refine⟨_,l,ID (λd=>⟨_,n,?_⟩) λd=>⟨_,l,ID (λi=>⟨_,n,?_⟩) λi=>?_⟩⟩
   ·rw[decide_eq_true d]at a;exact a
   ·rw[decide_eq_false d,decide_eq_true i]at a;exact a
   ·rw[decide_eq_false d,decide_eq_false i]at a;exact a
 have j:(m.slot<0\/1073741824<m.slot\/m.ax<0\/65535<m.ax\/(m.kind≠1/\m.body≠0))->R (af1 false).val k:=by
  intro c
  have p:(!(decide (m.slot<0)||decide (1073741824<m.slot)||decide (m.ax<0)||decide (65535<m.ax)||(!decide (m.kind=1)&&!decide (m.body=0))))=false:=by
   rcases c with c|c|c|c|⟨c,J⟩
   ·simp[c]
   ·simp[c]
   ·simp[c]
   ·simp[c]
   ·simp[c,J]
  unfold dn at a;rw[p,ahj]at a;exact a
 clear w;refine⟨_,v,ID (λg=>j (.inl g)) λE=>⟨_,v,ID (λg=>j (.inr (.inl g))) λF=>⟨_,o,ID (λg=>j (.inr (.inr (.inl g)))) λG=>⟨_,o,ID (λg=>j (.inr (.inr (.inr (.inl g))))) λH=>⟨_,l,agi (λf=>⟨_,C,agi (λr=>?_) λr=>?_⟩) λf=>?_⟩⟩⟩⟩⟩
 ·exact j (.inr (.inr (.inr (.inr ⟨by simpa using f,by simpa using r⟩))))
 ·exact x _ ω ω ω ω (.inr (by simpa using r))
 ·exact x _ ω ω ω ω (.inl (by simpa using f))
end
end Board
namespace Board
section
variable{R:Rq}{h:aa}
def c8(m:Ms)(row:List Bool):LU:=
 (([afX (afK .u8 m.kind).toNat]++vM (afK .u64 m.slot) 4)++m.target.l)++
   if m.kind=1 then vM (afK .u64 m.ax) 2++vM m.body 8 else if m.kind=2 then vM (afK .u64 m.ax) 2 else if m.kind=3 then OU row else[]
theorem wq(n:Int)(k:Nat):(vM n k).length=k:=fL k n
theorem OW(row:List Bool):(OU row).length=row.length/8+1:=by simp[OU,JE,cE]
theorem mT(m:Ms)(row:List Bool):(c8 m row).length<=60+row.length:=by
 unfold c8;simp only[afQ,wq,m.target.h,agj];split
 ·simp only[afQ,wq];omega
 ·split
  ·simp only[wq];omega
  ·split
   ·rw[OW];omega
   ·simp only[List.length_nil];omega
theorem sD{b o n c:Nat}{x:Bs n}(a:ay h b o n x):ak 1 h ⟨some ⟨b,o⟩,n,c⟩ (Ox x.l):=by
 refine⟨by rw[afM,x.h],(λf=>by cases f),λl g i t d=>?_⟩;obtain rfl:=Option.some.inj g;rw[ago]at d;obtain⟨u,e,rfl⟩:=agz.1 d;have j:i<n:=by rw[<-x.h];exact(agI.1 e).1
 have:=a i j;rw[afW,e]at this;show ah _ _ _ _;rw[agL];exact this
theorem KK{e:TypeId}{s:Sl}{n:Nat}{new:List Value}{K:Sl->aa->Prop}(H:aq ctx e s n new h K):aq tR e s n new h K:=H
theorem av{T:TypeId}{b n:Nat}{t0 t:TV}{K:aa->Prop}(v:Var T h b t0)(q:n=t0.size)(A:t.size=t0.size)(B:∀a,Var T a b t->ag (·=b) h a->a.size=h.size->K a):gi h b 0 n/\Bind (t.put h b 0) K:=by
 subst q;exact aH v A B
theorem wu{Q:Nat->Prop}{s:Sl}{bs us:LU}{n:Nat}{K:Sl->aa->Prop}(q:n=us.length)(r:Row Q h s bs)(A:bs.length+us.length<10000)
 (B:∀a b,Row Q b a (bs++us)->ag (In s) h b->(∀l,a.a=some l->(∃d,s.a=some d/\d.b=l.b)\/h.size<=l.b)->K a b):
 aq ctx 5 s n (us.map λc=>agu .u8 (c.toNat:Int)) h K:=by
 subst q;exact Ez r A B
theorem Ib{m:Ms}{row:List Bool}(e:ak 1 h m.bits (aP row))(A:row.length<500)(q:∀v,Ext h v->R (agq (c8 m row)).val v):Cl 265 [m.tv] h R:=by
 apply EL m.kind m.slot m.target m.ax m.body m.bits m.tag;delta jg iz dh BF iJ rH dI iI fC aJ bh eE;have el:row.length=m.bits.len:=by have:=e.len;rwa [afM]at this
 refine af λa v1 F s1=>?_;have G:=v1.at (t:=m.tv);obtain⟨H,I,J,K,L,a5,a6⟩:=G;have hw:=aO m.kind;have w:=af5 a (Vc.row (afY [age .u8 (afK .u8 m.kind)]) 5)
 have r1:Row (λi=>h.size<i) (a.push (Vc.row (afY [age .u8 (afK .u8 m.kind)]) 5)) ⟨some ⟨a.size,0⟩,1,1⟩ [afX (afK .u8 m.kind).toNat]:=by
  have o:=agx (T:=5) (sz:=1) a [age .u8 (afK .u8 m.kind)] (λt z=>by
   simp only[ahv,List.not_mem_nil,or_false]at z;subst z;rfl)
  have M:HP (afX (afK .u8 m.kind).toNat)=age .u8 (afK .u8 m.kind):=by
   unfold HP;rw[ag8];congr 1;omega
  refine⟨?_,λl A=>?_,λi b=>?_⟩
  ·have N:Ox [afX (afK .u8 m.kind).toNat]=[age .u8 (afK .u8 m.kind)]:=by simp[Ox,M]
   rw[N];exact o
  ·obtain rfl:=Option.some.inj A;show h.size<a.size;omega
  ·rw[ahu]at b;omega
 refine⟨_,H,_,lI w I,?_⟩;refine gw (k:=4) r1 (by simp) δ λO s2 B C=>⟨_,rfl,?_⟩;have P:Ext a O:=afN w C λi b=>ω;have Q:aA (agk (some (Vc.Loc.mk h.size 2)) 32 32) 0 32 1=⟨some ⟨h.size,2⟩,32,32⟩:=rfl;rw[Q];refine⟨m.target.l.map λc=>agu .u8 (c.toNat:Int),by rw[<-qw];exact(sD (NV P J)).cells (zz _) δ,qR m.target.l,KK ?_⟩;refine wu m.target.h.symm B (by rw[afQ,wq,agj,m.target.h];decide) λs3 x p f3 D=>?_;have f3:=B.cut f3;have r:Ext a x:=afN w (C.trans f3) λi b=>ω;have f:=F.trans r;have S:Var 58 x h.size m.tv:=v1.ext r;have U:=S.at;obtain⟨V,b1,b2,D,b4,W,b6⟩:=U
 have s:(([afX (afK .u8 m.kind).toNat]++vM (afK .u64 m.slot) 4)++m.target.l).length=37:=by
  rw[afQ,afQ,wq,agj,m.target.h]
 refine⟨_,V,ID (λg=>?_) λg=>agW.2 ⟨λu=>?_,λu=>ID (λy=>?_) λy=>?_⟩⟩
 ·refine⟨a,r.sub,_,K,_,L,?_⟩;refine gw (k:=2) p (by rw[s];decide) δ λj E n d=>⟨_,rfl,(afN r d λi b=>by omega:Ext a j).sub,?_⟩;refine gw (k:=8) n (by rw[afQ,s,wq];decide) δ λX s5 Y Z=>⟨_,rfl,_,Y.str,?_⟩;have:=q X (afN f (d.trans Z) λi b=>ω);unfold c8 at this;rw[if_pos g,<-agF]at this;exact this
 ·refine⟨_,D,?_⟩;refine gw (k:=2) p (by rw[s];decide) δ λj E n d=>⟨_,rfl,_,n.str,?_⟩;have:=q j (afN f d λi b=>ω);unfold c8 at this;rw[if_neg g,if_pos u]at this;exact this
 ·refine⟨_,W,?_⟩;refine EK p (by rw[s];decide) ω el (λv o'=>e.ext (afN f o' λi b=>ω)) λj E n d=>⟨_,rfl,_,n.str,?_⟩;have:=q j (afN f d λi b=>ω);unfold c8 at this;rw[if_neg g,if_neg u,if_pos y]at this;exact this
 ·have:=q x f;unfold c8 at this;rw[if_neg g,if_neg u,if_neg y,ahB]at this;exact⟨_,p.str,this⟩
end
end Board
namespace Board
section
variable{R:Rq}{h:aa}
theorem abA:∀k:Fin 8,∀c:Fin 256,c.val<2^k.val->
 afK .u8 ((afP (afL .u8) ((c.val:Nat):Int)|||afP (afL .u8) (afK .u8 (1*2^min (afO ((k.val:Nat):Int)) (afL .u8)))).toNat:Int)=((c.val+2^k.val:Nat):Int):=by decide+kernel
theorem aaU(i:Nat):agc (i:Int) 8=((i%8:Nat):Int):=by
 rw[agN ω];rfl
theorem Tk{c i:Nat}(q:c<2^(i%8)):Z_ (c:Int) (i:Int)=((c+2^(i%8):Nat):Int):=by
 unfold Z_;rw[aaU];have a:i%8<8:=ahw _ δ;have b:2^(i%8)<=2^7:=agQ δ ω;exact abA ⟨i%8,a⟩ ⟨c,ω⟩ q
def bn(l:LU)(j:Nat):Nat:=(l.getD j 0).toNat
theorem Q7(l:LU)(j:Nat):FY l j=(bn l j:Int):=rfl
theorem abB{l:LU}{i j:Nat}{x:UInt8}(q:i<l.length):bn (l.set i x) j=if i=j then x.toNat else bn l j:=by
 unfold bn;rw[afW,ahr];by_cases a:i=j
 ·subst a;rw[if_pos rfl,if_pos rfl,if_pos q];rfl
 ·rw[if_neg a,if_neg a,<-afW]
theorem wz(row:List Bool):∀(i:Nat),i<=row.length->∀j,bn (fS row i) j<2^(i-8*j)
 |0,_,j=>by
  have:bn (fS row 0) j=0:=by
   unfold bn fS;rw[afW,List.getElem?_replicate];split<;>rfl
  rw[this];exact Nat.two_pow_pos _
 |i+1,f,j=>by
  have a:=wz row i ω;have mono:2^(i-8*j)<=2^(i+1-8*j):=agQ δ ω;unfold fS;split
  ·have c:i/8<(fS row i).length:=by rw[cE];omega
   unfold JE;rw[abB c];split
   ·rename_i g;have b:=a (i/8);have d:i-8*(i/8)=i%8:=ω;rw[d]at b;rw[Q7,Tk b,agm,ag8];have h:2^(i%8)<=2^7:=agQ δ ω;have e:i+1-8*j=i%8+1:=ω;rw[e,ahD];rw[ahf ω];omega
   ·exact ahn (a j) mono
  ·exact ahn (a j) mono
def dG(row:List Bool)(i:Nat):LU:=(fS row i).take ((i+7)/8)
theorem UG{row:List Bool}{i:Nat}(q:i<=row.length+1):(dG row i).length=(i+7)/8:=by
 unfold dG;rw[af7,cE];omega
theorem aaa{row:List Bool}{i:Nat}(q:i<=row.length):(fS row i).take ((i+8)/8)=if i%8=0 then dG row i++[0]else dG row i:=by
 unfold dG;split
 ·rename_i d;have a:(i+8)/8=i/8+1:=ω;have e:(i+7)/8=i/8:=ω;have c:i/8<(fS row i).length:=by rw[cE];omega
  have f:=wz row i q (i/8);rw[show i-8*(i/8)=0 by omega]at f;rw[a,e,ag1,agh c];have b:bn (fS row i) (i/8)=0:=ω;unfold bn at b;rw[afW,agh c]at b;have:(fS row i)[i/8]=0:=agE.1 b;rw[this];rfl
 ·rename_i d;have a:(i+8)/8=(i+7)/8:=ω;rw[a]
theorem b4:(ctx.ti 4).bytes=1:=κ
theorem sz4:(ctx.ti 4).size=1:=κ
theorem zz4:(ctx.ti 4).z.size=1:=κ
def cG(row:List Bool)(i:Nat):LU:=if i<=row.length then dG row i else OU row
theorem XL{l:LU}{m j:Nat}(h:j<m):FY (l.take m) j=FY l j:=by
 unfold FY;rw[afW,afW,ahm,if_pos h]
theorem adh{row:List Bool}{i:Nat}(A:i<=row.length)(q:(row++[true])[i]? =some false):cG row (i+1)=(fS row i).take ((i+8)/8):=by
 have a:i<row.length:=by
  apply ahz;intro c;have:i=row.length:=ω;subst this;simp at q
 rw[agG a]at q;unfold cG dG;rw[if_pos ω]
 have b:fS row (i+1)=fS row i:=by
  rw[fS,if_neg];rw[afW,q];decide
 rw[b]
theorem abC{row:List Bool}{i:Nat}(A:i<=row.length)(q:(row++[true])[i]? =some true):cG row (i+1)=((fS row i).take ((i+8)/8)).set (i/8) (afX (bn (fS row i) (i/8)+2^(i%8))):=by
 have a:=wz row i A (i/8);rw[show i-8*(i/8)=i%8 by omega]at a
 have b:(JE (fS row i) i).take ((i+8)/8)=((fS row i).take ((i+8)/8)).set (i/8) (afX (bn (fS row i) (i/8)+2^(i%8))):=by
  unfold JE;rw[Q7,Tk a,agm,List.take_set]
 by_cases c:i<row.length
 ·rw[agG c]at q;unfold cG dG;rw[if_pos ω]
  have d:fS row (i+1)=JE (fS row i) i:=by
   rw[fS,if_pos];rw[afW,q];rfl
  rw[d];exact b
 ·have e:i=row.length:=ω;subst e;unfold cG;rw[if_neg ω,<-b];unfold OU;rw[ag2];simp[JE,cE]
theorem My{s:Sl}{row:List Bool}(e:ak 1 h s (aP row))(q:row.length<500)(W:∀G,Ext h G->R (agq (OU row)).val G):Cl 223 [.slice s] h R:=by
 apply uA;delta aG gu iJ jT iP dL dI fJ jY iI bN eE;have el:row.length=s.len:=by have:=e.len;rwa [afM]at this
 have H:=af5 h (Vc.row (afY []) 4);refine pT (C:=ctx) (T:=4) (sz:=1) sz4 zz4 (by rw[b4];decide) δ (by rw[b4];show(0+s.len)*1<=_;omega) (agx (T:=4) (sz:=1) h [] (λt X=>by cases X)) (e.ext H) (λu a=>by obtain⟨b,_,rfl⟩:=agy.1 a;rfl) (λu a=>by obtain⟨b,_,rfl⟩:=agy.1 a;rfl) λY Z I ar f1 b1=>?_
 have ab:Ext h Z:=afN H f1 λi⟨l,q,f⟩=>by
  obtain rfl:=Option.some.inj q;rw[<-f];exact afR _
 have l1:Y.len=row.length:=by have:=I.len;rw[aho,afM]at this;exact this.symm
 refine cz (C:=ctx) (T:=4) (sz:=1) (x:=.bool true) sz4 zz4 (by rw[b4];decide) (by rw[b4];omega) I rfl rfl λy m o2 f2 b2=>?_
 have ac:Ext h m:=afN ab f2 λi⟨l,q,f⟩=>by
  rcases b1 l q with⟨l',ad,B⟩|B
  ·obtain rfl:=Option.some.inj ad;rw[<-f,<-B];exact afR _
  ·rw[ahu]at B;omega
 have e2:ak 1 m y (aP (row++[true])):=by
  have:=o2.elems;simpa[aP]using this
 have l2:y.len=row.length+1:=by have:=e2.len;rw[afM,afQ]at this;exact this.symm
 refine⟨λσ r=>0<=σ.2/\σ.2<=y.len/\Row (λb=>m.size<=b) r σ.1 (cG row σ.2.toNat)/\Ext m r,λσ _=>((y.len:Int)-σ.2).toNat,
  ⟨afT 0,Ω,⟨agn _ _ _,(λl q=>by cases q),λi f=>f⟩,af9 _⟩,?_⟩
 rintro⟨out,i⟩ K ⟨L,i1,c,v⟩;dsimp only at L i1 c v⊢;refine ID (λf=>?_) λf=>?_
 ·refine jH (e2.ext v) L (by rw[afQ,agj];omega) λx M=>?_;have g:i.toNat<=row.length:=ω;have ae:cG row i.toNat=dG row i.toNat:=if_pos g;rw[ae]at c;have aw:=UG (row:=row) (i:=i.toNat) ω
  have D:agc i 8=((i.toNat%8:Nat):Int):=by
   have:=aaU i.toNat
   rwa [show((i.toNat:Nat):Int)=i by omega]at this
  rw[wrap_i64 (n:=i+1) ω ω];have N:(i+1).toNat=i.toNat+1:=ω;intro J O
  have step:∀(o:Sl)(d:aa),Row (λb=>m.size<=b) d o ((fS row i.toNat).take ((i.toNat+8)/8))->Ext m d->J o d:=by
   intro o d p Q;refine O o d ?_;have E:((fS row i.toNat).take ((i.toNat+8)/8)).length=i.toNat/8+1:=by rw[af7,cE];omega
   have al:=p.len;rw[E]at al;cases x with
   |false=>
    refine afU ⟨⟨Ω,Ω,?_,Q⟩,Ω⟩
    try dsimp only
    rw[N,adh g M];exact p
   |true=>
    refine af2 ?_;refine⟨λσ r=>0<=σ.2/\σ.2<=agc i 8/\d=r/\σ.1=((2^σ.2.toNat:Nat):Int),λσ _=>(agc i 8-σ.2).toNat,⟨afT 0,by rw[D];exact ag3 _,rfl,rfl⟩,?_⟩;rintro⟨u,k⟩ r ⟨k0,S,rfl,a⟩;dsimp only at k0 S a⊢;refine⟨δ,?_⟩;rw[D]at S⊢;have aE:i.toNat%8<8:=ahw _ δ;have am:2^k.toNat<=2^7:=agQ δ ω;obtain⟨P,w⟩:∃P,P=2^k.toNat:=⟨_,rfl⟩;rw[<-w]at a am;refine ID (λhk=>?_) λhk=>?_
    ·rw[wrap_i64 (n:=2*u) ω ω,wrap_i64 (n:=k+1) ω ω];refine⟨⟨ω,ω,rfl,?_⟩,Ω⟩;rw[a,show(k+1).toNat=k.toNat+1 by omega,ahD,<-w];omega
    ·have ao:k.toNat=i.toNat%8:=ω;rw[ao]at w;rw[wrap_i64 (n:=(o.len:Int)-1) ω ω];have z:afO ((o.len:Int)-1)=i.toNat/8:=ω;have U:=wz row i.toNat g (i.toNat/8);rw[show i.toNat-8*(i.toNat/8)=i.toNat%8 by omega]at U;refine vH (bs:=(fS row i.toNat).take ((i.toNat+8)/8)) p.own.elems ω (by rw[E];omega) ?_;rw[z,XL ω,Q7]
     have ap:afK .u8 ((bn (fS row i.toNat) (i.toNat/8):Int)+afK .u8 u)=((bn (fS row i.toNat) (i.toNat/8)+2^(i.toNat%8):Nat):Int):=by
      rw[a,wrap_u8,wrap_u8,<-w];rw[<-w]at U;omega
     rw[ap,show i.toNat/8=((o.len:Int)-1).toNat from z.symm];refine p.set (i:=(o.len:Int)-1) ω (by rw[E];omega) ω (by rw[z];omega) λh5 V f5=>?_;refine⟨⟨Ω,Ω,?_,afN Q f5 λj F=>F⟩,Ω⟩
     try dsimp only
     rw[N,abC g M];rw[z,agm]at V;exact V
  clear O;refine⟨δ,?_⟩;rw[D];have A:=aaa (row:=row) (i:=i.toNat) g;refine ID (λh8=>?_) λh8=>?_
  ·rw[if_pos ω]at A;refine Oy c ω δ δ λs4 d p f4 b4=>?_;refine step s4 d ?_ (afN v (c.cut f4) λj F=>F);rw[A];exact p
  ·rw[if_neg ω]at A;refine step out K ?_ v;rw[A];exact c
 ·have g:i.toNat=row.length+1:=ω;rw[g]at c;have hc:cG row (row.length+1)=OU row:=if_neg ω;rw[hc]at c;exact⟨_,c.str,W K (ac.trans v)⟩
def yes:List Bool->Nat
 |[]=>0
 |b::l=>(if b=true then 1 else 0)+yes l
theorem OX:∀(l:List Bool)(b:Bool),yes (l++[b])=yes l+if b=true then 1 else 0
 |[],b=>by simp[yes]
 |a::l,b=>by rw[ahC,yes,yes,OX l b];omega
theorem XM:∀l:List Bool,yes l<=l.length
 |[]=>afR _
 |b::l=>by have:=XM l;rw[yes,agR];split<;>omega
theorem Tm:∀l:List Bool,decide (0<((yes l:Nat):Int))=l.contains true
 |[]=>by simp[yes]
 |b::l=>by
  have a:=Tm l;rw[yes];cases b with
  |true=>simp;omega
  |false=>simp at a⊢;exact a
theorem wC{m:Ms}{row:List Bool}(e:ak 1 h m.bits (aP row))(W:row.length<100000)(E:∀u,Ext h u->R (af1 (dn m row)).val u):Cl 97 [m.tv] h R:=by
 apply wv m.kind m.slot m.target m.ax m.body m.bits m.tag;delta fK dh jN bO cV iP i_ aJ bN mN;have el:row.length=m.bits.len:=by have:=e.len;rwa [afM]at this
 refine af λj v1 v V=>?_;have F:=v1.at (t:=m.tv);obtain⟨k,w,X,l,z,o,Y⟩:=F;have a:=E j v;intro G A
 have H:∀b,1<=m.kind->m.kind<=3->m.slot>=0->m.slot<=1073741824->m.ax>=0->m.ax<=65535->G b j:=by
  intro b Z k2 I J K L;refine A b j ⟨m.bits,o,?_⟩;refine⟨λσ B=>0<=σ.2/\σ.2<=m.bits.len/\B=j/\σ.1=((yes (row.take σ.2.toNat):Nat):Int),λσ _=>((m.bits.len:Int)-σ.2).toNat,⟨afT 0,Ω,rfl,by simp[yes]⟩,?_⟩;rintro⟨y,i⟩ B ⟨C,M,rfl,p⟩;dsimp only at C M p⊢;refine ID (λN=>?_) λN=>?_
  ·refine jH (e.ext v) C ω λx O=>?_;have q:=OX (row.take i.toNat) x;rw[<-bq O]at q;have P:=XM (row.take i.toNat);rw[af7]at P;rw[wrap_i64 (n:=i+1) ω ω];have D:(i+1).toNat=i.toNat+1:=ω;cases x with
   |true=>
    rw[wrap_i64 (n:=y+1) ω ω];refine af2 ⟨⟨Ω,Ω,rfl,?_⟩,Ω⟩
    try dsimp only
    rw[D,q,if_pos rfl];omega
   |false=>
    refine afU ⟨⟨Ω,Ω,rfl,?_⟩,Ω⟩
    try dsimp only
    rw[D,q,if_neg δ];omega
  ·have Q:row.take i.toNat=row:=ag2 ω;rw[Q]at p;subst p;have S:=Tm row
   have T:∀r:Bool,(!(decide (m.slot<0)||decide (1073741824<m.slot)||decide (m.ax<0)||decide (65535<m.ax)||r))=!r:=by
    intro r;rw[decide_eq_false (show¬m.slot<0 by omega),decide_eq_false (show¬1073741824<m.slot by omega),decide_eq_false (show¬m.ax<0 by omega),decide_eq_false (show¬65535<m.ax by omega)];rfl
   unfold dn at a;rw[T]at a;refine⟨_,k,ID (λs=>?_) λs=>?_⟩
   ·rw[if_pos s,decide_eq_false (show¬m.kind=1 by omega),<-S]at a;refine⟨_,l,ID (λg=>⟨_,z,ID (λd=>⟨_,o,ID (λU=>?_) λU=>?_⟩) λd=>?_⟩) λg=>?_⟩
    ·rw[decide_eq_true g,decide_eq_true d,decide_eq_true (show row.length<=16 by omega)]at a;simpa using a
    ·rw[decide_eq_true g,decide_eq_true d,decide_eq_false (show¬row.length<=16 by omega)]at a;simpa using a
    ·rw[decide_eq_false d]at a;simpa using a
    ·rw[decide_eq_false g]at a;simpa using a
   ·rw[if_neg s]at a;refine⟨_,o,ID (λg=>⟨_,k,ID (λd=>?_) λd=>⟨_,z,?_⟩⟩) λg=>?_⟩
    ·rw[decide_eq_true d,decide_eq_true (show row.length=0 by omega)]at a;simpa using a
    ·rw[decide_eq_false d,decide_eq_true (show row.length=0 by omega),decide_eq_true (show m.kind=2 by omega)]at a;simpa using a
    ·rw[decide_eq_false (show¬row.length=0 by omega)]at a;simpa using a
 have f:(m.kind<1\/3<m.kind\/m.slot<0\/1073741824<m.slot\/m.ax<0\/65535<m.ax)->R (af1 false).val j:=by
  intro c
  have:dn m row=false:=by
   unfold dn;rcases c with c|c|c|c|c|c
   ·rw[if_neg ω,decide_eq_false (show¬m.kind=1 by omega),decide_eq_false (show¬m.kind=2 by omega)];simp
   ·rw[if_neg ω,decide_eq_false (show¬m.kind=1 by omega),decide_eq_false (show¬m.kind=2 by omega)];simp
   ·simp[c]
   ·simp[c]
   ·simp[c]
   ·simp[c]
  rw[this]at a;exact a
 clear A;exact⟨_,k,ID (λg=>f (.inl g)) λI=>⟨_,k,ID (λg=>f (.inr (.inl g))) λJ=>⟨_,w,ID (λg=>f (.inr (.inr (.inl g)))) λK=>⟨_,w,ID (λg=>f (.inr (.inr (.inr (.inl g))))) λL=>⟨_,l,ID (λg=>f (.inr (.inr (.inr (.inr (.inl g)))))) λg5=>⟨_,l,ID (λg=>f (.inr (.inr (.inr (.inr (.inr g)))))) λg6=>H _ ω ω ω ω ω ω⟩⟩⟩⟩⟩⟩
end
end Board
namespace Board
section
variable{R:Rq}{h:aa}
def jC(m:Ms):Prop:=0<=m.body/\m.body<18446744073709551616
theorem UH{n:Int}(h:n=1\/n=2\/n=3):KE (afK .u64 n) 1=[afX (afK .u8 n).toNat]:=by
 rcases h with h|h|h<;>subst h<;>rfl
theorem kV{m:Ms}{row:List Bool}(q:dn m row=true):m.kind=1\/m.kind=2\/m.kind=3:=by
 by_cases a:m.kind=3
 ·exact .inr (.inr a)
 ·unfold dn at q;rw[if_neg a]at q;simp only[agH,ahd,decide_eq_true_eq]at q;rcases q.2.1 with h|h
  ·exact .inl h
  ·exact .inr (.inl h)
theorem uC{b:Nat}{q:aa}(A:b<q.size):Row (λi=>b<i) (q.push (Vc.row (afY []) 5)) ⟨some ⟨q.size,0⟩,0,0⟩ []:=by
 refine⟨agx (T:=5) (sz:=1) q [] (λt a=>by cases a),λl c=>?_,λi d=>?_⟩
 ·obtain rfl:=Option.some.inj c;exact A
 ·rw[ahu]at d;omega
theorem Row.ext{Q:Nat->Prop}{q:aa}{s:Sl}{bs:LU}(r:Row Q h s bs)(e:Ext h q):Row Q q s bs:=
 ⟨r.own.ext e,r.sP,λi a=>r.new i (agv e.size a)⟩
theorem EM{m:Ms}{b:Nat}{s:Sl}{K:Sl->Rq}(v:Var 58 h b m.tv)(r:Row (λi=>b<i) h s [])(A:∀d a,ag (λi=>b<i) h a->K d (agq m.target.l).val a):
 ∃(new:List Value),cv h (aA (agk (some (Vc.Loc.mk b 2)) 32 32) 0 32 1) 1 new/\(∀(v:Value),v∈new->bQ v=true)/\aq ctx 5 s (aA (agk (some (Vc.Loc.mk b 2)) 32 32) 0 32 1).len new h λ(q:Sl)(B:Array Obj)=>Cl 159 [agl q] B (K q):=by
 obtain⟨l,n,e,o,p,u,w⟩:=v.at (t:=m.tv);have f:aA (agk (some (Vc.Loc.mk b 2)) 32 32) 0 32 1=⟨some ⟨b,2⟩,32,32⟩:=rfl;rw[f];refine⟨m.target.l.map λc=>agu .u8 (c.toNat:Int),by rw[<-qw];exact(sD e).cells (zz _) δ,qR m.target.l,?_⟩;refine wu m.target.h.symm r (by rw[m.target.h];decide) λg j k f3 x=>?_;apply lX;delta BF;exact⟨_,k.str,A g j (r.cut f3)⟩
theorem nA{m:Ms}{row:List Bool}(e:ak 1 h m.bits (aP row))(O:row.length<500)(U:m.kind=1\/m.kind=2\/m.kind=3)(B:jC m)(q:∀C,Ext h C->R (agq (c8 m row)).val C):Cl 158 [m.tv] h R:=by
 apply uB m.kind m.slot m.target m.ax m.body m.bits m.tag;delta fK dh zo iJ cV rH mO dI jY iI fC aJ bh eE;refine af λp v1 N s1=>?_;have v1:Var 58 p h.size m.tv:=v1;obtain⟨Q,S,a2,a3,a4,a5,a6⟩:=v1.at (t:=m.tv);intro T D;obtain⟨P,f⟩:∃P,P=([afX (afK .u8 m.kind).toNat]++vM (afK .u64 m.slot) 4)++m.target.l:=⟨_,rfl⟩
 have r:P.length=37:=by
  rw[f,afQ,afQ,wq,agj,m.target.h]
 have k:=fM m.ax;have E:=fM m.slot
 have u:∀(s:Int×Int×LU×Int×Int×LU×LU×Sl×Sl×Sl×LU×LU×LU)(l:aa),Ext p l->s.2.2.2.2.2.2.2.2.2.2.2.2=P->T s l:=by
  intro s l F V;refine D s l ?_;dsimp only;rw[V];have W:=v1.ext F;obtain⟨G,b1,b2,X,b4,Y,b6⟩:=W.at (t:=m.tv);have o:=N.trans F;refine⟨_,G,ID (λH=>⟨_,Y,My (e.ext o) O λv d=>⟨_,rfl,?_,?_⟩⟩) λH=>⟨_,X,bE 2 _ _ _ δ λv d=>⟨_,rfl,?_,_,lI d G,ID (λw=>⟨_,lI d b4,bE 8 _ _ _ δ λZ x7=>⟨_,rfl,?_,?_⟩⟩) λw=>?_⟩⟩⟩
  ·rw[r,OW];omega
  ·have:=q v (o.trans d);unfold c8 at this;rw[if_neg ω,if_neg ω,if_pos H,<-f]at this;exact this
  ·rw[r,dy];decide
  ·rw[afQ,r,dy,dy];decide
  ·have:=q Z ((o.trans d).trans x7);unfold c8 at this;rw[if_pos w,<-f,<-zH 2 _ k.1 k.2,<-zH 8 _ B.1 B.2,<-agF]at this;exact this
  ·have:=q v (o.trans d);unfold c8 at this;rw[if_neg w,if_pos ω,<-f,<-zH 2 _ k.1 k.2]at this;exact this
 clear D;have I:∀n,(KE n 1).length=1:=dy 1;have J:∀n,(KE n 4).length=4:=dy 4;have lT:=m.target.h
 have x:(KE (afK .u64 m.kind) 1++KE (afK .u64 m.slot) 4)++m.target.l=P:=by
  rw[f,UH U,zH 4 _ E.1 E.2]
 have y:((KE (afK .u64 m.kind) 1).length+(KE (afK .u64 m.slot) 4).length:Nat)<=(9223372036854775807:Int):=by rw[I,J];decide
 have z:((KE (afK .u64 m.kind) 1++KE (afK .u64 m.slot) 4).length+m.target.l.length:Nat)<=(9223372036854775807:Int):=by rw[afQ,I,J,lT];decide
 refine⟨_,Q,_,S,⟨bE 1 _ _ _ δ λK a=>⟨_,rfl,a,⟨bE 4 _ _ _ δ λA b=>⟨_,rfl,y,af5 _ _,?_⟩,af5 _ _,bE 4 _ _ _ δ λA b=>⟨_,rfl,y,?_⟩⟩⟩,af5 _ _,bE 1 _ _ _ δ λK a=>⟨_,rfl,a,bE 4 _ _ _ δ λA b=>⟨_,rfl,y,?_⟩⟩⟩⟩
 ·have z2:=a.size;have z3:=b.size;have c:=(a.trans b).trans (af5 A (Vc.row (afY []) 5));exact EM (v1.ext c) (uC ω) λL g j=>⟨_,rfl,z,u _ g (afN c j λi M=>ω) x⟩
 ·have z2:=a.size;have c:=(a.trans (af5 K (Vc.row (afY []) 5))).trans b;exact EM (v1.ext c) ((uC ω).ext b) λL g j=>⟨_,rfl,z,u _ g (afN c j λi M=>ω) x⟩
 ·have c:=((af5 p (Vc.row (afY []) 5)).trans a).trans b;exact EM (v1.ext c) ((uC ω).ext (a.trans b)) λL g j=>⟨_,rfl,z,u _ g (afN c j λi M=>ω) x⟩
theorem b16{x:Bs 16}:(agK 16 x).size=16:=by simp only[ags]
theorem Dx{slot who:Int}{target:Bs 32}(q:∀a,Ext h a->R (agq (c8 ⟨2,slot,target,who,0,afV,af6 16⟩ [])).val a):
 Cl 158 [.agg [.i 2,.i slot,.bytes 32 target,.i who,.int .u64 0,.slice afV,.bytes 16 (af6 16)]] h R:=
 nA (m:=⟨2,slot,target,who,0,afV,af6 16⟩) (row:=[]) (ak.y_ 1 h) δ (.inr (.inl rfl)) ⟨afT 0,by show(0:Int)<_;decide⟩ q
end
end Board
namespace Pool
theorem adi{h:aa}{b o:Nat}{x:It}(E:x.tv.at h b o){K:Int->Bs 32->Int->Bs 32->LU->Prop}(G:K x.slot x.root x.peer x.fr x.text):
 ∃(n:Int),∃(c:Bs 32),∃(q:Int),∃(B:Bs 32),∃(s:LU),(ah h b o (.i n)/\ay h b (o+1) 32 c/\ah h b (o+1+32) (.i q)/\ay h b (o+1+32+1) 32 B/\ah h b (o+1+32+1+32) (.string (agC (ag4 s))))/\K n c q B s:=by
 have a:ah h b o (.i x.slot)/\ay h b (o+1) 32 x.root/\ah h b (o+1+32) (.i x.peer)/\ay h b (o+1+32+1) 32 x.fr/\ah h b (o+1+32+1+32) (.string (agC (ag4 x.text))):=E;obtain⟨d,e,f,g,j⟩:=a;exact⟨_,_,_,_,_,⟨d,e,f,g,j⟩,G⟩
section
variable{T:TypeId}{h:aa}{b:Nat}{x:It}(v:Var T h b x.tv)
include v
theorem mU:ah h b 0 (.i x.slot):=v.at.1
theorem jU:ay h b 1 32 x.root:=v.at.2.1
theorem Ie:ah h b 33 (.i x.peer):=v.at.2.2.1
theorem abD:ay h b 34 32 x.fr:=v.at.2.2.2.1
theorem Mz:ah h b 66 (.string (agC (ag4 x.text))):=v.at.2.2.2.2
theorem pZ{K:Int->Bs 32->Int->Bs 32->LU->Prop}(E:K x.slot x.root x.peer x.fr x.text):
 ∃(n:Int),∃(c:Bs 32),∃(q:Int),∃(B:Bs 32),∃(s:LU),(ah h b 0 (.i n)/\ay h b 1 32 c/\ah h b 33 (.i q)/\ay h b 34 32 B/\ah h b 66 (.string (agC (ag4 s))))/\K n c q B s:=
 ⟨_,_,_,_,_,⟨mU v,jU v,Ie v,abD v,Mz v⟩,E⟩
end
abbrev oc(L:List It):List TV:=L.map It.tv
theorem qU(L:List It):∀t∈oc L,t.size=67:=λt a=>by
 obtain⟨x,_,rfl⟩:=agy.1 a;rfl
theorem uE(L:List It):∀t∈oc L,t.plain=true:=λt a=>by
 obtain⟨x,_,rfl⟩:=agy.1 a;rfl
theorem gJ{h:aa}{s:Sl}{L:List It}{i:Int}(e:ak 67 h s (oc L))(E:0<=i)(H:i<L.length){K:Vc.Loc->Int->Bs 32->Int->Bs 32->LU->Prop}
 (G:∀l x,s.a=some l->L[i.toNat]? =some x->K l x.slot x.root x.peer x.fr x.text):
 0<=i/\i<(s.len:Int)/\Nn s.a λ(l:Vc.Loc)=>∃(n:Int),∃(c:Bs 32),∃(q:Int),∃(B:Bs 32),∃(t:LU),(ah h l.b (l.o+i.toNat*67) (.i n)/\ay h l.b (l.o+i.toNat*67+1) 32 c/\ah h l.b (l.o+i.toNat*67+1+32) (.i q)/\ay h l.b (l.o+i.toNat*67+1+32+1) 32 B/\ah h l.b (l.o+i.toNat*67+1+32+1+32) (.string (agC (ag4 t))))/\K l n c q B t:=by
 have b:=e.len;rw[afM]at b;refine e.read E ω λl t d a f=>?_;rw[ago]at a;obtain⟨x,g,rfl⟩:=agz.1 a;exact adi f (G l x d g)
theorem Gz{L:List It}{i:Nat}{x:It}(h:L[i]? =some x):x=bY L i:=(vC h).symm
theorem vN{T:TypeId}{h:aa}{b n c:Nat}{x:Bs n}(v:Var T h b (.bytes n x)):jM h ⟨some ⟨b,0⟩,n,c⟩ x.l:=
 ⟨x.h,.inr ⟨_,rfl,λj a=>by
  have:=v.bytes j (by rw[<-x.h];exact a);rw[this];simp[List.getD,a]⟩⟩
section
variable{R:Rq}{h:aa}
theorem mP{a b:Bs 32}(q:∀c,Ext h c->R (af1 (af0 a.l b.l)).val c):iB Tryz.prog 198 (agZ [.bytes 32 a,.bytes 32 b]) h R:=by
 apply zD;delta gu bV fC bK eE;refine af λg v1 e i=>af λj f d k=>?_;exact⟨a.l,vN (v1.ext d),b.l,vN f,q _ (e.trans d)⟩
theorem Kv{a b:Bs 32}(q:∀c,Ext h c->R (af1 (af0 a.l b.l)).val c):Cl 198 [.bytes 32 a,.bytes 32 b] h R:=(mP q).weak
theorem wD{x y:It}(q:∀a,Ext h a->R (af1 (bf x y)).val a):iB Tryz.prog 256 (agZ [x.tv,y.tv]) h R:=by
 apply Dy x.slot x.root x.peer x.fr x.text y.slot y.root y.peer y.fr y.text;delta qL bO i_ bu aJ bK mN;refine af λn v1 g o=>af λe b f p=>?_;have c:=v1.ext f;have d:=g.trans f;refine⟨x.slot,mU (x:=x) c,y.slot,mU (x:=y) b,ID (λi=>?_) λj=>?_⟩
 ·have:=q e d
  rwa [show bf x y=true from L_.2 (.inl i)]at this
 ·refine⟨x.slot,mU (x:=x) c,y.slot,mU (x:=y) b,ID (λk=>?_) λl=>?_⟩
  ·refine⟨x.root,jU (x:=x) c,y.root,jU (x:=y) b,mP λa m=>⟨_,rfl,?_⟩⟩;have:=q a (d.trans m)
   rwa [show bf x y=af0 x.root.l y.root.l by unfold bf;simp[k]]at this
  ·have:=q e d
   rwa [show bf x y=false by unfold bf;simp[j,l]]at this
theorem sy{x y:It}(q:∀a,Ext h a->R (af1 (bf x y)).val a):Cl 256 [x.tv,y.tv] h R:=(wD q).weak
structure HL(h:aa)(b:Nat)(A:Sl)(L:List It)(most quota:Int):Prop where
 var:Var 244 h b (.agg [.slice A,.i most,.i quota])
 own:Own 242 67 h A (oc L)
 apart:¬In A b
 jk:L.length<1000
section
variable{b:Nat}{A:Sl}{L:List It}{most quota:Int}
theorem HL.len(H:HL h b A L most quota):L.length=A.len:=by have:=H.own.len;rwa [afM]at this
theorem HL.ext{q:aa}(H:HL h b A L most quota)(x:Ext h q):HL q b A L most quota:=⟨H.var.ext x,H.own.ext x,H.apart,H.jk⟩
theorem HL.only{q:aa}{S:Nat->Prop}(H:HL h b A L most quota)(o:ag S h q)(B:¬S b)(E:∀i,In A i->¬S i):HL q b A L most quota:=
 ⟨H.var.only o B,H.own.only o (λl a=>E _ ⟨l,a,rfl⟩),H.apart,H.jk⟩
theorem Dz(q:R (TV.i (A.len:Int)).val h):Cl 213 [.slice A] h R:=by
 apply Bo;delta mC bN;exact q
theorem zP(H:HL h b A L most quota){i k:Int}(q:0<=i)(B:i<L.length)(E:0<=k)(G:k<L.length)
 (I:∀a,Ext h a->R (af1 (bf (bY L k.toNat) (bY L i.toNat))).val a):Cl 373 [.slice A,.i i,.i k] h R:=by
 apply zM;delta jw;refine gJ H.own.elems E G λl x _ c=>gJ H.own.elems q B λl y _ d=>?_;have e:=vC c;have f:=vC d;refine sy (x:=x) (y:=y) λa g=>⟨_,rfl,?_⟩;rw[<-e,<-f];exact I a g
theorem MA(L:List It)(i:Nat)(x:It):oc (L.set i x)=(oc L).set i x.tv:=by simp[oc,agS]
theorem KL(H:HL h b A L most quota){i k:Int}(q:0<=i)(B:i<L.length)(E:0<=k)(G:k<L.length)
 (I:∀a,HL a b A (sw L i.toNat k.toNat) most quota->ag (In A) h a->a.size=h.size->R (af4 []).val a):Cl 374 [.slice A,.i i,.i k] h R:=by
 apply zN;delta eX;refine gJ H.own.elems E G λl x _ c=>gJ H.own.elems q B λl y _ d=>?_;refine H.own.aH (t:=x.tv) q (by simpa using B) rfl rfl λn e f1 o=>?_;refine e.aH (t:=y.tv) E (by simpa using G) rfl rfl λf g f2 p=>?_;refine I f ⟨(H.var.only f1 H.apart).only f2 H.apart,?_,H.apart,by rw[tX];exact H.jk⟩ (f1.trans f2) ω;have j:=Gz c;have m:=Gz d;unfold sw;rw[MA,MA,<-j,<-m];exact g
theorem AO:(ctx.ti 242).bytes=96:=κ
theorem MB:(ctx.ti 242).size=67:=κ
theorem MC:(ctx.ti 242).z.size=67:=κ
theorem UI(H:HL h b A L most quota)(x:It)(q:L.length<900)
 {v:One}(B:v.v=.iface 242 x.tv.val)
 (E:∀c A',HL c b A' (L++[x]) most quota->ag (λi=>i=b\/In A i) h c->(∀i,In A' i->In A i\/h.size<=i)->R (af4 []).val c):Cl 375 [.ptr (PT b),.one v] h R:=by
 apply zO;delta aI gu zq jv eX;have r:=H.len;refine⟨A,H.var.ah rfl,x.slot,x.root,x.peer,x.fr,x.text,B,af5 _ _,?_⟩;refine cz (C:=ctx) (T:=242) (sz:=67) (x:=x.tv) MB MC (by rw[AO];decide) (by rw[AO];omega) H.own rfl rfl λA' j n f1 k=>?_
 have m:∀l,A'.a=some l->l.b≠b:=by
  intro l q e;rcases k l q with⟨d,a,f⟩|a
  ·exact H.apart ⟨d,a,f.trans e⟩
  ·have:=H.var.lt;omega
 have v1:=H.var.only f1 H.apart;show gi j b 0 1/\Bind ((agl A').put j b 0) _;refine aF (i:=0) (t0:=.slice A) v1 rfl rfl rfl rfl λo p f2 s=>?_;refine E o A' ⟨p,?_,λ⟨l,q,e⟩=>m l q e,by simp;omega⟩ ((f1.mono λi g=>.inr g).trans (f2.mono λi g=>.inl g)) (λi⟨l,q,e⟩=>?_)
 ·have:oc (L++[x])=oc L++[x.tv]:=by simp[oc]
  rw[this];exact n.only f2 m
 ·rcases k l q with⟨d,a,f⟩|a
  ·exact .inl ⟨d,a,f.trans e⟩
  ·exact .inr ω
theorem iX:0<ctx.P.types.size:=of_decide_eq_true κ
end
end
end Pool
namespace Pool
section
variable{R:Rq}{h:aa}{b:Nat}{A:Sl}{L:List It}{most quota:Int}
theorem XN(H:HL h b A L most quota):fG Tryz.prog h 299 (agf (PT b)).val "Len" 213 (agl A).val:=
 Hr bI (e:=241) κ κ iX κ κ κ (H.var.ah rfl)
theorem Q8(H:HL h b A L most quota):fG Tryz.prog h 299 (agf (PT b)).val "Less" 373 (agl A).val:=
 Hr bI (e:=241) κ κ iX κ κ κ (H.var.ah rfl)
theorem XO(H:HL h b A L most quota):fG Tryz.prog h 299 (agf (PT b)).val "Swap" 374 (agl A).val:=
 Hr bI (e:=241) κ κ iX κ κ κ (H.var.ah rfl)
theorem abE:fG Tryz.prog h 299 (agf (PT b)).val "Push" 375 (agf (PT b)).val:=
 zb bI (e:=241) κ κ iX κ
theorem aaV(n:Int)(h:0<=n):agr n 2=((n.toNat/2:Nat):Int):=by
 rw[agX h];omega
theorem Tn(H:HL h b A L most quota){v:One}(q:v.v=.iface 299 (agf (PT b)).val){j:Int}(E:0<=j)(j1:j<L.length)(G:N2 L j.toNat)
 (B:∀f L',HL f b A L' most quota->L'.Perm L->fI 0 L'->ag (In A) h f->R (af4 []).val f):Cl 300 [.one v,.i j] h R:=by
 apply uD;delta aG iQ eX aT;have z:=H.jk;refine⟨λs a=>0<=s/\s<L.length/\∃L',HL a b A L' most quota/\L'.Perm L/\N2 L' s.toNat/\ag (In A) h a,λs _=>s.toNat,⟨E,j1,L,H,List.Perm.refl _,G,agp _ _⟩,?_⟩;rintro s a ⟨l,C,L',H',c,g,o⟩;have D:=c.length_eq;refine⟨δ,?_⟩;rw[wrap_i64 (n:=s-1) ω ω]
 have x:agr (s-1) 2=if s=0 then 0 else(((s.toNat-1)/2:Nat):Int):=by
  split
  ·rename_i d;subst d;decide
  ·rw[aaV _ ω];congr 2;omega
 rw[x];refine ID (λm=>?_) λp=>?_
 ·have d:s=0:=by
   split at m
   ·assumption
   ·rw[wrap_i64 ω ω]at m;omega
  exact B a L' H' c (SF g ω (.inl ω)) o
 ·have d:¬s=0:=λe=>by rw[if_pos e,e]at p;exact p δ
  rw[if_neg d,wrap_i64 ω ω];have k:(((s.toNat-1)/2:Nat):Int).toNat=(s.toNat-1)/2:=agm _;refine⟨_,_,_,_,q,Q8 H',?_⟩;refine zP H' l ω ω ω λr t=>⟨_,rfl,?_⟩;have H2:=H'.ext t;have u:ag (In A) h r:=o.trans (aga t);rw[k];cases w:bf (bY L' ((s.toNat-1)/2)) (bY L' s.toNat)with
  |false=>exact af2 (B r L' H2 c (SF g ω (.inr w)) u)
  |true=>
   refine afU ⟨_,_,_,_,q,XO H2,?_⟩;refine KL H2 ω ω l ω λF H3 y _=>⟨rfl,?_⟩;rw[k]at H3;refine⟨⟨ω,ω,_,H3,(SE ω ω).trans c,?_,u.trans y⟩,by dsimp only;omega⟩;rw[k];exact Zy g ω ω w
theorem KM(H:HL h b A L most quota){v:One}(q:v.v=.iface 299 (agf (PT b)).val){i n:Int}(U:0<=i)(i1:i<L.length)(M:n=L.length){lo:Nat}(W:lo<=i.toNat)(O:sn lo L i.toNat)
 (B:∀t L' r,HL t b A L' most quota->L'.Perm L->fI lo L'->ag (In A) h t->R (af1 r).val t):Cl 277 [.one v,.i i,.i n] h R:=by
 apply rM;delta lS aT;have T:=H.jk;subst M;refine⟨λs d=>i<=s/\s<L.length/\∃L',HL d b A L' most quota/\L'.Perm L/\sn lo L' s.toNat/\ag (In A) h d,λs _=>((L.length:Int)-s).toNat,⟨afT _,i1,L,H,List.Perm.refl _,O,agp _ _⟩,?_⟩;rintro s d ⟨V,X,L',H',j,u,o⟩;have Y:=j.length_eq;have w:∀x:Int,0<=x->x<10000->afK .i64 x=x:=λx Z h1=>wrap_i64 ω ω;rw[w (2*s) ω ω,w (2*s+1) ω ω,w (2*s+1+1) ω ω];have K:(L.length:Int)<=2*s+1->fI lo L':=λy=>J' u λk e f z=>ω;intro J N;refine ID (λy=>B d L' _ H' j (K y) o) λab=>?_;refine ID (λac=>ω) λ_=>?_;refine N _ _ ?_;intro P Q
 have key:∀(c:Int)(a:aa),0<c->c<L.length->(c.toNat-1)/2=s.toNat->HL a b A L' most quota->ag (In A) h a->
  (∀k,0<k->k<L'.length->(k-1)/2=s.toNat->bf (bY L' c.toNat) (bY L' k)=false)->P c a:=by
  intro c a c0 c1 z H2 l C;refine Q _ _ ?_;refine⟨_,_,_,_,q,Q8 H2,?_⟩;refine zP H2 ω ω ω ω λD E=>⟨_,rfl,?_⟩;have H3:=H2.ext E;have F:ag (In A) h D:=l.trans (aga E);cases g:bf (bY L' s.toNat) (bY L' c.toNat)with
  |false=>
   refine af2 (B D L' _ H3 j (J' u λk e f m=>?_) F);exact ze g (C k e f m)
  |true=>
   refine afU ⟨_,_,_,_,q,XO H3,?_⟩;refine KL H3 ω ω ω ω λh4 H4 S _=>⟨rfl,?_⟩;refine⟨⟨ω,ω,_,H4,(SE ω ω).trans j,?_,F.trans S⟩,by dsimp only;omega⟩;exact T_ u ω z ω ω g C
 refine ID (λad=>?_) λae=>?_
 ·refine⟨_,_,_,_,q,Q8 H',?_⟩;refine zP H' ω ω ω ω λa G=>⟨_,rfl,?_⟩;have H2:=H'.ext G;have l:ag (In A) h a:=o.trans (aga G);have p:(2*s+1).toNat=2*s.toNat+1:=ω;have I:(2*s+1+1).toNat=2*s.toNat+2:=ω;rw[p,I];cases g:bf (bY L' (2*s.toNat+1)) (bY L' (2*s.toNat+2))with
  |true=>
   refine af2 (key _ a ω ω ω H2 l λk e f m=>?_);rw[I];have:k=2*s.toNat+1\/k=2*s.toNat+2:=ω;rcases this with rfl|rfl
   ·exact zc g
   ·exact qu _
  |false=>
   refine afU (key _ a ω ω ω H2 l λk e f m=>?_);rw[p];have:k=2*s.toNat+1\/k=2*s.toNat+2:=ω;rcases this with rfl|rfl
   ·exact qu _
   ·exact g
 ·refine key _ d ω ω ω H' o λk e f m=>?_;have p:(2*s+1).toNat=2*s.toNat+1:=ω;rw[p];have:k=2*s.toNat+1:=ω;subst this;exact qu _
theorem Q9(H:HL h b A L most quota)(B:fI 0 L)(E:L.length<900){v:One}(q:v.v=.iface 299 (agf (PT b)).val)(x:It){u:One}(G:u.v=.iface 242 x.tv.val)
 (I:∀c A' L',HL c b A' L' most quota->L'.Perm (L++[x])->fI 0 L'->ag (λi=>i=b\/In A i) h c->(∀i,In A' i->In A i\/h.size<=i)->R (af4 []).val c):Cl 269 [.one v,.one u] h R:=by
 apply rN;delta iQ eX aT;refine⟨_,_,_,_,q,abE,?_⟩;refine UI H x E G λz A' H1 f j=>⟨rfl,?_⟩;refine⟨_,_,_,_,q,XN H1,?_⟩;refine Dz ⟨_,rfl,?_⟩;have e:=H1.len;rw[afQ,agj]at e;rw[<-e,wrap_i64 ω ω];have o:((((L.length+1:Nat):Int)-1)).toNat=L.length:=ω;refine Tn H1 q ω (by simp;omega) ?_ λp L' H2 r s l=>⟨rfl,?_⟩
 ·rw[o]
  have g:∀k,k<L.length->bY (L++[x]) k=bY L k:=λk a=>by
   unfold bY;rw[afW,afW,agG a]
  refine⟨λk a d C=>?_,λk a d D F=>?_⟩
  ·rw[afQ,agj]at d;rw[g k ω,g _ ω];exact B k a ω (agd _)
  ·rw[afQ,agj]at d;omega
 ·refine I p A' L' H2 r s ?_ j;have t:=f.size;refine⟨agv t l.size,λi w m=>?_⟩;rw[l.same i ω (λy=>?_),f.same i w m];rcases j i y with n|n
  ·exact m (.inr n)
  ·omega
theorem UJ(H:HL h b A L most quota)(G:0<L.length)(E:sn 0 L 0){v:One}(q:v.v=.iface 299 (agf (PT b)).val)
 (B:∀a L',HL a b A L' most quota->L'.Perm L->fI 0 L'->ag (In A) h a->R (af4 []).val a):Cl 270 [.one v,.i 0] h R:=by
 apply sX;delta eX aT;refine⟨_,_,_,_,q,XN H,?_⟩;refine Dz ⟨_,rfl,?_⟩;have e:=H.len;refine KM H q (lo:=0) δ ω ω δ E λf L' r H1 c d o=>⟨_,rfl,?_⟩;cases r with
 |true=>exact afU (B f L' H1 c d o)
 |false=>
  have u:=c.length_eq;refine af2 (Tn H1 q δ ω ⟨λk g j _=>d k g j (agd _),λk _ _ _ l=>absurd l δ⟩ λm n H2 p s t=>⟨rfl,?_⟩);exact B m n H2 (p.trans c) s (o.trans t)
theorem Q_(H:HL h b A L most quota){v:One}(q:v.v=.iface 299 (agf (PT b)).val)
 (B:∀d L',HL d b A L' most quota->L'.Perm L->fI 0 L'->ag (In A) h d->R (af4 []).val d):Cl 225 [.one v] h R:=by
 apply rO;delta aG iQ eX aT;refine⟨_,_,_,_,q,XN H,?_⟩;refine Dz ⟨_,rfl,δ,?_⟩;have e:=H.len;have u:=H.jk;rw[<-e,aaV _ ω,wrap_i64 (n:=((L.length:Int).toNat/2:Nat)) ω ω,wrap_i64 ω ω];refine⟨λs a=>-1<=s/\s<L.length/\∃L',HL a b A L' most quota/\L'.Perm L/\fI (s+1).toNat L'/\ag (In A) h a,λs _=>(s+1).toNat,⟨ω,ω,L,H,List.Perm.refl _,?_,agp _ _⟩,?_⟩
 ·intro k w i x;omega
 rintro s a ⟨y,z,L',H',f,c,o⟩;have i:=f.length_eq;refine ID (λg=>?_) λg=>?_
 ·have es:(s+1).toNat=s.toNat+1:=ω;rw[es]at c;refine KM H' q (lo:=s.toNat) g ω ω (afR _) (Qz c) λC j r H1 l m p=>⟨_,rfl,?_⟩;rw[wrap_i64 ω ω];have t:(s-1+1).toNat=s.toNat:=ω;exact⟨⟨ω,ω,j,H1,l.trans f,by rw[t];exact m,o.trans p⟩,by dsimp only;omega⟩
 ·have es:(s+1).toNat=0:=ω;rw[es]at c;exact B a L' H' f c o
end
end Pool
namespace Pool
section
variable{R:Rq}{h:aa}{b:Nat}{A:Sl}{L:List It}{most quota:Int}
def OY(x y:It):Int:=if bf x y=true then-1 else if bf y x=true then 1 else 0
theorem MD(x y:It):Go.Proofs.ltOf OY x y=bf x y:=by
 unfold Go.Proofs.ltOf OY;cases a:bf x y with
 |true=>simp
 |false=>
  cases b:bf y x<;>simp
theorem swo:Go.Sort.SWO (Go.Proofs.ltOf OY) where
 irrefl x:=by rw[MD];exact qu x
 trans x y z h k:=by rw[MD]at*;exact C1 h k
 ntrans x y z h k:=by rw[MD]at*;exact ze h k
theorem HY{x y:It}(q:∀e,Ext h e->R (TV.i (OY x y)).val e):iB Tryz.prog 255 (agZ [x.tv,y.tv]) h R:=by
 apply xX x.slot x.root x.peer x.fr x.text y.slot y.root y.peer y.fr y.text;delta qL lR dO bh;refine af λb v1 l n=>af λc f g o=>?_;have i:=v1.ext g;have d:=l.trans g;refine pZ (x:=x) i (pZ (x:=y) f ?_);refine wD (x:=x) (y:=y) λm a=>⟨_,rfl,?_⟩;unfold OY at q;cases b:bf x y with
 |true=>rw[b]at q;exact af2 (q m (d.trans a))
 |false=>
  rw[b]at q;refine afU (pZ (x:=y) (f.ext a) (pZ (x:=x) (i.ext a) ?_));refine wD (x:=y) (y:=x) λj k=>⟨_,rfl,?_⟩;cases c:bf y x with
  |true=>rw[c]at q;exact af2 (q j ((d.trans a).trans k))
  |false=>rw[c]at q;exact afU (q j ((d.trans a).trans k))
def FA(h:aa)(s:Sl):Prop:=∀l,s.a=some l->h.size<=l.b
theorem Ra{s:Sl}(e:ak 67 h s (oc L))(q:L.length<1000)
 (B:∀b a,Own 242 67 b a (oc L)->Ext h b->FA h a->R (agl a).val b):Cl 253 [.slice s] h R:=by
 apply iT;delta iJ pW dI jY iI eE;have g:=e.len;rw[afM]at g;refine agi (λc=>?_) (λc=>?_)
 ·have:s.a=none:=by
   cases i:s.a with
   |none=>rfl
   |some l=>rw[Sl.lq i]at c;cases c
  have j:oc L=[]:=e.nil this;have:=B h afV (by rw[j];exact agn _ 67 h) (af9 _) (λl q=>by cases q);exact this
 ·have o:=agx (T:=242) (sz:=67) h [] (λt k=>by cases k);have d:=af5 h (row (afY []) 242);refine pT (C:=ctx) (T:=242) (t:=agk (some (Vc.Loc.mk h.size 0)) 0 0) MB MC (by rw[AO];decide) δ (by rw[AO];simp only;omega) o (e.ext d) (qU L) (uE L) λa m n p _ r=>?_;refine B m a (by simpa using n) (d.trans (p rfl)) λl q=>?_;rcases r l q with⟨v,f,u⟩|f
  ·cases f;have:h.size=l.b:=u;omega
  ·have:=d.size;omega
theorem aes:∀w,(isAgg (Tryz.sortIts_ren.t 24)).run Tryz.prog w=.ok true w:=λw=>by
 have a:∃c,Tryz.prog.underlying 242=some (.struct c):=by
  cases b:(ctx.ti 242).d with
  |none=>have:(ctx.ti 242).d.isSome=true:=κ
         rw[b]at this;cases this
  |some d=>
   have f:=bI.d b;have e:(match(ctx.ti 242).d with|some (.struct _)=>true|_=>false)=true:=κ;rw[b]at e;cases d<;>first|(exact⟨_,f⟩)|cases e
 obtain⟨c,a⟩:=a;have:=mI (P:=Tryz.prog) (w:=w) a;exact this
theorem aet:∀w,(sizeOf (Tryz.sortIts_ren.t 24)).run Tryz.prog w=.ok 67 w:=λw=>by
 have:=CX (C:=ctx) bI (t:=242) κ w;rw[MB]at this;exact this
theorem ME{s:Sl}(o:Own 242 67 h s (oc L))(B:L.length<1000)
 (q:∀a L',L'.Perm L->L'.Pairwise (λx y=>bf y x=false)->Own 242 67 a s (oc L')->ag (In s) h a->R (af4 []).val a):Cl 254 [.slice s,.fn (.func 255) [] []] h R:=by
 refine OG (tv:=It.tv) (k:=67) (P:=Tryz.prog) Tryz.sortIts (T:=242) aes aet It.size It.plain swo (g:=255) (cb:=#[]) (bI.Ju κ) (λa x y=>?_) o ω (λa L' c d e f=>?_)
 ·exact HY (x:=x) (y:=y) λj i=>⟨rfl,i⟩
 ·refine q a L' c (d.imp λ{x y} b=>?_) e f;rw[MD]at b;exact b
structure PL(h:aa)(b:Nat)(A:Sl)(S:List It)(most quota:Int):Prop where
 Jk:WE S
 names:(S.map It.root).Nodup
 jk:S.length<800
 ex:∃L,HL h b A L most quota/\fI 0 L/\L.Perm S
def dD(b:Nat)(A:Sl)(i:Nat):Prop:=i=b\/In A i
structure Grown(b:Nat)(A:Sl)(h:aa)(A':Sl)(h':aa):Prop where
 only:ag (dD b A) h h'
 new:∀i,dD b A' i->dD b A i\/h.size<=i
theorem Grown.refl:Grown b A h A h:=⟨agp _ _,λ_ a=>.inl a⟩
theorem Grown.an{q:aa}(x:Ext h q):Grown b A h A q:=⟨aga x,λ_ a=>.inl a⟩
theorem Grown.trans{A' q:Sl}{B E:aa}(g:Grown b A h A' B)(k:Grown b A' B q E):Grown b A h q E:=by
 have d:=g.only.size;refine⟨⟨agv d k.only.size,λi c e=>?_⟩,λi c=>?_⟩
 ·rw[k.only.same i (ahn c d) (λf=>?_),g.only.same i c e];rcases g.new i f with a|a
  ·exact e a
  ·omega
 ·rcases k.new i c with a|a
  ·exact g.new i a
  ·exact .inr (agv d a)
variable{S:List It}
theorem PL.ext{q:aa}(p:PL h b A S most quota)(x:Ext h q):PL q b A S most quota:=by
 obtain⟨a,c,d,L,e,f⟩:=p;exact⟨a,c,d,L,e.ext x,f⟩
theorem PL.only{q:aa}{Q:Nat->Prop}(p:PL h b A S most quota)(o:ag Q h q)(B:∀i,dD b A i->¬Q i):PL q b A S most quota:=by
 obtain⟨a,c,d,L,e,f⟩:=p;exact⟨a,c,d,L,e.only o (B b (.inl rfl)) (λi g=>B i (.inr g)),f⟩
theorem PL.lt(p:PL h b A S most quota){i:Nat}(q:dD b A i):i<h.size:=by
 obtain⟨_,_,_,L,a,_⟩:=p;rcases q with rfl|⟨l,c,rfl⟩
 ·exact a.var.lt
 ·exact a.own.lt l c
theorem Rb{L S:List It}(q:L.Perm S)(B:(S.map It.root).Nodup):(L.map It.root).Nodup:=(q.map _).nodup_iff.2 B
theorem abF{L:List It}(q:L.Pairwise λx y=>bf y x=false)(B:(L.map It.root).Nodup):WE L:=by
 unfold WE;have c:L.Pairwise λx y=>x.root≠y.root:=List.pairwise_map.1 B;refine(q.and c).imp λ{x y} b=>?_;rcases Hv (x:=x) (y:=y) (λe=>b.2 e.2)with a|a
 ·exact a
 ·rw[b.1]at a;cases a
theorem DA(p:PL h b A S most quota)(q:∀a c,Own 242 67 a c (oc S)->Ext h a->FA h c->R (agl c).val a):Cl 196 [.ptr (PT b)] h R:=by
 apply Bp;delta aI pW;obtain⟨k,m,v,L,H,w,d⟩:=p;refine afU ⟨A,H.var.ah rfl,?_⟩;have f:=d.length_eq;refine Ra H.own.elems H.jk λx g n o f1=>⟨g,rfl,?_⟩;refine ME n H.jk λr L' s t u f2=>⟨rfl,?_⟩;have j:=s.trans d;have:L'=S:=Hw (abF t (Rb j m)) k j;subst this;refine q r g u (afN o f2 λi⟨l,f,e⟩=>?_) f1;have:=f1 l f;omega
end
end Pool
namespace Pool
section
variable{R:Rq}{h:aa}{b:Nat}{A:Sl}{L S:List It}{most quota:Int}
theorem MF{α:Type}{K:α->Prop}{x:α}(h:K x):Nn (some x) K:=h
def has(r:Bs 32)(S:List It):Bool:=S.any λx=>decide (x.root=r)
def cnt(k:Int)(S:List It):Nat:=S.countP λx=>decide (x.peer=k)
def cD(most quota:Int)(x:It)(S:List It):Int×It×List It:=
 if has x.root S=true then(9,It.zero,S)
 else if quota<=(cnt x.peer S:Int)then(11,It.zero,S)
 else if(S.length:Int)<most then(1,It.zero,dR x S)
 else match S.getLast? with
  |none=>(12,It.zero,S)
  |some y=>if bf x y=true then(2,y,dR x S.dropLast)else(12,It.zero,S)
structure KN(h:aa)(f:One)(pred:It->Bool):Prop where
 ex:∃g first cap,f.v=.func (.func g) first cap/\LL Tryz.prog g/\
  ∀h' x(R':Rq),Ext h h'->(∀h'',Ext h' h''->R' (af1 (pred x)).val h'')->bB Tryz.prog g (List.append (List.append first.toList (agZ [x.tv])) cap.toList) h' R'
theorem KN.ext{q:aa}{f:One}{pred:It->Bool}(t:KN h f pred)(x:Ext h q):KN q f pred:=by
 obtain⟨g,first,cap,a,b,c⟩:=t.ex;exact⟨g,first,cap,a,b,λd y R' e=>c d y R' (x.trans e)⟩
theorem Cm{s:Sl}{f:One}{pred:It->Bool}(e:ak 67 h s (oc L))(B:L.length<1000)(t:KN h f pred)
 (q:∀d n,Ext h d->decide (0<=n)=L.any pred->R (TV.i n).val d):Cl 224 [.slice s,.one f] h R:=by
 apply iq;delta qL jN Ul lR iP bN;have o:=e.len;rw[afM]at o;refine⟨λs b=>0<=s.2/\s.2<=L.length/\Ext h b/\(L.take s.2.toNat).any pred=false,λs _=>((L.length:Int)-s.2).toNat,⟨afT _,ag3 _,af9 _,rfl⟩,?_⟩;rintro⟨A,i⟩ b ⟨c,p,x,a⟩;simp only at c p a⊢;refine ID (λr=>?_) λr=>?_
 ·refine gJ (e.ext x) c ω λl y _ j=>?_;obtain⟨g,first,cap,u,v,w⟩:=t.ex;refine⟨g,first,cap,u,v,w b y _ x λC k=>⟨_,rfl,?_⟩⟩;have z:(i+1).toNat=i.toNat+1:=ω;cases m:pred y with
  |true=>
   refine af2 (q _ _ (x.trans k) ?_);rw[decide_eq_true c];exact(ahE.2 ⟨y,ahi j,m⟩).symm
  |false=>
   refine afU ?_;rw[wrap_i64 (n:=i+1) ω ω];refine⟨⟨ω,ω,x.trans k,?_⟩,Ω⟩;rw[z,ag1,j,List.any_append,a];simp[m]
 ·have:i.toNat=L.length:=ω;rw[this,agJ]at a;refine q _ _ x ?_;rw[a];rfl
theorem sW{s:Sl}{f:One}{pred:It->Bool}(e:ak 67 h s (oc L))(q:L.length<1000)(t:KN h f pred)
 (B:∀a,Ext h a->R (af1 (L.any pred)).val a):Cl 164 [.slice s,.one f] h R:=by
 apply gI;refine Cm e q t λa n x b=>⟨n,rfl,?_⟩;dsimp only;rw[b];exact B a x
theorem UK{x:It}{T:TypeId}{c:Nat}{r:Bs 32}(v:Var T h c (.bytes 32 r))(q:∀a,Ext h a->R (af1 (decide (x.root=r))).val a):Cl 165 [x.tv,.ptr (PT c)] h R:=by
 apply xY x.slot x.root x.peer x.fr x.text;delta mE bu;refine af λd v1 b f=>?_;refine⟨x.root,jU (x:=x) v1,r,(v.ext b).bytes,?_⟩;have:decide (x.root.1=r.1)=decide (x.root=r):=decide_eq_decide.2 ⟨λe=>agP e,λe=>by rw[e]⟩;dsimp only;rw[this];exact q d b
theorem Ig(p:PL h b A S most quota){r:Bs 32}(q:∀a,Ext h a->R (af1 (has r S)).val a):Cl 99 [.ptr (PT b),.bytes 32 r] h R:=by
 apply pO;delta uh aI jw bO bV fh bK mN eE;refine af λl v1 g m=>?_;obtain⟨n,o,s,L,H,t,i⟩:=p.ext g;refine af2 ⟨A,H.var.ah rfl,?_⟩;refine sW (f:=⟨(TV.fn (.func 165) [] [.ptr (PT h.size)]).val,rfl⟩) (pred:=λx=>decide (x.root=r)) H.own.elems H.jk ⟨165,#[],#[(agf (PT h.size)).val],rfl,bI.Ju κ,λa x R' c j=>?_⟩ λa c=>⟨_,rfl,?_⟩
 ·exact UK (x:=x) (v1.ext c) j
 ·have:L.any (λx=>decide (x.root=r))=has r S:=by
   unfold has;cases d:S.any λx=>decide (x.root=r)with
   |true=>
    obtain⟨x,e,k⟩:=ahE.1 d;exact ahE.2 ⟨x,i.mem_iff.2 e,k⟩
   |false=>
    rw[List.any_eq_false]at d⊢;exact λx e=>d x (i.mem_iff.1 e)
  rw[this];exact q a (g.trans c)
theorem MG{r:Bs 32}(q:∀a,Ext h a->R (af1 false).val a):Cl 99 [.ptr none,.bytes 32 r] h R:=by
 apply pO;delta uh aI jw bO bV fh bK mN eE;refine af λb v1 c d=>?_;exact afU (q b c)
theorem EN(p:PL h b A S most quota)(q:R (TV.i (S.length:Int)).val h):Cl 152 [.ptr (PT b)] h R:=by
 apply Bq;delta aI aD dw dO aT bh;obtain⟨c,d,e,L,H,f,a⟩:=p;refine afU ⟨A,H.var.ah rfl,Dz ⟨_,rfl,?_⟩⟩;rw[<-H.len,a.length_eq];exact q
theorem XP{i:Nat}{x:It}(k:Int)(q:S[i]? =some x):cnt k (S.take (i+1))=cnt k (S.take i)+if x.peer=k then 1 else 0:=by
 unfold cnt;rw[ag1,q,List.countP_append];simp[List.countP_cons]
theorem GA(p:PL h b A S most quota){k:Int}(B:∀f,Ext h f->R (TV.i (cnt k S:Int)).val f):Cl 268 [.ptr (PT b),.i k] h R:=by
 apply Co;delta ZI iP bN;have J:=p.jk;refine DA p λr u g v _=>⟨u,rfl,?_⟩;have w:=g.len;rw[afM]at w;refine⟨λs c=>0<=s.2/\s.2<=S.length/\Ext r c/\s.1=(cnt k (S.take s.2.toNat):Int),λs _=>((S.length:Int)-s.2).toNat,⟨afT _,ag3 _,af9 _,rfl⟩,?_⟩;rintro⟨n,i⟩ c ⟨m,z,x,d⟩;simp only at m z d⊢;refine ID (λC=>?_) λC=>?_
 ·refine gJ (g.elems.ext x) m ω λl y _ D=>?_;refine af λK E F L=>?_;refine aH E (t:=y.tv) rfl λG H I M=>?_;have o:Ext c G:=afN F I λj N=>ω;refine⟨y.peer,Ie H,?_⟩;have q:(i+1).toNat=i.toNat+1:=ω;have a:=XP k D
  have O:cnt k (S.take i.toNat)<=S.length:=by
   unfold cnt;exact agv List.countP_le_length (by rw[af7];omega)
  rw[wrap_i64 (n:=i+1) ω ω];refine ID (λe=>?_) λe=>?_
  ·rw[if_pos e]at a;rw[wrap_i64 (n:=n+1) ω ω];exact⟨⟨ω,ω,x.trans o,by rw[q,a];first|omega|(dsimp only;omega)⟩,Ω⟩
  ·rw[if_neg e]at a;exact⟨⟨ω,ω,x.trans o,by rw[q,a];first|omega|(dsimp only;omega)⟩,Ω⟩
 ·have:i.toNat=S.length:=ω;rw[this,agJ]at d;rw[d];exact B _ (v.trans x)
theorem DB{q:Int}(B:¬(1<=most/\most<=64/\1<=q/\q<=64)->R (agf none).val h)
 (E:(1<=most/\most<=64/\1<=q/\q<=64)->∀a,PL a h.size afV [] most q->Ext h a->a.size=h.size+1->R (agf (PT h.size)).val a):Cl 145 [.i most,.i q] h R:=by
 apply Ic;delta mD rG fh eE;refine ID (λb=>B ω) λb=>agW.2 ⟨λc=>B ω,λc=>ID (λd=>B ω) λd=>agW.2 ⟨λe=>B ω,λe=>?_⟩⟩;refine af λb v1 f g=>E ω b ⟨List.Pairwise.nil,List.nodup_nil,δ,[],⟨v1,agn _ 67 b,λ⟨l,j,_⟩=>(by cases j),δ⟩,λk _ m=>(by simp at m),List.Perm.refl _⟩ f g
theorem AP{r:Bs 32}(h:has r S=false):∀y∈S,r≠y.root:=λy a e=>by
 have:=List.any_eq_false.1 h y a;simp[e]at this
theorem KO{x:It}(q:(S.map It.root).Nodup)(h:has x.root S=false):((dR x S).map It.root).Nodup:=by
 have a:=(eR x S).map It.root;rw[a.nodup_iff,agB,List.nodup_cons];refine⟨λb=>?_,q⟩;obtain⟨y,c,e⟩:=agy.1 b;exact AP h y c e.symm
theorem Ih{y:It}(B:WE S)(E:(S.map It.root).Nodup)(q:S.getLast? =some y){x:It}(G:has x.root S=false):
 WE S.dropLast/\(S.dropLast.map It.root).Nodup/\has x.root S.dropLast=false/\S.Perm (y::S.dropLast)/\S.dropLast.length+1=S.length:=by
 have a:S≠[]:=λe=>by rw[e]at q;cases q
 have b:=List.dropLast_concat_getLast a;have f:S.getLast a=y:=by rw[List.getLast?_eq_some_getLast a]at q;exact Option.some.inj q
 rw[f]at b;have c:S.dropLast.Sublist S:=List.dropLast_sublist S;refine⟨B.sublist c,E.sublist (c.map _),?_,?_,?_⟩
 ·refine List.any_eq_false.2 λz g=>?_;have:=AP G z (c.mem g);simpa using λe=>this e.symm
 ·have d:=List.perm_append_comm (l₁:=S.dropLast) (l₂:=[y]);rw[b]at d;exact d
 ·have:=congrArg ahc b;simpa using this
theorem XQ{x:It}(q:fI 0 L):sn 0 (L.set 0 x) 0:=by
 have g:∀k,0<k->bY (L.set 0 x) k=bY L k:=λk a=>by
  unfold bY;rw[afW,afW,List.getElem?_set_ne ω]
 refine⟨λk a b d e=>?_,λk _ _ _ c=>absurd c δ⟩;rw[List.length_set]at b;rw[g k a,g _ ω];exact q k a b (agd _)
theorem set_perm{x y:It}{S':List It}(q:0<L.length)(B:bY L 0=y)(E:L.Perm (y::S')):(L.set 0 x).Perm (x::S'):=by
 cases L with
 |nil=>simp at q
 |cons z a=>
  have:z=y:=B;subst this;exact(List.Perm.cons_inv E).cons x
theorem nM(p:PL h b A S most quota)(x:It)(hm:1<=most)(bc:most<=64)(bd:(S.length:Int)<=most)
 (hr:∀Q A',PL Q b A' (cD most quota x S).2.2 most quota->Grown b A h A' Q->R (af4 [.i (cD most quota x S).1,(cD most quota x S).2.1.tv]).val Q):
 Cl 212 [.ptr (PT b),x.tv] h R:=by
 apply Br (PT b) x.slot x.root x.peer x.fr x.text;delta aI gM gT Be W8 W7 c7 bu FT aJ bK bN aT bh;refine af λd v1 x1 s1=>af λh2 T x2 s2=>?_;have U:=v1.ext x2;have ao:=x1.trans x2;have V:=p.ext ao;have ap:∀i,dD b A i->i<h.size:=λi a=>p.lt a
 have I:∀(o:aa)(A':Sl)(v:Int)(S':List It),Var 242 o d.size It.zero.tv->PL o b A' S' most quota->Grown b A h A' o->(∀i,dD b A' i->i≠d.size)->cD most quota x S=(v,It.zero,S')->
  gi o d.size 0 67/\Bind (agV o d.size 0 It.zero.tv) λ(h:aa)=>
   ∃(n:Int),∃(c:Bs 32),∃(n1:Int),∃(c1:Bs 32),∃(s:LU),(ah h d.size 0 (.i n)/\ay h d.size 1 32 c/\ah h d.size 33 (.i n1)/\ay h d.size 34 32 c1/\ah h d.size 66 (.string (agC (ag4 s))))/\
    R (af4 [.i v,.agg [.i n,.bytes 32 c,.i n1,.bytes 32 c1,.str s]]).val h:=by
  intro o A' v S' v3 q J a0 he;refine aH v3 (t:=It.zero.tv) rfl λE v4 W s4=>pZ (x:=It.zero) v4 ?_;have:=hr E A' (by rw[he];exact q.only W a0) ⟨⟨agv J.only.size W.size,λi a X=>?_⟩,J.new⟩
  ·rw[he]at this;exact this
  ·rw[W.same i (by have:=J.only.size;omega) ω,J.only.same i a X]
 have B:∀i,dD b A i->i≠d.size:=λi a=>by have:=ap i a;omega
 refine afU ⟨x.root,jU (x:=x) U,?_⟩;refine Ig V λo g=>⟨_,rfl,?_⟩;have ar:=ao.trans g;have q:=V.ext g;cases r:has x.root S with
 |true=>
  refine af2 (I o A 9 S (T.ext g) q (.an ar) B ?_);unfold cD;rw[if_pos r]
 |false=>
  obtain⟨_,_,_,L3,H3,_,_⟩:=q;refine afU ⟨x.peer,Ie (x:=x) (U.ext g),quota,H3.var.ah rfl,?_⟩;have q:=V.ext g;refine GA q λE k=>⟨_,rfl,k,?_⟩;have K:=ar.trans k;have F:=q.ext k;refine ID (λL=>?_) λL=>?_
  ·refine I E A 11 S ((T.ext g).ext k) F (.an K) B ?_;unfold cD;rw[if_neg (by rw[r];decide),if_pos L]
  ·obtain⟨_,_,_,Y,H4,Z,M⟩:=F;refine⟨most,H4.var.ah rfl,?_⟩;have F:=q.ext k;refine EN F ⟨_,rfl,af9 _,?_⟩;have ab:Var 242 E h.size x.tv:=(U.ext g).ext k;have ac:=(T.ext g).ext k;have bi:=M.length_eq;refine ID (λa1=>?_) λa2=>?_
   ·refine pZ (x:=x) ab ?_;refine Q9 H4 Z (by have:=p.jk;omega) (v:=⟨.iface 299 (agf (PT b)).val,rfl⟩) rfl x (u:=⟨.iface 242 x.tv.val,rfl⟩) rfl λC A5 L5 H5 a3 a4 o5 n5=>⟨rfl,?_⟩;have ad:L5.Perm (dR x S):=(a3.trans ((M.append_right [x]).trans (List.perm_append_comm.trans (List.Perm.refl _)))).trans (eR x S).symm;have p5:PL C b A5 (dR x S) most quota:=⟨Ej p.Jk (AP r),KO p.names r,by rw[(eR x S).length_eq,agR];have:=p.jk;omega,L5,H5,a4,ad⟩;have bj:=K.size
    have aw:∀i,dD b A5 i->dD b A i\/E.size<=i:=λi a=>by
     rcases a with e|a
     ·exact .inl (.inl e)
     ·rcases n5 i a with f|f
      ·exact .inl (.inr f)
      ·exact .inr f
    have bk:=g.size;have bl:=k.size;refine I C A5 1 (dR x S) (ac.only o5 (λm=>B d.size m rfl)) p5 (Grown.trans (.an K) ⟨o5,aw⟩) (λi a=>?_) ?_
    ·rcases aw i a with f|f
     ·exact B i f
     ·omega
    ·unfold cD;rw[if_neg (by rw[r];decide),if_neg L,if_pos a1]
   ·have bm:(S.length:Int)=most:=ω;have ae:0<Y.length:=ω;have aE:=T9 Z M p.Jk ae;have hA:=H4.len;refine pZ (x:=x) ab ⟨A,H4.var.ah rfl,?_⟩;refine gJ (i:=0) H4.own.elems δ ω λl y _ hy=>?_;have N:y=bY Y 0:=Gz hy;refine sy (x:=x) (y:=y) λC w=>⟨_,rfl,?_⟩;have al:=K.trans w;have p5:=F.ext w;have H5:=H4.ext w
    have G:cD most quota x S=if bf x y=true then(2,y,dR x S.dropLast)else(12,It.zero,S):=by
     unfold cD;rw[if_neg (by rw[r];decide),if_neg L,if_neg a2,aE,<-N]
    cases hb:bf x y with
    |false=>
     rw[hb]at G;exact af2 (I C A 12 S (ac.ext w) p5 (.an al) B G)
    |true=>
     rw[hb,if_pos rfl]at G;refine afU ⟨A,H5.var.ah rfl,?_⟩;refine gJ (i:=0) H5.own.elems δ ω λl2 z _ a5=>?_;have a6:z=y:=(Gz a5).trans N.symm;subst a6;refine af λh6 v6 x6 s6=>?_;refine aH v6 (t:=z.tv) rfl λh7 v7 o7 s7=>?_;have H:Ext C h7:=afN x6 o7 λj hj=>ω;have D:=H5.ext H;refine⟨A,D.var.ah rfl,?_⟩;have a7:Var 242 h7 h.size x.tv:=(ab.ext w).ext H;refine pZ (x:=x) a7 ?_;refine D.own.aH (i:=0) (t:=x.tv) δ (by simp;omega) rfl rfl λh8 o8 f8 s8=>?_;have H8:HL h8 b A (Y.set 0 x) most quota:=⟨D.var.only f8 D.apart,by rw[MA];exact o8,D.apart,by rw[List.length_set];exact D.jk⟩;refine MF ?_;refine UJ H8 (by rw[List.length_set];exact ae) (XQ Z) (v:=⟨.iface 299 (agf (PT b)).val,rfl⟩) rfl λf L9 H9 a8 a9 o9=>⟨rfl,?_⟩;have O:∀i,In A i->i<h.size:=λi a=>ap i (.inr a);have bo:=al.size;have bp:=H.size;have br:=g.size;have bt:=k.size;have bx:=w.size;have v9:Var 242 f C.size z.tv:=(v7.only f8 (λm=>by have:=O _ m;omega)).only o9 (λm=>by have:=O _ m;omega);have a':Var 242 f d.size It.zero.tv:=(((ac.ext w).ext H).only f8 (λm=>by have:=O _ m;omega)).only o9 (λm=>by have:=O _ m;omega);refine pZ (x:=z) v9 ?_;refine aH a' (t:=z.tv) rfl λba v10 am b0=>pZ (x:=z) v10 ?_;have bb:S.getLast? =some z:=by rw[aE,<-N]
     obtain⟨d1,d2,d3,d4,d5⟩:=Ih p.Jk p.names bb r;have ad:L9.Perm (dR x S.dropLast):=(a8.trans (set_perm ae N.symm (M.trans d4))).trans (eR x S.dropLast).symm;have p9:PL f b A (dR x S.dropLast) most quota:=⟨Ej d1 (AP d3),KO d2 d3,by rw[(eR x _).length_eq,agR];have:=p.jk;omega,L9,H9,a9,ad⟩;have P:Grown b A h A f:=Grown.trans (.an (al.trans H)) ⟨(f8.trans o9).mono λi a=>.inr a,λi a=>.inl a⟩;have:=hr ba A (by rw[G];exact p9.only am B) ⟨⟨agv P.only.size am.size,λi a X=>?_⟩,P.new⟩
     ·rw[G]at this;exact this
     ·rw[am.same i (by have:=P.only.size;omega) ω,P.only.same i a X]
end
end Pool
namespace Pool
def name(n:Int):Bs 32:=((af6 32).set 0 (afX (n%256).toNat)).set 31 (afX ((7*n)%256).toNat)
section
variable{R:Rq}{h:aa}{b:Nat}{A:Sl}{L S:List It}{most quota:Int}
theorem wrap_u8(n:Int):afK .u8 n=n%256:=by
 unfold afK;show(if(false&&_)=true then _ else n%2^8)=n%256;simp
theorem j3{T:TypeId}{h:aa}{b n i o:Nat}{x:Bs n}{K:aa->Prop}(v:Var T h b (.bytes n x))(B:i<n)(E:o=i){c:Int}(H:0<=c)(q:c<256)
 (G:∀q,Var T q b (.bytes n (x.set i (afX c.toNat)))->ag (·=b) h q->q.size=h.size->K q):gi h b o 1/\Bind ((age .u8 c).put h b o) K:=by
 subst E;have a:o+(age .u8 c).size<=(agK n x).cells.length:=by rw[ahl];simp only[ags];omega
 refine⟨v.gi (by simp only[ags];omega),G _ ?_ (gm v a) (gn v a)⟩;have:=je (t:=.int .u8 c) v a;unfold Var;rw[this];congr 2;simp only[TV.cells,ags,Bs.set,agS]
 have e:((afX c.toNat).toNat:Int)=c:=by
  rw[ag8];omega
 rw[e,List.set_eq_take_append_cons_drop,if_pos (by rw[afM,x.h];exact B)];simp
theorem sE:(ctx.ti 82).bytes=96:=κ
theorem MH:(ctx.ti 82).size=67:=κ
theorem GB:(ctx.ti 82).z.size=67:=κ
def abG(x y:It):Bool:=decide (x.slot=y.slot)&&(decide (x.root.1=y.root.1)&&(decide (x.peer=y.peer)&&(decide (x.fr.1=y.fr.1)&&(decide (x.text=y.text)&&true))))
theorem XR{x y:It}:abG x y=true↔x=y:=by
 unfold abG;cases x;cases y;simp only[agH,decide_eq_true_eq,and_true,It.mk.injEq];constructor
 ·rintro⟨a,b,c,d,e⟩;exact⟨a,agP b,c,agP d,e⟩
 ·rintro⟨a,b,c,d,e⟩;exact⟨a,by rw[b],c,by rw[d],e⟩
instance:DecidableEq It:=λx y=>decidable_of_iff (abG x y=true) XR
theorem aaW{s:Sl}{x:It}{K:Sl->aa->Prop}(o:Own 242 67 h s (oc L))(B:L.length<1000)
 (q:∀a b,Own 242 67 b a (oc (L++[x]))->ag (In s) h b->(∀l,a.a=some l->(∃c,s.a=some c/\c.b=l.b)\/h.size<=l.b)->K a b):
 ∃new,cv (h.push (row (afY [x.tv]) 242)) (agk (some (Vc.Loc.mk h.size 0)) 1 1) 67 new/\(∀v∈new,bQ v=true)/\aq ctx 242 s 1 new (h.push (row (afY [x.tv]) 242)) K:=by
 have ol:=o.len;rw[afM]at ol;refine cz (C:=ctx) (T:=242) (sz:=67) (x:=x.tv) MB MC (by rw[AO];decide) (by rw[AO];omega) o rfl rfl λa d e f4 b4=>q a d ?_ f4 b4;simpa[oc]using e
theorem Rc(pred:It->Bool)(q:S.length<800):(S.filter pred).length<800:=by
 have:=List.length_filter_le pred S;omega
theorem FB{i:Nat}{x:It}(pred:It->Bool)(q:S[i]? =some x):(S.take (i+1)).filter pred=(S.take i).filter pred++if pred x=true then[x]else[]:=by
 rw[ag1,q,List.filter_append];cases h:pred x<;>simp[h]
theorem EO(p:PL h b A S most quota){f:One}{pred:It->Bool}(t:KN h f pred)
 (hr:∀I A' out,PL I b A' (S.filter λx=>!pred x) most quota->Own 242 67 I out (oc (S.filter pred))->Grown b A h A' I->FA h out->(∀i,In out i->¬dD b A' i)->R (agl out).val I):
 Cl 168 [.ptr (PT b),.one f] h R:=by
 apply zQ;delta ue qL W8 Ul pW dL bN;have ae:=p.jk;have aE:=p.lt (i:=b) (.inl rfl);refine afU ?_;refine DA p λk s1 o1 N f1=>⟨s1,rfl,?_⟩;have al:=o1.len;rw[afM]at al;have a0:=N.size
 refine⟨λs D=>0<=s.2.2/\s.2.2<=S.length/\Ext k D/\Own 242 67 D s.1 (oc ((S.take s.2.2.toNat).filter pred))/\Own 242 67 D s.2.1 (oc ((S.take s.2.2.toNat).filter λx=>!pred x))/\FA k s.1/\FA k s.2.1/\(∀i,In s.1 i->¬In s.2.1 i),λs _=>((S.length:Int)-s.2.2).toNat,
  ⟨afT _,ag3 _,af9 _,agn _ 67 k,agn _ 67 k,λl a=>(by cases a),λl a=>(by cases a),λi⟨l,a,_⟩=>(by cases a)⟩,?_⟩
 rintro⟨out,O,i⟩ D ⟨i0,i1,x,w,ro,z,m,o⟩;simp only at i0 i1 w ro z m o⊢;have hs:=x.size;refine ID (λP=>?_) λP=>?_
 ·refine gJ (o1.elems.ext x) i0 ω λl y _ hy=>?_;refine af λh2 Q x2 s2=>?_;refine aH Q (t:=y.tv) rfl λJ T E s3=>?_;have ac:Ext D J:=afN x2 E λj d=>ω;refine pZ (x:=y) T ?_;obtain⟨g,first,cap,t1,t2,t3⟩:=t.ex;refine⟨g,first,cap,t1,t2,t3 J y _ ((N.trans x).trans ac) λh4 U=>⟨_,rfl,?_⟩⟩;have q:=ac.trans U;have a1:=q.size;have K:(i+1).toNat=i.toNat+1:=ω;have B:=FB pred hy;have C:=FB (λx=>!pred x) hy;rw[wrap_i64 (n:=i+1) ω ω];have lo:((S.take i.toNat).filter pred).length<1000:=Nat.lt_of_le_of_lt (agv (List.length_filter_le _ _) (by rw[af7];omega:(S.take i.toNat).length<=799)) δ;have V:((S.take i.toNat).filter λx=>!pred x).length<1000:=Nat.lt_of_le_of_lt (agv (List.length_filter_le _ _) (by rw[af7];omega:(S.take i.toNat).length<=799)) δ;cases W:pred y with
  |true=>
   rw[W]at B C;simp only[if_true,Bool.not_true,Bool.false_eq_true,if_false,ahB]at B C;refine af2 (pZ (x:=y) (T.ext U) ?_);refine aaW (x:=y) (w.ext q) lo λs5 X Y f5 F=>?_;have Z:Ext k X:=afN (x.trans q) f5 λj⟨l,a,e⟩=>by rw[<-e];exact z l a
   refine⟨⟨ω,ω,Z,by rw[K,B];exact Y,?_,λl a=>?_,m,λj⟨l,a,e⟩ d=>?_⟩,Ω⟩
   ·rw[K,C];exact(ro.ext q).only f5 λl a c=>o _ c ⟨l,a,rfl⟩
   ·rcases F l a with⟨r,c,u⟩|c
    ·rw[<-u];exact z r c
    ·omega
   ·rcases F l a with⟨r,c,u⟩|c
    ·exact o j ⟨r,c,u.trans e⟩ d
    ·obtain⟨l2,ab,e2⟩:=d;have:=ro.lt l2 ab;omega
  |false=>
   rw[W]at B C;simp only[if_true,Bool.not_false,Bool.false_eq_true,if_false,ahB]at B C;refine afU (pZ (x:=y) (T.ext U) ?_);refine aaW (x:=y) (ro.ext q) V λs5 X Y f5 F=>?_;have Z:Ext k X:=afN (x.trans q) f5 λj⟨l,a,e⟩=>by rw[<-e];exact m l a
   refine⟨⟨ω,ω,Z,?_,by rw[K,C];exact Y,z,λl a=>?_,λj d⟨l,a,e⟩=>?_⟩,Ω⟩
   ·rw[K,B];exact(w.ext q).only f5 λl a c=>o _ ⟨l,a,rfl⟩ c
   ·rcases F l a with⟨r,c,u⟩|c
    ·rw[<-u];exact m r c
    ·omega
   ·rcases F l a with⟨r,c,u⟩|c
    ·exact o j d ⟨r,c,u.trans e⟩
    ·obtain⟨l2,ab,e2⟩:=d;have:=w.lt l2 ab;omega
 ·have am:i.toNat=S.length:=ω;rw[am,agJ]at w ro;have G:=N.trans x;obtain⟨ao,hn,hf,L,H,a2,W⟩:=p.ext G;refine MF ?_;have bne:∀l,O.a=some l->l.b≠b:=λl a=>by have:=m l a;omega
  have one:∀j,In out j->j≠b:=λj⟨l,a,e⟩=>by have:=z l a;omega
  refine aF (i:=0) (t0:=.slice A) H.var rfl rfl rfl rfl λh2 Q M s2=>?_;refine MF ?_;have V:(S.filter λx=>!pred x).length<800:=Rc _ ae;have H2:HL h2 b O (S.filter λx=>!pred x) most quota:=⟨Q,ro.only M bne,λ⟨l,a,e⟩=>bne l a e,ω⟩;refine Q_ H2 (v:=⟨.iface 299 (agf (PT b)).val,rfl⟩) rfl λJ L3 H3 ap ar E=>⟨rfl,?_⟩;have ad:(S.filter λx=>!pred x).Sublist S:=List.filter_sublist;refine hr J O out ⟨ao.sublist ad,hn.sublist (ad.map _),V,L3,H3,ar,ap⟩ ?_ ⟨?_,λi P=>?_⟩ (λl a=>by have:=z l a;omega) (λj d hm=>?_)
  ·exact(w.only M (λl a=>one l.b ⟨l,a,rfl⟩)).only E (λl a c=>o l.b ⟨l,a,rfl⟩ c)
  ·refine⟨by have:=G.size;have:=M.size;have:=E.size;omega,λj d aw=>?_⟩;rw[E.same j (by have:=G.size;omega) (λ⟨l,a,e⟩=>by have:=m l a;omega),M.same j (by have:=G.size;omega) (λe=>aw (.inl e)),G.same j d]
  ·rcases P with e|⟨l,a,e⟩
   ·exact .inl (.inl e)
   ·right;have:=m l a;omega
  ·rcases hm with e|hm
   ·exact one j d e
   ·exact o j d hm
end
end Pool
namespace Pool
theorem zR{C:Ctx}{T:TypeId}{sz:Nat}{h:aa}{t s:Sl}{ts us:List TV}{K:Sl->aa->Prop}(H:(C.ti T).size=sz)(I:(C.ti T).z.size=sz)(J:0<(C.ti T).bytes)(q:0<sz)
 (O:(t.len+s.len)*(C.ti T).bytes<=70368744177664)(B:ak sz h t ts)(E:∀u∈ts,u.size=sz)(Z:t.len=t.cap)(e:ak sz h s us)(G:∀u∈us,u.size=sz)(U:∀u∈us,u.plain=true)(ab:0<s.len)
 (W:∀t' a,Own T sz a t' (ts++us)->Ext h a->(∀l,t'.a=some l->h.size<=l.b)->K t' a):
 ∃new,cv h s sz new/\(∀v∈new,bQ v=true)/\aq C T t s.len new h K:=by
 refine⟨afY us,e.cells G q,aj.lK U,afY ts,?_,O,J,λd=>ω,λd=>ω,λ_ c f=>?_⟩
 ·rw[H];exact B.cells E q
 ·have g:=e.len;have i:=B.len;refine W _ _ ⟨λx j=>?_,by simp[i,g],f,.inr ⟨_,bZ (C.ti T).z (c-(t.len+s.len)),rfl,?_,?_⟩⟩ (af5 _ _) λl k=>?_
  ·rcases aht.1 j with b|b
   ·exact E x b
   ·exact G x b
  ·rw[cg,aj.fe]
  ·rw[iD,I]
  ·cases k;exact afR _
theorem KP{h:aa}{s:Sl}{ts:List TV}{i j:Nat}(e:ak 67 h s ts)(q:i<=j)(B:j<=s.len)(c:Nat)(E:j<=c):ak 67 h (aA (@agk s.a s.len c s.JR) i j 67) ((ts.drop i).take (j-i)):=by
 have n:=e.len;refine⟨by simp only[aA,af7,afZ];omega,λd=>?_,λl a k t f=>?_⟩
 ·have:ts=[]\/j-i=0:=by
   unfold aA at d;simp only at d;split at d
   ·right;omega
   ·left;cases b:s.a with
    |none=>exact e.nil b
    |some l=>rw[b]at d;simp at d
  rcases this with rfl|g
  ·simp
  ·rw[g];simp
 ·unfold aA at a;simp only at a;rw[ahm]at f;split at f
  ·rename_i o;rw[List.getElem?_drop]at f;split at a
   ·omega
   ·cases b:s.a with
    |none=>rw[b]at a;simp at a
    |some m=>
     rw[b]at a;simp only[ahb,Option.some.injEq]at a;subst a;have:=e.get m b (i+k) t f;rw[Nat.add_mul,<-Nat.add_assoc]at this;exact this
  ·cases f
theorem XS(x:It):∀(M:List It)(i:Nat),i<=M.length->(∀j y,j<i->M[j]? =some y->bf x y=false)->(i=M.length\/∃y,M[i]? =some y/\bf x y=true)->dR x M=M.take i++([x]++M.drop i)
 |[],i,b,_,_=>by
  have:i=0:=by simpa using b
  subst this;rfl
 |y::d,0,_,_,h=>by
  rcases h with h|⟨z,a,c⟩
  ·cases h
  ·injection a with a;subst a;rw[dR,if_pos c];rfl
 |y::d,i+1,b,e,h=>by
  have f:=e 0 y (Nat.succ_pos _) rfl
  have g:=XS x d i (by simpa using b) (λj z k a=>e (j+1) z ω a) (by
   rcases h with h|⟨z,a,c⟩
   ·left;simpa using h
   ·right;exact⟨z,a,c⟩)
  rw[dR,if_neg (by rw[f];decide),g];rfl
theorem jJ(x:It)(M:List It):(dR x M).length=M.length+1:=by rw[(eR x M).length_eq,agR]
theorem Ii{x y:It}{M:List It}(q:M.getLast? =some y)(B:bf x y=true):dR x M=dR x M.dropLast++[y]:=by
 obtain⟨l,rfl⟩:=List.getLast?_eq_some_iff.1 q;rw[List.dropLast_concat];clear q
 induction l with
 |nil=>simp[dR,B]
 |cons z b a=>
  rw[ahC,dR,dR];split
  ·rfl
  ·rw[a];rfl
structure RL(h:aa)(m:Nat)(A:Sl)(M:List It)(most quota:Int):Prop where
 var:Var 74 h m (.agg [.slice A,.i most,.i quota])
 el:ak 67 h A (oc M)
 cap:A.len<=A.cap
 apart:∀l,A.a=some l->l.b≠m
 low:∀l,A.a=some l->l.b<h.size
 jk:M.length<900
section
variable{R:Rq}{h:aa}{m:Nat}{A:Sl}{M:List It}{most quota:Int}
theorem RL.only{q:aa}{Q:Nat->Prop}(r:RL h m A M most quota)(o:ag Q h q)(B:¬Q m)(E:∀l,A.a=some l->¬Q l.b):RL q m A M most quota:=
 ⟨r.var.only o B,r.el.only o E,r.cap,r.apart,λl a=>ahn (r.low l a) o.size,r.jk⟩
theorem RL.ext{q:aa}(r:RL h m A M most quota)(x:Ext h q):RL q m A M most quota:=
 ⟨r.var.ext x,r.el.ext x,r.cap,r.apart,λl a=>ahn (r.low l a) x.size,r.jk⟩
theorem RL.len(r:RL h m A M most quota):M.length=A.len:=by have:=r.el.len;rwa [afM]at this
theorem Ij{a b:Bs 32}(q:∀k,Ext h k->R (af1 (af0 a.l b.l)).val k):Cl 133 [.bytes 32 a,.bytes 32 b] h R:=by
 apply lV;delta HB bV bK mN;refine af λC v1 l D=>af λr m g E=>?_;have n:=v1.ext g
 have gP:∀{h:aa}{b:Nat}{x:Bs 32}{i:Nat},Var 52 h b (.bytes 32 x)->(d:i<32)->ah h b (0+i*1) (.int .u8 ((x.l[i]'(by rw[x.h];exact d)).toNat:Int)):=by
  intro h b x i v d;have:=v.bytes i d;rw[agL];unfold ah;rw[this];have c:i<x.l.length:=by rw[x.h];exact d
  simp[List.getD,c]
 refine⟨λs o=>0<=s.2/\s.2<=32/\o=r/\af0 a.l b.l=af0 (a.l.drop s.2.toNat) (b.l.drop s.2.toNat),λs _=>((32:Int)-s.2).toNat,⟨by simp,by simp,rfl,by simp⟩,?_⟩;rintro⟨x,i⟩ o ⟨e,t,rfl,c⟩;simp only at e t c⊢;have F:=a.h;have G:=b.h;refine ID (λd=>?_) λd=>?_
 ·have f:i.toNat<32:=ω;have u:a.l.drop i.toNat=a.l[i.toNat]::a.l.drop (i.toNat+1):=ag6 ω;have w:b.l.drop i.toNat=b.l[i.toNat]::b.l.drop (i.toNat+1):=ag6 ω;rw[u,w]at c;simp only[af0]at c;refine⟨e,d,_,gP n f,e,d,_,gP m f,?_⟩;refine agi (λp=>?_) (λy=>?_)
  ·refine⟨e,d,_,gP n f,e,d,_,gP m f,?_⟩
   have z:(a.l[i.toNat]==b.l[i.toNat])=false:=by
    rw[beq_eq_false_iff_ne];intro A;rw[A]at p;simp at p
   rw[z,ahj,Bool.or_false]at c
   have:af0 a.l b.l=decide (((a.l[i.toNat]).toNat:Int)<((b.l[i.toNat]).toNat:Int)):=by
    rw[c];refine decide_eq_decide.2 ?_;rw[agU];omega
   dsimp only;rw[<-this];exact q _ (l.trans g)
  ·have B:a.l[i.toNat]=b.l[i.toNat]:=by
    simp only[Bool.not_eq_false',decide_eq_true_eq]at y;exact agE.1 ω
   rw[wrap_i64 ω ω];refine⟨⟨ω,ω,by trivial,?_⟩,Ω⟩;have j:(i+1).toNat=i.toNat+1:=ω;rw[j,c,B];have:¬(b.l[i.toNat]<b.l[i.toNat]):=UInt8.lt_irrefl _;simp[this]
 ·have j:i.toNat=32:=ω;rw[j,agO ω,agO ω]at c;simp only[af0]at c;rw[c]at q;exact q _ (l.trans g)
theorem DC{x y:It}(q:∀a,Ext h a->R (af1 (bf x y)).val a):Cl 288 [x.tv,y.tv] h R:=by
 apply sY x.slot x.root x.peer x.fr x.text y.slot y.root y.peer y.fr y.text;delta jw bu aJ bK;refine af λn v1 f o=>af λg b d p=>?_;have c:=v1.ext d;have e:=f.trans d;refine⟨x.slot,mU (x:=x) c,y.slot,mU (x:=y) b,agi (λi=>?_) λj=>?_⟩
 ·have k:x.slot≠y.slot:=by simpa using i
  refine⟨x.slot,mU (x:=x) c,y.slot,mU (x:=y) b,?_⟩;have:=q g e
  rwa [show bf x y=decide (x.slot<y.slot) by unfold bf;simp[k]]at this
 ·have l:x.slot=y.slot:=by simpa using j
  refine⟨x.root,jU (x:=x) c,y.root,jU (x:=y) b,Ij λa m=>⟨_,rfl,?_⟩⟩;have:=q a (e.trans m)
  rwa [show bf x y=af0 x.root.l y.root.l by unfold bf;simp[l]]at this
theorem XT(r:RL h m A M most quota){k:Int}(q:∀e,Ext h e->R (TV.i (cnt k M:Int)).val e):Cl 287 [.ptr (PT m),.i k] h R:=by
 apply rP;delta aI ZI iP bN;have H:=r.jk;have I:=r.len;refine⟨A,r.var.ah rfl,?_⟩;refine⟨λs b=>0<=s.2/\s.2<=M.length/\Ext h b/\s.1=(cnt k (M.take s.2.toNat):Int),λs _=>((M.length:Int)-s.2).toNat,⟨afT _,ag3 _,af9 _,rfl⟩,?_⟩;rintro⟨n,i⟩ b ⟨f,u,x,d⟩;simp only at f u d⊢
 have J:cnt k (M.take i.toNat)<=900:=by
  unfold cnt;have:=List.countP_le_length (p:=λx:It=>decide (x.peer=k)) (l:=M.take i.toNat);rw[af7]at this;omega
 refine ID (λv=>?_) λv=>?_
 ·refine gJ (r.el.ext x) f ω λl y _ w=>?_;refine af λK z B L=>?_;refine aH z (t:=y.tv) rfl λC D E N=>?_;have g:Ext b C:=afN B E λj O=>ω;refine⟨y.peer,Ie (x:=y) D,?_⟩;have o:(i+1).toNat=i.toNat+1:=ω;have F:M.take (i.toNat+1)=M.take i.toNat++[y]:=by rw[ag1,w];rfl
  have c:cnt k (M.take (i.toNat+1))=cnt k (M.take i.toNat)+if y.peer=k then 1 else 0:=by
   rw[F];unfold cnt;rw[List.countP_append,List.countP_singleton];by_cases a:y.peer=k<;>simp[a]
  rw[wrap_i64 (n:=i+1) ω ω];refine ID (λa=>?_) λa=>?_
  ·rw[wrap_i64 (n:=n+1) ω ω];rw[if_pos a]at c;exact⟨⟨Ω,Ω,x.trans g,by rw[o,c];omega⟩,Ω⟩
  ·rw[if_neg a]at c;exact⟨⟨Ω,Ω,x.trans g,by rw[o,c];omega⟩,Ω⟩
 ·have G:i.toNat=M.length:=ω;rw[G,agJ]at d;rw[d];exact q b x
theorem EP(r:RL h m A M most quota){k:Bs 32}(q:∀g,Ext h g->R (af1 (has k M)).val g):Cl 186 [.ptr (PT m),.bytes 32 k] h R:=by
 apply qV;delta mE aI Fq HB bV i_ bu bK bN mN;have I:=r.jk;have J:=r.len;refine af λv v1 b K=>?_;refine⟨A,(r.var.ext b).ah rfl,?_⟩;refine⟨λs c=>0<=s.2/\s.2<=M.length/\Ext v c/\has k (M.take s.2.toNat)=false,λs _=>((M.length:Int)-s.2).toNat,⟨afT _,ag3 _,af9 _,rfl⟩,?_⟩;rintro⟨n,i⟩ c ⟨o,w,x,a⟩;simp only at o w a⊢;refine ID (λz=>?_) λz=>?_
 ·refine gJ (r.el.ext (b.trans x)) o ω λl y _ p=>?_;refine af λL B C N=>?_;refine aH B (t:=y.tv) rfl λu D E O=>?_;have d:Ext c u:=afN C E λj P=>ω;refine⟨y.root,jU (x:=y) D,k,((v1.ext x).ext d).bytes,?_⟩;have F:(i+1).toNat=i.toNat+1:=ω;refine ID (λf=>?_) λf=>?_
  ·have:has k M=true:=ahE.2 ⟨y,ahi p,by simp[agP f]⟩;rw[this]at q;exact q u ((b.trans x).trans d)
  ·rw[wrap_i64 (n:=i+1) ω ω];have G:M.take (i.toNat+1)=M.take i.toNat++[y]:=by rw[ag1,p];rfl
   refine⟨⟨Ω,Ω,x.trans d,?_⟩,Ω⟩
   try dsimp only
   rw[F,G];unfold has at a⊢;rw[List.any_append,a,Bool.false_or];have:y.root≠k:=λe=>f (by rw[e]);simp[this]
 ·have H:i.toNat=M.length:=ω;rw[H,agJ]at a;rw[a]at q;exact q c (b.trans x)
theorem AQ{q:Int}(B:∀d b,RL d h.size afV [] most q->Ext h d->b=decide (1<=most/\most<=64/\1<=q/\q<=64)->R (af4 [.ptr (PT h.size),.bool b]).val d):Cl 93 [.i most,.i q] h R:=by
 apply xZ;delta SR HC fh eE;refine af λa v1 c k=>?_;have r1:RL a h.size afV [] most q:=⟨v1,ak.y_ 67 a,afR _,(λl e=>by cases e),(λl e=>by cases e),δ⟩;refine ID (λf=>ID (λg=>ID (λj=>B a _ r1 c (by simp[f,g,j])) λj=>?_) λg=>?_) λf=>?_
 ·exact B a _ r1 c (decide_eq_false ω).symm
 ·exact B a _ r1 c (decide_eq_false ω).symm
 ·exact B a _ r1 c (decide_eq_false ω).symm
end
end Pool
namespace Pool
section
variable{R:Rq}{h:aa}{m:Nat}{A:Sl}{M:List It}{most quota:Int}
theorem MI(x:It):x.tv.size=It.zero.tv.size:=rfl
set_option maxHeartbeats 1000000 in
theorem bE(r:RL h m A M most quota)(x:It)(hm:1<=most)(cy:most<=64)(cA:(M.length:Int)<=most)
 (hr:∀h' A',RL h' m A' (cD most quota x M).2.2 most quota->ag (·=m) h h'->(∀l,A'.a=some l->(∃d,A.a=some d/\d.b=l.b)\/h.size<=l.b)->R (af4 [.i (cD most quota x M).1,(cD most quota x M).2.1.tv]).val h'):
 Cl 248 [.ptr (PT m),x.tv] h R:=by
 apply qW (PT m) x.slot x.root x.peer x.fr x.text;delta xL aG aI zq W_ gU iJ W7 c7 jv c5 dI bu iI FT aJ bK bN aT bh eE;have cB:=r.var.lt;refine af λq v1 x1 s1=>af λh2 v2 x2 s2=>?_;have b1:Var 82 h2 h.size x.tv:=v1.ext x2;have b2:=x1.trans x2
 have W:∀(F:aa)(A':Sl)(S':List It)(v:Int)(y:It),Var 82 F q.size It.zero.tv->RL F m A' S' most quota->ag (·=m) h F->(∀l,A'.a=some l->(∃d,A.a=some d/\d.b=l.b)\/h.size<=l.b)->(∀l,A'.a=some l->l.b≠q.size)->cD most quota x M=(v,y,S')->
  gi F q.size 0 67/\Bind (agV F q.size 0 y.tv) λ(h:aa)=>
   ∃(n:Int),∃(c:Bs 32),∃(n1:Int),∃(c1:Bs 32),∃(s:LU),(ah h q.size 0 (.i n)/\ay h q.size 1 32 c/\ah h q.size 33 (.i n1)/\ay h q.size 34 32 c1/\ah h q.size 66 (.string (agC (ag4 s))))/\
    R (af4 [.i v,.agg [.i n,.bytes 32 c,.i n1,.bytes 32 c1,.str s]]).val h:=by
  intro F A' S' v y vz rl o nw ne e;refine aH vz (t:=y.tv) (MI y) λN v9 X b=>pZ (x:=y) v9 ?_;have:=hr N A' (by rw[e];exact rl.only X ω ne) ⟨agv o.size X.size,λi hi hn=>by rw[X.same i (by have:=o.size;omega) ω,o.same i hi hn]⟩ nw;rw[e]at this;exact this
 have ca:=r.low;have r2:=r.ext b2;refine⟨x.root,jU (x:=x) b1,EP r2 λH x3=>⟨_,rfl,?_⟩⟩;have b3:=b2.trans x3;have r3:=r2.ext x3;have b5:Var 82 H h.size x.tv:=b1.ext x3;have b6:Var 82 H q.size It.zero.tv:=v2.ext x3;have a5:∀F,Ext h F->ag (·=m) h F:=λF e=>aga e;have a6:∀l,A.a=some l->(∃d,A.a=some d/\d.b=l.b)\/h.size<=l.b:=λl g=>.inl ⟨l,g,rfl⟩;have a7:∀l,A.a=some l->l.b≠q.size:=λl g=>by have:=ca l g;omega
 cases Y:has x.root M with
 |true=>exact af2 (W H A M 9 It.zero b6 r3 (a5 _ b3) a6 a7 (by unfold cD;rw[if_pos Y]))
 |false=>
 refine afU ⟨x.peer,Ie (x:=x) b5,quota,r3.var.ah rfl,XT r3 λZ x4=>⟨_,rfl,x4,?_⟩⟩;have a8:=b3.trans x4;have r4:=r3.ext x4;have b7:=b5.ext x4;have a9:=b6.ext x4;refine ID (λD=>?_) λD=>?_
 ·exact W Z A M 11 It.zero a9 r4 (a5 _ a8) a6 a7 (by unfold cD;rw[if_neg (by rw[Y];decide),if_pos D])
 refine⟨A,r4.var.ah rfl,?_⟩;have g:=r.len;intro J hJ
 have key:∀h5,Ext Z h5->((M.length:Int)<most\/∃y,M.getLast? =some y/\bf x y=true)->J 0 h5:=by
  intro h5 x5 a';refine hJ _ _ ?_;clear hJ;refine⟨λi F=>0<=i/\i<=A.len/\Ext h5 F/\∀j y,j<i.toNat->M[j]? =some y->bf x y=false,λi _=>((A.len:Int)-i).toNat,⟨afT 0,ω,af9 _,λj y hj=>absurd hj (by simp)⟩,?_⟩;rintro i V ⟨i0,i1,x6,hall⟩;have a3:=x5.trans x6;have r6:=r4.ext a3;have v16:=b7.ext a3
  have b':∀D,Ext V D->(i.toNat=M.length\/∃y,M[i.toNat]? =some y/\bf x y=true)->∃(h0:RL D m A M most quota)(a4:Var 82 D h.size x.tv)(ao:Var 82 D q.size It.zero.tv),Ext h D/\dR x M=M.take i.toNat++([x]++M.drop i.toNat):=
   λD G cc=>⟨r6.ext G,v16.ext G,(a9.ext a3).ext G,(a8.trans a3).trans G,XS x M i.toNat ω hall cc⟩
  refine ID (λhi=>?_) λhi=>?_
  ·refine pZ (x:=x) v16 ⟨A,r6.var.ah rfl,gJ r6.el i0 ω λl y _ K=>?_⟩;refine DC (x:=x) (y:=y) λh7 x7=>⟨_,rfl,?_⟩;cases I:bf x y with
   |false=>
    refine af2 ?_;rw[wrap_i64 (n:=i+1) ω ω];refine⟨⟨ω,ω,x6.trans x7,λj z hj u=>?_⟩,Ω⟩;by_cases cd:j<i.toNat
    ·exact hall j z cd u
    ·have:j=i.toNat:=ω;subst this;rw[K]at u;injection u with u;subst u;exact I
   |true=>
    refine afU ?_;obtain⟨w,a4,ao,G,ba⟩:=b' h7 x7 (.inr ⟨y,K,I⟩);refine⟨A,w.var.ah rfl,i0,by have:=w.cap;omega,i0,afT _,pZ (x:=x) a4 ⟨A,w.var.ah rfl,i0,i1,af5 _ _,?_⟩⟩;have xp:=af5 h7 (row (afY [x.tv]) 82);have op:=agx (T:=82) (sz:=67) h7 [x.tv] (λt ht=>by rw[ahh.1 ht];rfl);have ap:=KP (i:=i.toNat) (j:=A.len) (w.el.ext xp) ω (afR _) A.cap w.cap;have ar:=KP (i:=0) (j:=i.toNat) (w.el.ext xp) (agd _) ω i.toNat (afR _);rw[ag9,agY,<-aha]at ar;rw[<-List.map_drop,ag2 (by rw[afM,afZ];omega)]at ap;have bb:(h7.push (row (afY [x.tv]) 82)).size=h7.size+1:=by simp
    have ce:=r.jk;refine pT (C:=ctx) (T:=82) (sz:=67) MH GB (by rw[sE];decide) δ (by rw[sE];simp only[aA];omega) op ap (qU _) (uE _) λs8 k o8 x8 _ b8=>⟨x8 rfl,?_⟩;have ab:=x8 rfl;have z8:h7.size+1<=k.size:=by have:=ab.size;rw[<-bb];exact this
    have bc:=o8.len;rw[afQ,afM,afZ,agj]at bc;refine zR (C:=ctx) (T:=82) (sz:=67) (ts:=oc (M.take i.toNat)) (us:=oc ([x]++M.drop i.toNat)) MH GB (by rw[sE];decide) δ (by rw[sE];simp only[aA];omega) (ar.ext ab) (qU _) (by simp[aA]) o8.elems (qU _) (uE _) ω λb N X x9 b9=>?_;have ac:Own 82 67 N b (oc (dR x M)):=by rw[ba];simpa[oc]using X
    have O:Ext h7 N:=(xp.trans ab).trans x9;have bd:=G.trans O;have r9:=w.ext O;have cf:=O.size;refine aF (i:=0) (t:=.slice b) (t0:=.slice A) r9.var rfl rfl rfl rfl λp v10(ad:ag (·=m) N p) ch=>?_;have P:Var 74 p m (.agg [.slice b,.i most,.i quota]):=v10;have bi:=ac.lt;have m0:∀l,b.a=some l->l.b≠m:=λl g=>by have:=b9 l g;have:=G.size;omega
    have ae:RL p m b (dR x M) most quota:=⟨P,ac.elems.only ad m0,ac.cap,m0,λl g=>by have:=bi l g;omega,by rw[jJ];omega⟩;have aw:ag (·=m) h p:=(aga bd).trans ad;have aE:∀l,b.a=some l->(∃d,A.a=some d/\d.b=l.b)\/h.size<=l.b:=λl g=>.inr (by have:=b9 l g;have:=G.size;omega);have a0:∀l,b.a=some l->l.b≠q.size:=λl g=>by have:=b9 l g;have:=ao.lt;omega
    have a1:Var 82 p q.size It.zero.tv:=(ao.ext O).only ad ω;refine⟨most,P.ah rfl,ID (λbj=>?_) λbk=>?_⟩
    ·exact W p b (dR x M) 1 It.zero a1 ae aw aE a0 (by unfold cD;rw[if_neg (by rw[Y];decide),if_neg D,if_pos (by rw[g];exact bj)])
    ·obtain⟨y,K,I⟩:∃y,M.getLast? =some y/\bf x y=true:=by
      rcases a' with h|h
      ·omega
      ·exact h
     have L:=Ii K I;have ci:=jJ x M
     have Q:(dR x M.dropLast).length=M.length:=by
      have:=congrArg ahc L;rw[afQ,agj]at this;omega
     refine⟨b,P.ah rfl,?_⟩;refine gJ (i:=(A.len:Int)) ae.el ω ω λl z _ u=>?_
     have bl:z=y:=by
      rw[L,agm,<-g,<-Q,agD (afR _),ahF]at u;injection u with u;exact u.symm
     subst bl;refine af λcj v11 bm cl=>aH (t0:=It.zero.tv) (t:=z.tv) v11 (MI z) λa2 bo bp cp=>?_;have al:Ext p a2:=afN bm bp λj hj=>ω;have E:=ae.ext al;have cs:=E.cap;have ct:=E.len;refine⟨b,E.var.ah rfl,ω,ω,ω,afT _,?_⟩;have am:=KP (i:=0) (j:=A.len) E.el (agd _) ω A.len (afR _);rw[ag9,agY,<-aha,L,<-g,<-Q,List.take_left]at am;rw[Q,g]at am;refine aF (i:=0) (t:=.slice (aA (@agk b.a b.len A.len b.JR) 0 A.len 67)) (t0:=.slice b) E.var rfl rfl rfl rfl λh13 br(S:ag (·=m) a2 h13) cw=>?_
     have U:∀l,(aA (@agk b.a b.len A.len b.JR) 0 A.len 67).a=some l->∃d,b.a=some d/\d.b=l.b:=λl f=>by
      unfold aA at f;simp only at f;split at f
      ·exact⟨l,f,rfl⟩
      ·cases hs:b.a with
       |none=>rw[hs]at f;simp at f
       |some l0=>
        rw[hs]at f;simp only[ahb,Option.some.injEq]at f;subst f;exact⟨l0,rfl,rfl⟩
     have m1:∀l,(aA (@agk b.a b.len A.len b.JR) 0 A.len 67).a=some l->l.b≠m:=λl f=>by
      obtain⟨d,k,B⟩:=U l f;rw[<-B];exact m0 d k
     have bt:RL h13 m (aA (@agk b.a b.len A.len b.JR) 0 A.len 67) (dR x M.dropLast) most quota:=⟨br,am.only S m1,by simp[aA],m1,λl f=>by
      obtain⟨d,k,B⟩:=U l f;have:=E.low d k;omega,by rw[Q];omega⟩
     have cx:m<p.size:=P.lt;have bx:Var 82 h13 p.size z.tv:=bo.only S ω;have b0:Var 82 h13 q.size It.zero.tv:=(a1.ext al).only S ω;refine pZ (x:=z) bx (W h13 _ (dR x M.dropLast) 2 z b0 bt (aw.trans ((aga al).trans S)) (λl f=>?_) (λl f=>?_) ?_)
     ·obtain⟨d,k,B⟩:=U l f;rcases aE d k with⟨l3,H,Z⟩|H
      ·exact .inl ⟨l3,H,by rw[Z,B]⟩
      ·exact .inr (by rw[<-B];exact H)
     ·obtain⟨d,k,B⟩:=U l f;rw[<-B];exact a0 d k
     ·unfold cD;rw[if_neg (by rw[Y];decide),if_neg D,if_neg (by rw[g];exact bk),K];simp[I]
  ·obtain⟨w,a4,ao,G,ba⟩:=b' V (af9 _) (.inl ω);refine⟨A,w.var.ah rfl,i0,by have:=w.cap;omega,i0,afT _,pZ (x:=x) a4 ⟨A,w.var.ah rfl,i0,i1,af5 _ _,?_⟩⟩;have xp:=af5 V (row (afY [x.tv]) 82);have op:=agx (T:=82) (sz:=67) V [x.tv] (λt ht=>by rw[ahh.1 ht];rfl);have ap:=KP (i:=i.toNat) (j:=A.len) (w.el.ext xp) ω (afR _) A.cap w.cap;have ar:=KP (i:=0) (j:=i.toNat) (w.el.ext xp) (agd _) ω i.toNat (afR _);rw[ag9,agY,<-aha]at ar;rw[<-List.map_drop,ag2 (by rw[afM,afZ];omega)]at ap;have bb:(V.push (row (afY [x.tv]) 82)).size=V.size+1:=by simp
   have ce:=r.jk;refine pT (C:=ctx) (T:=82) (sz:=67) MH GB (by rw[sE];decide) δ (by rw[sE];simp only[aA];omega) op ap (qU _) (uE _) λs8 k o8 x8 _ b8=>⟨x8 rfl,?_⟩;have ab:=x8 rfl;have z8:V.size+1<=k.size:=by have:=ab.size;rw[<-bb];exact this
   have bc:=o8.len;rw[afQ,afM,afZ,agj]at bc;refine zR (C:=ctx) (T:=82) (sz:=67) (ts:=oc (M.take i.toNat)) (us:=oc ([x]++M.drop i.toNat)) MH GB (by rw[sE];decide) δ (by rw[sE];simp only[aA];omega) (ar.ext ab) (qU _) (by simp[aA]) o8.elems (qU _) (uE _) ω λb N X x9 b9=>?_;have ac:Own 82 67 N b (oc (dR x M)):=by rw[ba];simpa[oc]using X
   have O:Ext V N:=(xp.trans ab).trans x9;have bd:=G.trans O;have r9:=w.ext O;have cf:=O.size;refine aF (i:=0) (t:=.slice b) (t0:=.slice A) r9.var rfl rfl rfl rfl λp v10(ad:ag (·=m) N p) ch=>?_;have P:Var 74 p m (.agg [.slice b,.i most,.i quota]):=v10;have bi:=ac.lt;have m0:∀l,b.a=some l->l.b≠m:=λl g=>by have:=b9 l g;have:=G.size;omega
   have ae:RL p m b (dR x M) most quota:=⟨P,ac.elems.only ad m0,ac.cap,m0,λl g=>by have:=bi l g;omega,by rw[jJ];omega⟩;have aw:ag (·=m) h p:=(aga bd).trans ad;have aE:∀l,b.a=some l->(∃d,A.a=some d/\d.b=l.b)\/h.size<=l.b:=λl g=>.inr (by have:=b9 l g;have:=G.size;omega);have a0:∀l,b.a=some l->l.b≠q.size:=λl g=>by have:=b9 l g;have:=ao.lt;omega
   have a1:Var 82 p q.size It.zero.tv:=(ao.ext O).only ad ω;refine⟨most,P.ah rfl,ID (λbj=>?_) λbk=>?_⟩
   ·exact W p b (dR x M) 1 It.zero a1 ae aw aE a0 (by unfold cD;rw[if_neg (by rw[Y];decide),if_neg D,if_pos (by rw[g];exact bj)])
   ·obtain⟨y,K,I⟩:∃y,M.getLast? =some y/\bf x y=true:=by
     rcases a' with h|h
     ·omega
     ·exact h
    have L:=Ii K I;have ci:=jJ x M
    have Q:(dR x M.dropLast).length=M.length:=by
     have:=congrArg ahc L;rw[afQ,agj]at this;omega
    refine⟨b,P.ah rfl,?_⟩;refine gJ (i:=(A.len:Int)) ae.el ω ω λl z _ u=>?_
    have bl:z=y:=by
     rw[L,agm,<-g,<-Q,agD (afR _),ahF]at u;injection u with u;exact u.symm
    subst bl;refine af λcj v11 bm cl=>aH (t0:=It.zero.tv) (t:=z.tv) v11 (MI z) λa2 bo bp cp=>?_;have al:Ext p a2:=afN bm bp λj hj=>ω;have E:=ae.ext al;have cs:=E.cap;have ct:=E.len;refine⟨b,E.var.ah rfl,ω,ω,ω,afT _,?_⟩;have am:=KP (i:=0) (j:=A.len) E.el (agd _) ω A.len (afR _);rw[ag9,agY,<-aha,L,<-g,<-Q,List.take_left]at am;rw[Q,g]at am;refine aF (i:=0) (t:=.slice (aA (@agk b.a b.len A.len b.JR) 0 A.len 67)) (t0:=.slice b) E.var rfl rfl rfl rfl λh13 br(S:ag (·=m) a2 h13) cw=>?_
    have U:∀l,(aA (@agk b.a b.len A.len b.JR) 0 A.len 67).a=some l->∃d,b.a=some d/\d.b=l.b:=λl f=>by
     unfold aA at f;simp only at f;split at f
     ·exact⟨l,f,rfl⟩
     ·cases hs:b.a with
      |none=>rw[hs]at f;simp at f
      |some l0=>
       rw[hs]at f;simp only[ahb,Option.some.injEq]at f;subst f;exact⟨l0,rfl,rfl⟩
    have m1:∀l,(aA (@agk b.a b.len A.len b.JR) 0 A.len 67).a=some l->l.b≠m:=λl f=>by
     obtain⟨d,k,B⟩:=U l f;rw[<-B];exact m0 d k
    have bt:RL h13 m (aA (@agk b.a b.len A.len b.JR) 0 A.len 67) (dR x M.dropLast) most quota:=⟨br,am.only S m1,by simp[aA],m1,λl f=>by
     obtain⟨d,k,B⟩:=U l f;have:=E.low d k;omega,by rw[Q];omega⟩
    have cx:m<p.size:=P.lt;have bx:Var 82 h13 p.size z.tv:=bo.only S ω;have b0:Var 82 h13 q.size It.zero.tv:=(a1.ext al).only S ω;refine pZ (x:=z) bx (W h13 _ (dR x M.dropLast) 2 z b0 bt (aw.trans ((aga al).trans S)) (λl f=>?_) (λl f=>?_) ?_)
    ·obtain⟨d,k,B⟩:=U l f;rcases aE d k with⟨l3,H,Z⟩|H
     ·exact .inl ⟨l3,H,by rw[Z,B]⟩
     ·exact .inr (by rw[<-B];exact H)
    ·obtain⟨d,k,B⟩:=U l f;rw[<-B];exact a0 d k
    ·unfold cD;rw[if_neg (by rw[Y];decide),if_neg D,if_neg (by rw[g];exact bk),K];simp[I]
 refine⟨most,r4.var.ah rfl,ID (λcC=>?_) λa'=>key Z (af9 _) (.inl ω)⟩;have cI:(M.length:Int)=most:=ω;refine pZ (x:=x) b7 ⟨A,r4.var.ah rfl,?_⟩;rw[wrap_i64 (n:=(A.len:Int)-1) ω (by have:=r.jk;omega)];refine gJ r4.el ω ω λl y _ K=>DC (x:=x) (y:=y) λh5 x5=>⟨_,rfl,?_⟩
 have L:M.getLast? =some y:=by
  rw[List.getLast?_eq_getElem?,<-K];congr 1;omega
 cases I:bf x y with
 |true=>exact afU (key h5 x5 (.inr ⟨y,L,I⟩))
 |false=>
  refine af2 (W h5 A M 12 It.zero (a9.ext x5) (r4.ext x5) (a5 _ (a8.trans x5)) a6 a7 ?_);unfold cD;rw[if_neg (by rw[Y];decide),if_neg D,if_neg ω,L];simp[I]
end
end Pool
namespace Board
def num:LU->Nat
 |[]=>0
 |c::s=>c.toNat+256*num s
theorem zS:∀s:LU,num s<256^s.length
 |[]=>δ
 |c::s=>by
  have h:=zS s;have a:=c.toNat_lt;rw[num,agR,ahD];omega
theorem OZ:∀(s:LU)(c:UInt8),num (s++[c])=num s+256^s.length*c.toNat
 |[],c=>by simp[num]
 |a::s,c=>by
  rw[ahC,num,OZ s c,num,agR,ahD,Nat.mul_add,<-Nat.mul_assoc,Nat.mul_comm 256 (256^s.length)];omega
theorem To{s:LU}(h:s.length<=8):num s<18446744073709551616:=by
 have a:=zS s;have b:256^s.length<=256^8:=agQ δ h;have c:256^8=18446744073709551616:=δ;omega
def og(c:UInt8)(k:Nat):Bool:=decide (c.toNat/2^k%2=1)
def sF(c:UInt8):List Bool:=(agw 8).map (og c)
def bitsOf(s:LU):List Bool:=s.flatMap sF
theorem jK(c:UInt8):(sF c).length=8:=by simp[sF]
theorem iY:∀s:LU,(bitsOf s).length=8*s.length
 |[]=>rfl
 |c::s=>by
  show(sF c++bitsOf s).length=_;rw[afQ,jK,iY s,agR];omega
theorem Cp:∀(s:LU)(i:Nat),i<8*s.length->(bitsOf s)[i]? =some (og (s.getD (i/8) 0) (i%8))
 |[],i,h=>by simp at h
 |c::s,i,h=>by
  show(sF c++bitsOf s)[i]? =_;by_cases d:i<8
  ·rw[agG (by rw[jK];exact d)];have a:i/8=0:=ω;have b:i%8=i:=ω;rw[a,b];simp[sF,d]
  ·rw[agD (by rw[jK];omega),jK,Cp s (i-8) (by rw[agR]at h;omega)];have a:i/8=(i-8)/8+1:=ω;have b:(i-8)%8=i%8:=ω;rw[a,b];rfl
theorem O4(s:LU)(c:UInt8):bitsOf (s++[c])=bitsOf s++sF c:=by
 unfold bitsOf;rw[List.flatMap_append];simp
def wE(c:UInt8):Nat:=c.toNat.log2
theorem ER:∀n:Fin 256,n.val≠0->n.val.log2<8/\n.val/2^n.val.log2%2=1/\∀k:Fin 8,n.val.log2<k.val->n.val/2^k.val%2=0:=by decide+kernel
theorem ES{c:UInt8}(h:c≠0):wE c<8:=by
 have a:c.toNat≠0:=λe=>h (agE.1 e);exact(ER ⟨c.toNat,c.toNat_lt⟩ a).1
theorem Ik{c:UInt8}(h:c≠0):og c (wE c)=true:=by
 have a:c.toNat≠0:=λe=>h (agE.1 e);exact decide_eq_true (ER ⟨c.toNat,c.toNat_lt⟩ a).2.1
theorem UL{c:UInt8}(h:c≠0){k:Nat}(q:wE c<k)(A:k<8):og c k=false:=by
 have a:c.toNat≠0:=λe=>h (agE.1 e);refine decide_eq_false λe=>?_;have:=(ER ⟨c.toNat,c.toNat_lt⟩ a).2.2 ⟨k,A⟩ q;rw[this]at e;cases e
theorem XU(k:Nat):og 0 k=false:=by
 refine decide_eq_false λe=>?_;have:(0:UInt8).toNat=0:=rfl;rw[this,Nat.zero_div]at e;cases e
def qX(s:LU):Nat:=8*(s.length-1)+wE (s.getLastD 0)
def zT(s:LU)(most:Nat):Option (List Bool):=
 if s=[]\/s.getLastD 0=0 then none else if most<qX s then none else some ((bitsOf s).take (qX s))
structure Dm where
 kind:Int
 slot:Int
 target:Bs 32
 ax:Int
 body:Int
 row:List Bool
 tag:Bs 16
def Dm.ms(d:Dm)(b:Sl):Ms:=⟨d.kind,d.slot,d.target,d.ax,d.body,b,d.tag⟩
def Dm.zero:Dm:=⟨0,0,af6 32,0,0,[],af6 16⟩
def O5(d:Dm):Option Dm:=if dn (d.ms afV) d.row=true then some d else none
def dM(s:LU):Option Dm:=
 if s.length<53 then none
 else if s.getD 0 0=1 then
  if s.length=63 then O5 ⟨1,(num ((s.drop 1).take 4):Nat),eO 32 ((s.drop 5).take 32),(num ((s.drop 37).take 2):Nat),(num ((s.drop 39).take 8):Nat),[],eO 16 (s.drop 47)⟩else none
 else if s.getD 0 0=2 then
  if s.length=55 then O5 ⟨2,(num ((s.drop 1).take 4):Nat),eO 32 ((s.drop 5).take 32),(num ((s.drop 37).take 2):Nat),0,[],eO 16 (s.drop 39)⟩else none
 else if s.getD 0 0=3 then
  match zT ((s.drop 37).take (s.length-53)) 16 with
  |none=>none
  |some row=>O5 ⟨3,(num ((s.drop 1).take 4):Nat),eO 32 ((s.drop 5).take 32),0,0,row,eO 16 (s.drop (s.length-16))⟩
 else none
theorem DE{d e:Dm}(h:O5 d=some e):e=d/\dn (d.ms afV) d.row=true:=by
 unfold O5 at h;split at h
 ·rename_i a;exact⟨(Option.some.inj h).symm,a⟩
 ·cases h
theorem ov{s:LU}{d:Dm}(h:dM s=some d):dn (d.ms afV) d.row=true:=by
 unfold dM at h;split at h
 ·cases h
 split at h
 ·split at h
  ·obtain⟨rfl,a⟩:=DE h;exact a
  ·cases h
 split at h
 ·split at h
  ·obtain⟨rfl,a⟩:=DE h;exact a
  ·cases h
 split at h
 ·split at h
  ·cases h
  ·obtain⟨rfl,a⟩:=DE h;exact a
 ·cases h
end Board
namespace Board
section
variable{R:Rq}{h:aa}{b:Nat}{r:LU}{sh:Bool}
def ir(r:LU)(sh:Bool)(n:Int):LU×LU×Bool:=
 if sh=true\/n<0\/(r.length:Int)<n then([],[],true)else(r.take n.toNat,r.drop n.toNat,sh)
theorem GC{n:Int}:(ir r sh n).1.length<=n.toNat:=by
 unfold ir;split
 ·exact agd _
 ·rw[af7];omega
theorem Re{n:Nat}(h:n<=r.length):ir r false (n:Int)=(r.take n,r.drop n,false):=by
 unfold ir;rw[if_neg]
 ·rfl
 ·rintro(a|a|a)
  ·cases a
  ·omega
  ·omega
theorem MJ{n:Int}(h:sh=true\/n<0\/(r.length:Int)<n):ir r sh n=([],[],true):=if_pos h
def Rd(h:aa)(b:Nat)(r:LU)(sh:Bool):Prop:=Var 355 h b (.agg [.str r,.bool sh])
theorem sG{n:Int}(v:Rd h b r sh)(q:∀d,Rd d b (ir r sh n).2.1 (ir r sh n).2.2->ag (·=b) h d->R (agq (ir r sh n).1).val d):
 Cl 228 [.ptr (PT b),.i n] h R:=by
 apply x_;delta Dd c4;have v:Var 355 h b (.agg [.str r,.bool sh]):=v;intro x o p m
 have e:(sh=true\/n<0\/(r.length:Int)<n)->p true h:=by
  intro f;rw[MJ f]at q;refine m true h (af2 (af2 ?_));refine aF (i:=1) (t:=.bool true) (t0:=.bool sh) v rfl rfl rfl rfl λa v1 f1 y=>?_;refine aF (i:=0) (t:=.str []) (t0:=.str r) v1 rfl rfl rfl rfl λg j f2 s=>?_;exact q g j (f1.trans f2)
 refine afU ⟨sh,v.ah rfl,?_⟩;refine agi (λf=>e (.inl (by simpa using f))) λk=>ID (λl=>e (.inr (.inl l))) λl=>⟨r,v.ah rfl,?_⟩;have k:sh=false:=by simpa using k
 by_cases c:(r.length:Int)<n
 ·dsimp only;rw[decide_eq_true c];exact e (.inr (.inr c))
 dsimp only;rw[decide_eq_false c];have u:ir r sh n=(r.take n.toNat,r.drop n.toNat,sh):=if_neg (by rw[k];rintro(a|a|a)<;>first|cases a|exact l a|exact c a);rw[u]at q;refine m false h (afU (o _ h ⟨r,v.ah rfl,ω,ω,r,v.ah rfl,ω,ω,?_⟩));have w:List.take (r.length-n.toNat) (r.drop n.toNat)=r.drop n.toNat:=ag2 (by rw[afZ];omega);refine ?_;show gi h b 0 1/\Bind _ _;rw[w];refine aF (i:=0) (t:=.str (r.drop n.toNat)) (t0:=.str r) v rfl rfl rfl rfl λg j f2 s=>?_;exact q g j f2
theorem Rg(A B:Nat)(q:B<2^8)(E:A*2^8+B<18446744073709551616):((agb (afP 64 ((A*2^8:Nat):Int)|||afP 64 (B:Int)):Nat):Int)=((A*2^8+B:Nat):Int):=by
 rw[ahp,ahp,BitVec.toNat_or,ahq,ahq,ahf ω,ahf ω];have:=Nat.shiftLeft_add_eq_or_of_lt q A;rw[Nat.shiftLeft_eq]at this;rw[this]
theorem aeu(A:Nat)(c:UInt8)(q:A<72057594037927936):
 afK .u64 (↑(agb (afP (afL .u64) (afK .u64 ((A:Int)*2^min (afO 8) (afL .u64)))|||afP (afL .u64) (afK .u64 (c.toNat:Int)))):Int)=((c.toNat+256*A:Nat):Int):=by
 have d:=c.toNat_lt
 have a:afK .u64 ((A:Int)*2^min (afO 8) (afL .u64))=((A*2^8:Nat):Int):=by
  show afK .u64 ((A:Int)*256)=_;rw[bH ω ω];omega
 have b:afK .u64 (c.toNat:Int)=(c.toNat:Int):=bH ω ω;rw[a,b];show afK .u64 (↑(agb (afP 64 ((A*2^8:Nat):Int)|||afP 64 (c.toNat:Int))):Int)=_;rw[Rg A c.toNat ω ω,bH ω ω];omega
theorem qY{w:Int}(v:Rd h b r sh)(A:w<=8)(q:∀c,Rd c b (ir r sh w).2.1 (ir r sh w).2.2->ag (·=b) h c->R (age .u64 (num (ir r sh w).1:Nat)).val c):
 Cl 227 [.ptr (PT b),.i w] h R:=by
 apply zU;delta dz aG c7 c4 aT;intro u l;refine ID (λd=>ω) λ_=>l w h ?_;refine sG v λd v1 f1=>⟨_,rfl,?_⟩;have m:(ir r sh w).1.length<=8:=agv GC ω;have f:=q d v1 f1;generalize(ir r sh w).1=s at m f;refine⟨λσ g=>-1<=σ.2/\σ.2<s.length/\g=d/\σ.1=((num (s.drop (σ.2+1).toNat):Nat):Int),λσ _=>(σ.2+1).toNat,⟨?_,?_,rfl,?_⟩,?_⟩
 ·show-1<=afK .i64 _;rw[wrap_i64 ω ω];omega
 ·show afK .i64 _<_;rw[wrap_i64 ω ω];omega
 ·show(0:Int)=((num (s.drop (afK .i64 _+1).toNat):Nat):Int);rw[wrap_i64 ω ω,List.drop_of_length_le ω];rfl
 rintro⟨a,i⟩ g ⟨o,j,rfl,e⟩;dsimp only at o j e⊢;refine ID (λk=>⟨δ,k,j,?_⟩) λk=>?_
 ·have x:=zS (s.drop (i+1).toNat);have p:(s.drop (i+1).toNat).length<=7:=by rw[afZ];omega
  have y:256^(s.drop (i+1).toNat).length<=256^7:=agQ δ p;have z:256^7=72057594037927936:=δ
  have t:s.drop i.toNat=s.getD i.toNat 0::s.drop (i+1).toNat:=by
   rw[ag6 ω,afW,agh ω,show(i+1).toNat=i.toNat+1 by omega];rfl
  rw[e,aeu _ _ ω,wrap_i64 (n:=i-1) ω ω];refine⟨⟨Ω,Ω,rfl,?_⟩,Ω⟩
  try dsimp only
  rw[show(i-1+1).toNat=i.toNat by omega,t,num]
 ·have:(i+1).toNat=0:=ω;rw[e,this];exact f
theorem UM{s:LU}(q:∀a,Rd a h.size s false->Ext h a->a.size=h.size+1->R (agf (PT h.size)).val a):Cl 226 [.str s] h R:=by
 apply JG;delta mD fh eE;exact af λb v1 c d=>q b v1 c d
theorem UN(v:Rd h b r sh)(q:R (TV.i (r.length:Int)).val h):Cl 230 [.ptr (PT b)] h R:=by
 have v:Var 355 h b (.agg [.str r,.bool sh]):=v;apply zV;delta aD c4 dO bh;exact afU ⟨r,v.ah rfl,q⟩
theorem UO(v:Rd h b r sh)(q:R (af1 (!sh&&decide (r=[]))).val h):Cl 231 [.ptr (PT b)] h R:=by
 have v:Var 355 h b (.agg [.str r,.bool sh]):=v;apply Bt;delta bO mN;refine af2 ⟨sh,v.ah rfl,?_⟩;cases sh with
 |true=>exact afU q
 |false=>exact af2 ⟨r,v.ah rfl,q⟩
def adj:LU:=(agw 256).map λi=>if i=0 then 0 else afX (Nat.log2 i+1)
theorem Rh{x:Int}(H:0<=x/\x<256/\R (TV.i (afK .i64 ((adj.getD x.toNat 0).toNat:Int))).val h):Cl 278 [.int .u8 x] h R:=vi Tryz.func278 H
theorem XV:∀n:Fin 256,n.val≠0->afK .i64 ((adj.getD n.val 0).toNat:Int)=((n.val.log2+1:Nat):Int):=by decide+kernel
theorem UP{c:UInt8}(q:c≠0)(A:R (TV.i ((wE c+1:Nat):Int)).val h):Cl 278 [.int .u8 (c.toNat:Int)] h R:=by
 apply Rh;have a:=c.toNat_lt;have b:c.toNat≠0:=λe=>q (agE.1 e);refine⟨ag3 _,ω,?_⟩;rw[agm,XV ⟨c.toNat,a⟩ b];exact A
theorem XW:∀c:Fin 256,∀k:Fin 8,decide (afK .u8 (↑(agb (afP (afL .u8) (af3 ((c.val:Nat):Int) ((2:Int)^min (afO ((k.val:Nat):Int)) (afL .u8)))&&&afP (afL .u8) 1)):Int)=1)=decide (c.val/2^k.val%2=1):=by decide+kernel
theorem Il{s:LU}(_h:s≠[]):s.getD (s.length-1) 0=s.getLastD 0:=by
 rw[List.getLastD_eq_getLast?,List.getLast?_eq_getElem?,afW]
def zW(l:List Bool)(n i:Nat):List Bool:=l.take i++af8 (n-i) false
theorem UQ{l:List Bool}{n i:Nat}{x:Bool}(q:l[i]? =some x)(A:i<n):(zW l n i).set i x=zW l n (i+1):=by
 have b:=(agI.1 q).1;unfold zW
 have a:af8 (n-i) false=false::af8 (n-(i+1)) false:=by
  rw[show n-i=(n-(i+1))+1 by omega,List.replicate_succ]
 rw[List.set_append_right _ _ (by rw[af7];omega),af7,Nat.min_eq_left ω,ahF,a,List.set_cons_zero,ag1,q,agF];rfl
theorem UR{s:LU}(q:s.length<100000)(A:zT s 16=none->R (af4 [.slice afV,.bool false]).val h)
 (B:∀row k t,zT s 16=some row->Own 4 1 k t (aP row)->Ext h k->(∀l,t.a=some l->h.size<=l.b)->R (af4 [.slice t,.bool true]).val k):
 Cl 229 [.str s,.i 16] h R:=by
 apply DF;delta Kr aG Oe c5 dL sN c4 eE;intro z d;refine ID (λa=>?_) λa=>?_
 ·refine A ?_;have:s=[]:=a;unfold zT;rw[if_pos (.inl this)]
 have a:s≠[]:=a;have O:0<s.length:=List.length_pos_iff.2 a;have r:afK .i64 ((s.length:Int)-1)=((s.length-1:Nat):Int):=by rw[wrap_i64 ω ω];omega
 rw[r];rw[r]at d;refine⟨ω,ω,?_⟩;rw[agm,Il a];rw[agm,Il a]at d;refine ID (λb=>?_) λb=>d _ _ ?_
 ·refine A ?_;have:s.getLastD 0=0:=agE.1 (by show _=0;omega);unfold zT;rw[if_pos (.inr this)]
 clear d z;have b:s.getLastD 0≠0:=λe=>b (by rw[e];rfl);have u:=ES b;refine⟨ω,ω,UP b ⟨_,rfl,?_⟩⟩
 have c:zT s 16=if 16<qX s then none else some ((bitsOf s).take (qX s)):=by
  unfold zT;rw[if_neg (by rintro(m|m);exact a m;exact b m)]
 have C:afK .i64 (afK .i64 (afK .i64 (8*((s.length-1:Nat):Int))+((wE (s.getLastD 0)+1:Nat):Int))-1)=(qX s:Int):=by
  unfold qX;rw[wrap_i64 (n:=8*((s.length-1:Nat):Int)) ω ω,wrap_i64 (n:=8*((s.length-1:Nat):Int)+((wE (s.getLastD 0)+1:Nat):Int)) ω ω,wrap_i64 ω ω];omega
 dsimp only;rw[C];have D:qX s<8*s.length:=by unfold qX;omega
 refine ID (λv=>A (by rw[c,if_pos ω])) λv=>?_;rw[if_neg ω]at c;generalize qX s=n at c v D;have P:(bitsOf s).length=8*s.length:=iY s;obtain⟨row,o⟩:∃row,row=(bitsOf s).take n:=⟨_,rfl⟩;have Q:row.length=n:=by rw[o,af7];omega
 rw[<-o]at c;refine⟨ω,ω,by show(1:Int)*(n:Int)<=_;omega,ω,?_⟩;simp only[agm];have ob:=agx (T:=4) (sz:=1) h (af8 n (af1 false)) (λt u=>by rw[List.eq_of_mem_replicate u];rfl);rw[List.length_replicate,<-gh]at ob;have E:af8 n (af1 false)=aP (zW row n 0):=by unfold zW;simp[aP]
 rw[E]at ob;have F:=af5 h (Vc.row (bZ (af1 false) n) 4);refine⟨λi f=>0<=i/\i<=n/\Ext h f/\Own 4 1 f ⟨some ⟨h.size,0⟩,n,n⟩ (aP (zW row n i.toNat)),λi _=>((n:Int)-i).toNat,⟨afT 0,ω,F,ob⟩,?_⟩;rintro i f ⟨g,S,w,p⟩;have G:=Cp s i.toNat;refine ID (λx=>?_) λx=>?_
 ·have d8:agr i 8=((i.toNat/8:Nat):Int):=by rw[agX g];omega
  have H:agc i 8=((i.toNat%8:Nat):Int):=by rw[agN g];omega
  have I:afK .i64 (agr i 8)=((i.toNat/8:Nat):Int):=by rw[d8,wrap_i64 ω ω]
  rw[I,H];refine⟨δ,ω,ω,δ,ω,g,x,?_⟩;have J:row[i.toNat]? =some (og (s.getD (i.toNat/8) 0) (i.toNat%8)):=by rw[o,ahm,if_pos ω,G ω]
  have y:=XW ⟨(s.getD (i.toNat/8) 0).toNat,UInt8.toNat_lt _⟩ ⟨i.toNat%8,ahw _ δ⟩;rw[agm];dsimp only at y;rw[y];refine(Own.aH (n:=1) (t:=af1 (og (s.getD (i.toNat/8) 0) (i.toNat%8))) p g (by unfold zW;rw[afM,afQ,af7,List.length_replicate];omega) rfl rfl λU K f2 V=>?_).2.2;rw[wrap_i64 (n:=i+1) ω ω];refine⟨⟨ω,ω,afN w f2 λj⟨l,q,L⟩=>by obtain rfl:=Option.some.inj q;rw[<-L];exact afR _,?_⟩,Ω⟩;rw[show(i+1).toNat=i.toNat+1 by omega,<-UQ J ω];have:aP ((zW row n i.toNat).set i.toNat (og (s.getD (i.toNat/8) 0) (i.toNat%8)))=(aP (zW row n i.toNat)).set i.toNat (af1 (og (s.getD (i.toNat/8) 0) (i.toNat%8))):=agS;rw[this];exact K
 ·have M:i.toNat=n:=ω;have N:zW row n i.toNat=row:=by unfold zW;rw[M,ahF,ag2 ω];simp
  rw[N]at p;exact B row f _ c p w λl q=>by obtain rfl:=Option.some.inj q;exact afR _
end
end Board
namespace Board
theorem wF{r:LU}{sh:Bool}{n:Int}(h:(ir r sh n).2.2=false):sh=false/\0<=n/\((ir r sh n).2.1.length:Int)+n=r.length:=by
 unfold ir at h⊢;split at h
 ·cases h
 ·rename_i a;rw[if_neg a];refine⟨h,ω,?_⟩;rw[afZ];omega
theorem XX{r:LU}{sh:Bool}{n:Int}(h:(ir r sh n).2.2=true):ir r sh n=([],[],true):=by
 unfold ir at h⊢;split at h
 ·rename_i a;rw[if_pos a]
 ·rename_i a;exact absurd (.inl h) a
theorem mV{s:LU}{a n:Nat}(h:a+n<=s.length):ir (s.drop a) false (n:Int)=((s.drop a).take n,s.drop (a+n),false):=by
 rw[Re (by rw[afZ];omega),List.drop_drop]
theorem US(n:Int):ir [] true n=([],[],true):=if_pos (.inl rfl)
theorem aab{s:LU}(h:0<s.length):num (s.take 1)=(s.getD 0 0).toNat:=by
 cases s with
 |nil=>cases h
 |cons c s=>simp[num]
theorem XY{d:Dm}(h:¬(d.kind=1\/d.kind=2\/d.kind=3)):O5 d=none:=by
 unfold O5;split
 ·rename_i a;exact absurd (kV a) h
 ·rfl
theorem uF{s:LU}(h:s.length<53):dM s=none:=by
 unfold dM;rw[if_pos h]
section
variable{s:LU}
theorem DH(B:37<=s.length)(A:s.getD 0 0=1):dM s=if s.length=63 then O5 ⟨1,(num ((s.drop 1).take 4):Nat),eO 32 ((s.drop 5).take 32),(num ((s.drop 37).take 2):Nat),(num ((s.drop 39).take 8):Nat),[],eO 16 (s.drop 47)⟩else none:=by
 unfold dM;by_cases a:s.length<53
 ·rw[if_pos a,if_neg ω]
 ·rw[if_neg a,if_pos A]
theorem DI(B:37<=s.length)(A:s.getD 0 0=2):dM s=if s.length=55 then O5 ⟨2,(num ((s.drop 1).take 4):Nat),eO 32 ((s.drop 5).take 32),(num ((s.drop 37).take 2):Nat),0,[],eO 16 (s.drop 39)⟩else none:=by
 unfold dM;by_cases a:s.length<53
 ·rw[if_pos a,if_neg ω]
 ·rw[if_neg a,if_neg (by rw[A];decide),if_pos A]
theorem uG(B:53<=s.length)(A:s.getD 0 0=3):dM s=match zT ((s.drop 37).take (s.length-53)) 16 with
 |none=>none
 |some row=>O5 ⟨3,(num ((s.drop 1).take 4):Nat),eO 32 ((s.drop 5).take 32),0,0,row,eO 16 (s.drop (s.length-16))⟩:=by
 unfold dM;rw[if_neg ω,if_neg (by rw[A];decide),if_neg (by rw[A];decide),if_pos A]
 all_goals rfl
theorem ET(A:s.getD 0 0≠1)(B:s.getD 0 0≠2)(E:s.getD 0 0≠3):dM s=none:=by
 unfold dM;by_cases a:s.length<53
 ·rw[if_pos a]
 ·rw[if_neg a,if_neg A,if_neg B,if_neg E]
end
section
variable{R:Rq}{h:aa}
structure DS(h hh:aa)(q mb:Nat)(r:LU)(sh:Bool)(m:Ms):Prop where
 rd:Rd hh q r sh
 msg:Var 58 hh mb m.tv
 JF:Var 58 hh h.size aU.tv
 only:ag (λi=>h.size<=i) h hh
 q0:h.size<q
 m0:q<mb
section
variable{hh:aa}{q mb:Nat}{r:LU}{sh:Bool}{m:Ms}
theorem DS.ext(d:DS h hh q mb r sh m):Ext h hh:=afN (af9 h) d.only λ_ a=>a
theorem DS.more{A:aa}(d:DS h hh q mb r sh m)(x:Ext hh A):DS h A q mb r sh m:=⟨Var.ext d.rd x,d.msg.ext x,d.JF.ext x,d.only.trans (aga x),d.q0,d.m0⟩
theorem DS.read{A:aa}{B:LU}{E:Bool}(d:DS h hh q mb r sh m)(v:Rd A q B E)(f:ag (·=q) hh A):DS h A q mb B E m:=
 ⟨v,d.msg.only f (by have:=d.m0;omega),d.JF.only f (by have:=d.q0;omega),d.only.trans (f.mono λi a=>by have:=d.q0;omega),d.q0,d.m0⟩
theorem DS.write{A:aa}{B:Ms}(d:DS h hh q mb r sh m)(v:Var 58 A mb B.tv)(f:ag (·=mb) hh A):DS h A q mb r sh B:=
 ⟨Var.only d.rd f (by have:=d.m0;omega),v,d.JF.only f (by have:=d.m0;have:=d.q0;omega),d.only.trans (f.mono λi a=>by have:=d.q0;have:=d.m0;omega),d.q0,d.m0⟩
end
set_option maxHeartbeats 1000000 in
theorem jD{s:LU}(hs:s.length<100000)(hn:dM s=none->∀F,Ext h F->R (af4 [aU.tv,.bool false]).val F)
 (hy:∀d F b,dM s=some d->ak 1 F b (aP d.row)->Ext h F->(∀l,b.a=some l->h.size<=l.b/\l.b<F.size)->R (af4 [(d.ms b).tv,.bool true]).val F):Cl 169 [.str s] h R:=by
 apply DG;delta Xe iQ gM Dc Uj fC aJ QG Jy bh eE;refine af λo v1 x1 s1=>UM λh2 r2 x2 s2=>⟨_,rfl,?_⟩;have v1:Var 58 o h.size aU.tv:=v1;refine qY r2 δ λh3 r3 f3=>⟨_,rfl,qY r3 δ λQ r4 f4=>⟨_,rfl,?_⟩⟩;obtain⟨K,hK⟩:∃K,K=afK .i64 ((num (ir s false 1).1:Nat):Int):=⟨_,rfl⟩;obtain⟨S,hS⟩:∃S,S=afK .i64 ((num (ir (ir s false 1).2.1 (ir s false 1).2.2 4).1:Nat):Int):=⟨_,rfl⟩;rw[<-hK,<-hS];have bo:=(f3.trans f4).size;refine af λh5 v5 x5 s5=>av (t0:=aU.tv) v5 (t:=(Ms.mk K S (af6 32) 0 0 afV (af6 16)).tv) ck eZ λh6 v6 f6 s6=>?_;have ac:Ext Q h6:=afN x5 f6 λi hi=>ω
 have d6:DS h h6 o.size Q.size _ _ (Ms.mk K S (af6 32) 0 0 afV (af6 16)):=⟨Var.ext r4 ac,v6,(((v1.ext x2).only f3 ω).only f4 ω).ext ac,
  (((aga (x1.trans x2)).trans ((f3.trans f4).mono λi hi=>ω)).trans (aga ac)),ω,ω⟩
 refine sG d6.rd λh7 r7 f7=>⟨_,rfl,(λhx=>by cases hx),λl f=>?_⟩;obtain rfl:Vc.Loc.mk Q.size 2=l:=Option.some.inj f;have d7:=d6.read r7 f7;obtain⟨A,T⟩:∃A,A=ir (ir (ir s false 1).2.1 (ir s false 1).2.2 4).2.1 (ir (ir s false 1).2.1 (ir s false 1).2.2 4).2.2 32:=⟨_,rfl⟩;rw[<-T]at d7⊢;refine Ht (i:=2) d7.msg rfl rfl (by rw[T];exact GC) λh8 v8 f8 s8=>?_;have d8:DS h h8 o.size Q.size A.2.1 A.2.2 (Ms.mk K S (eO 32 A.1) 0 0 afV (af6 16)):=d7.write v8 f8;generalize o.size=q at*;generalize Q.size=mb at*
 have no:∀hh r sh m,DS h hh q mb r sh m->dM s=none->gi hh h.size 0 53/\Bind (agV hh h.size 0 aU.tv) λ(D:aa)=>
  ∃(n:Int),∃(ap:Int),∃(b_:Bs 32),∃(ar:Int),∃(aw:Int),∃(s:Sl),∃(aE:Bs 16),(ah D h.size 0 (.i n)/\ah D h.size 1 (.i ap)/\ay D h.size 2 32 b_/\ah D h.size 34 (.i ar)/\ah D h.size 35 (.int .u64 aw)/\ah D h.size 36 (aW s)/\ay D h.size 37 16 aE)/\
   R (af4 [.agg [.i n,.i ap,.bytes 32 b_,.i ar,.int .u64 aw,.slice s,.bytes 16 aE],.bool false]).val D:=by
  intro hh r sh m d hd;refine av (t:=aU.tv) d.JF ck eZ λI v9 f9 s9=>aZ v9 ?_;exact hn hd I (afN d.ext f9 λi hi=>ω)
 intro J HJ
 have Y:∀hh r sh m row,DS h hh q mb r sh m->m.tag=af6 16->ak 1 hh m.bits (aP row)->row.length<100000->(∀l,m.bits.a=some l->l.b≠q/\l.b≠mb/\l.b≠h.size/\h.size<=l.b/\l.b<hh.size)->(sh=true\/r.length≠16->dM s=none)->
  (sh=false->r.length=16->dM s=O5 ⟨m.kind,m.slot,m.target,m.ax,m.body,row,eO 16 r⟩)->J false hh:=by
  intro hh r sh m row d hz e a0 Z j hg;refine HJ false hh ?_;refine sG d.rd λI G f9=>⟨_,rfl,(λhx=>by cases hx),λl f=>?_⟩;obtain rfl:Vc.Loc.mk mb 37=l:=Option.some.inj f;have d9:=d.read G f9;refine Ht (i:=6) d9.msg (by rw[hz];rfl) rfl GC λU v10 f10 bp=>?_;have d10:DS h U q mb _ _ {m with tag:=eO 16 (ir r sh 16).1}:=d9.write v10 f10;refine UO d10.rd ⟨_,rfl,?_⟩;have a1:ak 1 U m.bits (aP row):=(e.only f9 λl f=>(Z l f).1).only f10 λl f=>(Z l f).2.1;by_cases y:sh=true\/r.length≠16
  ·have ad:(!(ir r sh 16).2.2&&decide ((ir r sh 16).2.1=[]))=false:=by
    cases k:(ir r sh 16).2.2 with
    |true=>rfl
    |false=>
     obtain⟨ae,_,ab⟩:=wF k
     have:(ir r sh 16).2.1≠[]:=λhe=>by
      rw[he]at ab;rcases y with y|y
      ·rw[ae]at y;cases y
      ·apply y;simp at ab;omega
     rw[decide_eq_false this];rfl
   rw[ad];exact af2 (no U _ _ _ d10 (j y))
  ·have k:sh=false:=by cases sh with
    |true=>exact absurd (.inl rfl) y
    |false=>rfl
   have V:r.length=16:=ahz λh=>y (.inr h);have a9:ir r sh 16=(r.take 16,r.drop 16,false):=by rw[k];exact Re (n:=16) ω
   have W:=hg k V;rw[a9]at d10⊢;rw[ag2 (by omega:r.length<=16)]at d10;have ad:(!false&&decide (r.drop 16=[]))=true:=by rw[List.drop_of_length_le ω];rfl
   dsimp only;rw[ad];refine afU (aZ d10.msg ?_);refine Ia (m:={m with tag:=eO 16 r}) (row:=row) a1 a0 λz al=>⟨_,rfl,?_⟩;have d11:=d10.more al;unfold O5 at W;have a':dn {m with tag:=eO 16 r} row=dn ((Dm.mk m.kind m.slot m.target m.ax m.body row (eO 16 r)).ms afV) row:=rfl;rw[a'];cases a2:dn ((Dm.mk m.kind m.slot m.target m.ax m.body row (eO 16 r)).ms afV) row with
   |false=>
    refine af2 (no z _ _ _ d11 ?_);rw[W,if_neg];show¬dn _ row=true;rw[a2];decide
   |true=>
    refine afU (aZ d11.msg ?_);refine av d11.JF (t:=({m with tag:=eO 16 r}:Ms).tv) ck eZ λH am f12 ba=>aZ am ?_;have hd:dM s=some (Dm.mk m.kind m.slot m.target m.ax m.body row (eO 16 r)):=by rw[W];exact if_pos a2
    have bb:Ext h H:=afN d11.ext f12 λi hi=>ω;have bc:ak 1 H m.bits (aP row):=(a1.ext al).only f12 λl f=>(Z l f).2.2.1
    exact hy _ H m.bits hd bc bb λl f=>by
     have g:=Z l f;have g1:=f9.size;have g2:=f10.size;have g3:=al.size;have g4:=f12.size;exact⟨g.2.2.2.1,ω⟩
 have bd:=no;clear HJ no
 have v:37<=s.length->A=((s.drop 5).take 32,s.drop 37,false)/\K=((s.getD 0 0).toNat:Int)/\S=((num ((s.drop 1).take 4):Nat):Int):=by
  intro f;have C:ir s false 1=(s.take 1,s.drop 1,false):=Re (n:=1) ω;have e2:ir (s.drop 1) false 4=((s.drop 1).take 4,s.drop 5,false):=mV (a:=1) (n:=4) ω;have e3:ir (s.drop 5) false 32=((s.drop 5).take 32,s.drop 37,false):=mV (a:=5) (n:=32) ω;refine⟨by rw[T,C,e2,e3],?_,?_⟩
  ·rw[hK,C];dsimp only;have:=(s.getD 0 0).toNat_lt;rw[aab ω,wrap_i64 ω ω]
  ·rw[hS,C];dsimp only;rw[e2];dsimp only;have ae:=zS ((s.drop 1).take 4);have bi:((s.drop 1).take 4).length<=4:=by rw[af7];omega
   have ab:256^((s.drop 1).take 4).length<=256^4:=agQ δ bi;have br:256^4=4294967296:=δ;rw[wrap_i64 ω ω]
 have ao:¬37<=s.length->A=([],[],true):=by
  intro f;cases k:A.2.2 with
  |true=>rw[T]at k⊢;exact XX k
  |false=>
   exfalso;rw[T]at k;obtain⟨g1,_,g2⟩:=wF k;obtain⟨g3,_,g4⟩:=wF g1;obtain⟨E,_,g6⟩:=wF g3;omega
 have a3:A.2.2=false->37<=s.length/\A.2.1=s.drop 37:=by
  intro k;by_cases f:37<=s.length
  ·exact⟨f,by rw[(v f).1]⟩
  ·rw[ao f]at k;cases k
 have w2:∀(l:LU),l.length<=2->afK .i64 ((num l:Nat):Int)=((num l:Nat):Int):=by
  intro l f;have ae:=zS l;have ab:256^l.length<=256^2:=agQ δ f;rw[wrap_i64 ω ω]
 have L:∀c:UInt8,37<=s.length->K=(c.toNat:Int)->s.getD 0 0=c:=by
  intro c f hk;have:=(v f).2.1;exact agE.1 ω
 refine⟨K,d8.msg.ah rfl,ID (λM=>?_) λM=>agW.2 ⟨λN=>?_,λN=>ID (λO=>?_) λO=>?_⟩⟩
 ·refine qY d8.rd δ λI G f9=>⟨_,rfl,?_⟩;have d9:=d8.read G f9;refine qY d9.rd δ λU bj f10=>⟨_,rfl,?_⟩;have d10:=d9.read bj f10;refine aF (i:=3) (t:=.i (afK .i64 ((num (ir A.2.1 A.2.2 2).1:Nat):Int))) (t0:=.i 0) d10.msg rfl rfl rfl rfl λz v11 f11 a4=>?_;refine aF (i:=4) (t:=.int .u64 ((num (ir (ir A.2.1 A.2.2 2).2.1 (ir A.2.1 A.2.2 2).2.2 8).1:Nat):Int)) (t0:=.int .u64 0) v11 rfl rfl rfl rfl λH am f12 ba=>?_;have d12:DS h H q mb _ _ (Ms.mk K S (eO 32 A.1) (afK .i64 ((num (ir A.2.1 A.2.2 2).1:Nat):Int)) ((num (ir (ir A.2.1 A.2.2 2).2.1 (ir A.2.1 A.2.2 2).2.2 8).1:Nat):Int) afV (af6 16)):=d10.write am (f11.trans f12)
  have x:s.length=63->ir A.2.1 A.2.2 2=((s.drop 37).take 2,s.drop 39,false)/\ir (ir A.2.1 A.2.2 2).2.1 (ir A.2.1 A.2.2 2).2.2 8=((s.drop 39).take 8,s.drop 47,false):=by
   intro f;have p:=(v ω).1;have C:ir (s.drop 37) false 2=((s.drop 37).take 2,s.drop 39,false):=mV (a:=37) (n:=2) ω;have e2:ir (s.drop 39) false 8=((s.drop 39).take 8,s.drop 47,false):=mV (a:=39) (n:=8) ω;rw[p];dsimp only;rw[C];exact⟨rfl,e2⟩
  refine Y H _ _ _ [] d12 rfl (ak.y_ 1 H) δ (λl f=>by cases f) (λj=>?_) λk V=>?_
  ·by_cases f:37<=s.length
   ·rw[DH f (L 1 f M)];by_cases u:s.length=63
    ·exfalso;rw[(x u).2]at j;rcases j with j|j
     ·cases j
     ·apply j;dsimp only;rw[afZ];omega
    ·rw[if_neg u]
   ·exact uF ω
  ·obtain⟨g1,_,g2⟩:=wF k;obtain⟨g3,_,g4⟩:=wF g1;obtain⟨E,g6⟩:=a3 g3;have g7:A.2.1.length=s.length-37:=by rw[g6,afZ]
   have u:s.length=63:=ω;obtain⟨p,_,X⟩:=v E;rw[DH E (L 1 E M),if_pos u,(x u).2,(x u).1,p,X,M];dsimp only;rw[w2 _ (by rw[af7];omega)]
 ·refine qY d8.rd δ λI G f9=>⟨_,rfl,?_⟩;have d9:=d8.read G f9;refine aF (i:=3) (t:=.i (afK .i64 ((num (ir A.2.1 A.2.2 2).1:Nat):Int))) (t0:=.i 0) d9.msg rfl rfl rfl rfl λz v11 f11 a4=>?_;have d12:DS h z q mb _ _ (Ms.mk K S (eO 32 A.1) (afK .i64 ((num (ir A.2.1 A.2.2 2).1:Nat):Int)) 0 afV (af6 16)):=d9.write v11 f11
  have x:s.length=55->ir A.2.1 A.2.2 2=((s.drop 37).take 2,s.drop 39,false):=by
   intro f;have p:=(v ω).1;have C:ir (s.drop 37) false 2=((s.drop 37).take 2,s.drop 39,false):=mV (a:=37) (n:=2) ω;rw[p];exact C
  refine Y z _ _ _ [] d12 rfl (ak.y_ 1 z) δ (λl f=>by cases f) (λj=>?_) λk V=>?_
  ·by_cases f:37<=s.length
   ·rw[DI f (L 2 f N)];by_cases u:s.length=55
    ·exfalso;rw[x u]at j;rcases j with j|j
     ·cases j
     ·apply j;dsimp only;rw[afZ];omega
    ·rw[if_neg u]
   ·exact uF ω
  ·obtain⟨g1,_,g2⟩:=wF k;obtain⟨E,g6⟩:=a3 g1;have g7:A.2.1.length=s.length-37:=by rw[g6,afZ]
   have u:s.length=55:=ω;obtain⟨p,_,X⟩:=v E;rw[DI E (L 2 E N),if_pos u,x u,p,X,N];dsimp only;rw[w2 _ (by rw[af7];omega)]
 ·refine UN d8.rd ⟨_,rfl,sG d8.rd λI G f9=>⟨_,rfl,?_⟩⟩;have d9:=d8.read G f9
  have bt:A.2.1.length<=s.length:=by
   by_cases f:37<=s.length
   ·rw[(v f).1];dsimp only;rw[afZ];omega
   ·rw[ao f];exact agd _
  rw[wrap_i64 ω ω]at d9⊢;obtain⟨B,hB⟩:∃B,B=ir A.2.1 A.2.2 ((A.2.1.length:Int)-16):=⟨_,rfl⟩;rw[<-hB]at d9⊢
  have x:53<=s.length->B=((s.drop 37).take (s.length-53),s.drop (s.length-16),false):=by
   intro f;have p:=(v ω).1;rw[hB,p];dsimp only;have C:(((s.drop 37).length:Nat):Int)-16=((s.length-53:Nat):Int):=by rw[afZ];omega
   rw[C,mV (a:=37) (n:=s.length-53) ω,show 37+(s.length-53)=s.length-16 by omega]
  have short:¬53<=s.length->B.1=[]:=by
   intro f;by_cases a5:37<=s.length
   ·have p:=(v a5).1;rw[hB,p];dsimp only;rw[MJ (.inr (.inl (by rw[afZ];omega)))]
   ·rw[hB,ao a5];dsimp only;rw[US]
  have bk:B.1.length<100000:=by
   by_cases f:53<=s.length
   ·rw[x f];dsimp only;rw[af7,afZ];omega
   ·rw[short f];decide
  have bx:=d9.msg.lt;refine UR bk (λP=>⟨_,_,rfl,af2 (bd I _ _ _ d9 ?_)⟩) λrow U t w a6 bl a7=>⟨_,_,rfl,afU ?_⟩
  ·by_cases f:53<=s.length
   ·rw[uG f (L 3 ω O)];rw[x f]at P;dsimp only at P;rw[P]
   ·exact uF ω
  ·have d10:=d9.more bl;refine aF (i:=5) (t:=.slice t) (t0:=.slice afV) d10.msg rfl rfl rfl rfl λz v11 f11 a4=>?_;have d11:DS h z q mb _ _ (Ms.mk K S (eO 32 A.1) 0 0 t (af6 16)):=d10.write v11 f11
   have a8:53<=s.length:=by
    apply ahz;intro f;rw[short f]at w;cases w
   have bm:=x a8;obtain⟨p,_,X⟩:=v ω;have hq:=d9.m0;have b0:=d9.q0
   have a0:row.length<=16:=by
    unfold zT at w;split at w
    ·cases w
    ·split at w
     ·cases w
     ·rw[<-Option.some.inj w,af7];omega
   rw[bm]at w d11;dsimp only at w
   have W:dM s=O5 ⟨3,((num ((s.drop 1).take 4):Nat):Int),eO 32 ((s.drop 5).take 32),0,0,row,eO 16 (s.drop (s.length-16))⟩:=by
    rw[uG a8 (L 3 ω O),w]
   refine Y z _ _ _ row d11 rfl (a6.elems.only f11 λl f=>by have:=a7 l f;omega) ω (λl f=>by have:=a7 l f;have:=a6.lt l f;have:=f11.size;omega) (λj=>?_) λk V=>?_
   ·exfalso;rcases j with j|j
    ·cases j
    ·apply j;dsimp only;rw[afZ];omega
   ·rw[W,p,X,O]
 ·refine Y h8 _ _ _ [] d8 rfl (ak.y_ 1 h8) δ (λl f=>by cases f) (λj=>?_) λk V=>?_
  all_goals
   have P:dM s=none:=by
    by_cases f:37<=s.length
    ·have hk:=(v f).2.1;refine ET (λo=>M ?_) (λo=>N ?_) (λo=>O ?_)<;>rw[hk,o]<;>rfl
    ·exact uF ω
  ·exact P
  ·rw[P,XY];rintro(o|o|o)
   ·exact M o
   ·exact N o
   ·exact O o
end
end Board
end Go.Proofs.YtennbinbffdimaaGreat

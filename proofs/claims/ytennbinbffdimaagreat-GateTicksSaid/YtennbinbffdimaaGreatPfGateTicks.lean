/- The law GateTicks holds for every input. -/
import Derived.Test.YtennbinbffdimaaGreatRows
import Derived.WalkKit
import Derived.ProofKit
import Derived.OpenShut
import Derived.ShutString
import Derived.ChangeOld
import Derived.Below
import Derived.Test.YtennbinbffdimaaGreatPk2
import Derived.Test.YtennbinbffdimaaGreatPk13
set_option maxRecDepth 100000
namespace Go.Proofs.YtennbinbffdimaaGreat
open Go Go.Vc
section
open Go Go.Vc _root_.Go.Proofs.Tryz
open Go.IntKind (wrap)
set_option linter.unusedVariables false
variable{h:af}{R:Rt}
theorem rT(q:Sl)(A B:Int)(E I:Int)(J M:Int)(O U:Int)(W Z:Int)(ab:Int)(ac:Sl)(H:cL h (rC q A B E I J M O U W Z ab ac) 42 λw=>bR 25 [] w λb f=>If (!b) (aO R f) (LM f h.size 0 λs n x y z C D F G L N P Q=>bR 26 [(rC s n x y z C D F G L N P Q),bA 60] f λS g=>If S (R (fE) g) (gy g h.size 0 λT V X Y ad ae al am ao ap ar aw=>Oj 19 [bD T V X Y ad ae al am ao ap ar aw] g λp aE k=>gy k h.size 0 λa0 a1 a2 a3 a4 a5 a6 a7 a8 a9 a' ba=>H6 27 [bD a0 a1 a2 a3 a4 a5 a6 a7 a8 a9 a' ba] k λbb bc bd=>bM (λ(bi:Bool) l=>LM l h.size 0 λbj bk bl bm bo bp br bt bx bN b0 b1 b2=>Y6 28 [rC bj bk bl bm bo bp br bt bx bN b0 b1 b2] l λb3 b5 m=>fH m h 12 λo=>Go.Vc.Loop (bi,0,0) m λ(a:Bool×Int×Int) c K=>If (decide (a.snd.snd<(bK o))) (Tc a.snd.snd o 58 0 c λb6 b7 b8 b9 b' ca cc cd ce cf ch ci=>nX c (JJ) 60 58 (ur b6 b7 b8 b9 b' ca cc cd ce cf ch ci) λi=>bM (λ(r:Int) d=>Qz d c.size 0 λj cj cl cp cs ct cw cx cy cA cB cC=>sB a.snd.snd b3 1 0 d λcI=>nW d c.size 56 λcJ=>fh 30 [.slice b5,aT cJ] d λcK t=>Ext d t/\bR 29 [.ptr p,.ptr bb,(ur j cj cl cp cs ct cw cx cy cA cB cC),.str cI,bJ cK] t λcM u=>If (!cM) (aO R u) (fk 31 p u λcP v=>If (!decide (cP=r)) (aO R v) (K (a.fst,r,wrap .i64 (a.snd.snd+1)) v))) λe=>nW i c.size 0 λj=>If (decide (j=2)) (e (wrap .i64 (a.snd.fst+1)) i) (e a.snd.fst i)) (R (fE) c)) λe=>Ht aE R bd bc e))):Cl 4 [rC q A B E I J M O U W Z ab ac] h R:=vi func4 H
end
namespace Gate
open Board (Vd Cf Ms jx aq bh)
open Pool (It Fit eM Dw rts)
section
variable{R:Rq}{h:af}{c:Cf}{V:List Vd}{A:Sl}{xs:List (Act×List Bool)}
theorem Lt(p:qu h c V A xs)(B:∀J,Ext h J->R (TV.bool true).val J):Cl 4 [.agg [c.tv,.slice A]] h R:=by
 apply rT c.vals c.ep c.aQ c.no c.eV c.eH c.quo c.pe c.iy c.win c.bH c.dec A;delta fH Ht fk aO fE bJ bK aT bA lq;refine aa λh1 v1 x1 s1=>nc λh2 K=>⟨_,rfl,If.no ?_⟩;have L:Var 42 h2 h.size (.agg [c.tv,.slice A]):=Var.ext (t:=.agg [c.tv,.slice A]) v1 K;have C:=x1.trans K;have p2:=p.ext C;refine CY L (ku p2.ev p2.Cq δ (λj l=>⟨_,rfl,If.yes (B j (C.trans l))⟩) λj l lc ar ok=>⟨_,rfl,If.no ?_⟩);have D:=C.trans l;have M:=L.ext l;have E:=p2.ext l;refine tC M E lc (λhb d e=>?_) λk d g m a b q N O P e lo=>?_
 ·intro v o;exact If.yes (B d (D.trans e))
 intro v o;refine If.no (If.no (o _ d ?_));clear o v;have aw:=D.trans e;have v5:=M.ext e;have p5:=E.ext e;have ac:=Jw p ok;refine xQ v5 p5 k ω ok λr T Q told S v6=>⟨A,v6.at.2,?_⟩;have ad:=e;have ae:At j r r d.size N O:=⟨ad.trans S,ag.refl _ _,λi w=>⟨lo i w,.inl (P.p.lt i w)⟩⟩;have al:dc j r r d.size g m c q V (iq c V) 0:=⟨a,b,[],N,O,P.ext S,ae⟩;have aE:=p.Cq.len;refine⟨λσ F=>0<=σ.2.2/\σ.2.2<=xs.length/\σ.2.1<=σ.2.2/\∃s,dc j r F d.size g m c q V s σ.2.2.toNat/\s.now=σ.2.1,λσ _=>((xs.length:Int)-σ.2.2).toNat,⟨Int.le_refl 0,Ω,Int.le_refl 0,iq c V,al,rfl⟩,?_⟩;rintro⟨f,n,i⟩ F ⟨y,i1,ni,s,u,G⟩;dsimp only at y i1 ni u G⊢;have xb:=u.base;have kn:=u.kept.now;refine ID (λw=>?_) λw=>B F (D.trans xb);have am:i.toNat<xs.length:=ω;obtain⟨x,U⟩:∃x,xs[i.toNat]? =some x:=⟨_,List.getElem?_eq_getElem am⟩;have ao:=List.mem_of_getElem? U;obtain⟨t,ht,W⟩:=Cr (c:=c) (V:=V) y ω ac;refine tE (E.Cq.ext xb) y U λX Y x9=>?_;have ap:=u.ext x9;intro v o
 have go:∀z,z=(if x.1.kind=2 then n+1 else n)->v z X:=by
  intro z H;refine o z X (Cs ap ω told ω Y (p.fit x ao).1 y ht W λa0 s' Z x' nx=>If.no (Z.Fz ⟨_,rfl,?_⟩));have ab:=abd u.kept nx W ω;dsimp only;rw[ab,G,<-H,decide_eq_true rfl];refine If.no ?_;rw[wrap_i64 (n:=i+1) ω ω];refine⟨⟨Ω,Ω,?_,s',?_,?_⟩,Ω⟩
  ·try dsimp only
   rw[H];split<;>omega
  ·try dsimp only
   rw[show(i+1).toNat=i.toNat+1 by omega];exact Z
  ·try dsimp only
   rw[ab,G,H]
 refine⟨x.1.kind,Y.at.1,ID (λI=>?_) λI=>go n (by rw[if_neg I])⟩;rw[wrap_i64 (n:=n+1) ω ω];exact go _ (by rw[if_pos I])
theorem IB{q:FM}(p:∃V xs,qu h q.c V q.A xs)(B:∀a,Ext h a->R (TV.bool true).val a):Cl 4 [q.tv] h R:=by
 obtain⟨V,xs,p⟩:=p;exact Lt p B
end
end Gate
namespace gateTicks
open Go.Vc
open Go.ChangeShapes Go.WideShapes Go.ChangeAt Go.RowKit
open Go.ChangeMaps (open_string shut_string)
set_option linter.unusedVariables false
theorem own:ownKnob Tryz.prog.godebug=none:=κ
theorem laidOut:laidOutB Tryz.prog=true:=κ
theorem lifted(A:Os)(B:A.Started)(H:Type)(enc:TypeId×Value->H):
 ReturnsInHanded {} Tryz.checked A 4 .any (Rows.gateTicksSpec.pre6 enc Tryz.prog Tryz.f4 Rows.gateTicksRow.domain false) (Rows.gateTicksSpec.post enc Tryz.prog Tryz.f4 false true false false):=by
 refine returnsInHanded_of_change (C:=Tryz.checked) own B κ Tryz.func4
  (ChangeSpec.witness6 (enc:=enc) (C:=Tryz.checked) false ⟨#[],#[.agg #[.slice none 0 0,.i 0,.i 0,.i 0,.i 0,.i 0,.i 0,.i 0,.i 0,.i 0,.i 0,.i 0,.slice none 0 0]],[]⟩ 8 κ κ κ κ) ?_
 intro W base args n G I a b J _;have c:∀(j:Nat) t v,Tryz.f4.params[j]? =some t->args[j]? =some v->Value.okWide Tryz.prog W .any base t v:=a;have o:=b;obtain⟨p,q,d,r,rfl,K,L⟩:=b;have f:DataW.TrodAll enc Tryz.prog W 0 (λ_=>true) true Tryz.f4.params.toList args.toList n p:=d;rw[Tryz.params4]at f c;obtain⟨v0,M,d0,N,s,O,P,rfl,rfl,g,u⟩:=trodAll_cons f;obtain⟨rfl,rfl,rfl⟩:=trodAll_nil u;obtain rfl:args=#[v0]:=by cases args;simp_all
 obtain⟨rfl,rfl⟩:=trodVars_none r;obtain⟨c0,w,rfl⟩:=Go.Proofs.YtennbinbffdimaaGreat.Gate.FN (c 0 42 v0 rfl rfl) g;have k:=g;have y:∀x∈s,x.block<W.heap.size:=by obtain⟨m,z⟩:=k;exact DataW.trod_lt m _ _ _ z
 clear d a
 have D:Calls Tryz.prog 4 #[c0.tv.val] W λe E=>e=.returned (.bool true)/\Below W.heap.size W E:=by
  exact(bC.fin (args:=ak.vals [c0.tv]) (Go.Proofs.YtennbinbffdimaaGreat.Gate.IB w λQ e=>⟨rfl,e⟩))
 refine D.mono λe W'⟨F,l⟩=>?_;subst F;exact⟨_,rfl,_,_,_,[],_,[],o,trodAll_mk1 (shut_bool Tryz.underlying4 _),(trodAll_cons_mk (Below.trod laidOut κ (of_decide_eq_true κ) k l y) trodAll_mk0),rfl,l.frame _,λh=>by cases h⟩
theorem j1:Rows.gateTicksRow.wf (OpenSpec.ofChange Rows.gateTicksSpec)=true:=κ
theorem j4:Tryz.f4.params.all (Tryz.prog.readableRec ·)=true:=κ
theorem j5:namedTie Tryz.prog Rows.gateTicksRow.named Rows.gateTicksSpec.vars=true:=κ
theorem j6:(Rows.gateTicksRow.stops==[])=true:=κ
theorem j8:(Rows.gateTicksRow.knobs==[])=true:=κ
theorem j10:(Rows.gateTicksRow.inPlace==Tryz.prog.inPlace 4)=true:=κ
theorem j11:(Rows.gateTicksRow.unfollowed==Tryz.prog.unfollowed 4)=true:=κ
theorem j12:(Rows.gateTicksRow.recurses==Tryz.prog.recurses 4)=true:=κ
theorem j13:(Rows.gateTicksRow.named==Tryz.prog.varsNamed 4)=true:=κ
theorem Sb:(Rows.gateTicksRow.maps==(Tryz.f4.params.toList++Rows.gateTicksSpec.plain.varTypes Tryz.prog).any (Tryz.prog.mapsRec ·))=true:=κ
theorem j15:(Rows.gateTicksRow.ifaces==(Tryz.f4.params.toList++Rows.gateTicksSpec.plain.varTypes Tryz.prog).any (Tryz.prog.ifacesRec ·))=true:=κ
theorem j16:(Rows.gateTicksRow.mapsOut==Tryz.prog.mapsAmong Tryz.f4.resultTypes.toList)=true:=κ
theorem j17:(Rows.gateTicksRow.loops==(Tryz.f4.params.toList++Rows.gateTicksSpec.plain.varTypes Tryz.prog).any (Tryz.prog.loopsFrom ·))=true:=κ
theorem j18:(Rows.gateTicksRow.wideKeys==(Tryz.f4.params.toList++Rows.gateTicksSpec.plain.varTypes Tryz.prog++Tryz.f4.resultTypes.toList).any (Tryz.prog.wideKeysFrom ·))=true:=κ
theorem j19:Rows.gateTicksSpec.vars.all (Tryz.prog.varReadable ·)=true:=κ
theorem j20:Tryz.f4.resultTypes.all (λt=>Tryz.prog.readableRec t&&decide (t<Tryz.prog.types.size))=true:=κ
theorem j21:(Rows.gateTicksRow.ifacesOut==Tryz.f4.resultTypes.toList.any (Tryz.prog.ifacesRec ·))=true:=κ
theorem j22:(Rows.gateTicksRow.loopsOut==Tryz.f4.resultTypes.toList.any (Tryz.prog.loopsFrom ·))=true:=κ
theorem j24:Rows.gateTicksRow.shortTexts.isNone=true:=κ
theorem j29:(Rows.gateTicksRow.kinds==(if Rows.gateTicksRow.domain.isEmpty then[]else Tryz.f4.params.toList.map λt=>match Tryz.prog.underlying t with|some (.int k)=>some k|_=>none))=true:=κ
theorem j30:(Rows.gateTicksRow.pinned==Rows.gateTicksRow.pinnedBy)=true:=κ
theorem j31:(Rows.gateTicksRow.veiled==(Tryz.f4.params.toList++Rows.gateTicksSpec.plain.varTypes Tryz.prog++Tryz.f4.resultTypes.toList).any (Tryz.prog.veiledRec ·))=true:=κ
theorem j32:Rows.gateTicksRow.veiledFits Tryz.prog Tryz.f4.params.toList (Tryz.f4.params.toList++Rows.gateTicksSpec.plain.varTypes Tryz.prog++Tryz.f4.resultTypes.toList)=true:=κ
theorem j23:(Rows.gateTicksRow.plainKeys==Tryz.prog.plainKeys)=true:=by rw[AV];rfl
theorem j27:(Rows.gateTicksRow.lifted==Tryz.prog.liftsFinal)=true:=by rw[AU];rfl
theorem j28:(Tryz.prog.make==some Rows.gateTicksRow.make)=true:=Ev
theorem closed:joinedFacts Tryz.prog 4 Tryz.f4 Rows.gateTicksSpec Rows.gateTicksRow=true:=vM j1 Eu AQ j4 j5 j6 AR j8 AS j10 j11 j12 j13 Sb j15 j16 j17 j18 j19 j20 j21 j22 j23 j24 AT I4 j27 j28 j29 j30 j31 j32
theorem zD:Tryz.pinned.checked.prog.funcNamed Rows.gateTicksRow.func=some 4:=κ
theorem inst:Tryz.f4.isInstance Tryz.pinned.checked.prog Rows.gateTicksRow.origin Rows.gateTicksRow.targs:=of_decide_eq_true κ
theorem wrapper:Tryz.f4.isWrapper Tryz.pinned.checked.prog Rows.gateTicksRow.wrapper Rows.gateTicksRow.mainSum:=by unfold Func.isWrapper;first|(rw[if_pos (by decide+kernel)];kernel_rfl)|(rw[if_neg (by decide+kernel)];exact⟨rfl,rfl⟩)
theorem rL:Rows.gateTicksRow.holds Tryz.pinned (OpenSpec.ofChange Rows.gateTicksSpec):=
 OpenClaim.holds_of_wide 4 Tryz.f4 rfl rfl rfl rfl rfl rfl rfl ⟨rfl,rfl,rfl,rfl,rfl⟩ rfl rfl rfl rfl rfl zD Tryz.func4 closed
  inst wrapper
  (λa b H enc _=>lifted a b H enc)
theorem proved:Rows.GateTicksSaid:=rL
end gateTicks
end Go.Proofs.YtennbinbffdimaaGreat

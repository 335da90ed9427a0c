/- The law GateRefuses holds for every input. -/
import Derived.Test.YtennbinbffdimaaGreatRows
import Derived.WalkKit
import Derived.ProofKit
import Derived.OpenShut
import Derived.ShutString
import Derived.ChangeOld
import Derived.Below
import Derived.Test.YtennbinbffdimaaGreatPk2
import Derived.Test.YtennbinbffdimaaGreatPk13
set_option maxRecDepth 100000
namespace Go.Proofs.YtennbinbffdimaaGreat
open Go Go.Vc
section
open Go Go.Vc _root_.Go.Proofs.Tryz
open Go.IntKind (wrap)
set_option linter.unusedVariables false
variable{h:af}{R:Rt}
theorem qv(A:Sl)(B E:Int)(I J:Int)(M O:Int)(U W:Int)(Z ab:Int)(ac:Int)(ad:Sl)(H:cL h (rC A B E I J M O U W Z ab ac ad) 42 λy=>bR 25 [] y λb m=>If (!b) (aO R m) (LM m h.size 0 λs n z C D F G L N P Q S T=>bR 26 [(rC s n z C D F G L N P Q S T),bA 60] m λb o=>If b (R (fE) o) (gy o h.size 0 λs n V X Y ae al am ao ap ar aw=>Oj 19 [bD s n V X Y ae al am ao ap ar aw] o λp n u=>gy u h.size 0 λs aE a0 a1 a2 a3 a4 a5 a6 a7 a8 a9=>H6 27 [bD s aE a0 a1 a2 a3 a4 a5 a6 a7 a8 a9] u λf b a'=>bM (λ(s:Bool) v=>LM v h.size 0 λba n bb bc bd bi bj bk bl bm bo bp br=>Y6 28 [rC ba n bb bc bd bi bj bk bl bm bo bp br] v λq bt w=>fH w h 12 λx=>Go.Vc.Loop (s,0) w λ(c:Bool×Int) h K=>If (jM c x) (Tc c.snd x 58 0 h λn bx bN b0 b1 b b2 b3 b5 b6 b7 b8=>nX h (JJ) 60 58 (ur n bx bN b0 b1 b b2 b3 b5 b6 b7 b8) λk=>bM (λ(l:Bool) a=>nW a h.size 1 λn=>sB c.snd q 1 0 a λr=>jK 20 (jZ p n r) a λn d=>If (decide (3<=n)) (fe f 16 d λb9=>nW d h.size 1 λg=>(aF 14)≠0/\jK 56 [.i (Int.tmod n 14)] d λj h=>Ext d h/\mm 55 [.ptr b9,aT g,aT j] h λh=>If (decide (13<n)) (aO R h) (bR 54 [.ptr p,.ptr f] h λb h=>If (!b) (aO R h) (K (l,wrap .i64 (c.snd+1)) h))) (nW d h.size 1 λg=>sB c.snd q 1 0 d λt=>jK 43 (jZ f g t) d λj h=>If (!decide (j=n)) (aO R h) (K (l,wrap .i64 (c.snd+1)) h))) λe=>bM (λ(l:Bool) a=>If l (Qz a h.size 0 λn g r j b' b ca cc t cd ce cf=>sB c.snd q 1 0 a λch=>nW a h.size 56 λci=>fh 30 [.slice bt,aT ci] a λcj h=>Ext a h/\bR 29 [.ptr p,.ptr f,(ur n g r j b' b ca cc t cd ce cf),.str ch,bJ cj] h λb h=>If (!b) (aO R h) (K (mq c 1) h)) (e c.fst a)) λe=>nW k h.size 0 λn=>If (decide (n=2)) (e true k) (nW k h.size 0 λn=>e (decide (n=3)) k)) (bR 54 [.ptr p,.ptr f] h λb h=>iM R b h)) λe=>Ht n R a' b e))):Cl 9 [rC A B E I J M O U W Z ab ac ad] h R:=vi func9 H
end
namespace Gate
open Board (Vd Cf Ms jx aq bh)
open Pool (It Fit eM Dw rts)
section
variable{R:Rq}{h:af}{c:Cf}{V:List Vd}{A:Sl}{xs:List (Act×List Bool)}
theorem G2(p:qu h c V A xs)(H:∀S,Ext h S->R (TV.bool true).val S):Cl 9 [.agg [c.tv,.slice A]] h R:=by
 apply qv c.vals c.ep c.aQ c.no c.eV c.eH c.quo c.pe c.iy c.win c.bH c.dec A;delta jZ aF fH Ht jM iM aO mq fE bJ bK aT bA lq;refine aa λh1 v1 x1 s1=>nc λh2 U=>⟨_,rfl,If.no ?_⟩;have W:Var 42 h2 h.size (.agg [c.tv,.slice A]):=Var.ext (t:=.agg [c.tv,.slice A]) v1 U;have G:=x1.trans U;have p2:=p.ext G;refine CY W (ku p2.ev p2.Cq δ (λe z=>⟨_,rfl,If.yes (H e (G.trans z))⟩) λe z lc aE ok=>⟨_,rfl,If.no ?_⟩);have I:=G.trans z;have X:=W.ext z;have J:=p2.ext z;refine tC X J lc (λhb d o=>?_) λk d g m a b q Y Z al o lo=>?_
 ·intro K B;exact If.yes (H d (I.trans o))
 intro K B;refine If.no (If.no (B _ d ?_));clear B K;have a0:=I.trans o;have v5:=X.ext o;have p5:=J.ext o;have ae:=Jw p ok;refine xQ v5 p5 k ω ok λj T Q told x6 v6=>⟨A,v6.at.2,?_⟩;have at0:At e j j d.size Y Z:=⟨o.trans x6,ag.refl _ _,λi D=>⟨lo i D,.inl (al.p.lt i D)⟩⟩;have am:dc e j j d.size g m c q V (iq c V) 0:=⟨a,b,[],Y,Z,al.ext x6,at0⟩;have a1:=p.Cq.len;refine⟨λσ r=>0<=σ.2/\σ.2<=xs.length/\∃s,dc e j r d.size g m c q V s σ.2.toNat,λσ _=>((xs.length:Int)-σ.2).toNat,⟨Int.le_refl 0,Ω,iq c V,am⟩,?_⟩;rintro⟨f,i⟩ r ⟨u,i1,s,v⟩;dsimp only at u i1 v⊢;have xb:=v.base;refine ID (λD=>?_) λD=>v.kE λh8 x8 _=>⟨_,rfl,H h8 ((I.trans xb).trans x8)⟩;have ao:i.toNat<xs.length:=ω;obtain⟨x,hx⟩:∃x,xs[i.toNat]? =some x:=⟨_,List.getElem?_eq_getElem ao⟩;have ap:=List.mem_of_getElem? hx;have E:=(p.fit x ap).1;obtain⟨t,L,F⟩:=Cr (c:=c) (V:=V) u ω ae;refine tE (J.Cq.ext xb) u hx λM C N=>?_
 have next:∀{r:af}{y:St},dc e j r d.size g m c q V y (i.toNat+1)->
  (0<=IntKind.wrap .i64 (i+1)/\IntKind.wrap .i64 (i+1)<=xs.length/\∃s,dc e j r d.size g m c q V s (IntKind.wrap .i64 (i+1)).toNat)/\((xs.length:Int)-IntKind.wrap .i64 (i+1)).toNat<((xs.length:Int)-i).toNat:=λ{r y} l=>by
  rw[wrap_i64 (n:=i+1) ω ω,show(i+1).toNat=i.toNat+1 by omega];exact⟨⟨ω,ω,y,l⟩,ω⟩
 intro K B O ab;have yes:O true M:=ab _ _ (If.yes (Cs (v.ext N) ω told ω C E u L F λa2 y l x' nx=>If.no (next l)))
 have no:O false M:=by
  refine ab _ _ (If.no (B _ _ ⟨x.1.peer,C.at.2.1,Er ((v.ext N).told told).1 u L ?_⟩));refine v.left N ω E F λa3 P va=>⟨_,rfl,?_⟩;have v11:=va (Nat.le_refl _) C;refine ID (λac=>?_) λac=>⟨x.1.peer,v11.at.2.1,Er (P.told told) u L (P.right (Ext.refl _) ω E F λar y l x' nx=>⟨_,rfl,?_⟩)⟩
  ·obtain⟨w,hw,hf⟩:=P.fail ac E F ω;have Sb:=Li (c:=c) (V:=V) (s:=s) (peer:=x.1.peer) (text:=t);refine⟨w,hw,x.1.peer,v11.at.2.1,δ,?_⟩;rw[Int.tmod_eq_of_lt Sb.1 Sb.2];refine hf λar y l x'=>ID (λad=>absurd ad ω) λ_=>l.kE λad a4 aw=>⟨_,rfl,If.no (next aw)⟩
  ·dsimp only;rw[decide_eq_true rfl];exact If.no (next l)
 refine⟨x.1.kind,C.at.1,ID (λ_=>yes) λ_=>⟨x.1.kind,C.at.1,?_⟩⟩;show O (decide (x.1.kind=3)) M;by_cases k3:x.1.kind=3
 ·rw[decide_eq_true k3];exact yes
 ·rw[decide_eq_false k3];exact no
theorem FO{q:FM}(p:∃V xs,qu h q.c V q.A xs)(B:∀a,Ext h a->R (TV.bool true).val a):Cl 9 [q.tv] h R:=by
 obtain⟨V,xs,p⟩:=p;exact G2 p B
end
end Gate
namespace gateRefuses
open Go.Vc
open Go.ChangeShapes Go.WideShapes Go.ChangeAt Go.RowKit
open Go.ChangeMaps (open_string shut_string)
set_option linter.unusedVariables false
theorem own:ownKnob Tryz.prog.godebug=none:=κ
theorem laidOut:laidOutB Tryz.prog=true:=κ
theorem lifted(A:Os)(B:A.Started)(H:Type)(enc:TypeId×Value->H):
 ReturnsInHanded {} Tryz.checked A 9 .any (Rows.gateRefusesSpec.pre6 enc Tryz.prog Tryz.f9 Rows.gateRefusesRow.domain false) (Rows.gateRefusesSpec.post enc Tryz.prog Tryz.f9 false true false false):=by
 refine returnsInHanded_of_change (C:=Tryz.checked) own B κ Tryz.func9
  (ChangeSpec.witness6 (enc:=enc) (C:=Tryz.checked) false ⟨#[],#[.agg #[.slice none 0 0,.i 0,.i 0,.i 0,.i 0,.i 0,.i 0,.i 0,.i 0,.i 0,.i 0,.i 0,.slice none 0 0]],[]⟩ 8 κ κ κ κ) ?_
 intro W base args n G I a b J _;have c:∀(j:Nat) t v,Tryz.f9.params[j]? =some t->args[j]? =some v->Value.okWide Tryz.prog W .any base t v:=a;have o:=b;obtain⟨p,q,d,r,rfl,K,L⟩:=b;have f:DataW.TrodAll enc Tryz.prog W 0 (λ_=>true) true Tryz.f9.params.toList args.toList n p:=d;rw[Tryz.params9]at f c;obtain⟨v0,M,d0,N,s,O,P,rfl,rfl,g,u⟩:=trodAll_cons f;obtain⟨rfl,rfl,rfl⟩:=trodAll_nil u;obtain rfl:args=#[v0]:=by cases args;simp_all
 obtain⟨rfl,rfl⟩:=trodVars_none r;obtain⟨c0,w,rfl⟩:=Go.Proofs.YtennbinbffdimaaGreat.Gate.FN (c 0 42 v0 rfl rfl) g;have k:=g;have y:∀x∈s,x.block<W.heap.size:=by obtain⟨m,z⟩:=k;exact DataW.trod_lt m _ _ _ z
 clear d a
 have D:Calls Tryz.prog 9 #[c0.tv.val] W λe E=>e=.returned (.bool true)/\Below W.heap.size W E:=by
  exact(bC.fin (args:=ak.vals [c0.tv]) (Go.Proofs.YtennbinbffdimaaGreat.Gate.FO w λQ e=>⟨rfl,e⟩))
 refine D.mono λe W'⟨F,l⟩=>?_;subst F;exact⟨_,rfl,_,_,_,[],_,[],o,trodAll_mk1 (shut_bool Tryz.underlying4 _),(trodAll_cons_mk (Below.trod laidOut κ (of_decide_eq_true κ) k l y) trodAll_mk0),rfl,l.frame _,λh=>by cases h⟩
theorem j1:Rows.gateRefusesRow.wf (OpenSpec.ofChange Rows.gateRefusesSpec)=true:=κ
theorem j4:Tryz.f9.params.all (Tryz.prog.readableRec ·)=true:=κ
theorem j5:namedTie Tryz.prog Rows.gateRefusesRow.named Rows.gateRefusesSpec.vars=true:=κ
theorem j6:(Rows.gateRefusesRow.stops==[])=true:=κ
theorem j8:(Rows.gateRefusesRow.knobs==[])=true:=κ
theorem j10:(Rows.gateRefusesRow.inPlace==Tryz.prog.inPlace 9)=true:=κ
theorem j11:(Rows.gateRefusesRow.unfollowed==Tryz.prog.unfollowed 9)=true:=κ
theorem j12:(Rows.gateRefusesRow.recurses==Tryz.prog.recurses 9)=true:=κ
theorem j13:(Rows.gateRefusesRow.named==Tryz.prog.varsNamed 9)=true:=κ
theorem Sb:(Rows.gateRefusesRow.maps==(Tryz.f9.params.toList++Rows.gateRefusesSpec.plain.varTypes Tryz.prog).any (Tryz.prog.mapsRec ·))=true:=κ
theorem j15:(Rows.gateRefusesRow.ifaces==(Tryz.f9.params.toList++Rows.gateRefusesSpec.plain.varTypes Tryz.prog).any (Tryz.prog.ifacesRec ·))=true:=κ
theorem j16:(Rows.gateRefusesRow.mapsOut==Tryz.prog.mapsAmong Tryz.f9.resultTypes.toList)=true:=κ
theorem j17:(Rows.gateRefusesRow.loops==(Tryz.f9.params.toList++Rows.gateRefusesSpec.plain.varTypes Tryz.prog).any (Tryz.prog.loopsFrom ·))=true:=κ
theorem j18:(Rows.gateRefusesRow.wideKeys==(Tryz.f9.params.toList++Rows.gateRefusesSpec.plain.varTypes Tryz.prog++Tryz.f9.resultTypes.toList).any (Tryz.prog.wideKeysFrom ·))=true:=κ
theorem j19:Rows.gateRefusesSpec.vars.all (Tryz.prog.varReadable ·)=true:=κ
theorem j20:Tryz.f9.resultTypes.all (λt=>Tryz.prog.readableRec t&&decide (t<Tryz.prog.types.size))=true:=κ
theorem j21:(Rows.gateRefusesRow.ifacesOut==Tryz.f9.resultTypes.toList.any (Tryz.prog.ifacesRec ·))=true:=κ
theorem j22:(Rows.gateRefusesRow.loopsOut==Tryz.f9.resultTypes.toList.any (Tryz.prog.loopsFrom ·))=true:=κ
theorem j24:Rows.gateRefusesRow.shortTexts.isNone=true:=κ
theorem j29:(Rows.gateRefusesRow.kinds==(if Rows.gateRefusesRow.domain.isEmpty then[]else Tryz.f9.params.toList.map λt=>match Tryz.prog.underlying t with|some (.int k)=>some k|_=>none))=true:=κ
theorem j30:(Rows.gateRefusesRow.pinned==Rows.gateRefusesRow.pinnedBy)=true:=κ
theorem j31:(Rows.gateRefusesRow.veiled==(Tryz.f9.params.toList++Rows.gateRefusesSpec.plain.varTypes Tryz.prog++Tryz.f9.resultTypes.toList).any (Tryz.prog.veiledRec ·))=true:=κ
theorem j32:Rows.gateRefusesRow.veiledFits Tryz.prog Tryz.f9.params.toList (Tryz.f9.params.toList++Rows.gateRefusesSpec.plain.varTypes Tryz.prog++Tryz.f9.resultTypes.toList)=true:=κ
theorem j23:(Rows.gateRefusesRow.plainKeys==Tryz.prog.plainKeys)=true:=by rw[AV];rfl
theorem j27:(Rows.gateRefusesRow.lifted==Tryz.prog.liftsFinal)=true:=by rw[AU];rfl
theorem j28:(Tryz.prog.make==some Rows.gateRefusesRow.make)=true:=Ev
theorem closed:joinedFacts Tryz.prog 9 Tryz.f9 Rows.gateRefusesSpec Rows.gateRefusesRow=true:=vM j1 Eu AQ j4 j5 j6 AR j8 AS j10 j11 j12 j13 Sb j15 j16 j17 j18 j19 j20 j21 j22 j23 j24 AT I4 j27 j28 j29 j30 j31 j32
theorem zD:Tryz.pinned.checked.prog.funcNamed Rows.gateRefusesRow.func=some 9:=κ
theorem inst:Tryz.f9.isInstance Tryz.pinned.checked.prog Rows.gateRefusesRow.origin Rows.gateRefusesRow.targs:=of_decide_eq_true κ
theorem wrapper:Tryz.f9.isWrapper Tryz.pinned.checked.prog Rows.gateRefusesRow.wrapper Rows.gateRefusesRow.mainSum:=by unfold Func.isWrapper;first|(rw[if_pos (by decide+kernel)];kernel_rfl)|(rw[if_neg (by decide+kernel)];exact⟨rfl,rfl⟩)
theorem rL:Rows.gateRefusesRow.holds Tryz.pinned (OpenSpec.ofChange Rows.gateRefusesSpec):=
 OpenClaim.holds_of_wide 9 Tryz.f9 rfl rfl rfl rfl rfl rfl rfl ⟨rfl,rfl,rfl,rfl,rfl⟩ rfl rfl rfl rfl rfl zD Tryz.func9 closed
  inst wrapper
  (λa b H enc _=>lifted a b H enc)
theorem proved:Rows.GateRefusesSaid:=rL
end gateRefuses
end Go.Proofs.YtennbinbffdimaaGreat

/- The law GateDoes holds for every input. -/
import Derived.Test.YtennbinbffdimaaGreatRows
import Derived.WalkKit
import Derived.ProofKit
import Derived.OpenShut
import Derived.ShutString
import Derived.ChangeOld
import Derived.Below
import Derived.Test.YtennbinbffdimaaGreatPk2
import Derived.Test.YtennbinbffdimaaGreatPk13
set_option maxRecDepth 100000
open Go.Vc.If renaming no->anZ,yes->an0
open Option renaming isNone->an1
namespace Go.Proofs.YtennbinbffdimaaGreat
open Go Go.Vc
namespace Gate
open Board (aq)
open Pool (eM)
section
variable{R:Rq}{h:af}
theorem Sr(q:R (TV.ptr none).val h):Cl 32 [.ptr none] h R:=by
 apply qi;delta C1;exact an0 q
theorem abj(q:R (TV.ptr none).val h):Cl 36 [.ptr none] h R:=by
 apply mc;delta C1;exact an0 q
theorem Ye(q:R (TV.ptr none).val h):Cl 51 [.ptr none] h R:=by
 apply nL;delta C1;exact an0 q
theorem Yf(q:R (TV.ptr none).val h):Cl 52 [.ptr none] h R:=by
 apply nM;delta C1;exact an0 q
theorem VG(q:R (TV.i 0).val h):Cl 31 [.ptr none] h R:=by
 apply q_;delta QJ aD fk dJ dX aT bA;exact an0 q
theorem abk(q:R (TV.i 0).val h):Cl 53 [.ptr none] h R:=by
 apply qj;delta aD dJ dX aT bA;exact an0 q
theorem Ss{peer:Int}{text:LU}(q:R (TV.i 5).val h):Cl 20 [.ptr none,.i peer,.str text] h R:=by
 apply me;delta jZ aD dJ dX aT bA;exact an0 q
theorem RG(q:R (TV.bool false).val h):Cl 39 [.ptr none] h R:=by
 apply qn;delta aF gL fk aO cu cE fE bK aT lq;intro a _;exact an0 q
theorem PI{root:Bs 32}(q:∀a,Ext h a->R (TV.i 2).val a):Cl 41 [.ptr none,.bytes 32 root] h R:=by
 apply lg;delta aD i_ cu cr dJ jW bz dX eU bJ aT bA;exact aa λb v1 c d=>an0 (q b c)
theorem Yg(q:∀a,Ext h a->R (TV.bytes 32 (Bs.zero 32)).val a):Cl 121 [.ptr none] h R:=by
 apply nN;delta zM cQ qD bz eU bJ;exact aa λf v1 b g=>an0 (aq (t:=.bytes 32 (Bs.zero 32)) v1 eM.symm (eM.trans eM.symm) λc d f2 j=>⟨_,d.bytes,q c (ag.cut b f2 λi e=>Nat.le_of_eq (Eq.symm e))⟩)
theorem abl(q:∀a,Ext h a->R (TV.bytes 32 (Bs.zero 32)).val a):Cl 48 [.ptr none] h R:=by
 apply qt;delta cQ uR qD bz eU bJ;exact aa λg v1 c j=>Sr ⟨_,rfl,Yg λk b=>⟨_,rfl,aq (t:=.bytes 32 (Bs.zero 32)) (v1.ext b) eM.symm (eM.trans eM.symm) λd e f3 l=>⟨_,e.bytes,q d (ag.cut (c.trans b) f3 λi f=>Nat.le_of_eq (Eq.symm f))⟩⟩⟩
theorem Yh(q:∀a,Ext h a->R (TV.bytes 32 (Bs.zero 32)).val a):Cl 47 [.ptr none] h R:=by
 apply nP;delta zM cQ i_ qD bz eU bJ;exact aa λf v1 b g=>an0 (aq (t:=.bytes 32 (Bs.zero 32)) v1 eM.symm (eM.trans eM.symm) λc d f2 j=>⟨_,d.bytes,q c (ag.cut b f2 λi e=>Nat.le_of_eq (Eq.symm e))⟩)
end
end Gate
section
open Go Go.Vc _root_.Go.Proofs.Tryz
open Go.IntKind (wrap)
set_option linter.unusedVariables false
variable{h:af}{R:Rt}
theorem tF(q:Sl)(A B:Int)(E I:Int)(p_C_Early M:Int)(O U:Int)(W Z:Int)(ab:Int)(ac:Sl)(H:cL h (rC q A B E I p_C_Early M O U W Z ab ac) 42 λo=>bR 25 [] o λb e=>If (!b) (aO R e) (LM e h.size 0 λs n r t u v w x y z C D F=>bR 26 [(rC s n r t u v w x y z C D F),bA 60] e λb g=>If b (R (fE) g) (bM (λ(s:Bool) i=>gy i h.size 0 λG n L N P Q S T V X Y ad=>Oj 19 [bD G n L N P Q S T V X Y ad] i λp n j=>gy j h.size 0 λae al am ao ap ar aw aE a0 a1 a2 a3=>H6 27 [bD ae al am ao ap ar aw aE a0 a1 a2 a3] j λf b a=>If (!b) (If (an1 p) (R (TV.val (.bool (decide (n=1)))) a) (aO R a)) (If (!decide (n=0)) (aO R a) (LM a h.size 0 λa4 n a5 a6 a7 a8 a9 a' ba bb bc bd bi=>Y6 28 [rC a4 n a5 a6 a7 a8 a9 a' ba bb bc bd bi] a λbj bk k=>fH k h 12 λm=>Go.Vc.Loop (s,0) k λ(d:Bool×Int) h K=>If (jM d m) (Tc d.snd m 58 0 h λn bl bm bo bp b br bt bx bN b0 b1=>nX h (JJ) 60 58 (ur n bl bm bo bp b br bt bx bN b0 b1) λc=>Qz c h.size 0 λn b2 b3 b5 b6 b b7 b8 b9 b' ca cc=>sB d.snd bj 1 0 c λcd=>nW c h.size 56 λce=>fh 30 [.slice bk,aT ce] c λcf h=>Ext c h/\bR 29 [.ptr p,.ptr f,(ur n b2 b3 b5 b6 b b7 b8 b9 b' ca cc),.str cd,bJ cf] h λb h=>If (!b) (aO R h) (bR 54 [.ptr p,.ptr f] h λb h=>If (!b) (aO R h) (K (mq d 1) h))) (bR 54 [.ptr p,.ptr f] h λb h=>iM R b h)))) λJ=>jK 20 [.ptr none,bA 1,Br] g λn h=>If (!decide (n=5)) (aO R h) (bR 39 [.ptr none] h λb h=>If b (aO R h) (jK 41 [.ptr none,eU] h λn h=>If (!decide (n=2)) (aO R h) (fh 48 [.ptr none] h λb h=>If (!decide (b.l=(Bs.zero 32).l)) (aO R h) (fh 47 [.ptr none] h λb h=>If (!decide (b.l=(Bs.zero 32).l)) (aO R h) (jK 31 [.ptr none] h λn h=>If (!decide (n=0)) (aO R h) (tJ 32 [.ptr none] h λp h=>If (!an1 p) (aO R h) (tJ 36 [.ptr none] h λp h=>If (!an1 p) (aO R h) (tJ 51 [.ptr none] h λp h=>If (!an1 p) (aO R h) (tJ 52 [.ptr none] h λp h=>If (!an1 p) (aO R h) (jK 53 [.ptr none] h λn h=>If (!decide (n=0)) (aO R h) (J false h)))))))))))))):Cl 8 [rC q A B E I p_C_Early M O U W Z ab ac] h R:=vi func8 H
end
namespace Gate
open Board (Vd Cf Ms jx aq bh)
open Pool (It Fit eM Dw rts)
section
variable{R:Rq}{h:af}{c:Cf}{V:List Vd}{A:Sl}{xs:List (Act×List Bool)}
theorem Mc(p:qu h c V A xs)(B:∀C,Ext h C->R (TV.bool true).val C):Cl 8 [.agg [c.tv,.slice A]] h R:=by
 apply tF c.vals c.ep c.aQ c.no c.eV c.eH c.quo c.pe c.iy c.win c.bH c.dec A;delta fH jM Br iM aO mq fE eU bJ bK aT bA lq;refine aa λh1 v1 P s1=>nc λS D=>⟨_,rfl,anZ ?_⟩;have E:Var 42 S h.size (.agg [c.tv,.slice A]):=Var.ext (t:=.agg [c.tv,.slice A]) v1 D;have w:=P.trans D;have p2:=p.ext w;refine CY E (ku p2.ev p2.Cq δ (λF j=>⟨_,rfl,an0 (B F (w.trans j))⟩) λF j U ap ok=>⟨_,rfl,anZ ?_⟩);intro W G;refine Ss ⟨_,rfl,anZ (RG ⟨_,rfl,anZ (PI λh4 X=>⟨_,rfl,anZ (abl λe d=>⟨_,rfl,?_⟩)⟩)⟩)⟩;dsimp only;rw[decide_eq_true rfl];refine anZ (Yh λo Y=>⟨_,rfl,?_⟩);dsimp only;rw[decide_eq_true rfl];refine anZ (VG ⟨_,rfl,anZ (Sr ⟨_,rfl,anZ (abj ⟨_,rfl,anZ (Ye ⟨_,rfl,anZ (Yf ⟨_,rfl,anZ (abk ⟨_,rfl,anZ (G _ o ?_)⟩)⟩)⟩)⟩)⟩)⟩);clear G W;have y:=(X.trans d).trans Y;have H:=(w.trans j).trans y;have I:=(E.ext j).ext y;have z:=(p2.ext j).ext y;refine tC I z U (λhb e d=>an0 (an0 (B e (H.trans d)))) λk e g m a b q J K L d lo=>?_;refine anZ (anZ ?_);have Z:=I.ext d;have p5:=z.ext d;have ab:=Jw p ok;refine xQ Z p5 k ω ok λl T Q told M v7=>⟨A,v7.at.2,?_⟩;have ac:At o l l e.size J K:=⟨d.trans M,ag.refl _ _,λi r=>⟨lo i r,.inl (L.p.lt i r)⟩⟩;have ad:dc o l l e.size g m c q V (iq c V) 0:=⟨a,b,[],J,K,L.ext M,ac⟩;have ar:=p.Cq.len;refine⟨λσ N=>0<=σ.2/\σ.2<=xs.length/\∃s,dc o l N e.size g m c q V s σ.2.toNat,λσ _=>((xs.length:Int)-σ.2).toNat,⟨Int.le_refl 0,Ω,iq c V,ad⟩,?_⟩;rintro⟨f,i⟩ N ⟨u,i1,s,v⟩;dsimp only at u i1 v⊢;have xb:=v.base;refine ID (λr=>?_) λr=>v.kE λh8 x8 _=>⟨_,rfl,B h8 ((H.trans xb).trans x8)⟩;have ae:i.toNat<xs.length:=ω;obtain⟨x,O⟩:∃x,xs[i.toNat]? =some x:=⟨_,List.getElem?_eq_getElem ae⟩;have al:=List.mem_of_getElem? O;obtain⟨t,ht,tl⟩:=Cr (c:=c) (V:=V) u ω ab;refine tE (z.Cq.ext xb) u O λh9 v9 x9=>?_;refine Cs (v.ext x9) ω told ω v9 (p.fit x al).1 u ht tl λaw s' am x' nx=>anZ (am.kE λaE a0 ao=>⟨_,rfl,anZ ?_⟩);rw[wrap_i64 (n:=i+1) ω ω];refine⟨⟨Ω,Ω,s',?_⟩,Ω⟩
 try dsimp only
 rw[show(i+1).toNat=i.toNat+1 by omega];exact ao
theorem Lu{q:FM}(p:∃V xs,qu h q.c V q.A xs)(B:∀a,Ext h a->R (TV.bool true).val a):Cl 8 [q.tv] h R:=by
 obtain⟨V,xs,p⟩:=p;exact Mc p B
end
end Gate
namespace gateDoes
open Go.Vc
open Go.ChangeShapes Go.WideShapes Go.ChangeAt Go.RowKit
open Go.ChangeMaps (open_string shut_string)
set_option linter.unusedVariables false
theorem own:ownKnob Tryz.prog.godebug=none:=κ
theorem laidOut:laidOutB Tryz.prog=true:=κ
theorem lifted(A:Os)(B:A.Started)(H:Type)(enc:TypeId×Value->H):
 ReturnsInHanded {} Tryz.checked A 8 .any (Rows.gateDoesSpec.pre6 enc Tryz.prog Tryz.f8 Rows.gateDoesRow.domain false) (Rows.gateDoesSpec.post enc Tryz.prog Tryz.f8 false true false false):=by
 refine returnsInHanded_of_change (C:=Tryz.checked) own B κ Tryz.func8
  (ChangeSpec.witness6 (enc:=enc) (C:=Tryz.checked) false ⟨#[],#[.agg #[.slice none 0 0,.i 0,.i 0,.i 0,.i 0,.i 0,.i 0,.i 0,.i 0,.i 0,.i 0,.i 0,.slice none 0 0]],[]⟩ 8 κ κ κ κ) ?_
 intro W base args n G I a b J _;have c:∀(j:Nat) t v,Tryz.f8.params[j]? =some t->args[j]? =some v->Value.okWide Tryz.prog W .any base t v:=a;have o:=b;obtain⟨p,q,d,r,rfl,K,L⟩:=b;have f:DataW.TrodAll enc Tryz.prog W 0 (λ_=>true) true Tryz.f8.params.toList args.toList n p:=d;rw[Tryz.params8]at f c;obtain⟨v0,M,d0,N,s,O,P,rfl,rfl,g,u⟩:=trodAll_cons f;obtain⟨rfl,rfl,rfl⟩:=trodAll_nil u;obtain rfl:args=#[v0]:=by cases args;simp_all
 obtain⟨rfl,rfl⟩:=trodVars_none r;obtain⟨c0,w,rfl⟩:=Go.Proofs.YtennbinbffdimaaGreat.Gate.FN (c 0 42 v0 rfl rfl) g;have k:=g;have y:∀x∈s,x.block<W.heap.size:=by obtain⟨m,z⟩:=k;exact DataW.trod_lt m _ _ _ z
 clear d a
 have D:Calls Tryz.prog 8 #[c0.tv.val] W λe E=>e=.returned (.bool true)/\Below W.heap.size W E:=by
  exact(bC.fin (args:=ak.vals [c0.tv]) (Go.Proofs.YtennbinbffdimaaGreat.Gate.Lu w λQ e=>⟨rfl,e⟩))
 refine D.mono λe W'⟨F,l⟩=>?_;subst F;exact⟨_,rfl,_,_,_,[],_,[],o,trodAll_mk1 (shut_bool Tryz.underlying4 _),(trodAll_cons_mk (Below.trod laidOut κ (of_decide_eq_true κ) k l y) trodAll_mk0),rfl,l.frame _,λh=>by cases h⟩
theorem j1:Rows.gateDoesRow.wf (OpenSpec.ofChange Rows.gateDoesSpec)=true:=κ
theorem j4:Tryz.f8.params.all (Tryz.prog.readableRec ·)=true:=κ
theorem j5:namedTie Tryz.prog Rows.gateDoesRow.named Rows.gateDoesSpec.vars=true:=κ
theorem j6:(Rows.gateDoesRow.stops==[])=true:=κ
theorem j8:(Rows.gateDoesRow.knobs==[])=true:=κ
theorem j10:(Rows.gateDoesRow.inPlace==Tryz.prog.inPlace 8)=true:=κ
theorem j11:(Rows.gateDoesRow.unfollowed==Tryz.prog.unfollowed 8)=true:=κ
theorem j12:(Rows.gateDoesRow.recurses==Tryz.prog.recurses 8)=true:=κ
theorem j13:(Rows.gateDoesRow.named==Tryz.prog.varsNamed 8)=true:=κ
theorem Sb:(Rows.gateDoesRow.maps==(Tryz.f8.params.toList++Rows.gateDoesSpec.plain.varTypes Tryz.prog).any (Tryz.prog.mapsRec ·))=true:=κ
theorem j15:(Rows.gateDoesRow.ifaces==(Tryz.f8.params.toList++Rows.gateDoesSpec.plain.varTypes Tryz.prog).any (Tryz.prog.ifacesRec ·))=true:=κ
theorem j16:(Rows.gateDoesRow.mapsOut==Tryz.prog.mapsAmong Tryz.f8.resultTypes.toList)=true:=κ
theorem j17:(Rows.gateDoesRow.loops==(Tryz.f8.params.toList++Rows.gateDoesSpec.plain.varTypes Tryz.prog).any (Tryz.prog.loopsFrom ·))=true:=κ
theorem j18:(Rows.gateDoesRow.wideKeys==(Tryz.f8.params.toList++Rows.gateDoesSpec.plain.varTypes Tryz.prog++Tryz.f8.resultTypes.toList).any (Tryz.prog.wideKeysFrom ·))=true:=κ
theorem j19:Rows.gateDoesSpec.vars.all (Tryz.prog.varReadable ·)=true:=κ
theorem j20:Tryz.f8.resultTypes.all (λt=>Tryz.prog.readableRec t&&decide (t<Tryz.prog.types.size))=true:=κ
theorem j21:(Rows.gateDoesRow.ifacesOut==Tryz.f8.resultTypes.toList.any (Tryz.prog.ifacesRec ·))=true:=κ
theorem j22:(Rows.gateDoesRow.loopsOut==Tryz.f8.resultTypes.toList.any (Tryz.prog.loopsFrom ·))=true:=κ
theorem j24:Rows.gateDoesRow.shortTexts.isNone=true:=κ
theorem j29:(Rows.gateDoesRow.kinds==(if Rows.gateDoesRow.domain.isEmpty then[]else Tryz.f8.params.toList.map λt=>match Tryz.prog.underlying t with|some (.int k)=>some k|_=>none))=true:=κ
theorem j30:(Rows.gateDoesRow.pinned==Rows.gateDoesRow.pinnedBy)=true:=κ
theorem j31:(Rows.gateDoesRow.veiled==(Tryz.f8.params.toList++Rows.gateDoesSpec.plain.varTypes Tryz.prog++Tryz.f8.resultTypes.toList).any (Tryz.prog.veiledRec ·))=true:=κ
theorem j32:Rows.gateDoesRow.veiledFits Tryz.prog Tryz.f8.params.toList (Tryz.f8.params.toList++Rows.gateDoesSpec.plain.varTypes Tryz.prog++Tryz.f8.resultTypes.toList)=true:=κ
theorem j23:(Rows.gateDoesRow.plainKeys==Tryz.prog.plainKeys)=true:=by rw[AV];rfl
theorem j27:(Rows.gateDoesRow.lifted==Tryz.prog.liftsFinal)=true:=by rw[AU];rfl
theorem j28:(Tryz.prog.make==some Rows.gateDoesRow.make)=true:=Ev
theorem closed:joinedFacts Tryz.prog 8 Tryz.f8 Rows.gateDoesSpec Rows.gateDoesRow=true:=vM j1 Eu AQ j4 j5 j6 AR j8 AS j10 j11 j12 j13 Sb j15 j16 j17 j18 j19 j20 j21 j22 j23 j24 AT I4 j27 j28 j29 j30 j31 j32
theorem zD:Tryz.pinned.checked.prog.funcNamed Rows.gateDoesRow.func=some 8:=κ
theorem inst:Tryz.f8.isInstance Tryz.pinned.checked.prog Rows.gateDoesRow.origin Rows.gateDoesRow.targs:=of_decide_eq_true κ
theorem wrapper:Tryz.f8.isWrapper Tryz.pinned.checked.prog Rows.gateDoesRow.wrapper Rows.gateDoesRow.mainSum:=by unfold Func.isWrapper;first|(rw[if_pos (by decide+kernel)];kernel_rfl)|(rw[if_neg (by decide+kernel)];exact⟨rfl,rfl⟩)
theorem rL:Rows.gateDoesRow.holds Tryz.pinned (OpenSpec.ofChange Rows.gateDoesSpec):=
 OpenClaim.holds_of_wide 8 Tryz.f8 rfl rfl rfl rfl rfl rfl rfl ⟨rfl,rfl,rfl,rfl,rfl⟩ rfl rfl rfl rfl rfl zD Tryz.func8 closed
  inst wrapper
  (λa b H enc _=>lifted a b H enc)
theorem proved:Rows.GateDoesSaid:=rL
end gateDoes
end Go.Proofs.YtennbinbffdimaaGreat

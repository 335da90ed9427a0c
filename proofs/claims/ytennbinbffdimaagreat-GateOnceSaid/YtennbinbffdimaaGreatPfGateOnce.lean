/- The law GateOnce holds for every input. -/
import Derived.Test.YtennbinbffdimaaGreatRows
import Derived.WalkKit
import Derived.ProofKit
import Derived.OpenShut
import Derived.ShutString
import Derived.ChangeOld
import Derived.Below
import Derived.Test.YtennbinbffdimaaGreatPk2
import Derived.Test.YtennbinbffdimaaGreatPk13
set_option maxRecDepth 100000
open PUnit renaming unit->an2
namespace Go.Proofs.YtennbinbffdimaaGreat
open Go Go.Vc
section
open Go Go.Vc _root_.Go.Proofs.Tryz
open Go.IntKind (wrap)
set_option linter.unusedVariables false
variable{h:af}{R:Rt}
theorem tG(A:Sl)(B E:Int)(I J:Int)(M O:Int)(U W:Int)(Z ab:Int)(ac:Int)(ad:Sl)(peer:Int)(H:cL h (rC A B E I J M O U W Z ab ac ad) 42 λC=>bR 25 [] C λb j=>If (!b) (aO R j) (LM j h.size 0 λs n D F G L N P Q S T V X=>bR 26 [(rC s n D F G L N P Q S T V X),bA 60] j λb k=>If b (R (fE) k) (gy k h.size 0 λs n Y ae al am ao ap ar aw aE a0=>Oj 19 [bD s n Y ae al am ao ap ar aw aE a0] k λp n u=>gy u h.size 0 λs a1 a2 a3 a4 a5 a6 a7 a8 a9 a' ba=>H6 27 [bD s a1 a2 a3 a4 a5 a6 a7 a8 a9 a' ba] u λf b bb=>bM (λ(s:Bool) v=>LM v h.size 0 λbc n bd bi bj bk bl bm bo bp br bt bx=>Y6 28 [rC bc n bd bi bj bk bl bm bo bp br bt bx] v λe bN w=>fH w h 12 λx=>Go.Vc.Loop (s,0) w λ(a:Bool×Int) h K=>If (jM a x) (Tc a.snd x 58 0 h λn b0 b1 b2 b3 b b5 b6 b7 b8 b9 b'=>nX h (JJ) 60 58 (ur n b0 b1 b2 b3 b b5 b6 b7 b8 b9 b') λg=>bM (λ(y:PUnit) c=>nW c h.size 1 λn=>sB a.snd e 1 0 c λl=>jK 20 (jZ p n l) c λn m=>nW m h.size 1 λo=>sB a.snd e 1 0 m λq=>jK 43 (jZ f o q) m λr h=>If (!decide (r=n)) (aO R h) (bM (λ(z:PUnit) h=>sB a.snd e 1 0 h λca=>jK 20 (jZ p peer ca) h λn h=>sB a.snd e 1 0 h λcc=>jK 43 (jZ f peer cc) h λt h=>If (!decide (t=n)) (aO R h) (If (!decide (n=9)) (If (!decide (n=3)) (aO R h) (K (mq a 1) h)) (K (mq a 1) h))) λd=>If (!decide (n=0)) (If (!decide (n=1)) (If (!decide (n=2)) (K (mq a 1) h) (d an2 h)) (d an2 h)) (d an2 h))) λd=>bM (λ(y:Bool) c=>If y (Qz c h.size 0 λn o l r t b cd ce q cf ch ci=>sB a.snd e 1 0 c λz=>nW c h.size 56 λcj=>fh 30 [.slice bN,aT cj] c λcl h=>Ext c h/\bR 29 [.ptr p,.ptr f,(ur n o l r t b cd ce q cf ch ci),.str z,bJ cl] h λb h=>K (mq a 1) h) (d an2 c)) λd=>nW g h.size 0 λn=>If (decide (n=2)) (d true g) (nW g h.size 0 λn=>d (decide (n=3)) g)) (bR 54 [.ptr p,.ptr f] h λb h=>iM R b h)) λd=>Ht n R bb b d))):Cl 10 [(rC A B E I J M O U W Z ab ac ad),.i peer] h R:=vi func10 H
end
namespace Gate
open Board (Vd Cf Ms jx aq bh)
open Pool (It Fit eM Dw rts)
section
variable{R:Rq}{h:af}{c:Cf}{V:List Vd}{A:Sl}{xs:List (Act×List Bool)}
theorem dc.tok{B E H:af}{I g m k:Nat}{q:Sl}{s:St}(p:dc B E H I g m c q V s k):rz s.N c.no:=by
 obtain⟨a,b,P,e,f,d,h⟩:=p;exact d.p.G.tok
theorem Me(p:qu h c V A xs){peer:Int}(Z:(Lit.int .i64 peer).wf=true)(H:∀Y,Ext h Y->R (TV.bool true).val Y):Cl 10 [.agg [c.tv,.slice A],.i peer] h R:=by
 apply tG c.vals c.ep c.aQ c.no c.eV c.eH c.quo c.pe c.iy c.win c.bH c.dec A;delta jZ fH Ht jM iM aO mq fE bJ bK aT bA lq;refine aa λh1 v1 x1 s1=>nc λh2 I=>⟨_,rfl,If.no ?_⟩;have v2:Var 42 h2 h.size (.agg [c.tv,.slice A]):=Var.ext (t:=.agg [c.tv,.slice A]) v1 I;have J:=x1.trans I;have p2:=p.ext J;refine CY v2 (ku p2.ev p2.Cq δ (λo y=>⟨_,rfl,If.yes (H o (J.trans y))⟩) λo y lc aE ok=>⟨_,rfl,If.no ?_⟩);have K:=J.trans y;have v3:=v2.ext y;have L:=p2.ext y;refine tC v3 L lc (λM d v=>?_) λk d g m a b q F1 F2 al v lo=>?_
 ·intro N z;exact If.yes (H d (K.trans v))
 intro N z;refine If.no (If.no (z _ d ?_));clear z N;have a0:=K.trans v;have v5:=v3.ext v;have p5:=L.ext v;have ad:=Jw p ok;refine xQ v5 p5 k ω ok λr T Q told x6 v6=>⟨A,v6.at.2,?_⟩;have ae:At o r r d.size F1 F2:=⟨v.trans x6,ag.refl _ _,λi F=>⟨lo i F,.inl (al.p.lt i F)⟩⟩;have al6:dc o r r d.size g m c q V (iq c V) (2*0):=⟨a,b,[],F1,F2,al.ext x6,ae⟩;have a1:=p.Cq.len;refine⟨λσ w=>0<=σ.2/\σ.2<=xs.length/\∃s,dc o r w d.size g m c q V s (2*σ.2.toNat),λσ _=>((xs.length:Int)-σ.2).toNat,⟨Int.le_refl 0,Ω,iq c V,al6⟩,?_⟩;rintro⟨f,i⟩ w ⟨j,i1,s,l⟩;dsimp only at j i1 l⊢;have xb:=l.base;refine ID (λF=>?_) λF=>l.kE λh8 x8 _=>⟨_,rfl,H h8 ((K.trans xb).trans x8)⟩;have am:i.toNat<xs.length:=ω;obtain⟨x,hx⟩:∃x,xs[i.toNat]? =some x:=⟨_,List.getElem?_eq_getElem am⟩;have ao:=List.mem_of_getElem? hx;have O:=(p.fit x ao).1;obtain⟨t,B,C⟩:=Cr (c:=c) (V:=V) j ω ad;refine tE (L.Cq.ext xb) j hx λS D U=>?_
 have next:∀{w:af}{E:St},dc o r w d.size g m c q V E (2*i.toNat+2)->
  (0<=IntKind.wrap .i64 (i+1)/\IntKind.wrap .i64 (i+1)<=xs.length/\∃s,dc o r w d.size g m c q V s (2*(IntKind.wrap .i64 (i+1)).toNat))/\((xs.length:Int)-IntKind.wrap .i64 (i+1)).toNat<((xs.length:Int)-i).toNat:=λ{w E} u=>by
  rw[wrap_i64 (n:=i+1) ω ω,show 2*(i+1).toNat=2*i.toNat+2 by omega];exact⟨⟨ω,ω,E,u⟩,ω⟩
 intro N z W ab;have yes:W true S:=ab _ _ (If.yes (Cs (l.ext U) ω told ω D O j B C λa2 E u x' nx=>next u.more))
 have no:W false S:=by
  refine ab _ _ (If.no (z _ _ ⟨x.1.peer,D.at.2.1,Er ((l.ext U).told told).1 j B ?_⟩));refine l.left U ω O C λa3 ha va=>⟨_,rfl,?_⟩;have v11:=va (Nat.le_refl _) D;refine⟨x.1.peer,v11.at.2.1,Er (ha.told told) j B (ha.right (Ext.refl _) ω O C λap E u x' nx=>⟨_,rfl,?_⟩)⟩;dsimp only;rw[decide_eq_true rfl];refine If.no ?_;intro J3 ar
  have X:((aG c V s x.1.peer t).1=0\/(aG c V s x.1.peer t).1=1\/(aG c V s x.1.peer t).1=2)->J3 an2 ap:=by
   intro hv;obtain⟨P,n,e,_⟩:=nx;have ac:=Sy (V:=V) l.tok l.kept.now.2 hv (P:=P) (G:=s.gone+n) (p2:=peer);rw[<-e]at ac;refine ar _ _ (Er (u.told told).1 j B (u.left (Ext.refl _) ω Z C λa4 M vb=>⟨_,rfl,Er (M.told told) j B (M.right (Ext.refl _) ω Z C λa5 s2 aw I a6=>⟨_,rfl,?_⟩)⟩));dsimp only;rw[decide_eq_true rfl];refine If.no ?_;have go:=next aw
   rcases ac with e3|e9
   ·rw[e3];exact If.yes (If.no go)
   ·rw[e9];exact If.no go
  have go:=next u.more
  refine If.split (λn0=>If.split (λn1=>If.split (λn2=>go) λn2=>X ?_) λn1=>X ?_) λn0=>X ?_
  ·exact .inr (.inr (by simpa using n2))
  ·exact .inr (.inl (by simpa using n1))
  ·exact .inl (by simpa using n0)
 refine⟨x.1.kind,D.at.1,ID (λ_=>yes) λ_=>⟨x.1.kind,D.at.1,?_⟩⟩;show W (decide (x.1.kind=3)) S;by_cases k3:x.1.kind=3
 ·rw[decide_eq_true k3];exact yes
 ·rw[decide_eq_false k3];exact no
theorem Lw{q:FM}(p:∃V xs,qu h q.c V q.A xs){peer:Int}(B:(Lit.int .i64 peer).wf=true)(E:∀a,Ext h a->R (TV.bool true).val a):Cl 10 [q.tv,.i peer] h R:=by
 obtain⟨V,xs,p⟩:=p;exact Me p B E
end
end Gate
namespace gateOnce
open Go.Vc
open Go.ChangeShapes Go.WideShapes Go.ChangeAt Go.RowKit
open Go.ChangeMaps (open_string shut_string)
set_option linter.unusedVariables false
theorem own:ownKnob Tryz.prog.godebug=none:=κ
theorem laidOut:laidOutB Tryz.prog=true:=κ
theorem lifted(A:Os)(B:A.Started)(H:Type)(enc:TypeId×Value->H):
 ReturnsInHanded {} Tryz.checked A 10 .any (Rows.gateOnceSpec.pre6 enc Tryz.prog Tryz.f10 Rows.gateOnceRow.domain false) (Rows.gateOnceSpec.post enc Tryz.prog Tryz.f10 false true false false):=by
 refine returnsInHanded_of_change (C:=Tryz.checked) own B κ Tryz.func10
  (ChangeSpec.witness6 (enc:=enc) (C:=Tryz.checked) false ⟨#[],#[.agg #[.slice none 0 0,.i 0,.i 0,.i 0,.i 0,.i 0,.i 0,.i 0,.i 0,.i 0,.i 0,.i 0,.slice none 0 0],.i 0],[]⟩ 8 κ κ κ κ) ?_
 intro W base args r K L b c M _;have a:∀(j:Nat) t v,Tryz.f10.params[j]? =some t->args[j]? =some v->Value.okWide Tryz.prog W .any base t v:=b;have s:=c;obtain⟨p,q,d,u,rfl,N,O⟩:=c;have f:DataW.TrodAll enc Tryz.prog W 0 (λ_=>true) true Tryz.f10.params.toList args.toList r p:=d;rw[Tryz.params10]at f a;obtain⟨v0,P,d0,Q,w,R,S,rfl,rfl,g,y⟩:=trodAll_cons f;obtain⟨v1,T,d1,U,V,X,rfl,rfl,rfl,z,r1⟩:=trodAll_cons y;obtain⟨rfl,rfl,rfl⟩:=trodAll_nil r1;obtain rfl:args=#[v0,v1]:=by cases args;simp_all
 obtain⟨rfl,rfl⟩:=trodVars_none u;obtain⟨c0,D,rfl⟩:=Go.Proofs.YtennbinbffdimaaGreat.Gate.FN (a 0 42 v0 rfl rfl) g;have k:=g;have E:∀x∈w,x.block<W.heap.size:=by obtain⟨m,F⟩:=k;exact DataW.trod_lt m _ _ _ F
 obtain⟨l,rfl,rfl,rfl,n⟩:=open_int Tryz.underlying3 (a 1 3 v1 rfl rfl) z;clear d b
 have G:Calls Tryz.prog 10 #[c0.tv.val,Value.i l] W λe I=>e=.returned (.bool true)/\Below W.heap.size W I:=by
  exact(bC.fin (args:=ak.vals [c0.tv,.i l]) (Go.Proofs.YtennbinbffdimaaGreat.Gate.Lw D n λY e=>⟨rfl,e⟩))
 refine G.mono λe W'⟨J,o⟩=>?_;subst J;exact⟨_,rfl,_,_,_,[],_,[],s,trodAll_mk1 (shut_bool Tryz.underlying4 _),(trodAll_cons_mk (Below.trod laidOut κ (of_decide_eq_true κ) k o E) (trodAll_cons_mk (shut_int Tryz.underlying3 n) trodAll_mk0)),rfl,o.frame _,λh=>by cases h⟩
theorem j1:Rows.gateOnceRow.wf (OpenSpec.ofChange Rows.gateOnceSpec)=true:=κ
theorem j4:Tryz.f10.params.all (Tryz.prog.readableRec ·)=true:=κ
theorem j5:namedTie Tryz.prog Rows.gateOnceRow.named Rows.gateOnceSpec.vars=true:=κ
theorem j6:(Rows.gateOnceRow.stops==[])=true:=κ
theorem j8:(Rows.gateOnceRow.knobs==[])=true:=κ
theorem j10:(Rows.gateOnceRow.inPlace==Tryz.prog.inPlace 10)=true:=κ
theorem j11:(Rows.gateOnceRow.unfollowed==Tryz.prog.unfollowed 10)=true:=κ
theorem j12:(Rows.gateOnceRow.recurses==Tryz.prog.recurses 10)=true:=κ
theorem j13:(Rows.gateOnceRow.named==Tryz.prog.varsNamed 10)=true:=κ
theorem Sb:(Rows.gateOnceRow.maps==(Tryz.f10.params.toList++Rows.gateOnceSpec.plain.varTypes Tryz.prog).any (Tryz.prog.mapsRec ·))=true:=κ
theorem j15:(Rows.gateOnceRow.ifaces==(Tryz.f10.params.toList++Rows.gateOnceSpec.plain.varTypes Tryz.prog).any (Tryz.prog.ifacesRec ·))=true:=κ
theorem j16:(Rows.gateOnceRow.mapsOut==Tryz.prog.mapsAmong Tryz.f10.resultTypes.toList)=true:=κ
theorem j17:(Rows.gateOnceRow.loops==(Tryz.f10.params.toList++Rows.gateOnceSpec.plain.varTypes Tryz.prog).any (Tryz.prog.loopsFrom ·))=true:=κ
theorem j18:(Rows.gateOnceRow.wideKeys==(Tryz.f10.params.toList++Rows.gateOnceSpec.plain.varTypes Tryz.prog++Tryz.f10.resultTypes.toList).any (Tryz.prog.wideKeysFrom ·))=true:=κ
theorem j19:Rows.gateOnceSpec.vars.all (Tryz.prog.varReadable ·)=true:=κ
theorem j20:Tryz.f10.resultTypes.all (λt=>Tryz.prog.readableRec t&&decide (t<Tryz.prog.types.size))=true:=κ
theorem j21:(Rows.gateOnceRow.ifacesOut==Tryz.f10.resultTypes.toList.any (Tryz.prog.ifacesRec ·))=true:=κ
theorem j22:(Rows.gateOnceRow.loopsOut==Tryz.f10.resultTypes.toList.any (Tryz.prog.loopsFrom ·))=true:=κ
theorem j24:Rows.gateOnceRow.shortTexts.isNone=true:=κ
theorem j29:(Rows.gateOnceRow.kinds==(if Rows.gateOnceRow.domain.isEmpty then[]else Tryz.f10.params.toList.map λt=>match Tryz.prog.underlying t with|some (.int k)=>some k|_=>none))=true:=κ
theorem j30:(Rows.gateOnceRow.pinned==Rows.gateOnceRow.pinnedBy)=true:=κ
theorem j31:(Rows.gateOnceRow.veiled==(Tryz.f10.params.toList++Rows.gateOnceSpec.plain.varTypes Tryz.prog++Tryz.f10.resultTypes.toList).any (Tryz.prog.veiledRec ·))=true:=κ
theorem j32:Rows.gateOnceRow.veiledFits Tryz.prog Tryz.f10.params.toList (Tryz.f10.params.toList++Rows.gateOnceSpec.plain.varTypes Tryz.prog++Tryz.f10.resultTypes.toList)=true:=κ
theorem j23:(Rows.gateOnceRow.plainKeys==Tryz.prog.plainKeys)=true:=by rw[AV];rfl
theorem j27:(Rows.gateOnceRow.lifted==Tryz.prog.liftsFinal)=true:=by rw[AU];rfl
theorem j28:(Tryz.prog.make==some Rows.gateOnceRow.make)=true:=Ev
theorem closed:joinedFacts Tryz.prog 10 Tryz.f10 Rows.gateOnceSpec Rows.gateOnceRow=true:=vM j1 Eu AQ j4 j5 j6 AR j8 AS j10 j11 j12 j13 Sb j15 j16 j17 j18 j19 j20 j21 j22 j23 j24 AT I4 j27 j28 j29 j30 j31 j32
theorem zD:Tryz.pinned.checked.prog.funcNamed Rows.gateOnceRow.func=some 10:=κ
theorem inst:Tryz.f10.isInstance Tryz.pinned.checked.prog Rows.gateOnceRow.origin Rows.gateOnceRow.targs:=of_decide_eq_true κ
theorem wrapper:Tryz.f10.isWrapper Tryz.pinned.checked.prog Rows.gateOnceRow.wrapper Rows.gateOnceRow.mainSum:=by unfold Func.isWrapper;first|(rw[if_pos (by decide+kernel)];kernel_rfl)|(rw[if_neg (by decide+kernel)];exact⟨rfl,rfl⟩)
theorem rL:Rows.gateOnceRow.holds Tryz.pinned (OpenSpec.ofChange Rows.gateOnceSpec):=
 OpenClaim.holds_of_wide 10 Tryz.f10 rfl rfl rfl rfl rfl rfl rfl ⟨rfl,rfl,rfl,rfl,rfl⟩ rfl rfl rfl rfl rfl zD Tryz.func10 closed
  inst wrapper
  (λa b H enc _=>lifted a b H enc)
theorem proved:Rows.GateOnceSaid:=rL
end gateOnce
end Go.Proofs.YtennbinbffdimaaGreat

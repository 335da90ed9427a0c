/- Texts that the proof needs, joined. -/
import Derived.Test.YtennbinbffdimaaGreatPk1
set_option maxRecDepth 100000
set_option linter.unusedVariables false
open Go.Vc.TV renaming val->aer,size->ae2,int->ae8,words->aff,aX->afy,cells->afB,bool->afJ
open Go.IntKind renaming bits->aeF,u32->aeI,wrap->aeN,u64->afd,signed->afv,max->afD
open Go.Vc.Ws renaming set->aeG,zero->ae6
open Array renaming push->aeH,size->aeT,setIfInBounds->ae3
open BitVec renaming ofInt->aeK,toNat->aeO
open Int renaming toNat->aeL,fdiv->aeW,tdiv->aeY,tmod->ae1,le_refl->afj
open Go.Vc.aj renaming cells->aeM,vals->aeS,size->afe
open Go.Vc.Sl renaming mk->aeP,nil->aeX
open Go.Vc.Loc renaming mk->aeQ,addr->afu
open Option renaming isNone->aeR,map->aft
open List renaming length->aeU,length_map->ae4,getD->afc,map->afh,toArray->afm,getElem?_map->afp,map_set->afq,take->afx,length_append->afA,getElem?_eq_getElem->afC,drop->afE,mem_map->afF,mem_cons->afH,mem_cons_self->afI
open PUnit renaming unit->aeV
open Go.Vc.Bs renaming zero->aeZ
open ByteArray renaming mk->ae0
open Go.Vc.Ext renaming refl->ae5,push->afi
open Go.Vc.ag renaming cut->ae7,refl->afr,an->afz
open UInt8 renaming ofNat->ae9,toNat->afb
open Nat renaming le_refl->afa,min->afn,mul_one->afG
open Go.Value renaming iface->afg,int->afk,string->afl,pointer->afs
open Go.TypeDesc renaming array->afo
open Go.Obj renaming mapIter->afw
namespace Go.Proofs.YtennbinbffdimaaGreat
open Go Go.Vc
section
abbrev Rt:=Rq
abbrev Cl(f:FuncId)(a:List TV)(h:aa)(R:Rt):Prop:=bB Tryz.prog f (aeS a) h R
abbrev ClS(f:FuncId)(a:List TV)(h:aa)(R:Rt):Prop:=iB Tryz.prog f (aeS a) h R
section
variable{f:FuncId}{fn:Func}{a:List TV}{h:aa}{R:Rt}{P:Prop}
theorem vi(q:Tryz.prog.funcs[f]? =some fn)(H:P)(e:P=NU ctx fn a h R:=by kernel_rfl):Cl f a h R:=via bI q e H
theorem viL(q:Tryz.prog.funcs[f]? =some fn)(H:P)(e:P=NU tR fn a h R:=by kernel_rfl):Cl f a h R:=via Zv q e H
theorem viS(q:Tryz.prog.funcs[f]? =some fn)(H:P)(e:P=NU acs fn a h R:=by kernel_rfl):ClS f a h R:=via Zw q e H
end
abbrev cu(h:aa)(z:TV)(e:TypeId)(K:aa->Prop):Prop:=Vc.Bind (iu h z e) K
abbrev gL(q:Int)(A:Int)(B:Bs 32)(E:Int)(G:Int)(H:Sl)(I:Bs 16):TV:=.agg [.i q,.i A,.bytes 32 B,.i E,.int .u64 G,.slice H,.bytes 16 I]
abbrev rd2(h:aa)(b o:Nat)(K:(OL)->Prop):Prop:=∃(a:OL),ah h b o (afs (aft afu a))/\K a
abbrev gE(p:OL)(k:Nat)(h:aa)(K:(OL)->Prop):Prop:=Nn p λl=>rd2 h l.b (l.o+k) K
abbrev CK(h:aa)(b o:Nat)(K:(Bs 32)->Prop):Prop:=∃(a:Bs 32),ay h b o 32 a/\K a
abbrev t_(h:aa)(b o:Nat)(K:Int->Prop):Prop:=∃(a:Int),ah h b o (.i a)/\K a
abbrev mM(f:FuncId)(a:List TV)(h:aa)(K:Int->aa->Prop):Prop:=bB Tryz.prog f (aeS a) h λv c=>∃(b:Int),v=aer (.i b)/\K b c
abbrev qv(h:aa)(z:TV)(e:TypeId)(n:Nat)(t:TV)(K:aa->Prop):Prop:=Vc.Bind (iu h z e) λa=>gi a (aeT h) 0 n/\Vc.Bind (TV.put a (aeT h) 0 t) K
abbrev zf(f:FuncId)(a:List TV)(h:aa)(K:Sl->aa->Prop):Prop:=bB Tryz.prog f (aeS a) h λv c=>∃(b:Sl),v=aer (.slice b)/\K b c
abbrev rd9(h:aa)(b o:Nat)(K:(Bs 32)->Int->Int->(Bs 32)->Int->Int->Sl->(Bs 16)->Prop):Prop:=∃(a:Bs 32)(c:Int)(d:Int)(e:Bs 32)(f:Int)(g:Int)(j:Sl)(k:Bs 16),(ay h b o 32 a/\ah h b (o+32) (.i c)/\ah h b (o+32+1) (.i d)/\ay h b (o+32+1+1) 32 e/\ah h b (o+32+1+1+32) (.i f)/\ah h b (o+32+1+1+32+1) (.int .u64 g)/\ah h b (o+32+1+1+32+1+1) (aW j)/\ay h b (o+32+1+1+32+1+1+1) 16 k)/\K a c d e f g j k
abbrev ad2(i:Int)(s:Sl)(z k:Nat)(h:aa)(K:(Bs 32)->Int->Int->(Bs 32)->Int->Int->Sl->(Bs 16)->Prop):Prop:=0<=i/\i<(s.len:Int)/\Nn s.a λl=>rd9 h l.b (l.o+aeL i*z+k) K
abbrev ad3:TV:=.agg [.bytes 32 (aeZ 32),.agg [.i 0,.i 0,.bytes 32 (aeZ 32),.i 0,.int .u64 0,.slice aeX,.bytes 16 (aeZ 16)]]
abbrev acv(q:Bs 32)(A:Int)(B:Int)(E:Bs 32)(G:Int)(H:Int)(I:Sl)(J:Bs 16):TV:=.agg [.bytes 32 q,.agg [.i A,.i B,.bytes 32 E,.i G,.int .u64 H,.slice I,.bytes 16 J]]
abbrev fR(h:aa)(t:TV)(e:TypeId)(z:Nat)(s:Sl)(K:Sl->aa->Prop):Prop:=∃(new:List Value),cv (aeH h (row (aeM [t]) e)) (aeP (some (Go.Vc.Loc.mk (aeT h) 0)) 1 1) z new/\(∀(v:Value),v∈new->bQ v=true)/\aq ctx e s 1 new (aeH h (row (aeM [t]) e)) K
abbrev eA(p:OL)(k:Nat)(h:aa)(K:Int->Prop):Prop:=Nn p λl=>t_ h l.b (l.o+k) K
abbrev bS(h:aa)(b o n:Nat)(t:TV)(K:aa->Prop):Prop:=gi h b o n/\Vc.Bind (TV.put h b o t) K
abbrev lN(p:OL)(k:Nat)(h:aa)(n:Nat)(t:TV)(K:aa->Prop):Prop:=Nn p λl=>bS h l.b (l.o+k) n t K
abbrev ad4:TV:=.agg [.slice aeX,.i 0,.i 0,.i 0,.i 0,.i 0,.i 0,.i 0,.i 0,.i 0,.i 0,.i 0]
abbrev bA(q:Sl)(A:Int)(B:Int)(E:Int)(G:Int)(H:Int)(I:Int)(J:Int)(M:Int)(O:Int)(U:Int)(W:Int):TV:=.agg [.slice q,.i A,.i B,.i E,.i G,.i H,.i I,.i J,.i M,.i O,.i U,.i W]
abbrev iG(h:aa)(b o:Nat)(K:Sl->Int->Int->Int->Int->Int->Int->Int->Int->Int->Int->Int->Prop):Prop:=∃(a:Sl)(c:Int)(d:Int)(e:Int)(f:Int)(g:Int)(j:Int)(k:Int)(l:Int)(m:Int)(n:Int)(p:Int),(ah h b o (aW a)/\ah h b (o+1) (.i c)/\ah h b (o+2) (.i d)/\ah h b (o+3) (.i e)/\ah h b (o+4) (.i f)/\ah h b (o+5) (.i g)/\ah h b (o+6) (.i j)/\ah h b (o+7) (.i k)/\ah h b (o+8) (.i l)/\ah h b (o+9) (.i m)/\ah h b (o+10) (.i n)/\ah h b (o+11) (.i p))/\K a c d e f g j k l m n p
abbrev WN(f:FuncId)(a:List TV)(h:aa)(K:(OL)->Int->aa->Prop):Prop:=bB Tryz.prog f (aeS a) h λv d=>∃(b:OL),∃(c:Int),v=aer (.aX [.ptr b,.i c])/\K b c d
abbrev acw(h:aa)(b o:Nat)(K:Int->Int->(Bs 32)->Int->Int->Sl->(Bs 16)->Prop):Prop:=∃(a:Int)(c:Int)(d:Bs 32)(e:Int)(f:Int)(g:Sl)(j:Bs 16),(ah h b o (.i a)/\ah h b (o+1) (.i c)/\ay h b (o+1+1) 32 d/\ah h b (o+1+1+32) (.i e)/\ah h b (o+1+1+32+1) (.int .u64 f)/\ah h b (o+1+1+32+1+1) (aW g)/\ay h b (o+1+1+32+1+1+1) 16 j)/\K a c d e f g j
abbrev abl(p:OL)(k:Nat)(h:aa)(K:Int->Int->(Bs 32)->Int->Int->Sl->(Bs 16)->Prop):Prop:=Nn p λl=>acw h l.b (l.o+k) K
abbrev fT(f:FuncId)(a:List TV)(h:aa)(K:(LU)->aa->Prop):Prop:=bB Tryz.prog f (aeS a) h λv c=>∃(b:LU),v=aer (.str b)/\K b c
abbrev iH(f:FuncId)(a:List TV)(h:aa)(K:(Bs 32)->aa->Prop):Prop:=bB Tryz.prog f (aeS a) h λv c=>∃(b:Bs 32),v=aer (.bytes 32 b)/\K b c
abbrev Ep(f:FuncId)(a:List TV)(h:aa)(K:Int->Int->(Bs 32)->Int->Int->Sl->(Bs 16)->Bool->aa->Prop):Prop:=bB Tryz.prog f (aeS a) h λv m=>∃(b:Int),∃(c:Int),∃(d:Bs 32),∃(e:Int),∃(g:Int),∃(j:Sl),∃(k:Bs 16),∃(l:Bool),v=aer (.aX [.agg [.i b,.i c,.bytes 32 d,.i e,.int .u64 g,.slice j,.bytes 16 k],.bool l])/\K b c d e g j k l m
abbrev abm(q:Int)(A:Int)(B:Bs 32):TV:=.agg [.i q,.i A,.bytes 32 B,.i 0,.int .u64 0,.slice aeX,.bytes 16 (aeZ 16)]
abbrev Cc:TV:=.agg [.i 0,.i 0,.bytes 32 (aeZ 32),.i 0,.int .u64 0,.slice aeX,.bytes 16 (aeZ 16)]
abbrev cQ(f:FuncId)(a:List TV)(h:aa)(K:Bool->aa->Prop):Prop:=bB Tryz.prog f (aeS a) h λv c=>∃(b:Bool),v=aer (.bool b)/\K b c
abbrev C7(f:FuncId)(a:List TV)(h:aa)(K:(OL)->aa->Prop):Prop:=bB Tryz.prog f (aeS a) h λv c=>∃(b:OL),v=aer (.ptr b)/\K b c
abbrev lQ(f:FuncId)(a:List TV)(h:aa)(K:aa->Prop):Prop:=bB Tryz.prog f (aeS a) h λv b=>v=aer (.aX [])/\K b
abbrev ad5(f:FuncId)(a:List TV)(h:aa)(K:Sl->Int->aa->Prop):Prop:=bB Tryz.prog f (aeS a) h λv d=>∃(b:Sl),∃(c:Int),v=aer (.aX [.slice b,.i c])/\K b c d
abbrev kG(i:Int)(s:Sl)(z k:Nat)(h:aa)(K:Int->Prop):Prop:=0<=i/\i<(s.len:Int)/\Nn s.a λl=>t_ h l.b (l.o+aeL i*z+k) K
abbrev QE(h:aa)(b o:Nat)(K:Sl->Prop):Prop:=∃(a:Sl),ah h b o (aW a)/\K a
abbrev gF(p:OL)(k:Nat)(h:aa)(K:Sl->Prop):Prop:=Nn p λl=>QE h l.b (l.o+k) K
abbrev zi(i:Int)(N:Nat)(p:OL)(z k:Nat)(h:aa)(n:Nat)(t:TV)(K:aa->Prop):Prop:=0<=i/\i<(N:Int)/\Nn p λl=>bS h l.b (l.o+aeL i*z+k) n t K
abbrev N7(f:FuncId)(a:List TV)(h:aa)(K:(Bs 32)->Int->Int->Bool->aa->Prop):Prop:=bB Tryz.prog f (aeS a) h λv g=>∃(b:Bs 32),∃(c:Int),∃(d:Int),∃(e:Bool),v=aer (.aX [.agg [.bytes 32 b,.i c,.i d],.bool e])/\K b c d e g
abbrev Ud:TV:=.agg [.bytes 32 (aeZ 32),.i 0,.i 0]
abbrev C8(q:Bs 32)(A:Int)(B:Int):TV:=.agg [.bytes 32 q,.i A,.i B]
abbrev ZA(h:aa)(b o:Nat)(K:Bool->Prop):Prop:=∃(a:Bool),ah h b o (Value.bool a)/\K a
abbrev Hy(i:Int)(s:Sl)(z k:Nat)(h:aa)(K:Bool->Prop):Prop:=0<=i/\i<(s.len:Int)/\Nn s.a λl=>ZA h l.b (l.o+aeL i*z+k) K
abbrev Ue(h:aa)(b o:Nat)(K:Int->Prop):Prop:=∃(a:Int),ah h b o (.int .u8 a)/\K a
abbrev QF(h:aa)(b o:Nat)(K:Int->Prop):Prop:=∃(a:Int),ah h b o (.int .u64 a)/\K a
abbrev ZB(f:FuncId)(a:List TV)(h:aa)(K:Int->(Bs 32)->aa->Prop):Prop:=bB Tryz.prog f (aeS a) h λv d=>∃(b:Int),∃(c:Bs 32),v=aer (.aX [.i b,.bytes 32 c])/\K b c d
abbrev vF(h:aa)(b o:Nat)(K:Int->Int->(Bs 32)->Int->Int->Sl->(Bs 16)->Prop):Prop:=∃(a:Int)(c:Int)(d:Bs 32)(e:Int)(f:Int)(g:Sl)(j:Bs 16),(ah h b o (.i a)/\ah h b (o+1) (.i c)/\ay h b (o+2) 32 d/\ah h b (o+34) (.i e)/\ah h b (o+35) (.int .u64 f)/\ah h b (o+36) (aW g)/\ay h b (o+37) 16 j)/\K a c d e f g j
abbrev Mc(q:Bs 32)(A:Int):TV:=.agg [.bytes 32 q,.i A]
abbrev acy(h:aa)(b o:Nat)(K:(Bs 32)->Int->Prop):Prop:=∃(a:Bs 32)(c:Int),(ay h b o 32 a/\ah h b (o+32) (.i c))/\K a c
abbrev acz:TV:=.agg [.bytes 32 (aeZ 32),.i 0]
abbrev acA(h:aa)(b o:Nat)(K:Int->(LU)->Prop):Prop:=∃(a:Int)(c:LU),(ah h b o (.i a)/\ah h b (o+1) (afl (ae0 (afm c))))/\K a c
abbrev WO(i:Int)(s:Sl)(z k:Nat)(h:aa)(K:Int->(LU)->Prop):Prop:=0<=i/\i<(s.len:Int)/\Nn s.a λl=>acA h l.b (l.o+aeL i*z+k) K
abbrev WQ:TV:=.agg [.i 0,.str []]
abbrev N8(q:Int)(A:LU):TV:=.agg [.i q,.str A]
abbrev Cd(h:aa)(b o:Nat)(K:(LU)->Prop):Prop:=∃(a:LU),ah h b o (afl (ae0 (afm a)))/\K a
abbrev acB(f:FuncId)(a:List TV)(h:aa)(K:Int->Bool->aa->Prop):Prop:=bB Tryz.prog f (aeS a) h λv d=>∃(b:Int),∃(c:Bool),v=aer (.aX [.i b,.bool c])/\K b c d
abbrev abn(f:FuncId)(a:List TV)(h:aa)(K:Int->Int->(Bs 32)->Bool->aa->Prop):Prop:=bB Tryz.prog f (aeS a) h λv g=>∃(b:Int),∃(c:Int),∃(d:Bs 32),∃(e:Bool),v=aer (.aX [.agg [.i b,.i c,.bytes 32 d],.bool e])/\K b c d e g
abbrev Md:TV:=.agg [.i 0,.i 0,.bytes 32 (aeZ 32)]
abbrev mj(q:Int)(A:Int)(B:Bs 32):TV:=.agg [.i q,.i A,.bytes 32 B]
abbrev ZC(q:Int):TV:=.agg [.i 0,.i q]
abbrev Jv(i:Int)(s:Sl)(z k:Nat)(h:aa)(K:(Bs 32)->Prop):Prop:=0<=i/\i<(s.len:Int)/\Nn s.a λl=>CK h l.b (l.o+aeL i*z+k) K
abbrev ZD(h:aa)(b o:Nat)(K:Int->(Bs 32)->Int->(Bs 32)->(LU)->Prop):Prop:=∃(a:Int)(c:Bs 32)(d:Int)(e:Bs 32)(f:LU),(ah h b o (.i a)/\ay h b (o+1) 32 c/\ah h b (o+1+32) (.i d)/\ay h b (o+1+32+1) 32 e/\ah h b (o+1+32+1+32) (afl (ae0 (afm f))))/\K a c d e f
abbrev zj(i:Int)(s:Sl)(z k:Nat)(h:aa)(K:Int->(Bs 32)->Int->(Bs 32)->(LU)->Prop):Prop:=0<=i/\i<(s.len:Int)/\Nn s.a λl=>ZD h l.b (l.o+aeL i*z+k) K
abbrev sL:TV:=.agg [.i 0,.bytes 32 (aeZ 32),.i 0,.bytes 32 (aeZ 32),.str []]
abbrev bW(q:Int)(A:Bs 32)(B:Int)(E:Bs 32)(G:LU):TV:=.agg [.i q,.bytes 32 A,.i B,.bytes 32 E,.str G]
abbrev acC(h:aa)(b o:Nat)(K:Int->Int->(Bs 32)->Prop):Prop:=∃(a:Int)(c:Int)(d:Bs 32),(ah h b o (.i a)/\ah h b (o+1) (.i c)/\ay h b (o+1+1) 32 d)/\K a c d
abbrev ZE(i:Int)(s:Sl)(z k:Nat)(h:aa)(K:Int->Int->(Bs 32)->Prop):Prop:=0<=i/\i<(s.len:Int)/\Nn s.a λl=>acC h l.b (l.o+aeL i*z+k) K
abbrev Me(h:aa)(b o:Nat)(K:Int->Int->(Bs 32)->Prop):Prop:=∃(a:Int)(c:Int)(d:Bs 32),(ah h b o (.i a)/\ah h b (o+1) (.i c)/\ay h b (o+2) 32 d)/\K a c d
abbrev ad6(h:aa)(b o:Nat)(K:Sl->Int->Int->Int->Int->Int->Int->Int->Int->Int->Int->Int->Prop):Prop:=∃(a:Sl)(c:Int)(d:Int)(e:Int)(f:Int)(g:Int)(j:Int)(k:Int)(l:Int)(m:Int)(n:Int)(p:Int),(ah h b o (aW a)/\ah h b (o+1) (.i c)/\ah h b (o+1+1) (.i d)/\ah h b (o+1+1+1) (.i e)/\ah h b (o+1+1+1+1) (.i f)/\ah h b (o+1+1+1+1+1) (.i g)/\ah h b (o+1+1+1+1+1+1) (.i j)/\ah h b (o+1+1+1+1+1+1+1) (.i k)/\ah h b (o+1+1+1+1+1+1+1+1) (.i l)/\ah h b (o+1+1+1+1+1+1+1+1+1) (.i m)/\ah h b (o+1+1+1+1+1+1+1+1+1+1) (.i n)/\ah h b (o+1+1+1+1+1+1+1+1+1+1+1) (.i p))/\K a c d e f g j k l m n p
abbrev Uf(p:OL)(k:Nat)(h:aa)(K:Sl->Int->Int->Int->Int->Int->Int->Int->Int->Int->Int->Int->Prop):Prop:=Nn p λl=>ad6 h l.b (l.o+k) K
abbrev Jw(f:FuncId)(a:List TV)(h:aa)(K:Sl->Bool->aa->Prop):Prop:=bB Tryz.prog f (aeS a) h λv d=>∃(b:Sl),∃(c:Bool),v=aer (.aX [.slice b,.bool c])/\K b c d
abbrev acD(i:Int)(N:Nat)(h:aa)(b o z:Nat)(K:Int->Prop):Prop:=0<=i/\i<(N:Int)/\t_ h b (o+aeL i*z) K
abbrev Ug(p:OL)(k:Nat)(h:aa)(K:Bool->Prop):Prop:=Nn p λl=>ZA h l.b (l.o+k) K
abbrev ad7(q:Int):TV:=.agg [.slice aeX,.slice aeX,.slice aeX,.i q]
abbrev acE(q:OL)(A:Sl)(B:Int):TV:=.agg [.ptr q,.slice A,.i B]
abbrev N9(f:FuncId)(a:List TV)(h:aa)(K:(OL)->Bool->aa->Prop):Prop:=bB Tryz.prog f (aeS a) h λv d=>∃(b:OL),∃(c:Bool),v=aer (.aX [.ptr b,.bool c])/\K b c d
abbrev acF(q:Sl)(A:Int)(B:Int)(E:Int)(G:Int)(H:Int)(I:Int)(J:Int)(M:Int)(O:Int)(U:Int)(W:Int)(Z:OL)(ab:OL)(ac:OL)(ad:OL)(Kh:OL):TV:=.agg [.agg [.slice q,.i A,.i B,.i E,.i G,.i H,.i I,.i J,.i M,.i O,.i U,.i W],.ptr Z,.ptr ab,.ptr ac,.ptr ad,.ptr Kh,.i 0,.bool false,.bool false]
abbrev ad8(q:Sl)(A:Int)(B:Int)(E:Int)(G:Int)(H:Int)(I:Int)(J:Int)(M:Int)(O:Int)(U:Int)(W:Int)(Z:OL)(ab:OL):TV:=.agg [.agg [.slice q,.i A,.i B,.i E,.i G,.i H,.i I,.i J,.i M,.i O,.i U,.i W],.ptr Z,.ptr ab]
abbrev acG(i:Int)(s:Sl)(z k:Nat)(h:aa)(K:Int->Int->(Bs 32)->Int->Int->Sl->(Bs 16)->Prop):Prop:=0<=i/\i<(s.len:Int)/\Nn s.a λl=>acw h l.b (l.o+aeL i*z+k) K
abbrev sM(h:aa)(b o:Nat)(K:Int->(Bs 32)->Int->(Bs 32)->(LU)->Prop):Prop:=∃(a:Int)(c:Bs 32)(d:Int)(e:Bs 32)(f:LU),(ah h b o (.i a)/\ay h b (o+1) 32 c/\ah h b (o+33) (.i d)/\ay h b (o+34) 32 e/\ah h b (o+66) (afl (ae0 (afm f))))/\K a c d e f
abbrev ad9(q:Sl)(A:Sl)(B:Sl)(E:Int):TV:=.agg [.slice q,.slice A,.slice B,.i E]
abbrev acH(f:FuncId)(a:List TV)(h:aa)(K:(Bs 32)->Int->aa->Prop):Prop:=bB Tryz.prog f (aeS a) h λv d=>∃(b:Bs 32),∃(c:Int),v=aer (.aX [.bytes 32 b,.i c])/\K b c d
abbrev aea(h:aa)(b o:Nat)(K:(Option Nat)->Prop):Prop:=∃(a:Option Nat),ah h b o (Value.map a)/\K a
abbrev vG(p:OL)(k:Nat)(h:aa)(K:(Option Nat)->Prop):Prop:=Nn p λl=>aea h l.b (l.o+k) K
abbrev N_(q:Int)(A:Int):TV:=.agg [.i q,.i A]
abbrev acI:TV:=.agg [.i 0,.i 0]
abbrev abo(h:aa)(b o:Nat)(K:Int->Int->Prop):Prop:=∃(a:Int)(c:Int),(ah h b o (.i a)/\ah h b (o+1) (.i c))/\K a c
abbrev aeb(f:FuncId)(a:List TV)(h:aa)(K:Int->Int->(Bs 32)->Int->Int->Sl->(Bs 16)->Int->aa->Prop):Prop:=bB Tryz.prog f (aeS a) h λv m=>∃(b:Int),∃(c:Int),∃(d:Bs 32),∃(e:Int),∃(g:Int),∃(j:Sl),∃(k:Bs 16),∃(l:Int),v=aer (.aX [.agg [.i b,.i c,.bytes 32 d,.i e,.int .u64 g,.slice j,.bytes 16 k],.i l])/\K b c d e g j k l m
abbrev Hz(o:Vc.One)(h:aa)(m:String)(a:List TV)(K:Rq):Prop:=∃(t:Nat),∃(x:Value),∃(f:Nat),∃(b:Value),o.v=afg t x/\fG Tryz.prog h t x m f b/\bB Tryz.prog f (b::aeS a) h K
abbrev aec(q:Sl)(A:Int)(B:Int)(E:Int)(G:Int)(H:Int)(I:Int)(J:Int)(M:Int)(O:Int)(U:Int)(W:Int)(Z:OL)(ab:OL)(ac:OL):TV:=.agg [.agg [.slice q,.i A,.i B,.i E,.i G,.i H,.i I,.i J,.i M,.i O,.i U,.i W],.ptr Z,.ptr ab,.ptr ac]
abbrev aed(h:aa)(b o:Nat)(K:(OL)->(OL)->(OL)->(OL)->Prop):Prop:=∃(a:OL)(c:OL)(d:OL)(e:OL),(ah h b o (afs (aft afu a))/\ah h b (o+1) (afs (aft afu c))/\ah h b (o+1+1) (afs (aft afu d))/\ah h b (o+1+1+1) (afs (aft afu e)))/\K a c d e
abbrev aee(p:OL)(k:Nat)(h:aa)(K:(OL)->(OL)->(OL)->(OL)->Prop):Prop:=Nn p λl=>aed h l.b (l.o+k) K
abbrev aef(q:Sl)(A:Int)(B:Int)(E:Int)(G:Int)(H:Int)(I:Int)(J:Int)(M:Int)(O:Int)(U:Int)(W:Int)(Z:OL)(ab:OL)(ac:OL)(ad:OL)(Kh:OL):TV:=.agg [.agg [.slice q,.i A,.i B,.i E,.i G,.i H,.i I,.i J,.i M,.i O,.i U,.i W],.ptr Z,.agg [.ptr ab,.ptr ac,.ptr ad,.ptr Kh],.i 0]
abbrev WR:TV:=.agg [.ptr none,.ptr none,.ptr none,.ptr none]
abbrev acJ(q:OL)(A:OL)(B:OL)(E:OL):TV:=.agg [.ptr q,.ptr A,.ptr B,.ptr E]
abbrev aeg(f:FuncId)(a:List TV)(h:aa)(K:(OL)->(OL)->Int->aa->Prop):Prop:=bB Tryz.prog f (aeS a) h λv e=>∃(b:OL),∃(c:OL),∃(d:Int),v=aer (.aX [.ptr b,.ptr c,.i d])/\K b c d e
abbrev Oa(q:Sl)(A:Int)(B:Int)(E:Int)(G:Int)(H:Int)(I:Int)(J:Int)(M:Int)(O:Int)(U:Int)(W:Int)(Z:Sl):TV:=.agg [.agg [.slice q,.i A,.i B,.i E,.i G,.i H,.i I,.i J,.i M,.i O,.i U,.i W],.slice Z]
abbrev acK(h:aa)(b o:Nat)(K:Sl->Int->Int->Int->Int->Int->Int->Int->Int->Int->Int->Int->Sl->Prop):Prop:=∃(a:Sl)(c:Int)(d:Int)(e:Int)(f:Int)(g:Int)(j:Int)(k:Int)(l:Int)(m:Int)(n:Int)(p:Int)(q:Sl),((ah h b o (aW a)/\ah h b (o+1) (.i c)/\ah h b (o+2) (.i d)/\ah h b (o+3) (.i e)/\ah h b (o+4) (.i f)/\ah h b (o+5) (.i g)/\ah h b (o+6) (.i j)/\ah h b (o+7) (.i k)/\ah h b (o+8) (.i l)/\ah h b (o+9) (.i m)/\ah h b (o+10) (.i n)/\ah h b (o+11) (.i p))/\ah h b (o+12) (aW q))/\K a c d e f g j k l m n p q
abbrev aeh(f:FuncId)(a:List TV)(h:aa)(K:Sl->Sl->aa->Prop):Prop:=bB Tryz.prog f (aeS a) h λv d=>∃(b:Sl),∃(c:Sl),v=aer (.aX [.slice b,.slice c])/\K b c d
abbrev aei(h:aa)(b o:Nat)(K:Int->Int->(LU)->Int->Int->(Bs 32)->Int->Int->Sl->(Bs 16)->Int->Bool->Prop):Prop:=∃(a:Int)(c:Int)(d:LU)(e:Int)(f:Int)(g:Bs 32)(j:Int)(k:Int)(l:Sl)(m:Bs 16)(n:Int)(p:Bool),(ah h b o (.i a)/\ah h b (o+1) (.i c)/\ah h b (o+1+1) (afl (ae0 (afm d)))/\(ah h b (o+1+1+1) (.i e)/\ah h b (o+1+1+1+1) (.i f)/\ay h b (o+1+1+1+1+1) 32 g/\ah h b (o+1+1+1+1+1+32) (.i j)/\ah h b (o+1+1+1+1+1+32+1) (.int .u64 k)/\ah h b (o+1+1+1+1+1+32+1+1) (aW l)/\ay h b (o+1+1+1+1+1+32+1+1+1) 16 m)/\ah h b (o+1+1+1+53) (.i n)/\ah h b (o+1+1+1+53+1) (Value.bool p))/\K a c d e f g j k l m n p
abbrev abp(i:Int)(s:Sl)(z k:Nat)(h:aa)(K:Int->Int->(LU)->Int->Int->(Bs 32)->Int->Int->Sl->(Bs 16)->Int->Bool->Prop):Prop:=0<=i/\i<(s.len:Int)/\Nn s.a λl=>aei h l.b (l.o+aeL i*z+k) K
abbrev WS:TV:=.agg [.i 0,.i 0,.str [],.agg [.i 0,.i 0,.bytes 32 (aeZ 32),.i 0,.int .u64 0,.slice aeX,.bytes 16 (aeZ 16)],.i 0,.bool false]
abbrev Ki(q:Int)(A:Int)(B:LU)(E:Int)(G:Int)(H:Bs 32)(I:Int)(J:Int)(M:Sl)(O:Bs 16)(U:Int)(W:Bool):TV:=.agg [.i q,.i A,.str B,.agg [.i E,.i G,.bytes 32 H,.i I,.int .u64 J,.slice M,.bytes 16 O],.i U,.bool W]
abbrev acL(h:aa)(b o:Nat)(K:Int->Int->(LU)->Int->Int->(Bs 32)->Int->Int->Sl->(Bs 16)->Int->Bool->Prop):Prop:=∃(a:Int)(c:Int)(d:LU)(e:Int)(f:Int)(g:Bs 32)(j:Int)(k:Int)(l:Sl)(m:Bs 16)(n:Int)(p:Bool),(ah h b o (.i a)/\ah h b (o+1) (.i c)/\ah h b (o+2) (afl (ae0 (afm d)))/\(ah h b (o+3) (.i e)/\ah h b (o+4) (.i f)/\ay h b (o+5) 32 g/\ah h b (o+37) (.i j)/\ah h b (o+38) (.int .u64 k)/\ah h b (o+39) (aW l)/\ay h b (o+40) 16 m)/\ah h b (o+56) (.i n)/\ah h b (o+57) (Value.bool p))/\K a c d e f g j k l m n p
abbrev Ob(i:Int)(s:Sl)(z k:Nat)(h:aa)(K:(LU)->Prop):Prop:=0<=i/\i<(s.len:Int)/\Nn s.a λl=>Cd h l.b (l.o+aeL i*z+k) K
abbrev xF(i:Int)(N:Nat)(h:aa)(b o z:Nat)(K:Int->Prop):Prop:=0<=i/\i<(N:Int)/\Ue h b (o+aeL i*z) K
abbrev acM(q:OL):TV:=.agg [.ptr q,.slice aeX,.slice aeX,.slice aeX,.slice aeX]
abbrev acN(i:Int)(s:Sl)(z k:Nat)(h:aa)(K:(Bs 32)->Int->Prop):Prop:=0<=i/\i<(s.len:Int)/\Nn s.a λl=>acy h l.b (l.o+aeL i*z+k) K
abbrev acO(q:Option Nat)(A:Int)(B:Int)(E:Int):TV:=.agg [.map q,.i A,.i B,.i E,.i 0]
abbrev acP(f:FuncId)(a:List TV)(h:aa)(K:Vc.One->aa->Prop):Prop:=bB Tryz.prog f (aeS a) h λv c=>∃(b:Vc.One),v=aer (.one b)/\K b c
abbrev acQ(q:Int)(A:Int)(B:Int):TV:=.agg [.slice aeX,.slice aeX,.i q,.i A,.i B,.i 0]
abbrev Fl(p:OL)(k:Nat)(h:aa)(K:(Bs 32)->Prop):Prop:=Nn p λl=>CK h l.b (l.o+k) K
abbrev aaI(q:Int)(A:Int):TV:=.agg [.slice aeX,.i q,.i A]
abbrev xG(h:aa)(b o:Nat)(K:Int->Prop):Prop:=∃(a:Int),ah h b o (.int .u32 a)/\K a
abbrev WU(i:Int)(N:Nat)(h:aa)(b o z:Nat)(K:Int->Prop):Prop:=0<=i/\i<(N:Int)/\xG h b (o+aeL i*z) K
abbrev pM(i:Int)(N:Nat)(h:aa)(b o z n:Nat)(t:TV)(K:aa->Prop):Prop:=0<=i/\i<(N:Int)/\bS h b (o+aeL i*z) n t K
abbrev ua(f:FuncId)(a:List TV)(h:aa)(K:Int->aa->Prop):Prop:=bB Tryz.prog f (aeS a) h λv c=>∃(b:Int),v=aer (.int .u32 b)/\K b c
abbrev WV(f:FuncId)(a:List TV)(h:aa)(K:Int->Int->aa->Prop):Prop:=bB Tryz.prog f (aeS a) h λv d=>∃(b:Int),∃(c:Int),v=aer (.aX [.int .u64 b,.int .u64 c])/\K b c d
abbrev WW(i:Int)(s:Sl)(z k:Nat)(h:aa)(K:Int->Prop):Prop:=0<=i/\i<(s.len:Int)/\Nn s.a λl=>QF h l.b (l.o+aeL i*z+k) K
abbrev aaJ(f:FuncId)(a:List TV)(h:aa)(K:(Ws 8)->aa->Prop):Prop:=bB Tryz.prog f (aeS a) h λv c=>∃(b:Ws 8),v=aer (.words aeI 8 b)/\K b c
abbrev acR(i:Int)(N:Nat)(h:aa)(b o z:Nat)(K:Bool->Prop):Prop:=0<=i/\i<(N:Int)/\ZA h b (o+aeL i*z) K
abbrev xH(h:aa)(b o:Nat)(K:(Bs 16)->Prop):Prop:=∃(a:Bs 16),ay h b o 16 a/\K a
abbrev aaK(i:Int)(s:Sl)(z k:Nat)(h:aa)(K:(Bs 16)->Prop):Prop:=0<=i/\i<(s.len:Int)/\Nn s.a λl=>xH h l.b (l.o+aeL i*z+k) K
abbrev aaL(q:Int)(A:Int)(B:Bs 32)(E:Int):TV:=.agg [.i q,.i A,.bytes 32 B,.i E,.int .u64 0,.slice aeX,.bytes 16 (aeZ 16)]
abbrev acS(f:FuncId)(a:List TV)(h:aa)(K:Int->Int->(Bs 32)->Int->Int->Sl->(Bs 16)->aa->Prop):Prop:=bB Tryz.prog f (aeS a) h λv l=>∃(b:Int),∃(c:Int),∃(d:Bs 32),∃(e:Int),∃(g:Int),∃(j:Sl),∃(k:Bs 16),v=aer (.agg [.i b,.i c,.bytes 32 d,.i e,.int .u64 g,.slice j,.bytes 16 k])/\K b c d e g j k l
abbrev Oc(f:FuncId)(a:List TV)(h:aa)(K:(Bs 16)->aa->Prop):Prop:=bB Tryz.prog f (aeS a) h λv c=>∃(b:Bs 16),v=aer (.bytes 16 b)/\K b c
abbrev aaM(f:FuncId)(a:List TV)(h:aa)(K:(Bs 16)->Bool->aa->Prop):Prop:=bB Tryz.prog f (aeS a) h λv d=>∃(b:Bs 16),∃(c:Bool),v=aer (.aX [.bytes 16 b,.bool c])/\K b c d
abbrev aaN(p:OL)(k:Nat)(h:aa)(K:Int->Prop):Prop:=Nn p λl=>QF h l.b (l.o+k) K
abbrev WX(i:Int)(N:Nat)(p:OL)(z k:Nat)(h:aa)(K:Int->Prop):Prop:=0<=i/\i<(N:Int)/\Nn p λl=>xG h l.b (l.o+aeL i*z+k) K
abbrev WY(f:FuncId)(a:List TV)(h:aa)(K:(Ws 64)->aa->Prop):Prop:=bB Tryz.prog f (aeS a) h λv c=>∃(b:Ws 64),v=aer (.words aeI 64 b)/\K b c
abbrev WZ(i:Int)(s:Sl)(z k:Nat)(h:aa)(K:(OL)->Prop):Prop:=0<=i/\i<(s.len:Int)/\Nn s.a λl=>rd2 h l.b (l.o+aeL i*z+k) K
abbrev acT(p:OL)(k:Nat)(h:aa)(K:Int->Int->(Bs 32)->Prop):Prop:=Nn p λl=>acC h l.b (l.o+k) K
abbrev Kj(q:Int)(A:Sl)(B:Sl)(E:Option Nat):TV:=.agg [.i q,.slice A,.slice B,.map E]
abbrev acU(q:Int):TV:=.agg [.bytes 32 (aeZ 32),.i 0,.i q]
abbrev aaO(h:aa)(b o:Nat)(K:(Bs 32)->Int->Int->Prop):Prop:=∃(a:Bs 32)(c:Int)(d:Int),(ay h b o 32 a/\ah h b (o+32) (.i c)/\ah h b (o+33) (.i d))/\K a c d
abbrev acV(h:aa)(b o:Nat)(K:(Bs 32)->Int->Int->Prop):Prop:=∃(a:Bs 32)(c:Int)(d:Int),(ay h b o 32 a/\ah h b (o+32) (.i c)/\ah h b (o+32+1) (.i d))/\K a c d
abbrev acW(i:Int)(s:Sl)(z k:Nat)(h:aa)(K:(Bs 32)->Int->Int->Prop):Prop:=0<=i/\i<(s.len:Int)/\Nn s.a λl=>acV h l.b (l.o+aeL i*z+k) K
abbrev W3(q:Sl)(A:Option Nat)(B:Int):TV:=.agg [.slice q,.map A,.i B]
abbrev Kk(f:FuncId)(a:List TV)(h:aa)(K:Int->Int->(Bs 32)->Int->(Bs 32)->(LU)->aa->Prop):Prop:=bB Tryz.prog f (aeS a) h λv k=>∃(b:Int),∃(c:Int),∃(d:Bs 32),∃(e:Int),∃(g:Bs 32),∃(j:LU),v=aer (.aX [.i b,.agg [.i c,.bytes 32 d,.i e,.bytes 32 g,.str j]])/\K b c d e g j k
abbrev SH(h:aa)(t:TV)(e:TypeId)(z:Nat)(s:Sl)(K:Sl->aa->Prop):Prop:=∃(new:List Value),cv (aeH h (row (aeM [t]) e)) (aeP (some (Go.Vc.Loc.mk (aeT h) 0)) 1 1) z new/\(∀(v:Value),v∈new->bQ v=true)/\aq tR e s 1 new (aeH h (row (aeM [t]) e)) K
abbrev C9(p:OL)(k:Nat)(h:aa)(K:(LU)->Prop):Prop:=Nn p λl=>Cd h l.b (l.o+k) K
abbrev acX(q:LU):TV:=.agg [.str q,.bool false]
abbrev uc(f:FuncId)(a:List TV)(h:aa)(K:Int->aa->Prop):Prop:=bB Tryz.prog f (aeS a) h λv c=>∃(b:Int),v=aer (.int .u64 b)/\K b c
abbrev acY(q:Int)(A:Int):TV:=.agg [.i q,.i A,.bytes 32 (aeZ 32),.i 0,.int .u64 0,.slice aeX,.bytes 16 (aeZ 16)]
abbrev acZ(q:LU):TV:=.agg [.str q,.i 0,.bool false]
section
open Go.IntKind (wrap)
abbrev wz0 a(q:aa)(A:Ws 8)(B:(OL×OL×OL)->aa->Prop)(E:aa)(G:aa):=bS a q.size 0 8 (.words aeI 8 A) λb=>B (some (aeQ E.size 0),some (aeQ G.size 0),some (aeQ q.size 0)) b
abbrev ZF a(q:aa)(A:Ws 64)(B:aa->Prop):=bS a q.size 0 64 (.words aeI 64 A) λb=>B b
abbrev qK b c(q:aa->Prop):=cu b (.words aeI 64 (ae6 64)) 293 λa=>Ext c a/\q a
abbrev eE(q:aa) a:=some (aeQ q.size a)
abbrev mN:=aer (.bool false)
abbrev wz5(A:Int)(B:Int)(E:Int)(G:Int)(q:Int)(H:Int)(I:Int)(J:Int)(M:Int):=wrap .u32 (wrap .u32 (wrap .u32 (A+wrap .u32 (↑(aeO (aeK (aeF .u32) (wrap .u32 (↑(aeO (aeK (aeF .u32) B^^^aeK (aeF .u32) E)):Int))^^^aeK (aeF .u32) G)):Int))+wrap .u32 (↑(aeO (aeK (aeF .u32) (wrap .u32 (↑(aeO (aeK (aeF .u32) q&&&aeK (aeF .u32) H)):Int))^^^aeK (aeF .u32) (wrap .u32 (↑(aeO (aeK (aeF .u32) (wrap .u32 (↑(aeO (aeK (aeF .u32) (if afv aeI=true then(-1)else afD aeI)^^^aeK (aeF .u32) q)):Int))&&&aeK (aeF .u32) I)):Int)))):Int))+J)+M
abbrev bh a:=(.i a:TV)
abbrev aT(q:Int):=(.i q:TV)
abbrev bN(q:Sl):=(↑q.len:Int)
abbrev bK(q:Bs 32):=(.bytes 32 q:TV)
abbrev Jy b(q:aa)(A:Rt):=bS b q.size 0 53 (Cc) λa=>vF a q.size 0 λc d e f g h i=>A (aer (.aX [(gL c d e f g h i),.bool false])) a
abbrev jt b c(q:aa->Prop):=cu b (.words aeI 8 (ae6 8)) 289 λa=>Ext c a/\q a
abbrev fU:=(.bytes 32 (aeZ 32):TV)
abbrev QG c a(q:aa)(A:Rt)(B:aa) d:=If (!c) (Jy a q A) (vF a B.size 0 λe f g h i j k=>cQ d [gL e f g h i j k] a λl b=>If (!l) (Jy b q A) (vF b B.size 0 λm n o p r s t=>bS b q.size 0 53 (gL m n o p r s t) λKh=>vF Kh q.size 0 λu v w x y z C=>A (aer (.aX [(gL u v w x y z C),.bool true])) Kh))
abbrev aJ a(q:aa) b(A:Int->Prop):=t_ a q.size b λc=>A c
abbrev oK f a(q:Ws 64) b c(A:Ws 64) g(B:Ws 8)(E:(OL×OL×OL)->aa->Prop):=ZF f a q λd=>Ext b d/\ZF d c A λe=>Ext b e/\wz0 e g B E a c
abbrev QH(q:LU)(A:LU×LU×Int) a:=row (aeM [.int .u8 (wrap .u8 (↑(aeO (aeK (aeF .u8) (↑(afb (afc q (aeL A.snd.snd) (0:UInt8))):Int)^^^aeK (aeF .u8) a)):Int))]) 5
abbrev dO a:=aer (bh a)
abbrev abq(q:Int×Int×Int×Int×Int×Int×Int×Int×Int)(A:Int)(B:Int)(E:Int)(G:Int)(H:Int):=wrap .u32 (wrap .u32 (wrap .u32 (q.snd.snd.snd.snd.snd.snd.snd.fst+wrap .u32 (↑(aeO (aeK (aeF .u32) (wrap .u32 (↑(aeO (aeK (aeF .u32) A^^^aeK (aeF .u32) B)):Int))^^^aeK (aeF .u32) E)):Int))+wrap .u32 (↑(aeO (aeK (aeF .u32) (wrap .u32 (↑(aeO (aeK (aeF .u32) q.snd.snd.snd.snd.fst&&&aeK (aeF .u32) q.snd.snd.snd.snd.snd.fst)):Int))^^^aeK (aeF .u32) (wrap .u32 (↑(aeO (aeK (aeF .u32) (wrap .u32 (↑(aeO (aeK (aeF .u32) (if afv aeI=true then(-1)else afD aeI)^^^aeK (aeF .u32) q.snd.snd.snd.snd.fst)):Int))&&&aeK (aeF .u32) q.snd.snd.snd.snd.snd.snd.fst)):Int)))):Int))+G)+H
abbrev fC a b c d e:=aA (aeP (eE a b) c d) 0 e 1
abbrev FT b(q:aa)(A:Rt) c:=bS b q.size 0 67 (sL) λa=>sM a q.size 0 λd e f g h=>A (aer (.aX [bh c,(bW d e f g h)])) a
abbrev iI(q:List Value)(A:Prop):=(∀(a:Value),a∈q->bQ a=true)/\A
abbrev Uh(q:Int)(A:Int):=wrap .u32 (↑(aeO (aeK (aeF .u32) q^^^aeK (aeF .u32) A)):Int)
abbrev QI a(A:aa)(q:aa)(B:Rt) c:=vF a A.size 0 λd e f g h i j=>bS a q.size 0 53 (gL d e f g h i j) λb=>vF b q.size 0 λk l m n o p r=>B (aer (.aX [(gL k l m n o p r),bh c])) b
abbrev mm b c(q:(Ws 64)->aa->Prop):=WY 326 [] b λd a=>Ext c a/\q d a
abbrev bu a(q:aa) b(A:(Bs 32)->Prop):=CK a q.size b λc=>A c
abbrev jY a b:=aeH a (row (aeM []) b)
abbrev zk a b c(q:aa) d(A:Int->Prop):=(0:Int)<=a/\b<(↑8:Int)/\xG c q.size (0+aeL d*1) λe=>A e
abbrev C_ b(q:aa)(A:Rt):=bS b q.size 0 32 (fU) λa=>bu a q 0 λc=>A (aer (.aX [bh 5,bK c])) a
abbrev c4(q:LU):=(↑q.length:Int)
abbrev i_:=aer (.bool true)
abbrev xQ b(q:aa)(A:Bs 32)(B:Rt):=bS b q.size 0 32 (bK A) λa=>bu a q 0 λc=>B (aer (bK c)) a
abbrev W4 a:=aeH a (row (aeM [.agg [bh 5,.str (ae0 #[(107:UInt8)]).data.toList]]) 137)
abbrev abr(A:Int)(B:Int)(E:Int)(q:Int)(G:Int)(H:Int)(I:Int)(J:Int):=wrap .u32 (↑(aeO (aeK (aeF .u32) (Uh A B)^^^aeK (aeF .u32) E)):Int)+wrap .u32 (↑(aeO (aeK (aeF .u32) (wrap .u32 (↑(aeO (aeK (aeF .u32) (wrap .u32 (↑(aeO (aeK (aeF .u32) q&&&aeK (aeF .u32) G)):Int))^^^aeK (aeF .u32) (wrap .u32 (↑(aeO (aeK (aeF .u32) q&&&aeK (aeF .u32) H)):Int)))):Int))^^^aeK (aeF .u32) (wrap .u32 (↑(aeO (aeK (aeF .u32) I&&&aeK (aeF .u32) J)):Int)))):Int)
abbrev sN:=aer (.aX [.slice aeX,.bool false])
abbrev W5(q:Int):=(↑(aeO (aeK (aeF .u64) q&&&aeK (aeF .u64) 4294967295)):Int)
abbrev jS a c d e(q:OL)(A:(Bs 32)->Int->aa->Prop):=bu a c d λb=>mM e [.ptr q,bK b] a λf g=>A b f g
abbrev Jz(q:Int) a b c(A:aa) d(B:Int->Prop):=0<=wrap .i64 (q-a)/\wrap .i64 (q-b)<(↑64:Int)/\xG c A.size (0+aeL (wrap .i64 (q-d))*1) λe=>B e
abbrev JA(q:Nat)(A:Nat)(B:Array Nat)(E:TV×TV×Nat)(G:Nat):=afw (some q) A (aeH B E.snd.snd) G
abbrev fJ(q:Sl×Int):=wrap .i64 (q.snd+1)
abbrev FU(q:Int):=row (bZ (.bool false) q.toNat) 4
abbrev Od:=row (aeM [.i (-1)]) 3
abbrev FV(q:Int):=row (bZ (.ptr none) q.toNat) 198
abbrev Er e a(q:Ws 64) b(A:Ws 64) f(B:Ws 8)(E:(OL×OL×OL)->aa->Prop):=ZF e a q λc=>Ext a c/\ZF c b A λd=>Ext a d/\wz0 d f B E a b
abbrev Es e b(q:Ws 64) a(A:Ws 64) f(B:Ws 8)(E:(OL×OL×OL)->aa->Prop):=ZF e b q λc=>Ext a c/\ZF c a A λd=>Ext a d/\wz0 d f B E b a
abbrev Et f b(q:Ws 64) a c(A:Ws 64)(B:Ws 8)(E:(OL×OL×OL)->aa->Prop):=ZF f b q λd=>Ext a d/\ZF d c A λe=>Ext a e/\wz0 e a B E b c
abbrev dI a b c:=aeP (eE a 0) b c
abbrev dL:=aeP none 0 0
abbrev Eu a:=(2:Int)^min (aeL a) (aeF .u64)
abbrev Ui(q:Int)(A:Int)(B:Int) a:=(↑(aeO (aeK (aeF .u32) (Uh q A)^^^aeK (aeF .u32) (aeW B ((2:Int)^min (aeL a) (aeF .u32))))):Int)
abbrev Uj a(q:Go.Vc.Loc)(A:LU) b c d e f g h i j(B:aa->Prop):=gi a q.b q.o (afn A.length (fC b c d e f).len)/\Vc.Bind (rE a q.b q.o (afh (λ(k:UInt8)=>.int .u8 (↑(afb k):Int)) (afx (afn A.length (fC b g h i j).len) A))) λl=>B l
abbrev fh a:=(.ptr (eE a 0):TV)
abbrev iP(q:Int×Int):=wrap .i64 (q.snd+1)
abbrev dw(q:Rt)(A:Int) a:=q (aer (aT A)) a
abbrev c5(q:Int) a:=wrap .i64 (q+a)
abbrev bV a(q:Bs 32)(A:aa->Prop):=cu a (bK q) 52 λb=>A b
abbrev eX:=aer (.aX [])
abbrev HA a b(q:OL×OL×OL)(A:Go.Vc.Loc->Prop):=(0:Int)<=a/\b<(↑8:Int)/\Nn q.snd.snd λc=>A c
abbrev QJ a:=aeH (aeH a (row (aeM [bh 0]) 3)) (row (aeM [bh 0]) 3)
abbrev Oe(q:LU)(A:Int):=wrap .i64 (wrap .i64 (8*wrap .i64 ((c4 q)-1))+A)-1
abbrev Uk a b(q:Rt):=aJ a b 34 λc=>q (aer (.aX [.slice (dI a 1 1),.bool true])) (aeH a (row (aeM [aT c]) 3))
abbrev C'(q:(List (TV×TV×Nat))->Nat->Prop):=∃(a:List (TV×TV×Nat)),∃(b:Nat),q a b
abbrev Of(q:OL)(A:Rt) a b:=If (aeR q) (A (aer (.ptr none)) a) (gE q b a λc=>A (aer (.ptr c)) a)
abbrev rG(q:Rt) a:=q (aer (.ptr none)) a
abbrev QK(q:Int)(A:Int):=(.int .u8 (wrap .u8 (↑(aeO (aeK (aeF .u8) q^^^aeK (aeF .u8) A)):Int)):TV)
abbrev W6(q:Int):=(↑(aeO (aeK (aeF .u64) (wrap .u64 q)&&&aeK (aeF .u64) 31)):Int)
abbrev Da(q:Bs 32)(A:Int):=row (aeM [C8 q A (-1)]) 69
abbrev lR:=aer (.i (-1))
abbrev mO a b c d(q:Int->Int->Prop):=aJ a b c λe=>aJ a b d λf=>q e f
abbrev jT(q:Sl×Int)(A:Sl):=decide (q.snd<(bN A))
abbrev Mf(q:Int):=row (aeM [.int .u8 (wrap .u8 (ae1 q 256))]) 5
abbrev Bb a(q:Bs 32):=aeH a (row (aeM [bK q]) 52)
abbrev jv(q:OL) a b(A:Sl)(B:aa->Prop):=lN q a b 1 (.slice A) λc=>B c
abbrev pV:=(.bytes 16 (aeZ 16):TV)
abbrev pW(q:Rt) a:=q (aer (.slice aeX)) a
abbrev HB(q:Bool×Int) a:=(q.fst,wrap .i64 (q.snd+a))
abbrev ZG(q:aa)(A:Rt):=λ(a:OL×OL×Int×Bs 32×Int×Bs 32×LU×Int×OL×Int) b=>Fl a.snd.snd.snd.snd.snd.snd.snd.snd.fst 1 b λd=>bS b q.size 0 32 (bK d) λc=>bu c q 0 λe=>A (aer (.aX [.i a.snd.snd.snd.snd.snd.snd.snd.snd.snd,bK e])) c
abbrev rH(q:Int):=(.int .u64 (wrap .u64 q):TV)
abbrev nR(q:Sl×Int):=(↑q.fst.len:Int)
abbrev JB a(q:LU)(A:LU):=aeH a (row (aeM [.str q,.str A]) 9)
abbrev Bc(q:Sl) b c(A:(Ws 64)->aa->Prop):=WY 325 [.slice q] b λd a=>Ext c a/\A d a
abbrev dW a(q:aa)(A:Int->Int->(Bs 32)->Int->Int->Sl->(Bs 16)->Prop):=vF a q.size 0 λb c d e f g h=>A b c d e f g h
abbrev c7(q:OL)(A:Int):=([.ptr q,aT A]:List TV)
abbrev cV a(q:aa) b(A:Int->Prop):=t_ a q.size b λc=>A c
abbrev W7 a(A:aa)(q:aa)(B:Rt):=sM a A.size 0 λc d e f g=>bS a q.size 0 67 (bW c d e f g) λb=>sM b q.size 0 λh i j k l=>B (aer (.aX [bh 2,(bW h i j k l)])) b
abbrev ZH(q:aa)(A:Rt):=λ(a:OL×Int×Bs 32×Int×Bs 32×LU×Int×OL×Int) b=>Fl a.snd.snd.snd.snd.snd.snd.snd.fst 1 b λd=>bS b q.size 0 32 (bK d) λc=>bu c q 0 λe=>A (aer (.aX [.i a.snd.snd.snd.snd.snd.snd.snd.snd,bK e])) c
abbrev iJ(q:(List Value)->Prop):=∃(a:List Value),q a
abbrev Ul(q:Vc.One)(A:Nat->(Array Value)->(Array Value)->Prop):=∃(a:Nat),∃(b c:Array Value),q.v=Value.func (Fn.func a) b c/\LL Tryz.prog a/\A a b c
abbrev Bd(q:OL) c a d(A:(OL)->Sl->Prop):=gE q c a λb=>gF b d a λe=>A b e
abbrev Db c(q:Int) d a(A:Int->aa->Prop):=ua c [.int .u32 q,bh d] a λe b=>Ext a b/\A e b
abbrev FW a(q:OL) b(A:(OL)->aa->Prop):=C7 a [.ptr q] b λc d=>A c d
abbrev W8(q:Go.Vc.Loc):=(.one (Vc.One.mk (afg 299 (aer (.ptr (some (aeQ q.b q.o))))) (BT._proof_1 299 (.ptr (some (aeQ q.b q.o))))):TV)
abbrev ZI e(q:Sl) f(A:Int)(B:Rt):=Go.Vc.Loop (0,0) e λ(a:Int×Int) b d=>If (decide (a.snd<(bN q))) (zj a.snd q 67 0 b λg h j k l=>qv b (sL) f 67 (bW g h j k l) λc=>t_ c b.size 33 λm=>If (decide (m=A)) (d (wrap .i64 (a.fst+1),iP a) c) (d (a.fst,iP a) c)) (B (aer (.i a.fst)) b)
abbrev Be(q:Sl)(A:Go.Vc.Loc->Prop):=(0:Int)<=0/\0<(bN q)/\Nn q.a λa=>A a
abbrev QL a(q:Int)(A:Int->Prop):=dc ctx (TypeDesc.int IntKind.i64) a/\∃(b:Int),TW (dP (aT q) a) (bh 0)=.i b/\A b
abbrev bO(q:Rt) a:=q (mN) a
abbrev Og b(q:aa)(A:Bs 16)(B:Rt):=bS b q.size 0 16 (.bytes 16 A) λa=>xH a q.size 0 λc=>B (aer (.bytes 16 c)) a
abbrev SI(q:Int) b c(A:Sl) d e(B:Go.Vc.Loc->Int->Prop):=0<=wrap .i64 (wrap .i64 (4*q)+b)/\wrap .i64 (wrap .i64 (4*q)+c)<(bN A)/\Nn A.a λa=>Ue d a.b (a.o+aeL (wrap .i64 (wrap .i64 (4*q)+e))*1) λf=>B a f
abbrev zl(q:Rt) a:=q (aer (.aX [.ptr none,.bool false])) a
abbrev jN(q:Int×Int)(A:Sl):=decide (q.snd<(bN A))
abbrev BF a(q:Sl)(A:Rt):=∃(b:LU),jM a q b/\A (aer (.str b)) a
abbrev HC(q:Rt) a b:=q (aer (.aX [fh a,.bool false])) b
abbrev lS a(q:Int) b:=wrap .i64 (a*q)+b
abbrev Oh:=TypeDesc.struct #[Field.mk "who" 3 0 false "" "toller/table" 0,Field.mk "epoch" 3 1 false "" "toller/table" 8]
abbrev nT a(q:Bs 32)(A:aa->Prop):=qv a (fU) 52 32 (bK q) λb=>A b
abbrev dH a(q:aa->Prop):=cu a (fU) 52 λb=>q b
abbrev Dc a(q:aa) b(A:Int)(B:aa->Prop):=bS a q.size b 1 (.i (wrap .i64 A)) λc=>B c
abbrev zm(q:Int) a(A:Prop):=0<=q/\q<=q/\(↑a:Int)*q<=281474976710656/\q<9223372036854775808/\A
abbrev SJ b(q:aa)(A:Rt):=bS b q.size 0 34 (acU (-1)) λa=>aaO a q.size 0 λc d e=>A (aer (.aX [(C8 c d e),.bool false])) a
abbrev xI:=(.words aeI 64 (ae6 64):TV)
abbrev gT(q:Go.Vc.Loc) a b:=q.o+aeL a*b
abbrev Kl:=ae0 #[(98:UInt8),(111:UInt8),(97:UInt8),(114:UInt8),(100:UInt8)]
abbrev zn(q:Rt)(A:Sl×Int) a:=q (aer (.slice A.fst)) a
abbrev BG a(q:aa)(A:Nat)(B:Nat)(E:Array Nat)(G:TV×TV×Nat)(H:Nat):=ae3 a q.size (JA A B E G H)
abbrev jw(q:Rt) a b:=q (aer (.bool a)) b
abbrev SK(q:Ws 8)(A:Int) a:=(.int .u8 (wrap .u8 (aeW (afc q.l A.toNat 0) ((2:Int)^min (aeL a) (aeF .u32)))):TV)
abbrev jf:=bP [] 0
abbrev zo(q:LU)(A:LU)(B:Prop):=(↑(aeU q+aeU A):Int)<=9223372036854775807/\B
abbrev Oi b(q:aa)(A:Bs 16)(B:Rt):=bS b q.size 0 16 (.bytes 16 A) λa=>xH a q.size 0 λc=>B (aer (.aX [.bytes 16 c,.bool true])) a
abbrev Fm(q:aa) h i(A:OL)(B:Int)(E:Bs 32)(G:Int)(H:Bs 32)(I:LU)(J:aa->Int->Int->(Bs 32)->Int->(Bs 32)->(LU)->aa->aa->Prop):=cu q (sL) h λa=>Ext q a/\Kk i [.ptr A,(bW B E G H I)] a λj b c d e f g=>bS g q.size 0 67 (bW b c d e f) λk=>J a j b c d e f g k
abbrev Fo h(q:OL)(A:Int)(B:Bs 32)(E:Int)(G:Bs 32)(H:LU) i j(I:Int->Int->(Bs 32)->Int->(Bs 32)->(LU)->aa->aa->aa->Prop):=Kk h [.ptr q,(bW A B E G H)] i λk c d e f g a=>cu a (sL) j λb=>Ext a b/\bS b a.size 0 67 (bW c d e f g) λl=>I k c d e f g a b l
abbrev SL b(B:aa)(q:aa) d(A:Rt):=iG b B.size 0 λe f g h i j k l m n o p=>dW b q λr s t u Kh v w=>aaM d [(bA e f g h i j k l m n o p),(gL r s t u Kh v w)] b λx y c=>qv c (pV) 56 16 (.bytes 16 x) λa=>If y (xH a c.size 0 λz=>xH a q.size 37 λC=>A (aer (.bool (decide (z.l=C.l)))) a) (bO A a)
abbrev BH(q:OL)(A:Int) e(B:aa)(E:(Bs 32)->Int->Int->Bool->aa->aa->Prop):=N7 34 (c7 q A) e λa b c f d=>bS d B.size 0 34 (C8 a b c) λg=>E a b c f d g
abbrev BI(q:OL)(A:Int) e(B:(Bs 32)->Int->Int->Bool->aa->aa->Prop):=N7 34 (c7 q A) e λa b c f d=>qv d (Ud) 69 34 (C8 a b c) λg=>B a b c f d g
abbrev Dd:=(.str (ae0 #[]).data.toList:TV)
abbrev gM a(q:OL) b(A:Int->aa->Prop):=mM a [.ptr q] b λc d=>A c d
abbrev gU(q:Int)(A:Sl):=decide (q<(bN A))
abbrev Fq(q:Bool×Int)(A:Sl):=decide (q.snd<(bN A))
abbrev W9 a(q:LU)(A:LU×Int):=aeH a (row (aeM [.int .u8 (wrap .u8 (aeW (wrap .u64 (wrap .u64 (c4 q)*8)) ((2:Int)^min (aeL (wrap .u64 (wrap .i64 (8*A.snd)))) (aeF .u64))))]) 5)
abbrev HD a:=aeH (aeH a (Od)) (Od)
abbrev BJ(q:Rt) a b:=q (aer (.aX [.ptr none,bh a])) b
abbrev Fs:=aer (.aX [bh 0,.bool false])
abbrev SM c(q:Sl)(A:aa)(B:Rt):=Go.Vc.Loop (dL,0) c λ(a:Sl×Int) b d=>If (jT a q) (kG a.snd q 1 0 b λe=>cV b A 1 λf=>CK b A.size 2 λg=>fR b (mj e f g) 124 34 a.fst λh i=>d (h,fJ a) i) (zn B a b)
abbrev SN a(A:aa)(q:aa) b(B:Rt):=iG a A.size 0 λc d e f g h i j k l m n=>aJ a q 1 λo=>QE a q.size 36 λp=>Jw b [(bA c d e f g h i j k l m n),aT o,.slice p] a λr s Kh=>B (aer (.aX [.slice r,.bool s])) Kh
abbrev ud a(q:aa->Prop):=cu a (Ud) 69 λb=>Ext a b/\q b
abbrev HE a:=aer (.aX [.slice aeX,bh a])
abbrev aD(q:Rt) a b:=q (dO a) b
abbrev qL b(q:Bool->Prop):=∃(a:Bool),b=aer (.bool a)/\q a
abbrev Oj:=ae0 #[(116:UInt8),(111:UInt8),(108:UInt8),(108:UInt8),(101:UInt8),(114:UInt8)]
abbrev ue(q:Sl×Sl×Int):=wrap .i64 (q.snd.snd+1)
abbrev jx a(q:Int)(A:Int)(B:Bs 32)(E:Int)(G:Int)(H:Sl)(I:Bs 16)(J:aa->Prop):=qv a (Cc) 58 53 (gL q A B E G H I) λb=>J b
abbrev Km(q:Int):=row (aeM [aT q]) 3
abbrev W_(A:OL) b(q:Sl)(B:Sl->aa->Prop):=gF A 0 b λa=>0<=(bN q)/\(bN q)<=(↑a.cap:Int)/\0<=(bN q)/\(bN q)<=(bN q)/\lN A 0 b 1 (.slice (aA (@aeP a.a a.len (aeL (bN q)) a.JR) 0 (aeL (bN q)) 67)) λc=>B a c
abbrev Xa a(A:aa) b(q:Rt):=iG a A.size 0 λd e f g h i j k l m n o=>mO a b 1 34 λp r=>mM 235 [(bA d e f g h i j k l m n o),aT p,aT r] a λs c=>If (decide (s<0)) (q (sN) c) (Uk c b q)
abbrev Kn a:=aeH a (row (aeM [bh 0]) 3)
abbrev SO c(q:Sl)(B:Int)(A:Rt):=Go.Vc.Loop (0,0) c λ(a:Int×Int) b d=>If (jN a q) (kG a.snd q 1 0 b λe=>If (decide (e=B)) (A (aer (.i a.snd)) b) (d (a.fst,iP a) b)) (A (lR) b)
abbrev aaP(A:Int)(q:Rt) a b(B:(Bool)->aa->Prop):=If (!decide (A=0)) (q (i_) a) (If (!b) (q (i_) a) (B false a))
abbrev jZ a(q:OL)(A:Bs 32) b(B:Int->aa->Prop):=mM a [.ptr q,bK A] b λc d=>B c d
abbrev BK b a(q:Int) c(A:Bool->aa->Prop):=Ext b a/\cQ 139 [aT q,bh c] a λd e=>A d e
abbrev HF a(q:LU):=aeH a (row (aeM [.str q]) 9)
abbrev Ol(q:LU) a:=(↑(aeU q+aeU (ae0 #[(a:UInt8)]).data.toList):Int)
abbrev zq(q:Int)(A:Bs 32)(B:Int)(E:Bs 32)(G:LU) a:=row (aeM [bW q A B E G]) a
abbrev dh a(q:Int)(A:Int)(B:Bs 32)(E:Int)(G:Int)(H:Sl)(I:Bs 16)(J:aa->Prop):=cu a (gL q A B E G H I) 58 λb=>J b
abbrev De a b(q:Rt):=bu a b 0 λc=>q (aer (bK c)) a
abbrev iQ(q:Int) a:=wrap .i64 (q-a)
abbrev HG(q:Sl)(A:Int):=(bN q)+wrap .i64 (aeY A 8)
abbrev gu(q:(LU)->Prop):=∃(a:LU),q a
abbrev xJ(q:OL) c a d(A:Int->aa->Prop):=eA q c a λb=>lN q d a 1 (.i (c5 b 1)) λe=>A b e
abbrev SP(q:Int) a:=wrap .u32 (wrap .u32 q*(2:Int)^min (aeL a) (aeF .u32))
abbrev iz a(q:aa) b(A:Sl->Prop):=QE a q.size b λc=>A c
abbrev xK a:=aeH a (jf)
abbrev HH(q:Go.Vc.Loc) a b c:=aA (aeP (some q) a b) 0 (aeL c) 1
abbrev Om(q:Go.Vc.Loc):=aA (aeP (some q) 8 8) (aeL 1) 8 1
abbrev aI(q:OL) a b(A:Sl->Prop):=gF q a b λc=>A c
abbrev SQ(q:List (TV×TV×Nat))(A:Nat)(E:Nat)(B:Array Nat)(G:Rt) d(H:(TV×TV×Nat)->Prop):=(∀(b:TV×TV×Nat),b∈q->b.snd.snd<A)/\A<=E/\((∀(c:TV×TV×Nat),c∈q->Array.contains B c.snd.snd=true)->G (eX) d)/\∀(a:TV×TV×Nat),a∈q->Array.contains B a.snd.snd=false->H a
abbrev Xb(q:Int)(A:Int):=wrap .u64 (wrap .u64 (aeW q (Eu 32)*wrap .u64 (W5 A))+aeW (wrap .u64 (wrap .u64 (W5 q)*wrap .u64 (W5 A))) (Eu 32))
abbrev Xc(q:Int)(A:Int):=(.int .u8 (wrap .u8 (aeW (wrap .u64 (q*8)) ((2:Int)^min (aeL (wrap .i64 (56-wrap .i64 (8*A)))) (aeF .u64)))):TV)
abbrev uf c a(q:(Ws 64)->aa->aa->Prop):=mm c a λd b=>qK b a λe=>q d b e
abbrev ug c a(q:aa->(Ws 64)->aa->Prop):=qK c a λb=>mm b a λd e=>q b d e
abbrev Xd(A:Value) a d(B:Vc.One)(q:Rt):=∃(b:Int),A=aer (aT b)/\If (decide (0<b)) (bu a d 0 λe=>Hz B a "Has" [bK e] λf g=>∃(c:Bool),f=aer (.bool c)/\jw q c g) (bO q a)
abbrev aG a:=(a:Int)
abbrev sq(q:OL)(A:Int)(B:LU):=([.ptr q,aT A,.str B]:List TV)
abbrev uh a b:=(.fn (Fn.func a) [] [fh b]:TV)
abbrev jg a b c:=(.slice (dI a b c):TV)
abbrev Xe(q:OL) a(A:aa)(B:(Bool)->aa->Prop):=uc 227 [.ptr q,bh 2] a λb c=>uc 227 [.ptr q,bh 8] c λd e=>Dc e A 34 b λf=>bS f A.size 35 1 (.int .u64 d) λg=>B false g
abbrev dZ a(q:aa) b(A:(Bs 32)->Prop):=CK a q.size b λc=>A c
abbrev iR(q:OL) b a c d(A:(OL)->(Bs 32)->Prop):=gE q b a λe=>bu a c d λf=>A e f
abbrev SR(A:Int) c(B:Int)(q:Rt) a d b:=If (decide (1<=A)) (If (decide (A<=c)) (If (decide (1<=B)) (q (aer (.aX [fh a,.bool (decide (B<=d))])) b) (HC q a b)) (HC q a b)) (HC q a b)
abbrev Ko(q:OL)(A:Rt) a b c:=If (aeR q) (aD A 0 a) (gE q b a λd=>gM c d a λe f=>dw A e f)
abbrev pN(q:OL) c a(A:Int) d(B:Sl->Int->Prop):=aI q c a λb=>kG A b d 0 a λe=>B b e
abbrev dz a(q:Prop):=(aG 0)<=a/\q
abbrev BL c(q:OL) a(A:(OL)->aa->Prop):=FW c q a λd b=>Ext a b/\A d b
abbrev xL(q:Sl):=wrap .i64 ((bN q)-1)
abbrev zu(q:OL) c a(A:Int)(B:Sl->Int->Prop):=gF q c a λb=>kG A b 1 0 a λd=>B b d
abbrev mC(q:Sl):=(.i (bN q):TV)
abbrev BM(q:Int)(A:Int):=(.i (wrap .i64 (q+A)):TV)
abbrev Xf(q:Int×Int):=wrap .u64 (q.fst+wrap .u64 ((aG 1)*(aG 2)^min (aeL (wrap .u64 q.snd)) (aeF .u64)))
abbrev SS a(q:Sl):=aeH a (row (bZ (bh 0) (aeL (bN q))) 3)
abbrev Kq a(q:Bs 32)(A:Int):=aeH a (row (aeM [Mc q A]) 314)
abbrev Ft:=(.words aeI 8 (ae6 8):TV)
abbrev Kr(q:LU)(A:Int):=aeL (wrap .i64 (Oe q A))
abbrev fK a(q:aa) b(A:Sl->Prop):=QE a q.size b λc=>A c
abbrev mD(q:Rt) a b:=q (aer (fh a)) b
abbrev Fu c(q:Int)(A:Int) a(B:(OL)->aa->Prop):=C7 c [aT q,aT A] a λd b=>Ext a b/\B d b
abbrev SU(q:aa)(A:OL)(B:Bs 32) c(E:Rt):=cu q (.ptr A) 162 λb=>bV b B λa=>rd2 a q.size 0 λd=>bu a b 0 λe=>mM 191 [.ptr d,bK e,uh c q] a λf g=>dw E f g
abbrev sr(q:Option Nat)(A:Nat->(List (TV×TV×Nat))->Nat->Prop):=Nn q λ(a:Nat)=>C' λb c=>A a b c
abbrev SV(q:Int)(A:Sl×Sl×Int):=ae1 (wrap .u64 q) (wrap .u64 (↑A.fst.len:Int))
abbrev Df a(q:Int):=aeH a (FU q)
abbrev Dg a(q:Int):=aeH a (FV q)
abbrev mE(q:Bs 32)(A:Bs 32):=decide (q.l=A.l)
abbrev Ks(q:List (TV×TV×Nat))(A:Prop):=dc ctx (TypeDesc.int IntKind.i64) q/\A
abbrev BN(q:Ws 8):=(.words aeI 8 q:TV)
abbrev SX b(B:Bs 32)(q:OL)(A:Rt):=bV b B λa=>If (!aeR q) (iR q 0 a b 0 λc d=>cQ 99 [.ptr c,bK d] a λe f=>jw A e f) (bO A a)
abbrev Xg b(q:aa)(A:Rt):=bS b q.size 0 34 (Md) λa=>Me a q.size 0 λc d e=>A (aer (.aX [(mj c d e),.bool false])) a
abbrev HI b c(q:OL×OL×OL) d e(A:Go.Vc.Loc->Int->Prop):=HA b c q λa=>xG d a.b (gT a e 1) λf=>A a f
abbrev On(q:Int)(A:Int)(B:Int) c(E:aa)(G:OL)(H:OL)(I:OL)(J:(OL)->aa->aa->Prop):=C7 78 [aT q,aT A,aT B] c λa b=>bS b E.size 0 4 (acJ G H I a) λd=>J a b d
abbrev Oo(q:Sl):=wrap .i64 (aeY (bN q) 8)+1
end
end
section
open _root_.Go.Proofs.Tryz
open Go.IntKind(wrap)
variable{h:aa}{R:Rt}
open Go.IntKind (wrap)
theorem xR(t:OL)(root:Bs 32)(H:bV h root λa=>If (aeR t) (R (lR) a) (vG t 1 a λr=>bu a h 0 λb=>yP a r λes c=>dc ctx (afo 32 5) es/\∃(n:Int),TW (dP (bK b) es) (bh 0)=.i n/\If (Jm (bK b) es) (dw R n a) (R (lR) a))):Cl 35 [.ptr t,.bytes 32 root] h R:=vi func35 H
theorem zv(t:OL)(i:Int)(H:cu h (Ud) 69 λa=>If (aeR t) (SJ a h R) (If (decide (i<0)) (SJ a h R) (aI t 0 a λs=>If (decide ((bN s)<=i)) (SJ a h R) (aI t 0 a λs=>acW i s 34 0 a λb n d=>bS a h.size 0 34 (C8 b n d) λc=>aaO c h.size 0 λb n e=>R (aer (.aX [(C8 b n e),.bool true])) c)))):Cl 34 [.ptr t,.i i] h R:=vi func34 H
theorem Bf(t:OL)(H:If (aeR t) (aD R 0 h) (aI t 0 h λs=>R (aer (mC s)) h)):Cl 57 [.ptr t] h R:=vi func57 H
theorem zw(t:OL)(H:If (aeR t) (aD R 0 h) (eA t 2 h λn=>aI t 0 h λs=>R (aer (.i (wrap .i64 (n-(bN s))))) h)):Cl 210 [.ptr t] h R:=vi func210 H
theorem HK(root:Bs 32)(slot most:Int)(H:bV h root λe=>bU (λ(s:OL×Int) a=>dZ a h 0 λb=>dZ a h 0 λd=>(Ext a (aeH a (Da b slot))/\Ext a (aeH (aeH a (Da b slot)) (jf))/\C' λes c=>(aeH (aeH a (Da b slot)) (jf))[aeT (aeH a (Da b slot))]? =some (bP es c)/\dc ctx (afo 32 5) es/\Vc.Bind (ae3 (aeH (aeH a (Da b slot)) (jf)) (aeT (aeH a (Da b slot))) (bP (iA (bK d) (bh 0) c es) (eN (bK d) c es))) λh=>Ext a h/\cu h (W3 (aeP (some (aeQ a.size 0)) 1 1) (some (aeT (aeH a (Da b slot)))) most) 168 λf=>R (aer (.aX [fh h,bh 0])) f)/\Ext a (aeH a (jf))/\(Ext a (aeH (aeH a (jf)) (Da b slot))/\C' λes c=>(aeH (aeH a (jf)) (Da b slot))[a.size]? =some (bP es c)/\dc ctx (afo 32 5) es/\Vc.Bind (ae3 (aeH (aeH a (jf)) (Da b slot)) a.size (bP (iA (bK d) (bh 0) c es) (eN (bK d) c es))) λh=>Ext a h/\cu h (W3 (aeP (some (aeQ (aeT (aeH a (jf))) 0)) 1 1) (some a.size) most) 168 λf=>R (aer (.aX [fh h,bh 0])) f)/\C' λes c=>(aeH a (jf))[a.size]? =some (bP es c)/\dc ctx (afo 32 5) es/\Vc.Bind (ae3 (aeH a (jf)) a.size (bP (iA (bK d) (bh 0) c es) (eN (bK d) c es))) λh=>Ext a h/\Ext a (aeH h (Da b slot))/\cu (aeH h (Da b slot)) (W3 (dI h 1 1) (some a.size) most) 168 λf=>R (aer (.aX [.ptr (some (aeQ (aeT (aeH h (Da b slot))) 0)),bh 0])) f) λg=>If (decide (most<1)) (BJ R 1 e) (If (decide (256<most)) (BJ R 1 e) (If (decide (slot<0)) (BJ R 1 e) (If (decide (1073741824<slot)) (BJ R 1 e) (g (none,0) e))))):Cl 141 [.bytes 32 root,.i slot,.i most] h R:=vi func141 H
theorem Bg(t:OL)(root parent:Bs 32)(slot:Int)(H:bV h root λe=>bV e parent λg=>jS g e 0 35 t λb n j=>BI t n j λb n q k m f=>bU (λ(s:Int) d=>vG t 1 d λr=>dZ d h 0 λb=>gF t 0 d λs=>sr r λl es c=>d[l]? =some (bP es c)/\dc ctx (afo 32 5) es/\Vc.Bind (ae3 d l (bP (iA (bK b) (mC s) c es) (eN (bK b) c es))) λa=>aI t 0 a λs=>bu a h 0 λb=>vG t 1 a λr=>bu a e 0 λo=>yP a r λes c=>dc ctx (afo 32 5) es/\∃(n:Int),TW (dP (bK o) es) (bh 0)=.i n/\Ext a (aeH a (row (aeM [C8 b slot n]) 69))/\fR a (C8 b slot n) 69 34 s λs h=>jv t 0 h s λh=>aD R 0 h) λp=>If (aeR t) (aD R 2 f) (jS f h 0 35 t λb n h=>If (decide (0<=n)) (aD R 4 h) (If (!k) (aD R 5 h) (aJ h m 32 λn=>If (decide (slot<=n)) (aD R 5 h) (If (decide (1073741824<slot)) (aD R 5 h) (gM 210 t h λn h=>If (decide (n<=0)) (aD R 6 h) (p 0 h))))))):Cl 283 [.ptr t,.bytes 32 root,.bytes 32 parent,.i slot] h R:=vi func283 H
open Go.IntKind (wrap)
theorem sO(w:OL)(H:Go.Vc.Loop aeV h λ(s:PUnit) h K=>∃(a:Array Obj),Vc.Sub a h/\gF w 1 a λs=>gE w 0 a λp=>mM 57 [.ptr p] h λn h=>Vc.Sub a h/\If (decide ((bN s)<n)) (bU (λ(s:PUnit) h=>∃(a:Array Obj),Vc.Sub a h/\gF w 3 a λs=>gF w 4 a λd=>(Vc.Sub a (aeH h (Od))/\(SH h (.i (-1)) 3 1 s λs h=>Vc.Sub a h/\Vc.Sub a (aeH h (Od))/\SH h (.i (-1)) 3 1 d λc h=>jv w 3 h s λh=>jv w 4 h c λh=>K aeV h)/\Vc.Sub a (HD h)/\iJ λnew=>cv (HD h) (aeP (some (aeQ h.size 0)) 1 1) 1 new/\iI new (aq tR 3 s 1 new (HD h) λs b=>Vc.Sub a b/\iJ λnew=>cv b (aeP (some (aeQ (aeT (aeH h (Od))) 0)) 1 1) 1 new/\iI new (aq tR 3 d 1 new b λc h=>jv w 3 h s λh=>jv w 4 h c λh=>K aeV h)))/\Vc.Sub a (aeH h (Od))/\Vc.Sub a (HD h)/\iJ λnew=>cv (HD h) (aeP (some (aeQ (aeT (aeH h (Od))) 0)) 1 1) 1 new/\iI new (aq tR 3 s 1 new (HD h) λs b=>Vc.Sub a b/\iJ λnew=>cv b (aeP (some (aeQ h.size 0)) 1 1) 1 new/\iI new (aq tR 3 d 1 new b λc h=>jv w 3 h s λh=>jv w 4 h c λh=>K aeV h))) λe=>∃(a:Array Obj),Vc.Sub a h/\gF w 1 a λs=>gF w 2 a λd=>(Vc.Sub a (Kn h)/\(SH h (bh 0) 3 1 s λs h=>Vc.Sub a h/\Vc.Sub a (Kn h)/\SH h (bh 0) 3 1 d λc h=>jv w 1 h s λh=>jv w 2 h c λh=>e aeV h)/\Vc.Sub a (QJ h)/\iJ λnew=>cv (QJ h) (dI h 1 1) 1 new/\iI new (aq tR 3 s 1 new (QJ h) λs b=>Vc.Sub a b/\iJ λnew=>cv b (aeP (some (aeQ (aeT (Kn h)) 0)) 1 1) 1 new/\iI new (aq tR 3 d 1 new b λc h=>jv w 1 h s λh=>jv w 2 h c λh=>e aeV h)))/\Vc.Sub a (Kn h)/\Vc.Sub a (QJ h)/\iJ λnew=>cv (QJ h) (aeP (some (aeQ (aeT (Kn h)) 0)) 1 1) 1 new/\iI new (aq tR 3 s 1 new (QJ h) λs b=>Vc.Sub a b/\iJ λnew=>cv b (dI h 1 1) 1 new/\iI new (aq tR 3 d 1 new b λc h=>jv w 1 h s λh=>jv w 2 h c λh=>e aeV h))) (R (eX) h)):Cl 203 [.ptr w] h R:=viL func203 H
open Go.IntKind (wrap)
theorem oL(x k:Int)(H:0<=wrap .u64 (W6 k)/\0<=wrap .u64 (32-wrap .u64 (W6 k))/\R (aer (.int .u32 (wrap .u32 (↑(aeO (aeK (aeF .u32) (wrap .u32 (x*(aG 2)^min (aeL (wrap .u64 (W6 k))) (aeF .u32)))|||aeK (aeF .u32) (aeW x ((aG 2)^min (aeL (wrap .u64 (32-wrap .u64 (W6 k)))) (aeF .u32))))):Int)))) h):Cl 340 [.int .u32 x,.i k] h R:=vi func340 H
theorem HN(x n:Int)(H:ua 340 [.int .u32 x,.i (wrap .i64 (0-n))] h λn h=>R (aer (.int .u32 n)) h):Cl 327 [.int .u32 x,.i n] h R:=vi func327 H
theorem FX(H:qv h (Ft) 289 8 (.words aeI 8 (aeG (aeG (aeG (aeG (aeG (aeG (aeG (aeG (ae6 8) 0 1779033703) 1 3144134277) 2 1013904242) 3 2773480762) 4 1359893119) 5 2600822924) 6 528734635) 7 1541459225)) λa=>∃(w:Ws 8),jc a h.size 0 aeI 8 w/\R (aer (BN w)) a):Cl 257 [] h R:=vi func257 H
theorem HO(H:qv h (xI) 293 64 (.words aeI 64 (aeG (aeG (aeG (aeG (aeG (aeG (aeG (aeG (aeG (aeG (aeG (aeG (aeG (aeG (aeG (aeG (aeG (aeG (aeG (aeG (aeG (aeG (aeG (aeG (aeG (aeG (aeG (aeG (aeG (aeG (aeG (aeG (aeG (aeG (aeG (aeG (aeG (aeG (aeG (aeG (aeG (aeG (aeG (aeG (aeG (aeG (aeG (aeG (aeG (aeG (aeG (aeG (aeG (aeG (aeG (aeG (aeG (aeG (aeG (aeG (aeG (aeG (aeG (aeG (ae6 64) 0 1116352408) 1 1899447441) 2 3049323471) 3 3921009573) 4 961987163) 5 1508970993) 6 2453635748) 7 2870763221) 8 3624381080) 9 310598401) 10 607225278) 11 1426881987) 12 1925078388) 13 2162078206) 14 2614888103) 15 3248222580) 16 3835390401) 17 4022224774) 18 264347078) 19 604807628) 20 770255983) 21 1249150122) 22 1555081692) 23 1996064986) 24 2554220882) 25 2821834349) 26 2952996808) 27 3210313671) 28 3336571891) 29 3584528711) 30 113926993) 31 338241895) 32 666307205) 33 773529912) 34 1294757372) 35 1396182291) 36 1695183700) 37 1986661051) 38 2177026350) 39 2456956037) 40 2730485921) 41 2820302411) 42 3259730800) 43 3345764771) 44 3516065817) 45 3600352804) 46 4094571909) 47 275423344) 48 430227734) 49 506948616) 50 659060556) 51 883997877) 52 958139571) 53 1322822218) 54 1537002063) 55 1747873779) 56 1955562222) 57 2024104815) 58 2227730452) 59 2361852424) 60 2428436474) 61 2756734187) 62 3204031479) 63 3329325298)) λa=>∃(w:Ws 64),jc a h.size 0 aeI 64 w/\R (aer (.words aeI 64 w)) a):Cl 326 [] h R:=vi func326 H
theorem JC(b:Sl)(H:cu h (xI) 293 λa=>cu a (xI) 293 λj=>Go.Vc.Loop (aG 0) j λ(s:Int) d K=>If (decide (s<16)) (0<=wrap .i64 (4*s)/\wrap .i64 (4*s)<(bN b)/\Nn b.a λl=>Ue d l.b (l.o+aeL (wrap .i64 (4*s))*1) λn=>dz 24 (SI s 1 1 b d 1 λl e=>dz 16 (SI s 2 2 b d 2 λl g=>dz 8 (SI s 3 3 b d 3 λl i=>pM s 64 d a.size 0 1 1 (.int .u32 (wrap .u32 (↑(aeO (aeK (aeF .u32) (wrap .u32 (↑(aeO (aeK (aeF .u32) (wrap .u32 (↑(aeO (aeK (aeF .u32) (SP n 24)|||aeK (aeF .u32) (SP e 16))):Int))|||aeK (aeF .u32) (SP g 8))):Int))|||aeK (aeF .u32) (wrap .u32 i))):Int))) λh=>K (c5 s 1) h)))) (Go.Vc.Loop (aG 16) d λ(s:Int) c K=>If (decide (s<64)) (Jz s 15 15 c a 15 λn=>Jz s 2 2 c a 2 λe=>Jz s 16 16 c a 16 λg=>dz 3 (Jz s 7 7 c a 7 λi=>dz 10 (ua 327 [.int .u32 n,bh 7] c λk h=>Ext c h/\Db 327 n 18 h λm f=>Db 327 e 17 f λo h=>Db 327 e 19 h λp q=>pM s 64 q a.size 0 1 1 (.int .u32 (wrap .u32 (wrap .u32 (wrap .u32 (g+wrap .u32 (Ui k m n 3))+i)+wrap .u32 (Ui o p e 10)))) λh=>K (c5 s 1) h))) (∃(w:Ws 64),jc c a.size 0 aeI 64 w/\bS c h.size 0 64 (.words aeI 64 w) λf=>∃(w:Ws 64),jc f h.size 0 aeI 64 w/\R (aer (.words aeI 64 w)) f))):Cl 325 [.slice b] h R:=vi func325 H
theorem Bi(q:OL)(text:LU)(H:aaN q 9 h λn=>lN q 9 h 1 (.int .u64 (wrap .u64 (n+wrap .u64 (c4 text)))) λh=>aI q 8 h λs=>aq ctx 5 s text.length (afh (λ(c:UInt8)=>.int .u8 (↑(afb c):Int)) text) h λs h=>jv q 8 h s λh=>Go.Vc.Loop aeV h λ(s:PUnit) h K=>gF q 8 h λs=>If (decide (64<=(bN s))) (gF q 8 h λs=>dz 64 (64<=(↑s.cap:Int)/\lQ 292 [.ptr q,.slice (aA s 0 (aeL 64) 1)] h λh=>aI q 8 h λs=>dz 64 (64<=(bN s)/\lN q 8 h 1 (.slice (aA s (aeL 64) s.len 1)) λh=>K aeV h))) (R (eX) h)):Cl 258 [.ptr q,.str text] h R:=vi func258 H
theorem Bj(q:OL)(H:dH h λe=>aaN q 9 e λn=>aI q 8 e λs=>fR e (.int .u8 128) 5 1 s λs i=>jv q 8 i s λj=>Go.Vc.Loop aeV j λ(s:PUnit) d K=>gF q 8 d λs=>(aG 64)≠0/\If (!decide (ae1 (bN s) (aG 64)=56)) (gF q 8 d λs=>fR d (.int .u8 0) 5 1 s λs h=>jv q 8 h s λh=>K aeV h) (Go.Vc.Loop (aG 0) d λ(s:Int) c K=>If (decide (s<8)) (gF q 8 c λk=>0<=wrap .i64 (56-wrap .i64 (8*s))/\Ext c (aeH c (row (aeM [Xc n s]) 5))/\fR c (Xc n s) 5 1 k λm h=>jv q 8 h m λh=>K (c5 s 1) h) (Go.Vc.Loop aeV c λ(s:PUnit) a K=>gF q 8 a λs=>If (decide (0<(bN s))) (gF q 8 a λs=>dz 64 (64<=(↑s.cap:Int)/\lQ 292 [.ptr q,.slice (aA s 0 (aeL 64) 1)] a λh=>aI q 8 h λs=>dz 64 (64<=(bN s)/\lN q 8 h 1 (.slice (aA s (aeL 64) s.len 1)) λh=>K aeV h))) (cu a (fU) 52 λg=>Nn q λl=>∃(w:Ws 8),jc g l.b l.o aeI 8 w/\Go.Vc.Loop (aG 0) g λ(s:Int) f K=>If (decide (s<8)) (0<=s/\s<(↑8:Int)/\dz 24 (dz 16 (dz 8 (0<=wrap .i64 (4*s)/\wrap .i64 (4*s)<(↑32:Int)/\bS f a.size (0+aeL (wrap .i64 (4*s))*1) 1 (SK w s 24) λh=>0<=wrap .i64 (lS 4 s 1)/\wrap .i64 (lS 4 s 1)<(↑32:Int)/\bS h a.size (0+aeL (wrap .i64 (lS 4 s 1))*1) 1 (SK w s 16) λh=>0<=wrap .i64 (lS 4 s 2)/\wrap .i64 (lS 4 s 2)<(↑32:Int)/\bS h a.size (0+aeL (wrap .i64 (lS 4 s 2))*1) 1 (SK w s 8) λh=>0<=wrap .i64 (lS 4 s 3)/\wrap .i64 (lS 4 s 3)<(↑32:Int)/\bS h a.size (0+aeL (wrap .i64 (lS 4 s 3))*1) 1 (.int .u8 (wrap .u8 (afc w.l s.toNat 0))) λh=>K (c5 s 1) h)))) (CK f a.size 0 λb=>bS f h.size 0 32 (bK b) λo=>De o h R))))):Cl 259 [.ptr q] h R:=vi func259 H
open Go.IntKind (wrap)
theorem zC(A:OL)(b:Sl)(H:bU (λ(s:OL×OL×OL) h=>Go.Vc.Loop (aG 0) h λ(p:Int) h K=>If (decide (p<64)) (HA 0 0 s λl=>xG h l.b (gT l 0 1) λn=>HA 4 4 s λl=>xG h l.b (gT l 4 1) λm=>HA 7 7 s λl=>xG h l.b (gT l 7 1) λr=>HA 5 5 s λl=>xG h l.b (gT l 5 1) λt=>HA 6 6 s λl=>xG h l.b (gT l 6 1) λu=>WX p 64 s.snd.fst 1 0 h λv=>WX p 64 s.fst 1 0 h λx=>ua 327 [.int .u32 m,bh 6] h λy k=>Ext h k/\Db 327 m 11 k λz h=>Db 327 m 25 h λB g=>HI 1 1 s g 1 λl E=>HI 2 2 s g 2 λl F=>HI 1 1 s g 1 λl G=>HI 2 2 s g 2 λl I=>Db 327 n 2 g λJ h=>Db 327 n 13 h λL d=>Db 327 n 22 d λM h=>Nn s.snd.snd λl=>dz 1 (1<=(↑8:Int)/\Nn s.snd.snd λC=>dz 7 (7<=(↑8:Int)/\iJ λnew=>cv h (aeP (HH C 8 8 7).a (afn (HH C 8 8 7).len (Om l).len) (afn (HH C 8 8 7).len (Om l).len)) 1 new/\iI new (((Om l).a=none->HI 4 4 s h 4 λl D=>HA 4 4 s λl=>bS h l.b (gT l 4 1) 1 (.int .u32 (wrap .u32 (D+wrap .u32 (wz5 r y z B m t u v x)))) λh=>HA 0 0 s λl=>bS h l.b (gT l 0 1) 1 (.int .u32 (wrap .u32 (wrap .u32 (wz5 r y z B m t u v x)+wrap .u32 (abr J L M n E F G I)))) λh=>K (c5 p 1) h)/\∀(q:Go.Vc.Loc),(Om l).a=some q->gi h q.b q.o new.length/\Vc.Bind (rE h q.b q.o new) λh=>HI 4 4 s h 4 λl D=>HA 4 4 s λl=>bS h l.b (gT l 4 1) 1 (.int .u32 (wrap .u32 (D+wrap .u32 (wz5 r y z B m t u v x)))) λh=>HA 0 0 s λl=>bS h l.b (gT l 0 1) 1 (.int .u32 (wrap .u32 (wrap .u32 (wz5 r y z B m t u v x)+wrap .u32 (abr J L M n E F G I)))) λh=>K (c5 p 1) h)))) (Go.Vc.Loop (aG 0) h λ(o:Int) h K=>If (decide (o<8)) (Nn A λl=>0<=o/\o<(↑8:Int)/\xG h l.b (l.o+aeL o*1) λn=>WX o 8 s.snd.snd 1 0 h λm=>Nn A λl=>0<=o/\o<(↑8:Int)/\bS h l.b (l.o+aeL o*1) 1 (.int .u32 (wrap .u32 (n+m))) λh=>K (c5 o 1) h) (R (eX) h))) λj=>Nn A λl=>∃(w:Ws 8),jc h l.b l.o aeI 8 w/\(WY 325 [.slice b] h λi k=>Ext h k/\(mm k h λf g=>(qK g h λd=>(qK d h λc=>jt c h λe=>oK e g i h d f c w j)/\jt d h λc=>qK c h λe=>oK e g i h c f d w j)/\(qK g h λd=>(qK d h λc=>jt c h λe=>oK e d i h g f c w j)/\jt d h λc=>qK c h λe=>oK e c i h g f d w j)/\jt g h λd=>(qK d h λc=>qK c h λe=>oK e d i h c f g w j)/\qK d h λc=>qK c h λe=>oK e c i h d f g w j)/\(qK k h λg=>(mm g h λf d=>(qK d h λc=>jt c h λe=>oK e k i h d f c w j)/\jt d h λc=>qK c h λe=>oK e k i h c f d w j)/\(qK g h λd=>(mm d h λf c=>jt c h λe=>oK e k i h g f c w j)/\jt d h λc=>mm c h λf e=>oK e k i h g f d w j)/\jt g h λd=>(uf d h λf c e=>oK e k i h c f g w j)/\ug d h λc f e=>oK e k i h d f g w j)/\(qK k h λg=>(mm g h λf d=>(qK d h λc=>jt c h λe=>oK e d i h k f c w j)/\jt d h λc=>qK c h λe=>oK e c i h k f d w j)/\(qK g h λd=>(mm d h λf c=>jt c h λe=>oK e g i h k f c w j)/\jt d h λc=>mm c h λf e=>oK e g i h k f d w j)/\jt g h λd=>(uf d h λf c e=>oK e c i h k f g w j)/\ug d h λc f e=>oK e d i h k f g w j)/\jt k h λg=>(mm g h λf d=>(qK d h λc=>qK c h λe=>oK e d i h c f k w j)/\qK d h λc=>qK c h λe=>oK e c i h d f k w j)/\(qK g h λd=>(uf d h λf c e=>oK e g i h c f k w j)/\ug d h λc f e=>oK e g i h d f k w j)/\qK g h λd=>(uf d h λf c e=>oK e c i h g f k w j)/\ug d h λc f e=>oK e d i h g f k w j)/\(cu h (xI) 293 λk=>Ext h k/\(Bc b k h λi g=>(mm g h λf d=>(qK d h λc=>jt c h λe=>Er e h i d f c w j)/\jt d h λc=>qK c h λe=>Er e h i c f d w j)/\(qK g h λd=>(mm d h λf c=>jt c h λe=>Er e h i g f c w j)/\jt d h λc=>mm c h λf e=>Er e h i g f d w j)/\jt g h λd=>(uf d h λf c e=>Er e h i c f g w j)/\ug d h λc f e=>Er e h i d f g w j)/\(qK k h λg=>(Bc b g h λi d=>(mm d h λf c=>jt c h λe=>Er e h i k f c w j)/\jt d h λc=>mm c h λf e=>Er e h i k f d w j)/\jt g h λd=>Bc b d h λi c=>mm c h λf e=>Er e h i k f g w j)/\jt k h λg=>(Bc b g h λi d=>(uf d h λf c e=>Er e h i c f k w j)/\ug d h λc f e=>Er e h i d f k w j)/\qK g h λd=>Bc b d h λi c=>mm c h λf e=>Er e h i g f k w j)/\(cu h (xI) 293 λk=>Ext h k/\(Bc b k h λi g=>(mm g h λf d=>(qK d h λc=>jt c h λe=>Es e d i h f c w j)/\jt d h λc=>qK c h λe=>Es e c i h f d w j)/\(qK g h λd=>(mm d h λf c=>jt c h λe=>Es e g i h f c w j)/\jt d h λc=>mm c h λf e=>Es e g i h f d w j)/\jt g h λd=>(uf d h λf c e=>Es e c i h f g w j)/\ug d h λc f e=>Es e d i h f g w j)/\(qK k h λg=>(Bc b g h λi d=>(mm d h λf c=>jt c h λe=>Es e k i h f c w j)/\jt d h λc=>mm c h λf e=>Es e k i h f d w j)/\jt g h λd=>Bc b d h λi c=>mm c h λf e=>Es e k i h f g w j)/\jt k h λg=>(Bc b g h λi d=>(uf d h λf c e=>Es e c i h f k w j)/\ug d h λc f e=>Es e d i h f k w j)/\qK g h λd=>Bc b d h λi c=>mm c h λf e=>Es e g i h f k w j)/\cu h (Ft) 289 λk=>Ext h k/\(Bc b k h λi g=>(mm g h λf d=>(qK d h λc=>qK c h λe=>Et e d i h c f w j)/\qK d h λc=>qK c h λe=>Et e c i h d f w j)/\(qK g h λd=>(uf d h λf c e=>Et e g i h c f w j)/\ug d h λc f e=>Et e g i h d f w j)/\qK g h λd=>(uf d h λf c e=>Et e c i h g f w j)/\ug d h λc f e=>Et e d i h g f w j)/\(qK k h λg=>(Bc b g h λi d=>(uf d h λf c e=>Et e k i h c f w j)/\ug d h λc f e=>Et e k i h d f w j)/\qK g h λd=>Bc b d h λi c=>mm c h λf e=>Et e k i h g f w j)/\qK k h λg=>(Bc b g h λi d=>(uf d h λf c e=>Et e c i h k f w j)/\ug d h λc f e=>Et e d i h k f w j)/\qK g h λd=>Bc b d h λi c=>mm c h λf e=>Et e g i h k f w j):Cl 292 [.ptr A,.slice b] h R:=vi func292 H
open Go.IntKind (wrap)
theorem Mi(b:Sl)(n q:Int)(H:Go.Vc.Loop (b,n,0) h λ(s:Sl×Int×Int) h K=>If (decide (s.snd.snd<mn (mx q 0) 8)) (fR h (.int .u8 (wrap .u8 s.snd.fst)) 5 1 s.fst λa h=>dz 8 (K (a,aeW s.snd.fst (Eu 8),wrap .i64 (s.snd.snd+1)) h)) (R (aer (.slice s.fst)) h)):Cl 260 [.slice b,.int .u64 n,.i q] h R:=vi func260 H
theorem zD(a b:Bs 32)(H:bV h a λd=>bV d b λc=>gu λbs=>jM c (fC h 0 32 32 32) bs/\gu λe=>jM c (fC d 0 32 32 32) e/\R (aer (.bool (Op.bytesLess bs e))) c):ClS 198 [.bytes 32 a,.bytes 32 b] h R:=viS func198 H
open Go.IntKind (wrap)
theorem sQ(w:OL)(H:aI w 3 h λs=>Go.Vc.Loop (aG 0) h λ(a:Int) h K=>If (gU a s) (gF w 3 h λs=>gF w 4 h λc=>zi a s.len s.a 1 0 h 1 (.i (-1)) λh=>zi a c.len c.a 1 0 h 1 (aT a) λh=>K (c5 a 1) h) (gF w 3 h λs=>Go.Vc.Loop (xL s) h λ(s:Int) h K=>If (decide (0<s)) (gE w 0 h λp=>N7 34 (c7 p s) h λb n g k h=>qv h (Ud) 69 34 (C8 b n g) λe=>aI w 3 e λc=>aJ e h 33 λn=>kG n c 1 0 e λj=>cQ 261 [.ptr w,aT s,aT j] e λb f=>If b (aI w 3 f λd=>aJ f h 33 λn=>zi n d.len d.a 1 0 f 1 (aT s) λh=>K (iQ s 1) h) (K (iQ s 1) f)) (gF w 3 h λs=>Go.Vc.Loop (xL s) h λ(s:Int) h K=>If (decide (0<=s)) (zu w 3 h s λc n=>If (decide (0<=n)) (gF w 4 h λd=>zu w 4 h n λl g=>zi s d.len d.a 1 0 h 1 (aT g) λh=>K (iQ s 1) h) (K (iQ s 1) h)) (R (eX) h)))):Cl 204 [.ptr w] h R:=vi func204 H
theorem rI(w:OL)(i k:Int)(H:bU (λ(s:Bool) h=>gE w 0 h λp=>N7 34 (c7 p i) h λb n a j h=>qv h (Ud) 69 34 (C8 b n a) λe=>gE w 0 e λp=>BI p k e λb n l m f d=>bu d f 0 λb=>bu d h 0 λg=>cQ 198 [bK b,bK g] d λb h=>jw R b h) λc=>bU (λ(s:Bool) h=>If s (If (decide (k<0)) (R (i_) h) (zu w 2 h i λs n=>zu w 2 h k λs a=>R (aer (.bool (decide (a<n)))) h)) (c false h)) λc=>If (decide (k<0)) (c true h) (pN w 2 h i 1 λs n=>pN w 2 h k 1 λs a=>c (!decide (n=a)) h)):Cl 261 [.ptr w,.i i,.i k] h R:=vi func261 H
open Go.IntKind (wrap)
theorem F0(t:OL)(H:gM 57 t h λn h=>If (decide (n=0)) (rG R h) (cu h (acM t) 270 λa=>lQ 203 [fh h] a λb=>lQ 204 [fh h] b λc=>mD R h c)):Cl 143 [.ptr t] h R:=vi func143 H
theorem sR(w:OL)(q:Sl)(H:gF w 1 (jY h 3) λs=>iJ λnew=>cv (jY h 3) s 1 new/\iI new (aq ctx 3 (dI h 0 0) s.len new (jY h 3) λc l=>Go.Vc.Loop (dL,0,0) l λ(d:Sl×Int×Int) e K=>If (decide (d.snd.snd<(bN q))) (acN d.snd.snd q 33 0 e λb n=>qv e (acz) 314 33 (Mc b n) λj=>gE w 0 j λp=>CK j e.size 0 λb=>jZ 35 p b j λn f=>bU (λ(a:Sl×Int) k=>kG n c 1 0 k λm=>t_ k e.size 32 λo=>zi n c.len c.a 1 0 k 1 (BM m o) λg=>kG n c 1 0 g λr=>If (decide (r<0)) (R (HE 1) g) (kG n c 1 0 g λt=>If (decide (4611686018427387904<=t)) (R (HE 1) g) (K (a.fst,a.snd,wrap .i64 (d.snd.snd+1)) g))) λu=>If (decide (n<0)) (R (HE 7) f) (t_ f e.size 32 λn=>If (decide (n<=(-4611686018427387904))) (R (HE 1) f) (t_ f e.size 32 λn=>If (decide (4611686018427387904<=n)) (R (HE 1) f) (u (d.fst,d.snd.fst) f)))) (Go.Vc.Loop (d.fst,d.snd.fst,4611686018427387903,0) e λ(a:Sl×Int×Int×Int) i K=>If (decide (a.snd.snd.snd<(bN c))) (kG a.snd.snd.snd c 1 0 i λn=>If (decide (wrap .i64 (a.snd.snd.fst-n)<0)) (R (HE 1) i) (K (a.fst,a.snd.fst,wrap .i64 (a.snd.snd.fst-n),wrap .i64 (a.snd.snd.snd+1)) i)) (R (aer (.aX [.slice c,bh 0])) i)))):Cl 281 [.ptr w,.slice q] h R:=vi func281 H
open Go.IntKind (wrap)
theorem rJ(w:OL)(q:Sl)(H:If (aeR w) (aD R 2 h) (lQ 203 [.ptr w] h λh=>ad5 281 [.ptr w,.slice q] h λs n h=>If (!decide (n=0)) (lQ 204 [.ptr w] h λh=>dw R n h) (Go.Vc.Loop (xL s) h λ(a:Int) h K=>If (decide (0<=a)) (kG a s 1 0 h λn=>zu w 1 h a λs c=>If (decide (wrap .i64 (n-c)=0)) (K (iQ a 1) h) (Go.Vc.Loop a h λ(s:Int) h f=>If (decide (0<=s)) (zu w 2 h s λd g=>zi s d.len d.a 1 0 h 1 (.i (wrap .i64 (g+wrap .i64 (n-c)))) λh=>gE w 0 h λp=>BI p s h λb n j k h e=>aJ e h 33 λn=>f n e) (K (iQ a 1) h))) (lN w 1 h 1 (.slice s) λh=>lQ 204 [.ptr w] h λh=>aD R 0 h)))):Cl 236 [.ptr w,.slice q] h R:=vi func236 H
open Go.IntKind (wrap)
theorem uq(x n:Int)(H:0<=wrap .u64 n/\0<=wrap .u64 (wrap .i64 (32-n))/\R (aer (.int .u32 (wrap .u32 (↑(aeO (aeK (aeF .u32) (aeW x ((aG 2)^min (aeL (wrap .u64 n)) (aeF .u32)))|||aeK (aeF .u32) (wrap .u32 (x*(aG 2)^min (aeL (wrap .u64 (wrap .i64 (32-n)))) (aeF .u32))))):Int)))) h):Cl 276 [.int .u32 x,.i n] h R:=vi func276 H
theorem ur(B:Ws 8)(keys:Ws 64)(q:LU)(H:cu h (BN B) 289 λC=>cu C (.words aeI 64 keys) 293 λm=>cu m (Ft) 289 λd=>cu d (xI) 293 λE=>Go.Vc.Loop (aG 0) E λ(s:Int) b K=>If (decide (s<64)) (If (decide (s<16)) (Go.Vc.Loop (aG 0) b λ(a:Int) h F=>If (decide (a<4)) (WU s 64 h d.size 0 1 λn=>0<=wrap .i64 (wrap .i64 (4*s)+a)/\wrap .i64 (wrap .i64 (4*s)+a)<(c4 q)/\pM s 64 h d.size 0 1 1 (.int .u32 (wrap .u32 (wrap .u32 (n*256)+wrap .u32 (↑(afb (afc q (aeL (wrap .i64 (wrap .i64 (4*s)+a))) (0:UInt8))):Int)))) λh=>F (c5 a 1) h) (K (c5 s 1) h)) (Jz s 15 15 b d 15 λn=>Jz s 2 2 b d 2 λe=>Jz s 16 16 b d 16 λo=>Jz s 7 7 b d 7 λp=>dz 3 (dz 10 (ua 276 [.int .u32 n,bh 7] b λr h=>Ext b h/\Db 276 n 18 h λt c=>Db 276 e 17 c λu h=>Db 276 e 19 h λv f=>pM s 64 f d.size 0 1 1 (.int .u32 (wrap .u32 (wrap .u32 (wrap .u32 (o+p)+wrap .u32 (Ui r t n 3))+wrap .u32 (Ui u v e 10)))) λh=>K (c5 s 1) h)))) (zk 0 0 b h 0 λn=>zk 1 1 b h 1 λe=>zk 2 2 b h 2 λo=>zk 3 3 b h 3 λp=>zk 4 4 b h 4 λr=>zk 5 5 b h 5 λt=>zk 6 6 b h 6 λu=>zk 7 7 b h 7 λv=>Go.Vc.Loop (n,e,o,p,r,t,u,v,0) b λ(a:Int×Int×Int×Int×Int×Int×Int×Int×Int) c K=>If (decide (a.snd.snd.snd.snd.snd.snd.snd.snd<64)) (WU a.snd.snd.snd.snd.snd.snd.snd.snd 64 c C.size 0 1 λg=>WU a.snd.snd.snd.snd.snd.snd.snd.snd 64 c d.size 0 1 λi=>ua 276 [.int .u32 a.snd.snd.snd.snd.fst,bh 6] c λj f=>Ext c f/\ua 276 [.int .u32 a.snd.snd.snd.snd.fst,bh 11] f λk x=>Ext f x/\ua 276 [.int .u32 a.snd.snd.snd.snd.fst,bh 25] x λl D=>Ext x D/\ua 276 [.int .u32 a.fst,bh 2] D λy G=>ua 276 [.int .u32 a.fst,bh 13] G λz I=>ua 276 [.int .u32 a.fst,bh 22] I λA J=>K (wrap .u32 (wrap .u32 (abq a j k l g i)+wrap .u32 (wrap .u32 (↑(aeO (aeK (aeF .u32) (Uh y z)^^^aeK (aeF .u32) A)):Int)+wrap .u32 (↑(aeO (aeK (aeF .u32) (wrap .u32 (↑(aeO (aeK (aeF .u32) (wrap .u32 (↑(aeO (aeK (aeF .u32) a.fst&&&aeK (aeF .u32) a.snd.fst)):Int))^^^aeK (aeF .u32) (wrap .u32 (↑(aeO (aeK (aeF .u32) a.fst&&&aeK (aeF .u32) a.snd.snd.fst)):Int)))):Int))^^^aeK (aeF .u32) (wrap .u32 (↑(aeO (aeK (aeF .u32) a.snd.fst&&&aeK (aeF .u32) a.snd.snd.fst)):Int)))):Int))),a.fst,a.snd.fst,a.snd.snd.fst,wrap .u32 (a.snd.snd.snd.fst+wrap .u32 (abq a j k l g i)),a.snd.snd.snd.snd.fst,a.snd.snd.snd.snd.snd.fst,a.snd.snd.snd.snd.snd.snd.fst,wrap .i64 (a.snd.snd.snd.snd.snd.snd.snd.snd+1)) J) (zk 0 0 c h 0 λg=>zk 1 1 c h 1 λi=>zk 2 2 c h 2 λj=>zk 3 3 c h 3 λk=>zk 4 4 c h 4 λl=>zk 5 5 c h 5 λy=>zk 6 6 c h 6 λz=>zk 7 7 c h 7 λA=>bS c m.size 0 8 (.words aeI 8 (aeG (aeG (aeG (aeG (aeG (aeG (aeG (aeG (ae6 8) 0 (wrap .u32 (g+a.fst))) 1 (wrap .u32 (i+a.snd.fst))) 2 (wrap .u32 (j+a.snd.snd.fst))) 3 (wrap .u32 (k+a.snd.snd.snd.fst))) 4 (wrap .u32 (l+a.snd.snd.snd.snd.fst))) 5 (wrap .u32 (y+a.snd.snd.snd.snd.snd.fst))) 6 (wrap .u32 (z+a.snd.snd.snd.snd.snd.snd.fst))) 7 (wrap .u32 (A+a.snd.snd.snd.snd.snd.snd.snd.fst)))) λh=>∃(w:Ws 8),jc h m.size 0 aeI 8 w/\R (aer (BN w)) h))):Cl 221 [.words aeI 8 B,.words aeI 64 keys,.str q] h R:=vi func221 H
theorem xT(x y:Int)(H:dz 32 (dz 32 (dz 32 (dz 32 (dz 32 (R (aer (.aX [.int .u64 (wrap .u64 (wrap .u64 (wrap .u64 (aeW x (Eu 32)*aeW y (Eu 32))+aeW (Xb x y) (Eu 32))+aeW (wrap .u64 (wrap .u64 (↑(aeO (aeK (aeF .u64) (Xb x y)&&&aeK (aeF .u64) 4294967295)):Int)+wrap .u64 (wrap .u64 (W5 x)*aeW y (Eu 32)))) (Eu 32))),.int .u64 (wrap .u64 (x*y))])) h)))))):Cl 312 [.int .u64 x,.int .u64 y] h R:=vi func312 H
theorem uu(x p:Int)(q:Int)(H:WV 312 [.int .u64 x,.int .u64 x] h λn c h=>If (decide (q=2)) (If (decide (p<n)) (R (i_) h) (If (decide (n=p)) (R (aer (.bool (decide (0<c)))) h) (bO R h))) (WV 312 [.int .u64 n,.int .u64 x] h λn a h=>WV 312 [.int .u64 c,.int .u64 x] h λb d h=>0<=a/\0<=b/\dz 0 (dz 1 (dz 32 (If (!decide (wrap .u64 (n+(a+b+0)/18446744073709551616)=aeW p (Eu 32))) (dz 32 (R (aer (.bool (decide (aeW p (Eu 32)<wrap .u64 (n+(a+b+0)/18446744073709551616))))) h)) (dz 32 (If (!decide ((a+b+0)%18446744073709551616=wrap .u64 (p*(aG 2)^min (aeL 32) (aeF .u64)))) (R (aer (.bool (decide (wrap .u64 (p*(aG 2)^min (aeL 32) (aeF .u64))<(a+b+0)%18446744073709551616)))) h) (R (aer (.bool (decide (0<d)))) h)))))))):Cl 275 [.int .u64 x,.int .u64 p,.i q] h R:=vi func275 H
theorem vQ(p q:Int)(H:Go.Vc.Loop (0,39) h λ(s:Int×Int) h K=>If (decide (0<=s.snd)) (0<=wrap .u64 s.snd/\cQ 275 [.int .u64 (Xf s),.int .u64 p,aT q] h λb h=>If (!b) (0<=wrap .u64 s.snd/\K (Xf s,wrap .i64 (s.snd-1)) h) (K (s.fst,wrap .i64 (s.snd-1)) h)) ((aG 4294967296)≠0/\R (aer (.int .u32 (wrap .u32 (ae1 s.fst 4294967296)))) h)):Cl 220 [.int .u64 p,.i q] h R:=vi func220 H
theorem sS(n:Int)(H:Go.Vc.Loop (dL,2) h λ(s:Sl×Int) h K=>If (decide ((nR s)<n)) (Go.Vc.Loop (true,0) h λ(a:Bool×Int) h b=>If (decide (a.snd<(nR s))) (WW a.snd s.fst 1 0 h λn=>If a.fst (n≠0/\b (!decide (ae1 s.snd n=0),wrap .i64 (a.snd+1)) h) (b (false,wrap .i64 (a.snd+1)) h)) (If a.fst (fR h (.int .u64 s.snd) 53 1 s.fst λc h=>K (c,wrap .u64 (s.snd+1)) h) (K (s.fst,wrap .u64 (s.snd+1)) h))) (zn R s h)):Cl 219 [.i n] h R:=vi func219 H
theorem zG(q:LU)(H:dH h λr=>(Ol q 128)<=9223372036854775807/\Go.Vc.Loop (q++(ae0 #[(128:UInt8)]).data.toList) r λ(s:LU) l K=>(aG 64)≠0/\If (!decide (ae1 (c4 s) (aG 64)=56)) ((Ol s 0)<=9223372036854775807/\K (s++(ae0 #[(0:UInt8)]).data.toList) l) (Go.Vc.Loop (s,7) l λ(a:LU×Int) d K=>If (decide (0<=a.snd)) (0<=wrap .u64 (wrap .i64 (8*a.snd))/\gu λbs=>jM (W9 d q a) (aeP (some (aeQ d.size 0)) 1 1) bs/\(↑(aeU a.fst+aeU bs):Int)<=9223372036854775807/\K (a.fst++bs,wrap .i64 (a.snd-1)) (W9 d q a)) (cu d (Ft) 289 λt=>zf 219 [bh 8] t λm u=>Go.Vc.Loop (aG 0) u λ(g:Int) f K=>If (gU g m) (WW g m 1 0 f λn=>ua 220 [.int .u64 n,bh 2] f λn h=>pM g 8 h d.size 0 1 1 (.int .u32 n) λh=>K (c5 g 1) h) (cu f (xI) 293 λv=>zf 219 [bh 64] v λo x=>Go.Vc.Loop (aG 0) x λ(i:Int) k K=>If (gU i o) (WW i o 1 0 k λn=>ua 220 [.int .u64 n,bh 3] k λn h=>pM i 64 h f.size 0 1 1 (.int .u32 n) λh=>K (c5 i 1) h) (Go.Vc.Loop (aG 0) k λ(c:Int) e K=>If (decide (c<(↑(aeU a.fst):Int))) (∃(w:Ws 8),jc e d.size 0 aeI 8 w/\∃(p:Ws 64),jc e f.size 0 aeI 64 p/\0<=wrap .i64 (c+64)/\wrap .i64 (c+64)<=(↑(aeU a.fst):Int)/\0<=c/\c<=wrap .i64 (c+64)/\aaJ 221 [BN w,.words aeI 64 p,.str (afx (aeL (c5 c 64)-aeL c) (afE c.toNat a.fst))] e λw h=>bS h d.size 0 8 (BN w) λh=>K (c5 c 64) h) (cu e (fU) 52 λy=>Go.Vc.Loop (aG 0) y λ(s:Int) j K=>If (decide (s<32)) ((aG 4)≠0/\0<=wrap .i64 (aeY s 4)/\wrap .i64 (aeY s 4)<(↑8:Int)/\xG j d.size (0+aeL (wrap .i64 (aeY s 4))*1) λn=>(aG 4)≠0/\0<=wrap .u64 (wrap .i64 (24-wrap .i64 (8*ae1 s 4)))/\pM s 32 j e.size 0 1 1 (.int .u8 (wrap .u8 (aeW n ((aG 2)^min (aeL (wrap .u64 (wrap .i64 (24-wrap .i64 (8*ae1 s 4))))) (aeF .u32))))) λh=>K (c5 s 1) h) (CK j e.size 0 λb=>bS j h.size 0 32 (bK b) λz=>De z h R))))))):Cl 156 [.str q] h R:=vi func156 H
theorem Mm(q:Sl)(H:dH h λd=>aaJ 257 [] d λw a=>cu a (.agg [BN w,.slice aeX,.int .u64 0]) 333 λe=>Go.Vc.Loop (aG 0) e λ(s:Int) c K=>If (gU s q) (Ob s q 1 0 c λf=>lQ 258 [fh a,.str f] c λh=>K (c5 s 1) h) (iH 259 [fh a] c λb g=>xQ g h b R)):Cl 201 [.slice q] h R:=vi func201 H
open Go.IntKind (wrap)
theorem mG(n q:Int)(H:If (decide (q<=0)) (R (aer (Dd)) h) ((aG 256)≠0/\(aG 256)≠0/\(Ext h (aeH h (Mf n))/\gu λbs=>jM (Array.mk (List.concat h.toList (Mf n))) (dI h 1 1) bs/\fT 222 [.int .u64 (wrap .u64 (aeY n 256)),.i (wrap .i64 (mn q (aG 8)-1))] (aeH h (Mf n)) λs a=>Ext (aeH h (Mf n)) a/\zo bs s (R (aer (.str (bs++s))) a))/\fT 222 [.int .u64 (wrap .u64 (aeY n 256)),.i (wrap .i64 (mn q (aG 8)-1))] h λs a=>Ext h a/\Ext a (aeH a (Mf n))/\gu λbs=>jM (Array.mk (List.concat a.toList (Mf n))) (dI a 1 1) bs/\zo bs s (R (aer (.str (bs++s))) (aeH a (Mf n))))):Cl 222 [.int .u64 n,.i q] h R:=vi func222 H
theorem lV(a b:Bs 32)(H:bV h a λd=>bV d b λe=>Go.Vc.Loop (false,0) e λ(s:Bool×Int) c K=>If (decide (s.snd<32)) (xF s.snd 32 c h.size 0 1 λn=>xF s.snd 32 c d.size 0 1 λf=>If (!decide (n=f)) (xF s.snd 32 c h.size 0 1 λn=>xF s.snd 32 c d.size 0 1 λg=>R (aer (.bool (decide (n<g)))) c) (K (HB s 1) c)) (R (mN) c)):Cl 133 [.bytes 32 a,.bytes 32 b] h R:=vi func133 H
open Go.IntKind (wrap)
theorem Ga(slot who:Int)(H:dH h λc=>zf 260 [.slice aeX,rH slot,bh 4] c λs d=>zf 260 [.slice s,rH who,bh 2] d λs a=>gu λbs=>jM a s bs/\iH 201 [jg a 2 2] (aeH a (row (aeM [.str (Kl).data.toList,.str bs]) 9)) λb e=>xQ e h b R):Cl 314 [.i slot,.i who] h R:=vi func314 H
theorem zI(x:Int)(H:R (aer (.bool !decide (x=x))) h):ClS 334 [.i x] h R:=viS func334 H
theorem vT(x y:Int)(H:iB Tryz.prog 334 (aeS [aT x]) h λv h=>qL v λb=>iB Tryz.prog 334 (aeS [aT y]) h λv h=>qL v λa=>If b (If a (R (dO 0) h) (R (lR) h)) (If a (R (dO 1) h) (If (decide (x<y)) (R (lR) h) (If (decide (y<x)) (R (dO 1) h) (R (dO 0) h))))):ClS 336 [.i x,.i y] h R:=viS func336 H
theorem Cj(q:Bs 32)(A:Int)(B:Bs 32)(E:Int)(H:cu h (Mc q A) 385 λa=>cu a (Mc B E) 385 λe=>bu e h 0 λb=>bu e a 0 λf=>iB Tryz.prog 198 (aeS [bK b,bK f]) e λv c=>qL v λb=>If b (R (lR) c) (dZ c a 0 λb=>dZ c h 0 λg=>iB Tryz.prog 198 (aeS [bK b,bK g]) c λv d=>qL v λb=>If b (R (dO 1) d) (cV d h 32 λn=>cV d a 32 λi=>iB Tryz.prog 336 (aeS [aT n,aT i]) d λv h=>∃(n:Int),v=aer (aT n)/\R (aer (aT n)) h))):ClS 316 [(Mc q A),(Mc B E)] h R:=viS func316 H
theorem Bl(q:Sl)(A B:Int)(E G:Int)(I J:Int)(M O:Int)(U W:Int)(Z slot:Int)(H:cu h (bA q A B E G I J M O U W Z) 24 λd=>bU (λs e=>fK e h 0 λs=>Go.Vc.Loop (dL,0) e λ(c:Sl×Int) f K=>If (jT c s) (iH 314 [aT slot,.i c.snd] f λb h=>fR h (Mc b c.snd) 385 33 c.fst λs h=>K (s,fJ c) h) (lQ 315 [.slice c.fst,.fn (Fn.func 316) [] []] f λg=>aJ g h 2 λn=>0<=mn (mx n 0) (nR c)/\mn (mx n 0) (nR c)<=(↑c.fst.cap:Int)/\Go.Vc.Loop (dL,0) g λ(s:Sl×Int) h K=>If (decide (s.snd<(↑(aA c.fst 0 (aeL (mn (mx n 0) (nR c))) 33).len:Int))) (0<=s.snd/\s.snd<(↑(aA c.fst 0 (aeL (mn (mx n 0) (nR c))) 33).len:Int)/\Nn (aA c.fst 0 (aeL (mn (mx n 0) (nR c))) 33).a λl=>acy h l.b (l.o+aeL s.snd*33) λb n=>qv h (acz) 385 33 (Mc b n) λj=>t_ j h.size 32 λn=>fR j (aT n) 3 1 s.fst λk h=>K (k,fJ s) h) (zn R s h))) λm=>If (decide (slot<0)) (pW R d) (If (decide (1073741824<slot)) (pW R d) (m (dL) d))):Cl 279 [(bA q A B E G I J M O U W Z),.i slot] h R:=vi func279 H
open Go.IntKind (wrap)
theorem nW(q:Sl)(A:Int)(H:Go.Vc.Loop (0,0) h λ(s:Int×Int) h K=>If (jN s q) (kG s.snd q 1 0 h λn=>If (decide (A=n)) (R (aer (.i s.snd)) h) (K (s.fst,iP s) h)) (R (lR) h)):Cl 280 [.slice q,.i A] h R:=vi func280 H
theorem Dr(q:Sl)(A B:Int)(E G:Int)(I J:Int)(M O:Int)(U W:Int)(Z slot:Int)(who:Int)(H:cu h (bA q A B E G I J M O U W Z) 24 λa=>iG a h.size 0 λs n b c d e f g j k l m=>zf 279 [(bA s n b c d e f g j k l m),aT slot] a λs h=>mM 280 [.slice s,aT who] h λn h=>dw R n h):Cl 235 [(bA q A B E G I J M O U W Z),.i slot,.i who] h R:=vi func235 H
theorem zJ(q:Sl)(A B:Int)(E G:Int)(I J:Int)(M O:Int)(U W:Int)(Z slot:Int)(H:cu h (bA q A B E G I J M O U W Z) 24 λa=>iG a h.size 0 λs n b c d e f g j k m o=>zf 279 [(bA s n b c d e f g j k m o),aT slot] a λs h=>If (decide (0<(bN s))) (Be s λl=>t_ h l.b (gT l 0 1) λn=>dw R n h) (R (lR) h)):Cl 234 [(bA q A B E G I J M O U W Z),.i slot] h R:=vi func234 H
theorem EE(q:Sl)(A B:Int)(E G:Int)(I J:Int)(M O:Int)(U W:Int)(Z slot:Int)(bits:Sl)(H:cu h (bA q A B E G I J M O U W Z) 24 λc=>iG c h.size 0 λs n d e f g j k l m o p=>zf 279 [(bA s n d e f g j k l m o p),aT slot] c λs h=>bU (λ(t:Sl×Bool) h=>Go.Vc.Loop (dL,0) h λ(a:Sl×Int) h K=>If (jT a s) (kG a.snd s 1 0 h λn=>Hy a.snd bits 1 0 h λb=>If b (fR h (aT n) 3 1 a.fst λs h=>K (s,fJ a) h) (K (a.fst,fJ a) h)) (R (aer (.aX [.slice a.fst,.bool true])) h)) λr=>If (decide ((bN s)=0)) (R (sN) h) (If (!decide ((bN bits)=(bN s))) (R (sN) h) (r (dL,false) h))):Cl 233 [(bA q A B E G I J M O U W Z),.i slot,.slice bits] h R:=vi func233 H
theorem uw(q:Sl)(A B:Int)(E G:Int)(I J:Int)(M O:Int)(U W:Int)(Z:Int)(H:cu h (bA q A B E G I J M O U W Z) 24 λa=>iz a h 0 λs=>If (decide (100<(bN s))) (R (i_) a) (iz a h 0 λs=>Go.Vc.Loop (false,0) a λ(b:Bool×Int) h K=>If (Fq b s) (WO b.snd s 2 0 h λn s=>qv h (WQ) 137 2 (N8 n s) λc=>Cd c h.size 1 λs=>If (decide (200<(c4 s))) (R (i_) c) (K (HB b 1) c)) (R (mN) h))):Cl 18 [bA q A B E G I J M O U W Z] h R:=vi func18 H
theorem ux(q:Sl)(H:Go.Vc.Loop (0,false,0,0) h λ(s:Int×Bool×Int×Int) h K=>If (decide (s.snd.snd.snd<(bN q))) (WO s.snd.snd.snd q 2 0 h λn b=>qv h (WQ) 137 2 (N8 n b) λa=>t_ a h.size 0 λn=>If (decide (n<0)) (R (Fs) a) (Cd a h.size 1 λc=>If (decide ((c4 c)<1)) (R (Fs) a) (Cd a h.size 1 λd=>If (decide (32<(c4 d))) (R (Fs) a) (t_ a h.size 0 λn=>If (decide (4611686018427387904<=wrap .u64 (s.snd.snd.fst+wrap .u64 n))) (R (Fs) a) (K (s.fst,s.snd.fst,wrap .u64 (s.snd.snd.fst+wrap .u64 n),wrap .i64 (s.snd.snd.snd+1)) a))))) (R (aer (.aX [.i (wrap .i64 s.snd.snd.fst),.bool true])) h)):Cl 163 [.slice q] h R:=vi func163 H
theorem rL(q:Sl)(A B:Int)(E G:Int)(I J:Int)(M O:Int)(U W:Int)(Z:Int)(H:cu h (bA q A B E G I J M O U W Z) 24 λa=>mO a h 1 2 λn b=>iz a h 0 λs=>mO a h 3 4 λc d=>mO a h 5 6 λe f=>mO a h 7 8 λg j=>mO a h 9 10 λk l=>aJ a h 11 λm=>iz a h 0 λo=>R (aer (jg a 24 24)) (aeH a (row (aeM [aT n,bh 32,aT b,.i (mn 16 (bN s)),aT c,bh 256,aT d,bh 64,aT e,bh 64,aT f,bh 64,aT g,bh 16,aT j,bh 256,aT k,bh 64,aT l,bh 1048576,aT m,bh 1048576,mC o,bh 64]) 3))):Cl 162 [bA q A B E G I J M O U W Z] h R:=vi func162 H
theorem vW(q:Sl)(A B:Int)(E G:Int)(I J:Int)(M O:Int)(U W:Int)(Z:Int)(H:cu h (bA q A B E G I J M O U W Z) 24 λe=>iG e h.size 0 λs n f g i j k m o p r t=>zf 162 [bA s n f g i j k m o p r t] e λd u=>Go.Vc.Loop (false,0) u λ(c:Bool×Int) a K=>If (Fq c d) (kG c.snd d 1 0 a λv=>If (decide (v<1)) (R (mN) a) (kG c.snd d 1 0 a λw=>0<=wrap .i64 (c.snd+1)/\wrap .i64 (c.snd+1)<(bN d)/\Nn d.a λl=>t_ a l.b (l.o+aeL (wrap .i64 (c.snd+1))*1) λx=>If (decide (x<w)) (R (mN) a) (K (HB c 2) a))) (fK a h 0 λs=>acB 163 [.slice s] a λn b h=>jw R b h)):Cl 96 [bA q A B E G I J M O U W Z] h R:=vi func96 H
open Go.IntKind (wrap)
theorem zK(t:OL)(who:Int)(H:If (!aeR t) (If (decide (0<=who)) (aI t 1 h λs=>R (aer (.bool (gU who s))) h) (bO R h)) (bO R h)):Cl 135 [.ptr t,.i who] h R:=vi func135 H
theorem vZ(t:OL)(who:Int)(H:cu h (Md) 124 λd=>cQ 135 (c7 t who) d λb a=>If (!b) (Xg a h R) (aI t 1 a λs=>WZ who s 1 0 a λp=>If (aeR p) (Xg a h R) (aI t 1 a λs=>WZ who s 1 0 a λp=>acT p 0 a λn e b=>bS a h.size 0 34 (mj n e b) λc=>Me c h.size 0 λn f b=>R (aer (.aX [(mj n f b),.bool true])) c))):Cl 70 [.ptr t,.i who] h R:=vi func70 H
theorem sU(t:OL)(who:Int)(H:cQ 135 (c7 t who) h λb h=>If b (aI t 2 h λs=>Hy who s 1 0 h λb=>R (aer (.bool !b)) h) (bO R h)):Cl 71 [.ptr t,.i who] h R:=vi func71 H
open Go.IntKind (wrap)
theorem wg(t:OL)(q A:Int)(B:Bs 32)(H:cu h (mj q A B) 124 λg=>bU (λ(s:Int) a=>gF t 2 a λs=>cV a h 0 λn=>Hy n s 1 0 a λb=>If b (R (dO 4) a) (cV a h 0 λn=>cV a h 1 λv=>eA t 0 a λi=>i≠0/\cu a (acI) 310 λj=>Ext a j/\bS j a.size 0 2 (N_ n (wrap .i64 (aeY v i))) λf=>vG t 3 f λr=>abo f a.size 0 λn k=>yP f r λes c=>dc ctx (Oh) es/\∃(b:Bs 32),TW (dP (N_ n k) es) (fU)=.bytes 32 b/\dH f λm=>Ext f m/\bS m f.size 0 32 (bK b) λe=>If (Jm (N_ n k) es) (bu e f 0 λb=>bu e h 2 λw=>If (mE b w) (aD R 1 e) (aI t 2 e λs=>aJ e h 0 λn=>zi n s.len s.a 1 0 e 1 (.bool true) λh=>aD R 2 h)) (vG t 3 e λr=>abo e a.size 0 λn o=>bu e h 2 λb=>sr r λl es c=>e[l]? =some (bP es c)/\dc ctx (Oh) es/\Vc.Bind (ae3 e l (bP (iA (N_ n o) (bK b) c es) (eN (N_ n o) c es))) λd=>aI t 1 d λs=>aJ d h 0 λn=>WZ n s 1 0 d λp=>If (!aeR p) (eA p 1 d λn=>eA t 0 d λu=>u≠0/\t_ d a.size 1 λx=>If (decide (x<wrap .i64 (aeY n u))) (aD R 3 d) (aI t 1 d λs=>aJ d h 0 λn=>zi n s.len s.a 1 0 d 1 (fh h) λh=>aD R 0 h)) (aI t 1 d λs=>aJ d h 0 λn=>zi n s.len s.a 1 0 d 1 (fh h) λh=>aD R 0 h)))) λy=>aJ g h 0 λn=>cQ 135 (c7 t n) g λb a=>If (!b) (aD R 5 a) (aJ a h 1 λn=>If (decide (n<0)) (aD R 5 a) (aJ a h 1 λn=>If (decide (1073741824<n)) (aD R 5 a) (y 0 a)))):Cl 172 [.ptr t,(mj q A B)] h R:=vi func172 H
open Go.IntKind (wrap)
theorem Dw(b q:Sl)(H:(aG 8)≠0/\0<=wrap .i64 (Oo q)/\wrap .i64 (Oo q)*(↑1:Int)<=70368744177664/\aq ctx 5 b (aeL (wrap .i64 (Oo q))) (List.replicate (aeL (wrap .i64 (Oo q))) (.int .u8 0)) h λ(s:Sl) h=>Go.Vc.Loop (aG 0) h λ(a:Int) h K=>If (gU a q) (Hy a q 1 0 h λc=>If c ((aG 8)≠0/\0<=wrap .i64 (HG b a)/\wrap .i64 (HG b a)<(bN s)/\Nn s.a λl=>Ue h l.b (l.o+aeL (wrap .i64 (HG b a))*1) λn=>(aG 8)≠0/\0<=ae1 a 8/\0<=wrap .i64 (HG b a)/\wrap .i64 (HG b a)<(bN s)/\Nn s.a λl=>bS h l.b (l.o+aeL (wrap .i64 (HG b a))*1) 1 (.int .u8 (wrap .u8 (↑(aeO (aeK (aeF .u8) n|||aeK (aeF .u8) (wrap .u8 ((aG 1)*(aG 2)^min (aeL (ae1 a 8)) (aeF .u8))))):Int))) λh=>K (c5 a 1) h) (K (c5 a 1) h)) (0<=wrap .i64 ((bN s)-1)/\wrap .i64 ((bN s)-1)<(bN s)/\Nn s.a λl=>Ue h l.b (l.o+aeL (xL s)*1) λn=>(aG 8)≠0/\0<=ae1 (bN q) 8/\0<=wrap .i64 ((bN s)-1)/\wrap .i64 ((bN s)-1)<(bN s)/\Nn s.a λl=>bS h l.b (l.o+aeL (xL s)*1) 1 (.int .u8 (wrap .u8 (↑(aeO (aeK (aeF .u8) n|||aeK (aeF .u8) (wrap .u8 ((aG 1)*(aG 2)^min (aeL (ae1 (bN q) 8)) (aeF .u8))))):Int))) λh=>R (aer (.slice s)) h)):Cl 296 [.slice b,.slice q] h R:=vi func296 H
theorem gN(q:Sl)(A:Bool)(H:Go.Vc.Loop (0,0) h λ(s:Int×Int) h K=>If (jN s q) (Hy s.snd q 1 0 h λb=>If (A==b) (R (aer (.i s.snd)) h) (K (s.fst,iP s) h)) (R (lR) h)):Cl 200 [.slice q,.bool A] h R:=vi func200 H
theorem fN(q:Sl)(A:Bool)(H:mM 200 [.slice q,.bool A] h λn h=>R (aer (.bool (decide (0<=n)))) h):Cl 140 [.slice q,.bool A] h R:=vi func140 H
theorem Gc(q A:Int)(B:Bs 32)(E G:Int)(I:Sl)(J:Bs 16)(H:dh h q A B E G I J λc=>bU (λ(s:Bool) a=>cV a h 0 λn=>If (decide (n=3)) (cV a h 34 λn=>If (decide (n=0)) (fK a h 36 λs=>If (decide ((bN s)<=16)) (fK a h 36 λs=>cQ 140 [.slice s,.bool true] a λb h=>jw R b h) (R (mN) a)) (R (mN) a)) (cV a h 0 λn=>If (decide (n=1)) (fK a h 36 λs=>R (aer (.bool (decide ((bN s)=0)))) a) (cV a h 0 λn=>If (decide (n=2)) (fK a h 36 λs=>R (aer (.bool (decide ((bN s)=0)))) a) (R (mN) a)))) λd=>aJ c h 1 λn=>If (decide (n<0)) (bO R c) (aJ c h 1 λn=>If (decide (1073741824<n)) (bO R c) (aJ c h 34 λn=>If (decide (n<0)) (bO R c) (aJ c h 34 λn=>If (decide (65535<n)) (bO R c) (aJ c h 0 λn=>If (!decide (n=1)) (QF c h.size 35 λn=>If (!decide (n=0)) (bO R c) (d false c)) (d false c)))))):Cl 232 [gL q A B E G I J] h R:=vi func232 H
open Go.IntKind (wrap)
theorem EL(q A:Int)(B:Bs 32)(E G:Int)(I:Sl)(J:Bs 16)(H:dh h q A B E G I J λb=>aJ b h 0 λn=>t_ (aeH b (row (aeM [.int .u8 (wrap .u8 n)]) 5)) h.size 1 λe=>zf 260 [jg b 1 1,rH e,bh 4] (aeH b (row (aeM [.int .u8 (wrap .u8 n)]) 5)) λs d=>iJ λnew=>cv d (fC h 2 32 32 32) 1 new/\iI new (aq tR 5 s (fC h 2 32 32 32).len new d λs a=>aJ a h 0 λn=>If (decide (n=1)) (∃(c:Array Obj),Vc.Sub c a/\t_ c h.size 34 λn=>QF c h.size 35 λf=>zf 260 [.slice s,rH n,bh 2] a λs h=>Vc.Sub c h/\zf 260 [.slice s,.int .u64 f,bh 8] h λs h=>BF h s R) (If (decide (n=2)) (aJ a h 34 λn=>zf 260 [.slice s,rH n,bh 2] a λs h=>BF h s R) (If (decide (n=3)) (iz a h 36 λg=>zf 296 [.slice s,.slice g] a λs h=>BF h s R) (BF a s R))))):Cl 265 [gL q A B E G I J] h R:=viL func265 H
open Go.IntKind (wrap)
theorem uA(q:Sl)(H:iJ λnew=>cv (jY h 4) q 1 new/\iI new (aq ctx 4 (dI h 0 0) q.len new (jY h 4) λs m=>fR m (.bool true) 4 1 s λg o=>Go.Vc.Loop (dL,0) o λ(c:Sl×Int) d K=>If (jT c g) (Hy c.snd g 1 0 d λb=>bU (λa i=>If b (Go.Vc.Loop (1,0) i λ(e:Int×Int) f p=>(aG 8)≠0/\If (decide (e.snd<ae1 c.snd 8)) (p (wrap .i64 (2*e.fst),iP e) f) (0<=wrap .i64 ((↑a.len:Int)-1)/\wrap .i64 ((↑a.len:Int)-1)<(↑a.len:Int)/\Nn a.a λj=>Ue f j.b (j.o+aeL (wrap .i64 ((↑a.len:Int)-1))*1) λn=>0<=wrap .i64 ((↑a.len:Int)-1)/\wrap .i64 ((↑a.len:Int)-1)<(↑a.len:Int)/\Nn a.a λk=>bS f k.b (k.o+aeL (wrap .i64 ((↑a.len:Int)-1))*1) 1 (.int .u8 (wrap .u8 (n+wrap .u8 e.fst))) λh=>K (a,fJ c) h)) (K (a,fJ c) i)) λl=>(aG 8)≠0/\If (decide (ae1 c.snd (aG 8)=0)) (fR d (.int .u8 0) 5 1 c.fst λs h=>l s h) (l c.fst d)) (gu λbs=>jM d c.fst bs/\R (aer (.str bs)) d))):Cl 223 [.slice q] h R:=vi func223 H
theorem wv(q A:Int)(B:Bs 32)(E G:Int)(I:Sl)(J:Bs 16)(H:dh h q A B E G I J λc=>bU (λ(s:Bool×Bool×Bool) e=>fK e h 36 λs=>Go.Vc.Loop (0,0) e λ(d:Int×Int) a K=>If (jN d s) (Hy d.snd s 1 0 a λb=>If b (K (wrap .i64 (d.fst+1),iP d) a) (K (d.fst,iP d) a)) (cV a h 0 λn=>If (decide (n=3)) (cV a h 34 λn=>If (decide (n=0)) (QF a h.size 35 λn=>If (decide (n=0)) (fK a h 36 λs=>If (decide ((bN s)<=16)) (R (aer (.bool (decide (0<d.fst)))) a) (R (mN) a)) (R (mN) a)) (R (mN) a)) (fK a h 36 λs=>If (decide ((bN s)=0)) (cV a h 0 λn=>If (decide (n=1)) (R (i_) a) (QF a h.size 35 λn=>R (aer (.bool (decide (n=0)))) a)) (R (mN) a)))) λf=>aJ c h 0 λn=>If (decide (n<1)) (bO R c) (aJ c h 0 λg=>If (decide (3<g)) (bO R c) (aJ c h 1 λi=>If (decide (i<0)) (bO R c) (aJ c h 1 λj=>If (decide (1073741824<j)) (bO R c) (aJ c h 34 λk=>If (decide (k<0)) (bO R c) (aJ c h 34 λl=>If (decide (65535<l)) (bO R c) (f (false,decide (n<1),false) c))))))):Cl 97 [gL q A B E G I J] h R:=vi func97 H
open Go.IntKind (wrap)
theorem lX(b:Sl)(H:BF h b R):Cl 159 [.slice b] h R:=vi func159 H
theorem uB(q A:Int)(B:Bs 32)(E G:Int)(I:Sl)(J:Bs 16)(H:dh h q A B E G I J λf=>bU (λ(s:Int×Int×LU×Int×Int×LU×LU×Sl×Sl×Sl×LU×LU×LU) c=>cV c h 0 λn=>If (decide (n=3)) (fK c h 36 λa=>fT 223 [.slice a] c λd b=>(↑(aeU s.snd.snd.snd.snd.snd.snd.snd.snd.snd.snd.snd.snd+aeU d):Int)<=9223372036854775807/\R (aer (.str (s.snd.snd.snd.snd.snd.snd.snd.snd.snd.snd.snd.snd++d))) b) (cV c h 34 λn=>fT 222 [rH n,bh 2] c λa b=>(↑(aeU s.snd.snd.snd.snd.snd.snd.snd.snd.snd.snd.snd.snd+aeU a):Int)<=9223372036854775807/\aJ b h 0 λn=>If (decide (n=1)) (QF b h.size 35 λn=>fT 222 [.int .u64 n,bh 8] b λd i=>(↑(aeU (s.snd.snd.snd.snd.snd.snd.snd.snd.snd.snd.snd.snd++a)+aeU d):Int)<=9223372036854775807/\R (aer (.str (s.snd.snd.snd.snd.snd.snd.snd.snd.snd.snd.snd.snd++a++d))) i) (R (aer (.str (s.snd.snd.snd.snd.snd.snd.snd.snd.snd.snd.snd.snd++a))) b))) λk=>mO f h 0 1 λn g=>(fT 222 [rH n,bh 1] f λs c=>Ext f c/\(fT 222 [rH g,bh 4] c λa b=>zo s a (Ext b (jY b 5)/\iJ λnew=>cv (jY b 5) (fC h 2 32 32 32) 1 new/\iI new (aq ctx 5 (dI b 0 0) (fC h 2 32 32 32).len new (jY b 5) λd i=>fT 159 [.slice d] i λe j=>(↑(aeU (s++a)+aeU e):Int)<=9223372036854775807/\k (n,wrap .u64 n,s,g,wrap .u64 g,a,s++a,dI b 0 0,fC h 2 32 32 32,d,e,s++a++e,s++a++e) j)))/\Ext c (jY c 5)/\fT 222 [rH g,bh 4] (jY c 5) λa b=>zo s a (iJ λnew=>cv b (fC h 2 32 32 32) 1 new/\iI new (aq ctx 5 (dI c 0 0) (fC h 2 32 32 32).len new b λd i=>fT 159 [.slice d] i λe j=>(↑(aeU (s++a)+aeU e):Int)<=9223372036854775807/\k (n,wrap .u64 n,s,g,wrap .u64 g,a,s++a,dI c 0 0,fC h 2 32 32 32,d,e,s++a++e,s++a++e) j)))/\Ext f (jY f 5)/\fT 222 [rH n,bh 1] (jY f 5) λs c=>Ext (jY f 5) c/\fT 222 [rH g,bh 4] c λa b=>zo s a (iJ λnew=>cv b (fC h 2 32 32 32) 1 new/\iI new (aq ctx 5 (dI f 0 0) (fC h 2 32 32 32).len new b λd i=>fT 159 [.slice d] i λe j=>(↑(aeU (s++a)+aeU e):Int)<=9223372036854775807/\k (n,wrap .u64 n,s,g,wrap .u64 g,a,s++a,dI f 0 0,fC h 2 32 32 32,d,e,s++a++e,s++a++e) j))):Cl 158 [gL q A B E G I J] h R:=vi func158 H
open Go.IntKind (wrap)
theorem Dy(q:Int)(A:Bs 32)(B:Int)(E:Bs 32)(G:LU)(I:Int)(J:Bs 32)(M:Int)(O:Bs 32)(U:LU)(H:cu h (bW q A B E G) 242 λc=>cu c (bW I J M O U) 242 λa=>aJ a h 0 λn=>aJ a c 0 λd=>If (decide (n<d)) (R (i_) a) (aJ a h 0 λn=>aJ a c 0 λe=>If (decide (n=e)) (bu a h 1 λb=>bu a c 1 λf=>iB Tryz.prog 198 (aeS [bK b,bK f]) a λv h=>qL v λb=>R (aer (.bool b)) h) (bO R a))):ClS 256 [(bW q A B E G),(bW I J M O U)] h R:=viS func256 H
theorem Bo(q:Sl)(H:R (aer (mC q)) h):Cl 213 [.slice q] h R:=vi func213 H
theorem zM(q:Sl)(i k:Int)(H:zj k q 67 0 h λn b a c s=>zj i q 67 0 h λd e f g j=>cQ 256 [(bW n b a c s),(bW d e f g j)] h λb h=>jw R b h):Cl 373 [.slice q,.i i,.i k] h R:=vi func373 H
theorem zN(q:Sl)(i k:Int)(H:zj k q 67 0 h λn b a c s=>zj i q 67 0 h λd e f g j=>zi i q.len q.a 67 0 h 67 (bW n b a c s) λh=>zi k q.len q.a 67 0 h 67 (bW d e f g j) λh=>R (eX) h):Cl 374 [.slice q,.i i,.i k] h R:=vi func374 H
theorem zO(q:OL)(x:Vc.One)(H:aI q 0 h λs=>∃(n:Int),∃(b:Bs 32),∃(a:Int),∃(c:Bs 32),gu λd=>x.v=afg 242 (aer (bW n b a c d))/\Ext h (aeH h (zq n b a c d 242))/\fR h (bW n b a c d) 242 67 s λs h=>jv q 0 h s λh=>R (eX) h):Cl 375 [.ptr q,.one x] h R:=vi func375 H
theorem uD(q:Vc.One)(j:Int)(H:Go.Vc.Loop j h λ(s:Int) h K=>(aG 2)≠0/\If (decide (wrap .i64 (aeY (iQ s 1) 2)=s)) (R (eX) h) (Hz q h "Less" [aT s,.i (wrap .i64 (aeY (iQ s 1) 2))] λv h=>∃(b:Bool),v=aer (.bool b)/\If (!b) (R (eX) h) (Hz q h "Swap" [.i (wrap .i64 (aeY (iQ s 1) 2)),aT s] λv h=>v=aer (.aX [])/\K (wrap .i64 (aeY (iQ s 1) 2)) h))):Cl 300 [.one q,.i j] h R:=vi func300 H
theorem rM(A:Vc.One)(q n:Int)(H:Go.Vc.Loop q h λ(s:Int) h K=>bU (λ(d:PUnit) h=>bU (λ(c:Int) h=>Hz A h "Less" [aT c,aT s] λv h=>∃(b:Bool),v=aer (.bool b)/\If (!b) (R (aer (.bool (decide (q<s)))) h) (Hz A h "Swap" [aT s,aT c] λv h=>v=aer (.aX [])/\K c h)) λa=>If (decide (wrap .i64 (wrap .i64 (lS 2 s 1)+1)<n)) (Hz A h "Less" [.i (wrap .i64 (wrap .i64 (lS 2 s 1)+1)),.i (wrap .i64 (lS 2 s 1))] λv h=>∃(b:Bool),v=aer (.bool b)/\If b (a (wrap .i64 (wrap .i64 (lS 2 s 1)+1)) h) (a (wrap .i64 (lS 2 s 1)) h)) (a (wrap .i64 (lS 2 s 1)) h)) λa=>If (decide (n<=wrap .i64 (lS 2 s 1))) (R (aer (.bool (decide (q<s)))) h) (If (decide (wrap .i64 (lS 2 s 1)<0)) (R (aer (.bool (decide (q<s)))) h) (a aeV h))):Cl 277 [.one A,.i q,.i n] h R:=vi func277 H
theorem rN(q x:Vc.One)(H:∃(t:Nat),∃(a:Value),∃(f:Nat),∃(b:Value),q.v=afg t a/\fG Tryz.prog h t a "Push" f b/\bB Tryz.prog f (b::aeS [.one x]) h λv h=>v=aer (.aX [])/\Hz q h "Len" [] λv h=>∃(n:Int),v=aer (aT n)/\lQ 300 [.one q,.i (iQ n 1)] h λh=>R (eX) h):Cl 269 [.one q,.one x] h R:=vi func269 H
theorem sX(q:Vc.One)(i:Int)(H:Hz q h "Len" [] λv h=>∃(n:Int),v=aer (aT n)/\cQ 277 [.one q,aT i,aT n] h λb h=>If (!b) (lQ 300 [.one q,aT i] h λh=>R (eX) h) (R (eX) h)):Cl 270 [.one q,.i i] h R:=vi func270 H
theorem rO(q:Vc.One)(H:Hz q h "Len" [] λv h=>∃(n:Int),v=aer (aT n)/\(aG 2)≠0/\Go.Vc.Loop (wrap .i64 (wrap .i64 (aeY n 2)-1)) h λ(s:Int) h K=>If (decide (0<=s)) (cQ 277 [.one q,aT s,aT n] h λb h=>K (iQ s 1) h) (R (eX) h)):Cl 225 [.one q] h R:=vi func225 H
theorem xX(q:Int)(A:Bs 32)(B:Int)(E:Bs 32)(G:LU)(I:Int)(J:Bs 32)(M:Int)(O:Bs 32)(U:LU)(H:cu h (bW q A B E G) 242 λc=>cu c (bW I J M O U) 242 λd=>sM d h.size 0 λn b e f s=>sM d c.size 0 λg i j k l=>iB Tryz.prog 256 (aeS [(bW n b e f s),(bW g i j k l)]) d λv a=>qL v λb=>If b (R (lR) a) (sM a c.size 0 λn b m o s=>sM a h.size 0 λp r t u w=>iB Tryz.prog 256 (aeS [(bW n b m o s),(bW p r t u w)]) a λv h=>qL v λb=>If b (R (dO 1) h) (R (dO 0) h))):ClS 255 [(bW q A B E G),(bW I J M O U)] h R:=viS func255 H
theorem iT(q:Sl)(H:If (aeR (Sl.p q)) (pW R h) (iJ λnew=>cv (jY h 242) q 67 new/\iI new (aq ctx 242 (dI h 0 0) q.len new (jY h 242) λs h=>R (aer (.slice s)) h))):Cl 253 [.slice q] h R:=vi func253 H
theorem Bp(p:OL)(H:If (aeR p) (pW R h) (aI p 0 h λs=>zf 253 [.slice s] h λs h=>lQ 254 [.slice s,.fn (Fn.func 255) [] []] h λh=>R (aer (.slice s)) h)):Cl 196 [.ptr p] h R:=vi func196 H
theorem iq(q:Sl)(f:Vc.One)(H:Go.Vc.Loop (0,0) h λ(s:Int×Int) h K=>If (jN s q) (zj s.snd q 67 0 h λn b a c d=>Ul f λg first cap=>bB Tryz.prog g (first.toList++aeS [bW n b a c d]++cap.toList) h λv h=>qL v λb=>If b (R (aer (.i s.snd)) h) (K (s.fst,iP s) h)) (R (lR) h)):Cl 224 [.slice q,.one f] h R:=vi func224 H
theorem gI(q:Sl)(f:Vc.One)(H:mM 224 [.slice q,.one f] h λn h=>R (aer (.bool (decide (0<=n)))) h):Cl 164 [.slice q,.one f] h R:=vi func164 H
theorem xY(q:Int)(A:Bs 32)(B:Int)(E:Bs 32)(G:LU)(p:OL)(H:cu h (bW q A B E G) 242 λa=>bu a h 1 λb=>Fl p 0 a λc=>R (aer (.bool (mE b c))) a):Cl 165 [(bW q A B E G),.ptr p] h R:=vi func165 H
theorem pO(p:OL)(root:Bs 32)(H:bV h root λa=>If (!aeR p) (aI p 0 a λs=>cQ 164 [.slice s,uh 165 h] a λb h=>jw R b h) (bO R a)):Cl 99 [.ptr p,.bytes 32 root] h R:=vi func99 H
theorem Bq(p:OL)(H:If (aeR p) (aD R 0 h) (aI p 0 h λs=>mM 213 [.slice s] h λn h=>dw R n h)):Cl 152 [.ptr p] h R:=vi func152 H
theorem Co(p:OL)(peer:Int)(H:zf 196 [.ptr p] h λs h=>ZI h s 242 peer R):Cl 268 [.ptr p,.i peer] h R:=vi func268 H
theorem Ic(most quota:Int)(H:If (decide (most<1)) (rG R h) (If (decide (64<most)) (rG R h) (If (decide (quota<1)) (rG R h) (If (decide (64<quota)) (rG R h) (cu h (aaI most quota) 244 λa=>mD R h a))))):Cl 145 [.i most,.i quota] h R:=vi func145 H
theorem Br(p:OL)(q:Int)(A:Bs 32)(B:Int)(E:Bs 32)(G:LU)(H:cu h (bW q A B E G) 242 λa=>cu a (sL) 242 λj=>If (aeR p) (FT j a R 12) (bu j h 1 λb=>cQ 99 [.ptr p,bK b] j λb d=>If b (FT d a R 9) (aJ d h 33 λn=>eA p 2 d λm=>mM 268 (c7 p n) d λn e=>Ext d e/\If (decide (m<=n)) (FT e a R 11) (eA p 1 e λn=>gM 152 p e λo c=>Ext e c/\If (decide (o<n)) (Nn p λl=>sM c h.size 0 λn b g i s=>lQ 269 [W8 l,.one (Vc.One.mk (afg 242 (aer (bW n b g i s))) (BT._proof_1 242 (bW n b g i s)))] c λh=>FT h a R 1) (sM c h.size 0 λn b g i s=>aI p 0 c λr=>Be r λl=>ZD c l.b (gT l 0 67) λt u v w x=>cQ 256 [(bW n b g i s),(bW t u v w x)] c λb f=>If (!b) (FT f a R 12) (aI p 0 f λs=>Be s λl=>ZD f l.b (gT l 0 67) λn b y z s=>qv f (sL) 242 67 (bW n b y z s) λk=>aI p 0 k λs=>sM k h.size 0 λn b C D F=>Be s λl=>bS k l.b (gT l 0 67) 67 (bW n b C D F) λh=>Nn p λl=>lQ 270 [W8 l,bh 0] h λh=>W7 h f a R)))))):Cl 212 [.ptr p,(bW q A B E G)] h R:=vi func212 H
open Go.IntKind (wrap)
theorem zQ(p:OL)(q:Vc.One)(H:If (aeR p) (pW R h) (zf 196 [.ptr p] h λs h=>Go.Vc.Loop (dL,dL,0) h λ(a:Sl×Sl×Int) h K=>If (decide (a.snd.snd<(bN s))) (zj a.snd.snd s 67 0 h λn b k m o=>qv h (sL) 242 67 (bW n b k m o) λj=>sM j h.size 0 λn b r t u=>Ul q λg first cap=>bB Tryz.prog g (first.toList++aeS [bW n b r t u]++cap.toList) j λv c=>qL v λb=>If b (sM c h.size 0 λn b d e f=>fR c (bW n b d e f) 242 67 a.fst λi h=>K (i,a.snd.fst,ue a) h) (sM c h.size 0 λn b d e f=>fR c (bW n b d e f) 242 67 a.snd.fst λi h=>K (a.fst,i,ue a) h)) (lN p 0 h 1 (.slice a.snd.fst) λh=>Nn p λl=>lQ 225 [W8 l] h λh=>R (aer (.slice a.fst)) h))):Cl 168 [.ptr p,.one q] h R:=vi func168 H
open Go.IntKind (wrap)
theorem sY(q:Int)(A:Bs 32)(B:Int)(E:Bs 32)(G:LU)(I:Int)(J:Bs 32)(M:Int)(O:Bs 32)(U:LU)(H:cu h (bW q A B E G) 82 λc=>cu c (bW I J M O U) 82 λa=>aJ a h 0 λn=>aJ a c 0 λd=>If (!decide (n=d)) (aJ a h 0 λn=>aJ a c 0 λe=>R (aer (.bool (decide (n<e)))) a) (bu a h 1 λb=>bu a c 1 λf=>cQ 133 [bK b,bK f] a λb h=>jw R b h)):Cl 288 [(bW q A B E G),(bW I J M O U)] h R:=vi func288 H
theorem rP(p:OL)(peer:Int)(H:aI p 0 h λs=>ZI h s 82 peer R):Cl 287 [.ptr p,.i peer] h R:=vi func287 H
theorem qV(p:OL)(root:Bs 32)(H:bV h root λe=>aI p 0 e λs=>Go.Vc.Loop (false,0) e λ(d:Bool×Int) a K=>If (Fq d s) (zj d.snd s 67 0 a λn b f g s=>qv a (sL) 82 67 (bW n b f g s) λc=>CK c a.size 1 λb=>bu c h 0 λi=>If (mE b i) (R (i_) c) (K (HB d 1) c)) (R (mN) a)):Cl 186 [.ptr p,.bytes 32 root] h R:=vi func186 H
theorem xZ(most quota:Int)(H:cu h (aaI most quota) 74 λa=>SR most 64 quota R h 64 a):Cl 93 [.i most,.i quota] h R:=vi func93 H
theorem qW(p:OL)(E:Int)(G:Bs 32)(I:Int)(J:Bs 32)(M:LU)(H:cu h (bW E G I J M) 82 λf=>cu f (sL) 82 λC=>bu C h 1 λb=>cQ 186 [.ptr p,bK b] C λb t=>If b (FT t f R 9) (aJ t h 33 λn=>eA p 2 t λN=>mM 287 (c7 p n) t λn e=>Ext t e/\If (decide (N<=n)) (FT e f R 11) (aI p 0 e λs=>bU (λ(D:Int) O=>Go.Vc.Loop (aG 0) O λ(a:Int) c K=>If (gU a s) (sM c h.size 0 λn b g i j=>gF p 0 c λq=>zj a q 67 0 c λu v z A k=>cQ 288 [(bW n b g i j),(bW u v z A k)] c λb d=>If (!b) (K (c5 a 1) d) (aI p 0 d λm=>0<=a/\a<=(↑m.cap:Int)/\0<=a/\a<=a/\sM d h.size 0 λn b w x r=>aI p 0 d λo=>0<=a/\a<=(bN o)/\Ext d (aeH d (zq n b w x r 82))/\iJ λnew=>cv (aeH d (zq n b w x r 82)) (aA o a.toNat o.len 67) 67 new/\iI new (aq ctx 82 (dI d 1 1) (aA o a.toNat o.len 67).len new (aeH d (zq n b w x r 82)) λy h=>Ext (aeH d (zq n b w x r 82)) h/\iJ λnew=>cv h y 67 new/\iI new (aq ctx 82 (aA (@aeP m.a m.len a.toNat m.JR) 0 a.toNat 67) y.len new h λF h=>jv p 0 h F λh=>eA p 1 h λn=>If (decide ((bN s)<n)) (FT h f R 1) (aI p 0 h λP=>zj (bN s) P 67 0 h λn b Q S T=>qv h (sL) 82 67 (bW n b Q S T) λB=>W_ p B s λW U=>W7 U h f R))))) (gF p 0 c λj=>0<=a/\a<=(↑j.cap:Int)/\0<=a/\a<=a/\sM c h.size 0 λn b g i q=>gF p 0 c λk=>0<=a/\a<=(bN k)/\Ext c (aeH c (zq n b g i q 82))/\iJ λnew=>cv (aeH c (zq n b g i q 82)) (aA k a.toNat k.len 67) 67 new/\iI new (aq ctx 82 (aeP (some (aeQ c.size 0)) 1 1) (aA k a.toNat k.len 67).len new (aeH c (zq n b g i q 82)) λm h=>Ext (aeH c (zq n b g i q 82)) h/\iJ λnew=>cv h m 67 new/\iI new (aq ctx 82 (aA (@aeP j.a j.len a.toNat j.JR) 0 a.toNat 67) m.len new h λr h=>jv p 0 h r λh=>eA p 1 h λn=>If (decide ((bN s)<n)) (FT h f R 1) (aI p 0 h λo=>zj (bN s) o 67 0 h λn b u v y=>qv h (sL) 82 67 (bW n b u v y) λV=>W_ p V s λF B=>W7 B h f R))))) λL=>eA p 1 e λn=>If (decide (n<=(bN s))) (sM e h.size 0 λn b g i D=>aI p 0 e λa=>0<=wrap .i64 ((bN s)-1)/\wrap .i64 ((bN s)-1)<(bN a)/\Nn a.a λl=>ZD e l.b (l.o+aeL (xL s)*67) λu v z A j=>cQ 288 [(bW n b g i D),(bW u v z A j)] e λb h=>If (!b) (FT h f R 12) (L 0 h)) (L 0 e)))):Cl 248 [.ptr p,(bW E G I J M)] h R:=vi func248 H
open Go.IntKind (wrap)
theorem x_(r:OL)(n:Int)(H:bU (λ(s:LU) h=>C9 r 0 h λs=>0<=n/\n<=(c4 s)/\C9 r 0 h λc=>0<=n/\n<=(c4 c)/\lN r 0 h 1 (.str (afx (aeU c-aeL n) (afE n.toNat c))) λh=>R (aer (.str (afx (aeL n-0) (afE 0 s)))) h) λa=>bU (λ(s:Bool) h=>If s (If (!aeR r) (lN r 1 h 1 (.bool true) λh=>lN r 0 h 1 (Dd) λh=>R (aer (Dd)) h) (R (aer (Dd)) h)) (a (ae0 #[]).data.toList h)) λa=>If (aeR r) (a true h) (Ug r 1 h λb=>If b (a true h) (If (decide (n<0)) (a true h) (C9 r 0 h λs=>a (decide ((c4 s)<n)) h)))):Cl 228 [.ptr r,.i n] h R:=vi func228 H
theorem zU(r:OL)(q:Int)(H:bU (λ(s:Int) h=>fT 228 (c7 r s) h λb h=>Go.Vc.Loop (0,wrap .i64 ((c4 b)-1)) h λ(a:Int×Int) h K=>If (decide (0<=a.snd)) (dz 8 (0<=a.snd/\a.snd<(c4 b)/\K (wrap .u64 (↑(aeO (aeK (aeF .u64) (wrap .u64 (a.fst*(aG 2)^min (aeL 8) (aeF .u64)))|||aeK (aeF .u64) (wrap .u64 (↑(afb (afc b (aeL a.snd) (0:UInt8))):Int)))):Int),wrap .i64 (a.snd-1)) h)) (R (aer (.int .u64 a.fst)) h)) λc=>If (decide (8<q)) (c (-1) h) (c q h)):Cl 227 [.ptr r,.i q] h R:=vi func227 H
theorem JG(q:LU)(H:cu h (acX q) 355 λa=>mD R h a):Cl 226 [.str q] h R:=vi func226 H
theorem zV(r:OL)(H:If (aeR r) (aD R 0 h) (C9 r 0 h λs=>R (aer (.i (c4 s))) h)):Cl 230 [.ptr r] h R:=vi func230 H
theorem Bt(r:OL)(H:If (!aeR r) (Ug r 1 h λb=>If (!b) (C9 r 0 h λs=>R (aer (.bool (decide (s=(ae0 #[]).data.toList)))) h) (bO R h)) (bO R h)):Cl 231 [.ptr r] h R:=vi func231 H
theorem DF(q:LU)(most:Int)(H:bU (λ(s:Sl×Bool) h=>0<=wrap .i64 ((c4 q)-1)/\wrap .i64 ((c4 q)-1)<(c4 q)/\mM 278 [.int .u8 (↑(afb (afc q (aeL (wrap .i64 ((c4 q)-1))) (0:UInt8))):Int)] h λn h=>If (decide (most<wrap .i64 (Oe q n))) (R (sN) h) (0<=wrap .i64 (Oe q n)/\wrap .i64 (Oe q n)<=wrap .i64 (Oe q n)/\(↑1:Int)*wrap .i64 (Oe q n)<=281474976710656/\wrap .i64 (Oe q n)<9223372036854775808/\Go.Vc.Loop (aG 0) (aeH h (row (bZ (.bool false) (Kr q n)) 4)) λ(s:Int) a K=>If (decide (s<(↑(Kr q n):Int))) ((aG 8)≠0/\0<=wrap .i64 (aeY s 8)/\wrap .i64 (aeY s 8)<(c4 q)/\(aG 8)≠0/\0<=ae1 s 8/\pM s (Kr q n) a h.size 0 1 1 (.bool (decide (wrap .u8 (↑(aeO (aeK (aeF .u8) (aeW (↑(afb (afc q (aeL (wrap .i64 (aeY s 8))) (0:UInt8))):Int) ((aG 2)^min (aeL (ae1 s 8)) (aeF .u8)))&&&aeK (aeF .u8) 1)):Int)=1))) λh=>K (c5 s 1) h) (R (aer (.aX [.slice (aeP (eE h 0) (Kr q n) (Kr q n)),.bool true])) a))) λb=>If (decide (q=(ae0 #[]).data.toList)) (R (sN) h) (0<=wrap .i64 ((c4 q)-1)/\wrap .i64 ((c4 q)-1)<(c4 q)/\If (decide ((↑(afb (afc q (aeL (wrap .i64 ((c4 q)-1))) (0:UInt8))):Int)=0)) (R (sN) h) (b (dL,false) h))):Cl 229 [.str q,.i most] h R:=vi func229 H
open Go.IntKind (wrap)
theorem DG(q:LU)(H:cu h (Cc) 58 λm=>C7 226 [.str q] m λp o=>uc 227 [.ptr p,bh 1] o λn r=>uc 227 [.ptr p,bh 4] r λt c=>qv c (Cc) 58 53 (acY (wrap .i64 n) (wrap .i64 t)) λu=>fT 228 [.ptr p,bh 32] u λs k=>((fC c 2 32 32 32).a=none->bU (λ(s:Bool) e=>fT 228 [.ptr p,bh 16] e λs g=>((fC c 37 16 16 16).a=none->cQ 231 [.ptr p] g λb d=>QG b d h R c 232)/\∀(l:Go.Vc.Loc),(fC c 37 16 16 16).a=some l->Uj g l s c 37 16 16 16 37 16 16 16 λd=>cQ 231 [.ptr p] d λb j=>QG b j h R c 232) λf=>aJ k c 0 λn=>If (decide (n=1)) (Xe p k c f) (If (decide (n=2)) (uc 227 [.ptr p,bh 2] k λn h=>Dc h c 34 n λh=>f false h) (If (decide (n=3)) (gM 230 p k λn e=>fT 228 [.ptr p,.i (iQ n 16)] e λs g=>Jw 229 [.str s,bh 16] g λs b d=>If (!b) (Jy d h R) (bS d c.size 36 1 (.slice s) λh=>f false h)) (f false k))))/\∀(l:Go.Vc.Loc),(fC c 2 32 32 32).a=some l->Uj k l s c 2 32 32 32 2 32 32 32 λe=>bU (λ(s:Bool) g=>fT 228 [.ptr p,bh 16] g λs d=>((fC c 37 16 16 16).a=none->cQ 231 [.ptr p] d λb j=>QG b j h R c 232)/\∀(l:Go.Vc.Loc),(fC c 37 16 16 16).a=some l->Uj d l s c 37 16 16 16 37 16 16 16 λj=>cQ 231 [.ptr p] j λb v=>QG b v h R c 232) λf=>aJ e c 0 λn=>If (decide (n=1)) (Xe p e c f) (If (decide (n=2)) (uc 227 [.ptr p,bh 2] e λn h=>Dc h c 34 n λh=>f false h) (If (decide (n=3)) (gM 230 p e λn g=>fT 228 [.ptr p,.i (iQ n 16)] g λs d=>Jw 229 [.str s,bh 16] d λs b j=>If (!b) (Jy j h R) (bS j c.size 36 1 (.slice s) λh=>f false h)) (f false e)))):Cl 169 [.str q] h R:=vi func169 H
open Go.IntKind (wrap)
theorem Gd(q A:Int)(B:Bs 32)(E G:Int)(I:Sl)(J:Bs 16)(H:dh h q A B E G I J λc=>dH c λa=>dW a h λn d b e f s g=>gu λbs=>jM a (fC h 37 16 16 16) bs/\fT 265 [gL n d b e f s g] a λs h=>Ext a h/\iH 201 [jg h 2 2] (JB h s bs) λb h=>xQ h c b R):Cl 208 [gL q A B E G I J] h R:=vi func208 H
theorem uH(q A:Int)(B:Bs 32)(E G:Int)(I:Sl)(J:Bs 16)(H:dh h q A B E G I J λc=>dW c h λn f b g i s j=>(fT 158 [gL n f b g i s j] c λs a=>Ext a (jY a 5)/\iJ λnew=>cv (jY a 5) (fC h 37 16 16 16) 1 new/\iI new (aq ctx 5 (dI a 0 0) (fC h 37 16 16 16).len new (jY a 5) λe h=>fT 159 [.slice e] h λd h=>zo s d (R (aer (.str (s++d))) h)))/\Ext c (jY c 5)/\fT 158 [gL n f b g i s j] (jY c 5) λs a=>iJ λnew=>cv a (fC h 37 16 16 16) 1 new/\iI new (aq ctx 5 (dI c 0 0) (fC h 37 16 16 16).len new a λe h=>fT 159 [.slice e] h λd h=>zo s d (R (aer (.str (s++d))) h))):Cl 90 [gL q A B E G I J] h R:=vi func90 H
theorem wG(q A:Int)(B:Bs 32)(E G:Int)(I:Sl)(J:Bs 16)(H:dh h q A B E G I J λa=>dH a λc=>dW c h λn d b e f s g=>fT 90 [gL n d b e f s g] c λs h=>iH 156 [.str s] h λb h=>xQ h a b R):Cl 91 [gL q A B E G I J] h R:=vi func91 H
theorem mW(r:OL)(n:Int)(H:bU (λ(s:LU) h=>eA r 1 h λe=>lN r 1 h 1 (BM e n) λh=>C9 r 0 h λs=>eA r 1 h λc=>eA r 1 h λd=>0<=d/\d<=(c4 s)/\0<=wrap .i64 (c-n)/\wrap .i64 (c-n)<=d/\R (aer (.str (afx (aeL d-aeL (wrap .i64 (c-n))) (afE (aeL (wrap .i64 (c-n))) s)))) h) λa=>bU (λ(s:Bool) h=>If s (lN r 2 h 1 (.bool true) λh=>C9 r 0 h λs=>lN r 1 h 1 (.i (c4 s)) λh=>R (aer (Dd)) h) (a (ae0 #[]).data.toList h)) λa=>Ug r 2 h λb=>If b (a true h) (If (decide (n<0)) (a true h) (C9 r 0 h λs=>eA r 1 h λe=>a (decide (wrap .i64 ((c4 s)-e)<n)) h))):Cl 239 [.ptr r,.i n] h R:=vi func239 H
theorem oz(r:OL)(q:Int)(H:bU (λ(s:Int) h=>fT 239 (c7 r s) h λb h=>∀(c:Nat),aeU b<=c->Go.Vc.Loop (0,1,0) (aeH h (BV b c 5)) λ(a:Int×Int×Int) d K=>If (decide (a.snd.snd<(c4 b))) (xF a.snd.snd b.length d h.size 0 1 λn=>K (wrap .u64 (a.fst+wrap .u64 (a.snd.fst*wrap .u64 n)),wrap .u64 (a.snd.fst*256),wrap .i64 (a.snd.snd+1)) d) (R (aer (.int .u64 a.fst)) d)) λe=>If (decide (8<q)) (e (-1) h) (e q h)):Cl 237 [.ptr r,.i q] h R:=vi func237 H
theorem oR(r:OL)(H:Ug r 2 h λb=>If (!b) (eA r 1 h λn=>C9 r 0 h λs=>R (aer (.bool (decide (n=(c4 s))))) h) (bO R h)):Cl 240 [.ptr r] h R:=vi func240 H
open Go.IntKind (wrap)
theorem ya(q:LU)(most:Int)(H:Go.Vc.Loop (dL,0) h λ(s:Sl×Int) h K=>If (decide (s.snd<(c4 q))) (0<=s.snd/\s.snd<(c4 q)/\Go.Vc.Loop (s.fst,wrap .i64 (↑(afb (afc q (aeL s.snd) (0:UInt8))):Int),0) h λ(a:Sl×Int×Int) h d=>If (decide (a.snd.snd<8)) ((aG 2)≠0/\fR h (.bool (decide (ae1 a.snd.fst (aG 2)=1))) 4 1 a.fst λc h=>(aG 2)≠0/\d (c,wrap .i64 (aeY a.snd.fst 2),wrap .i64 (a.snd.snd+1)) h) (K (a.fst,fJ s) h)) (Go.Vc.Loop (dL,false,wrap .i64 ((nR s)-1)) h λ(a:Sl×Bool×Int) h K=>bU (λ(c:PUnit) h=>Hy a.snd.snd s.fst 1 0 h λb=>If b (0<=a.snd.snd/\a.snd.snd<=(↑s.fst.cap:Int)/\R (aer (.aX [.slice (aA s.fst 0 (aeL a.snd.snd) 1),.bool (decide (a.snd.snd<=most))])) h) (K (a.fst,a.snd.fst,wrap .i64 (a.snd.snd-1)) h)) λe=>If (decide (0<=a.snd.snd)) (If (decide (wrap .i64 ((nR s)-8)<=a.snd.snd)) (e aeV h) (R (sN) h)) (R (sN) h))):Cl 238 [.str q,.i most] h R:=vi func238 H
theorem sZ(q:LU)(H:cu h (Cc) 58 λc=>If (decide ((c4 q)<54)) (Jy c h R) (cu c (acZ q) 317 λa=>cu a (Cc) 58 λm=>uc 237 [fh c,bh 1] m λn o=>Dc o a 0 n λp=>uc 237 [fh c,bh 4] p λn r=>Dc r a 1 n λt=>Go.Vc.Loop (aG 0) t λ(s:Int) e K=>If (decide (s<32)) (uc 237 [fh c,bh 1] e λn h=>pM s 32 h a.size 2 1 1 (.int .u8 (wrap .u8 n)) λh=>K (c5 s 1) h) (bU (λ(s:Int) i=>bU (λ(s:Int) j=>bU (λ(u:Bool×Int) k=>Go.Vc.Loop (aG 0) k λ(l:Int) f K=>If (decide (l<16)) (uc 237 [fh c,bh 1] f λn h=>pM l 16 h a.size 37 1 1 (.int .u8 (wrap .u8 n)) λh=>K (c5 l 1) h) (If (!decide (u.snd=0)) (bS f h.size 0 53 (Cc) λg=>dW g h λn v b w x s y=>R (aer (.aX [(gL n v b w x s y),.bool false])) g) (cQ 240 [fh c] f λb g=>QG b g h R a 97))) λd=>cV j a 0 λn=>If (decide (n=3)) (fT 239 [fh c,aT s] j λs k=>Jw 238 [.str s,bh 16] k λs b f=>If (!b) (Jy f h R) (bS f a.size 36 1 (.slice s) λh=>d (false,0) h)) (d (false,s) j)) λd=>cV i a 0 λn=>If (decide (n=1)) (uc 237 [fh c,bh 8] i λn h=>bS h a.size 35 1 (.int .u64 n) λh=>d (iQ s 8) h) (d s i)) λd=>cV e a 0 λn=>If (decide (n=1)) (uc 237 [fh c,bh 2] e λn h=>Dc h a 34 n λh=>d (wrap .i64 (wrap .i64 (wrap .i64 ((c4 q)-37)-16)-2)) h) (cV e a 0 λn=>If (decide (n=2)) (uc 237 [fh c,bh 2] e λn h=>Dc h a 34 n λh=>d (wrap .i64 (wrap .i64 (wrap .i64 ((c4 q)-37)-16)-2)) h) (d (wrap .i64 (wrap .i64 ((c4 q)-37)-16)) e))))):Cl 175 [.str q] h R:=vi func175 H
open Go.IntKind (wrap)
theorem DJ(most quota:Int)(H:C7 145 [aT most,aT quota] h λp h=>If (aeR p) (rG R h) (cu h (.agg [.ptr p]) 172 λa=>mD R h a)):Cl 76 [.i most,.i quota] h R:=vi func76 H
theorem Ge(most quota:Int)(H:C7 145 [aT most,aT quota] h λp h=>If (aeR p) (rG R h) (cu h (.agg [.ptr p]) 212 λa=>mD R h a)):Cl 77 [.i most,.i quota] h R:=vi func77 H
theorem rQ(o:OL)(root:Bs 32)(H:SX h root o R):Cl 37 [.ptr o,.bytes 32 root] h R:=vi func37 H
theorem yb(e:OL)(root:Bs 32)(H:SX h root e R):Cl 371 [.ptr e,.bytes 32 root] h R:=vi func371 H
theorem rS(o:OL)(H:Ko o R h 0 152):Cl 83 [.ptr o] h R:=vi func83 H
theorem yc(e:OL)(H:Ko e R h 0 152):Cl 84 [.ptr e] h R:=vi func84 H
theorem rT(o:OL)(peer:Int)(text:LU)(H:dH h λy=>Ep 169 [.str text] y λn z b A B s C D e=>jx e n z b A B s C λf=>bU (λ(F:Int) a=>bU (ZG h R) λg=>gE o 0 a λp=>cV a e 1 λn=>vF a e.size 0 λr t b u v s w=>dZ a e 2 λd=>(iH 208 [gL r t b u v s w] a λb h=>Ext a h/\(Fo 212 p n b peer d text h 242 λc k l m q s h j x=>g (o,p,n,b,peer,d,text,c,eE h 0,c) x)/\Fm h 242 212 p n b peer d text λj c k l m q s x E=>g (o,p,n,b,peer,d,text,c,eE h 0,c) E)/\cu a (sL) 242 λh=>Ext a h/\iH 208 [gL r t b u v s w] h λb j=>Ext h j/\Kk 212 [.ptr p,(bW n b peer d text)] j λc k l m q s h=>bS h a.size 0 67 (bW k l m q s) λh=>g (o,p,n,b,peer,d,text,c,some (aeQ a.size 0),c) h) λg=>If (aeR o) (C_ f h R) (If (!D) (C_ f h R) (aJ f e 0 λn=>If (!decide (n=1)) (C_ f h R) (g 0 f)))):Cl 209 [.ptr o,.i peer,.str text] h R:=vi func209 H
theorem yd(e:OL)(peer:Int)(text:LU)(H:dH h λy=>Ep 169 [.str text] y λn z b A B s C D f=>jx f n z b A B s C λg=>bU (λ(F:Int) a=>bU (ZG h R) λj=>gE e 0 a λp=>cV a f 1 λn=>vF a f.size 0 λr t b u v s w=>dZ a f 2 λd=>(iH 208 [gL r t b u v s w] a λb h=>Ext a h/\(Fo 212 p n b peer d text h 242 λc l m o q s h k x=>j (e,p,n,b,peer,d,text,c,eE h 0,c) x)/\Fm h 242 212 p n b peer d text λk c l m o q s x E=>j (e,p,n,b,peer,d,text,c,eE h 0,c) E)/\cu a (sL) 242 λh=>Ext a h/\iH 208 [gL r t b u v s w] h λb k=>Ext h k/\Kk 212 [.ptr p,(bW n b peer d text)] k λc l m o q s h=>bS h a.size 0 67 (bW l m o q s) λh=>j (e,p,n,b,peer,d,text,c,some (aeQ a.size 0),c) h) λj=>If (aeR e) (C_ g h R) (If (!D) (C_ g h R) (aJ g f 0 λn=>If (decide (n=1)) (C_ g h R) (j 0 g)))):Cl 150 [.ptr e,.i peer,.str text] h R:=vi func150 H
open Go.IntKind (wrap)
theorem zX(q:Sl)(H:Go.Vc.Loop (dL,0) h λ(s:Sl×Int) h K=>If (jT s q) (zj s.snd q 67 0 h λn b e f g=>qv h (sL) 242 67 (bW n b e f g) λc=>Cd c h.size 66 λi=>Ep 169 [.str i] c λn j b k l m o y d=>jx d n j b k l m o λa=>CK a h.size 1 λb=>dW a d λn p r t u v w=>fR a (acv b n p r t u v w) 342 85 s.fst λx h=>K (x,fJ s) h) (zn R s h)):Cl 298 [.slice q] h R:=vi func298 H
theorem qZ(q:Int)(A:Bs 32)(B:Int)(E:Bs 32)(G:LU)(p:OL)(H:cu h (bW q A B E G) 242 λa=>bu a h 34 λb=>Fl p 0 a λc=>R (aer (.bool (mE b c))) a):Cl 299 [(bW q A B E G),.ptr p] h R:=vi func299 H
theorem oS(q:Int)(A:Bs 32)(B:Int)(E:Bs 32)(G:LU)(p:OL)(H:cu h (bW q A B E G) 242 λa=>aJ a h 0 λn=>eA p 0 a λb=>R (aer (.bool (decide (n<=b)))) a):Cl 179 [(bW q A B E G),.ptr p] h R:=vi func179 H
theorem tc(q:Int)(A:Bs 32)(B:Int)(E:Bs 32)(G:LU)(p:OL)(H:cu h (bW q A B E G) 242 λa=>aJ a h 0 λn=>eA p 0 a λb=>R (aer (.bool (decide (n<b)))) a):Cl 167 [(bW q A B E G),.ptr p] h R:=vi func167 H
theorem td(o:OL)(parent:Bs 32)(H:bV h parent λa=>If (aeR o) (pW R a) (gE o 0 a λp=>zf 168 [.ptr p,uh 299 h] a λs h=>zf 298 [.slice s] h λs h=>R (aer (.slice s)) h)):Cl 267 [.ptr o,.bytes 32 parent] h R:=vi func267 H
theorem q6(o:OL)(slot:Int)(H:cu h (aT slot) 3 λa=>If (aeR o) (aD R 0 a) (gE o 0 a λp=>zf 168 [.ptr p,uh 179 h] a λs h=>R (aer (mC s)) h)):Cl 117 [.ptr o,.i slot] h R:=vi func117 H
theorem wI(e:OL)(now:Int)(H:cu h (aT now) 3 λc=>If (aeR e) (pW R c) (gE e 0 c λp=>zf 168 [.ptr p,uh 167 h] c λs h=>Go.Vc.Loop (dL,0) h λ(a:Sl×Int) h K=>If (jT a s) (zj a.snd s 67 0 h λn b g j s=>qv h (sL) 242 67 (bW n b g j s) λd=>Cd d h.size 66 λs=>Ep 169 [.str s] d λn k b l m s o v h=>jx h n k b l m s o λf=>dW f h λn q b r t s u=>fR f (gL n q b r t s u) 58 53 a.fst λs h=>K (s,fJ a) h) (zn R a h))):Cl 103 [.ptr e,.i now] h R:=vi func103 H
open Go.IntKind (wrap)
theorem ye(p:OL)(peer:Int)(text:LU)(H:dH h λx=>Ep 175 [.str text] x λn y b z A s B C e=>jx e n y b z A s B λg=>bU (λ(E:Int) a=>bU (ZH h R) λf=>cV a e 1 λn=>vF a e.size 0 λq r b t u s v=>dZ a e 2 λd=>(iH 91 [gL q r b t u s v] a λb h=>Ext a h/\(Fo 248 p n b peer d text h 82 λc k l m o s h j w=>f (p,n,b,peer,d,text,c,eE h 0,c) w)/\Fm h 82 248 p n b peer d text λj c k l m o s w D=>f (p,n,b,peer,d,text,c,eE h 0,c) D)/\cu a (sL) 82 λh=>Ext a h/\iH 91 [gL q r b t u s v] h λb j=>Ext h j/\Kk 248 [.ptr p,(bW n b peer d text)] j λc k l m o s h=>bS h a.size 0 67 (bW k l m o s) λh=>f (p,n,b,peer,d,text,c,some (aeQ a.size 0),c) h) λf=>If (!C) (C_ g h R) (aJ g e 0 λn=>If (!decide (n=1)) (C_ g h R) (f 0 g))):Cl 188 [.ptr p,.i peer,.str text] h R:=vi func188 H
theorem yf(p:OL)(peer:Int)(text:LU)(H:dH h λx=>Ep 175 [.str text] x λn y b z A s B C e=>jx e n y b z A s B λg=>bU (λ(E:Int) a=>bU (ZH h R) λf=>cV a e 1 λn=>vF a e.size 0 λq r b t u s v=>dZ a e 2 λd=>(iH 91 [gL q r b t u s v] a λb h=>Ext a h/\(Fo 248 p n b peer d text h 82 λc k l m o s h j w=>f (p,n,b,peer,d,text,c,eE h 0,c) w)/\Fm h 82 248 p n b peer d text λj c k l m o s w D=>f (p,n,b,peer,d,text,c,eE h 0,c) D)/\cu a (sL) 82 λh=>Ext a h/\iH 91 [gL q r b t u s v] h λb j=>Ext h j/\Kk 248 [.ptr p,(bW n b peer d text)] j λc k l m o s h=>bS h a.size 0 67 (bW k l m o s) λh=>f (p,n,b,peer,d,text,c,some (aeQ a.size 0),c) h) λf=>If (!C) (C_ g h R) (aJ g e 0 λn=>If (decide (n=1)) (C_ g h R) (f 0 g))):Cl 187 [.ptr p,.i peer,.str text] h R:=vi func187 H
theorem zY(p:OL)(parent:Bs 32)(H:bV h parent λj=>aI p 0 j λs=>Go.Vc.Loop (dL,dL,0) j λ(a:Sl×Sl×Int) c K=>If (decide (a.snd.snd<(bN s))) (zj a.snd.snd s 67 0 c λn b k l m=>qv c (sL) 82 67 (bW n b k l m) λd=>CK d c.size 34 λb=>bu d h 0 λo=>If (mE b o) (sM d c.size 0 λn b e f g=>fR d (bW n b e f g) 82 67 a.fst λi h=>K (i,a.snd.fst,ue a) h) (sM d c.size 0 λn b e f g=>fR d (bW n b e f g) 82 67 a.snd.fst λi h=>K (a.fst,i,ue a) h)) (lN p 0 c 1 (.slice a.snd.fst) λh=>R (aer (.slice a.fst)) h)):Cl 250 [.ptr p,.bytes 32 parent] h R:=vi func250 H
theorem wJ(p:OL)(slot:Int)(H:aI p 0 h λs=>Go.Vc.Loop (dL,0,0) h λ(a:Sl×Int×Int) h K=>If (decide (a.snd.snd<(bN s))) (zj a.snd.snd s 67 0 h λn b d e f=>qv h (sL) 82 67 (bW n b d e f) λc=>t_ c h.size 0 λn=>If (decide (slot<n)) (sM c h.size 0 λn b g j k=>fR c (bW n b g j k) 82 67 a.fst λl h=>K (l,a.snd.fst,wrap .i64 (a.snd.snd+1)) h) (K (a.fst,wrap .i64 (a.snd.fst+1),wrap .i64 (a.snd.snd+1)) c)) (lN p 0 h 1 (.slice a.fst) λh=>R (aer (.i a.snd.fst)) h)):Cl 119 [.ptr p,.i slot] h R:=vi func119 H
open Go.IntKind (wrap)
theorem oU(t:OL)(root:Bs 32)(H:bV h root λe=>aI t 0 e λs=>Go.Vc.Loop (0,0) e λ(a:Int×Int) c K=>If (jN a s) (Jv a.snd s 32 0 c λb=>qv c (fU) 52 32 (bK b) λd=>CK d c.size 0 λb=>bu d h 0 λf=>If (mE b f) (R (aer (.i a.snd)) d) (K (a.fst,iP a) d)) (R (lR) c)):Cl 73 [.ptr t,.bytes 32 root] h R:=vi func73 H
theorem rU(t:OL)(i:Int)(H:If (decide (i<=0)) (R (lR) h) (aI t 0 h λs=>If (decide ((bN s)<=i)) (R (lR) h) (aI t 2 h λs=>Jv i s 32 0 h λb=>jZ 73 t b h λn h=>dw R n h))):Cl 285 [.ptr t,.i i] h R:=vi func285 H
theorem yg(root:Bs 32)(slot most:Int)(H:bV h root λa=>If (decide (most<1)) (zl R a) (If (decide (256<most)) (zl R a) (If (decide (slot<0)) (zl R a) (If (decide (1073741824<slot)) (zl R a) (bu a h 0 λb=>cu (aeH (aeH (Bb a b) (Km slot)) (row (aeM [fU]) 52)) (ad9 (dI a 1 1) (aeP (some (aeQ (aeT (Bb a b)) 0)) 1 1) (aeP (some (aeQ (aeT (aeH (Bb a b) (Km slot))) 0)) 1 1) most) 130 λh=>R (aer (.aX [.ptr (some (aeQ (aeT (aeH (aeH (Bb a b) (Km slot)) (row (aeM [fU]) 52))) 0)),.bool true])) h))))):Cl 160 [.bytes 32 root,.i slot,.i most] h R:=vi func160 H
theorem q7(t:OL)(root parent:Bs 32)(slot:Int)(H:bV h root λd=>bV d parent λf=>jS f h 0 73 t λb n e=>If (decide (0<=n)) (aD R 4 e) (jS e d 0 73 t λb n c=>bU (λ(s:Int) a=>gF t 0 a λs=>eA t 3 a λn=>If (decide (n<=(bN s))) (R (dO 6) a) (gF t 0 a λs=>dZ a h 0 λb=>Ext a (aeH a (row (aeM [bK b]) 52))/\fR a (bK b) 52 32 s λs h=>jv t 0 h s λh=>aI t 1 h λs=>fR h (aT slot) 3 1 s λs h=>jv t 1 h s λh=>aI t 2 h λs=>bu h d 0 λb=>Ext h (Bb h b)/\fR h (bK b) 52 32 s λs h=>jv t 2 h s λh=>aD R 0 h)) λg=>If (decide (n<0)) (aD R 5 c) (pN t 1 c n 1 λs j=>If (decide (slot<=j)) (aD R 5 c) (If (decide (1073741824<slot)) (aD R 5 c) (g 0 c))))):Cl 249 [.ptr t,.bytes 32 root,.bytes 32 parent,.i slot] h R:=vi func249 H
open Go.IntKind (wrap)
theorem tj(w:OL)(H:dH h λa=>If (aeR w) (bS a h.size 0 32 (fU) λc=>De c h R) (bU (λ(s:OL×OL×OL×Sl×Int×Bool×OL×Bool) c=>Fl s.snd.snd.snd.snd.snd.snd.fst 0 c λb=>bS c h.size 0 32 (bK b) λe=>De e h R) λf=>gE w 0 a λp=>aI w 4 a λs=>Be s λl=>t_ a l.b (gT l 0 1) λn=>(N7 34 (c7 p n) a λb g i d h=>ud h λc=>bS c h.size 0 34 (C8 b g i) λe=>f (w,p,w,s,n,d,eE h 0,d) e)/\ud a λh=>BH p n h a λb g i d h h=>f (w,p,w,s,n,d,eE a 0,d) h)):Cl 190 [.ptr w] h R:=vi func190 H
theorem wN(w:OL)(root:Bs 32)(number:Vc.One)(H:bV h root λa=>If (aeR w) (aD R 0 a) (gE w 0 a λp=>jS a h 0 35 p λb n h=>If (decide (0<=n)) (aI w 1 h λs=>If (gU n s) (Ul number λg first cap=>bB Tryz.prog g (first.toList++aeS [aT n]++cap.toList) h λv h=>∃(n:Int),v=aer (aT n)/\R (aer (aT n)) h) (aD R 0 h)) (aD R 0 h))):Cl 191 [.ptr w,.bytes 32 root,.one number] h R:=vi func191 H
theorem oV(i:Int)(p:OL)(H:Bd p 0 h 2 λp s=>kG i s 1 0 h λn=>dw R n h):Cl 192 [.i i,.ptr p] h R:=vi func192 H
theorem q8(w:OL)(root:Bs 32)(H:SU h w root 192 R):Cl 122 [.ptr w,.bytes 32 root] h R:=vi func122 H
theorem rV(i:Int)(p:OL)(H:Bd p 0 h 1 λp s=>kG i s 1 0 h λn=>dw R n h):Cl 284 [.i i,.ptr p] h R:=vi func284 H
theorem uJ(w:OL)(root:Bs 32)(H:SU h w root 284 R):Cl 245 [.ptr w,.bytes 32 root] h R:=vi func245 H
open Go.IntKind (wrap)
theorem Gg(q A:Int)(H:If (decide (q<1)) (rG R h) (If (decide (64<q)) (rG R h) (If (decide (A<1)) (rG R h) (If (decide (32<A)) (rG R h) ((zm q 8 ((zm q 1 (cu (aeH (aeH (Dg h q) (FU q)) (jf)) (Kj A (aeP (eE h 0) q.toNat q.toNat) (aeP (some (aeQ (aeT (Dg h q)) 0)) q.toNat q.toNat) (some (aeT (aeH (Dg h q) (FU q))))) 202 λa=>R (aer (.ptr (some (aeQ (aeT (aeH (aeH (Dg h q) (FU q)) (jf))) 0)))) a))/\zm q 1 (cu (aeH (aeH (Dg h q) (jf)) (FU q)) (Kj A (aeP (eE h 0) q.toNat q.toNat) (aeP (some (aeQ (aeT (aeH (Dg h q) (jf))) 0)) q.toNat q.toNat) (some (aeT (Dg h q)))) 202 λa=>R (aer (.ptr (some (aeQ (aeT (aeH (aeH (Dg h q) (jf)) (FU q))) 0)))) a)))/\(zm q 1 ((zm q 8 (cu (aeH (aeH (Df h q) (FV q)) (jf)) (Kj A (aeP (some (aeQ (aeT (Df h q)) 0)) q.toNat q.toNat) (aeP (eE h 0) q.toNat q.toNat) (some (aeT (aeH (Df h q) (FV q))))) 202 λa=>R (aer (.ptr (some (aeQ (aeT (aeH (aeH (Df h q) (FV q)) (jf))) 0)))) a))/\zm q 8 (cu (aeH (aeH (Df h q) (jf)) (FV q)) (Kj A (aeP (some (aeQ (aeT (aeH (Df h q) (jf))) 0)) q.toNat q.toNat) (aeP (eE h 0) q.toNat q.toNat) (some (aeT (Df h q)))) 202 λa=>R (aer (.ptr (some (aeQ (aeT (aeH (aeH (Df h q) (jf)) (FV q))) 0)))) a)))/\(zm q 8 (zm q 1 (cu (aeH (aeH (xK h) (FV q)) (FU q)) (Kj A (aeP (some (aeQ (aeT (xK h)) 0)) q.toNat q.toNat) (aeP (some (aeQ (aeT (aeH (xK h) (FV q))) 0)) q.toNat q.toNat) (some h.size)) 202 λa=>R (aer (.ptr (some (aeQ (aeT (aeH (aeH (xK h) (FV q)) (FU q))) 0)))) a)))/\zm q 1 (zm q 8 (cu (aeH (aeH (xK h) (FU q)) (FV q)) (Kj A (aeP (some (aeQ (aeT (aeH (xK h) (FU q))) 0)) q.toNat q.toNat) (aeP (some (aeQ (aeT (xK h)) 0)) q.toNat q.toNat) (some h.size)) 202 λa=>R (aer (.ptr (some (aeQ (aeT (aeH (aeH (xK h) (FU q)) (FV q))) 0)))) a))))))):Cl 144 [.i q,.i A] h R:=vi func144 H
open Go.IntKind (wrap)
theorem yh(t:OL)(H:aI t 0 h λs=>aI t 0 h λa=>0<=(bN s)/\(bN s)<=(bN s)/\(↑8:Int)*(bN s)<=281474976710656/\(bN s)<9223372036854775808/\Ext h (SS h s)/\cu (SS h s) (acE t (aeP (eE h 0) (aeL (bN s)) (aeL (bN s))) (bN a)) 263 λb=>R (aer (.ptr (some (aeQ (aeT (SS h s)) 0)))) b):Cl 181 [.ptr t] h R:=vi func181 H
theorem mq(w:OL)(root:Bs 32)(H:bV h root λa=>gE w 0 a λp=>jS a h 0 73 p λb n h=>eA w 2 h λc=>If (decide (c<=n)) (R (lR) h) (dw R n h)):Cl 286 [.ptr w,.bytes 32 root] h R:=vi func286 H
theorem mu(w:OL)(root:Bs 32)(H:bV h root λa=>jS a h 0 286 w λb n h=>If (decide (0<=n)) (pN w 1 h n 1 λs c=>dw R c h) (aD R 0 h)):Cl 247 [.ptr w,.bytes 32 root] h R:=vi func247 H
open Go.IntKind (wrap)
theorem DR(n top:Int)(H:If (decide (1<=n)) (R (aer (.bool (decide (n<=top)))) h) (bO R h)):Cl 146 [.i n,.i top] h R:=vi func146 H
theorem Gh(most q:Int)(A:Int)(H:cQ 146 [aT most,bh 16] h λb h=>If (!b) (rG R h) (cQ 146 [aT q,bh 1048576] h λb h=>If (!b) (rG R h) (cQ 146 [aT A,bh 1048576] h λb h=>If (!b) (rG R h) (cu (xK h) (acO (some h.size) most q A) 215 λa=>R (aer (.ptr (some (aeQ (aeT (xK h)) 0)))) a)))):Cl 78 [.i most,.i q,.i A] h R:=vi func78 H
theorem uK(p:OL)(peer:Int)(H:If (aeR p) (aD R 0 h) (vG p 0 h λr=>yP h r λes c=>QL es peer λn=>dw R n h)):Cl 87 [.ptr p,.i peer] h R:=vi func87 H
theorem tq(p:OL)(peer:Int)(H:If (!aeR p) (eA p 2 h λn=>mM 87 (c7 p peer) h λb a=>Ext h a/\R (aer (.bool (decide (b<=wrap .i64 (0-n))))) a) (bO R h)):Cl 147 [.ptr p,.i peer] h R:=vi func147 H
theorem uL(p:OL)(H:If (aeR p) (pW R h) (vG p 0 h λr=>acP 154 [.map r] h λa h=>zf 153 [.one a] h λs h=>R (aer (.slice s)) h)):Cl 85 [.ptr p] h R:=vi func85 H
theorem uM(p:OL)(H:zf 85 [.ptr p] h λs h=>Be s λl=>t_ h l.b (gT l 0 1) λn=>Go.Vc.Loop (n,0) h λ(a:Int×Int) h K=>If (jN a s) (kG a.snd s 1 0 h λb=>vG p 0 h λr=>yP h r λes c=>QL es b λe=>vG p 0 h λr=>yP h r λes c=>dc ctx (TypeDesc.int IntKind.i64) es/\∃(d:Int),TW (dP (.i a.fst) es) (bh 0)=.i d/\If (decide (e<d)) (K (b,iP a) h) (K (a.fst,iP a) h)) (R (aer (.i a.fst)) h)):Cl 151 [.ptr p] h R:=vi func151 H
theorem wS(p:OL)(peer q:Int)(H:bU (λ(s:PUnit) h=>bU (λ(s:PUnit) h=>vG p 0 h λr=>vG p 0 h λd=>yP h d λes c=>QL es peer λn=>sr r λl es c=>h[l]? =some (bP es c)/\Ks es (Vc.Bind (ae3 h l (bP (iA (aT peer) (.i (mx (wrap .i64 (n-mn q 1048576)) (-1048576))) c es) (eN (aT peer) c es))) λh=>R (eX) h)) λa=>vG p 0 h λr=>yP h r λes c=>QL es peer λn=>bU (λ(s:Bool) h=>If s (vG p 0 h λr=>mM 151 [.ptr p] h λn b=>Ext h b/\sr r λl es c=>b[l]? =some (bP es c)/\Ks es (Vc.Bind (ae3 b l (bP (eW (aT n) es) c)) λh=>xJ p 4 h 4 λn h=>a aeV h)) (a aeV h)) λa=>If (!Jm (aT peer) es) (vG p 0 h λr=>yP h r λes c=>eA p 1 h λn=>a (decide (n<=(↑es.length:Int))) h) (a false h)) λa=>If (aeR p) (R (eX) h) (If (decide (q<=0)) (R (eX) h) (a aeV h))):Cl 81 [.ptr p,.i peer,.i q] h R:=vi func81 H
theorem wT(p:OL)(H:If (aeR p) (R (eX) h) (vG p 0 h λr=>sr r λl es c=>h[l]? =some (bP es c)/\Go.Vc.Loop aeV (aeH h (afw (some l) c #[] c)) λ(s:PUnit) a K=>0=0/\∃(b d c0:Nat),∃(seen:Array Nat),C' λes c=>a[h.size]? =some (afw (some b) d seen c0)/\a[b]? =some (bP es c)/\SQ es d c0 seen R a λe=>0=0/\∃(j o:Nat),∃(q:Array Nat),C' λes k=>∃(g:TV×TV×Nat),(BG a h b d seen e c)[h.size]? =some (JA j o q g k)/\(BG a h b d seen e c)[j]? =some (bP es k)/\g∈es/\List.Nodup (afh (λ(x:TV×TV×Nat)=>x.snd.snd) es)/\∃(n:Int),aer (aT n)=aer g.fst/\∃(i:Int),aer (aT i)=aer g.snd.fst/\eA p 3 (BG a h b d seen e c) λm=>If (decide (0<=wrap .i64 (i+m))) (vG p 0 (BG a h b d seen e c) λr=>sr r λl es f=>(BG a h b d seen e c)[l]? =some (bP es f)/\Ks es (Vc.Bind (ae3 (BG a h b d seen e c) l (bP (eW (aT n) es) f)) λh=>K aeV h)) (vG p 0 (BG a h b d seen e c) λr=>sr r λl es f=>(BG a h b d seen e c)[l]? =some (bP es f)/\Ks es (Vc.Bind (ae3 (BG a h b d seen e c) l (bP (iA (aT n) (BM i m) f es) (eN (aT n) f es))) λh=>K aeV h)))):Cl 102 [.ptr p] h R:=vi func102 H
open Go.IntKind (wrap)
theorem Gj(q:Int)(H:cu h (ZC (mn (mx q 1) 64)) 217 λa=>mD R h a):Cl 79 [.i q] h R:=vi func79 H
theorem yj(c:OL)(H:If (aeR c) (aD R 0 h) (eA c 0 h λn=>dw R n h)):Cl 98 [.ptr c] h R:=vi func98 H
theorem l9(c:OL)(H:If (aeR c) (bO R h) (eA c 0 h λn=>If (decide (1073741824<=n)) (bO R h) (xJ c 0 h 0 λn h=>R (i_) h))):Cl 101 [.ptr c] h R:=vi func101 H
theorem uN(c:OL)(H:If (aeR c) (aD R 0 h) (eA c 0 h λn=>eA c 1 h λa=>R (aer (.i (mx (wrap .i64 (n-a)) 0))) h)):Cl 107 [.ptr c] h R:=vi func107 H
theorem uO(c:OL)(q slot:Int)(H:If (!aeR c) (If (decide (q<slot)) (eA c 0 h λn=>R (aer (.bool (decide (slot<=n)))) h) (bO R h)) (bO R h)):Cl 263 [.ptr c,.i q,.i slot] h R:=vi func263 H
theorem wV(c:OL)(slot:Int)(H:If (!aeR c) (gM 107 c h λn h=>If (decide (n<=slot)) (eA c 0 h λn=>R (aer (.bool (decide (slot<=mn (c5 n 1) 1073741824)))) h) (bO R h)) (bO R h)):Cl 262 [.ptr c,.i slot] h R:=vi func262 H
theorem yl(q:Int)(H:If (decide (q<1)) (cu h (ZC 1) 183 λa=>mD R h a) (If (decide (64<q)) (cu h (ZC 64) 183 λa=>mD R h a) (cu h (ZC q) 183 λa=>mD R h a))):Cl 95 [.i q] h R:=vi func95 H
theorem iV(c:OL)(H:eA c 0 h λn=>If (decide (n=1073741824)) (bO R h) (xJ c 0 h 0 λn h=>R (i_) h)):Cl 108 [.ptr c] h R:=vi func108 H
theorem oB(c:OL)(H:eA c 0 h λn=>eA c 1 h λa=>If (decide (n<a)) (aD R 0 h) (eA c 0 h λn=>eA c 1 h λb=>R (aer (.i (wrap .i64 (n-b)))) h)):Cl 114 [.ptr c] h R:=vi func114 H
theorem oD(c:OL)(q slot:Int)(H:If (decide (q<slot)) (eA c 0 h λn=>R (aer (.bool (decide (slot<=n)))) h) (bO R h)):Cl 183 [.ptr c,.i q,.i slot] h R:=vi func183 H
theorem oW(c:OL)(slot:Int)(H:gM 114 c h λn h=>If (decide (n<=slot)) (eA c 0 h λn=>If (decide (wrap .i64 (slot-1)<=n)) (R (aer (.bool (decide (slot<=1073741824)))) h) (bO R h)) (bO R h)):Cl 184 [.ptr c,.i slot] h R:=vi func184 H
open Go.IntKind (wrap)
theorem EW(n most:Int)(H:If (decide (1<=n)) (R (aer (.bool (decide (n<=most)))) h) (bO R h)):Cl 139 [.i n,.i most] h R:=vi func139 H
theorem uP(q:Int)(A:LU)(H:cu h (N8 q A) 137 λa=>aJ a h 0 λn=>If (decide (0<=n)) (aJ a h 0 λn=>If (decide (n<4611686018427387904)) (Cd a h.size 1 λs=>cQ 139 [.i (c4 s),bh 32] a λb h=>jw R b h) (bO R a)) (bO R a)):Cl 199 [N8 q A] h R:=vi func199 H
theorem Bu(q:Sl)(H:Go.Vc.Loop (0,false,0,0) h λ(s:Int×Bool×Int×Int) h K=>If (decide (s.snd.snd.snd<(bN q))) (WO s.snd.snd.snd q 2 0 h λn d=>qv h (WQ) 137 2 (N8 n d) λc=>acA c h.size 0 λn e=>cQ 199 [N8 n e] c λb a=>If (!b) (R (Fs) a) (t_ a h.size 0 λn=>If (decide (4611686018427387904<=wrap .i64 (s.snd.snd.fst+n))) (R (Fs) a) (t_ a h.size 0 λn=>K (s.fst,s.snd.fst,wrap .i64 (s.snd.snd.fst+n),wrap .i64 (s.snd.snd.snd+1)) a))) (R (aer (.aX [.i s.snd.snd.fst,.bool true])) h)):Cl 138 [.slice q] h R:=vi func138 H
theorem Cv(q:Sl)(A B:Int)(E G:Int)(I J:Int)(M O:Int)(U W:Int)(Z:Int)(H:cu h (bA q A B E G I J M O U W Z) 24 λc=>bU (λ(s:Bool) a=>cV a h 1 λn=>cV a h 2 λj=>fK a h 0 λs=>cV a h 3 λk=>cV a h 4 λl=>cV a h 5 λm=>cV a h 6 λo=>cV a h 7 λp=>cV a h 8 λr=>cV a h 9 λt=>cV a h 10 λu=>cV a h 11 λv=>cQ 139 [aT n,bh 32] a λb h=>Ext a h/\cQ 139 [aT j,.i (mn 16 (bN s))] h λw d=>BK h d k 256 λx h=>BK d h l 64 λy e=>BK h e m 64 λz h=>BK e h o 64 λC f=>BK h f p 16 λD h=>BK f h r 256 λF g=>BK h g t 64 λK h=>BK g h u 1048576 λL N=>BK h N v 1048576 λP h=>cQ 140 [jg h 11 11,.bool false] (aeH h (row (aeM [.bool b,.bool w,.bool x,.bool y,.bool z,.bool C,.bool D,.bool F,.bool K,.bool L,.bool P]) 4)) λb h=>R (aer (.bool !b)) h) λQ=>iz c h 0 λs=>acB 138 [.slice s] c λn b a=>If (!b) (bO R a) (iz a h 0 λs=>cQ 139 [mC s,bh 64] a λb h=>If (!b) (bO R h) (Q false h))):Cl 74 [bA q A B E G I J M O U W Z] h R:=vi func74 H
theorem Bv(q:Sl)(A B:Int)(E G:Int)(I J:Int)(M O:Int)(U W:Int)(Z:Int)(H:cu h (bA q A B E G I J M O U W Z) 24 λa=>mO a h 1 2 λn j=>mO a h 3 4 λk l=>mO a h 5 6 λm o=>mO a h 7 8 λp r=>mO a h 9 10 λt u=>aJ a h 11 λv=>iz a h 0 λs=>Go.Vc.Loop (dL,0) (aeH a (row (aeM [aT n,aT j,aT k,aT l,aT m,aT o,aT p,aT r,aT t,aT u,aT v,mC s]) 3)) λ(s:Sl×Int) e K=>If (decide (s.snd<(↑12:Int))) (acD s.snd 12 e a.size 0 1 λn=>zf 260 [.slice s.fst,rH n,bh 4] e λf h=>K (f,fJ s) h) (fK e h 0 λf=>Go.Vc.Loop (s.fst,0) e λ(d:Sl×Int) h K=>If (jT d f) (WO d.snd f 2 0 h λn w=>qv h (WQ) 137 2 (N8 n w) λg=>∃(b:Array Obj),Vc.Sub b g/\t_ b h.size 0 λn=>Cd b h.size 1 λx=>Cd b h.size 1 λi=>zf 260 [.slice d.fst,rH n,bh 8] g λy h=>Vc.Sub b h/\zf 260 [.slice y,.int .u64 (wrap .u64 (c4 x)),bh 1] h λz h=>Vc.Sub b h/\aq tR 5 z i.length (afh (λ(c:UInt8)=>.int .u8 (↑(afb c):Int)) i) h λC h=>K (C,fJ d) h) (gu λbs=>jM h d.fst bs/\R (aer (.str bs)) h))):Cl 202 [bA q A B E G I J M O U W Z] h R:=viL func202 H
theorem Cw(q:Sl)(A B:Int)(E G:Int)(I J:Int)(M O:Int)(U W:Int)(Z:Int)(H:cu h (bA q A B E G I J M O U W Z) 24 λa=>dH a λc=>iG c h.size 0 λs n d e f g i j k l m o=>fT 202 [bA s n d e f g i j k l m o] c λs h=>iH 201 [jg h 2 2] (aeH h (row (aeM [.str (Oj).data.toList,.str s]) 9)) λb h=>xQ h a b R):Cl 142 [bA q A B E G I J M O U W Z] h R:=vi func142 H
theorem uQ(q:Sl)(A B:Int)(E G:Int)(I J:Int)(M O:Int)(U W:Int)(Z:Int)(H:cu h (bA q A B E G I J M O U W Z) 24 λj=>iG j h.size 0 λs n o p r t u v w x y z=>zf 162 [bA s n o p r t u v w x y z] j λk C=>Go.Vc.Loop ((ae0 #[]).data.toList,0) C λ(b:LU×Int) e K=>If (decide (b.snd<(bN k))) (kG b.snd k 1 0 e λg=>fT 222 [rH g,bh 4] e λc h=>(↑(aeU b.fst+aeU c):Int)<=9223372036854775807/\K (b.fst++c,wrap .i64 (b.snd+2)) h) (fK e h 0 λc=>Go.Vc.Loop (b.fst,0) e λ(a:LU×Int) h K=>If (decide (a.snd<(bN c))) (WO a.snd c 2 0 h λg D=>qv h (WQ) 137 2 (N8 g D) λd=>t_ d h.size 0 λF=>Cd d h.size 1 λL=>Cd d h.size 1 λl=>fT 222 [rH F,bh 8] d λf h=>Ext d h/\(↑(aeU a.fst+aeU f):Int)<=9223372036854775807/\fT 222 [.int .u64 (wrap .u64 (c4 L)),bh 1] h λi m=>Ext h m/\(↑(aeU (a.fst++f)+aeU i):Int)<=9223372036854775807/\(↑(aeU (a.fst++f++i)+aeU l):Int)<=9223372036854775807/\K (a.fst++f++i++l,wrap .i64 (a.snd+1)) m) (R (aer (.str a.fst)) h))):Cl 157 [bA q A B E G I J M O U W Z] h R:=vi func157 H
theorem wW(q:Sl)(A B:Int)(E G:Int)(I J:Int)(M O:Int)(U W:Int)(Z:Int)(H:cu h (bA q A B E G I J M O U W Z) 24 λa=>dH a λc=>iG c h.size 0 λs n d e f g i j k l m o=>fT 157 [bA s n d e f g i j k l m o] c λs h=>(↑(aeU (Oj).data.toList+aeU s):Int)<=9223372036854775807/\iH 156 [.str ((Oj).data.toList++s)] h λb h=>xQ h a b R):Cl 89 [bA q A B E G I J M O U W Z] h R:=vi func89 H
open Go.IntKind (wrap)
theorem Gk(q:Sl)(A B:Int)(E G:Int)(I J:Int)(M O:Int)(U W:Int)(Z:Int)(H:cu h (bA q A B E G I J M O U W Z) 24 λe=>iG e h.size 0 λs n g i j k l m o r t u=>cQ 74 [bA s n g i j k l m o r t u] e λb a=>If (!b) (rG R a) (iG a h.size 0 λs n v w x y z C D F K L=>aJ a h 3 λN=>iH 142 [bA s n v w x y z C D F K L] a λb f=>Ext a f/\WN 141 [bK b,bh 0,aT N] f λp n c=>iG c h.size 0 λs n P Q S T V X Y ab ac ad=>iz c h 0 λae=>aJ c h 1 λal=>BL 143 p c λam h=>C7 144 [mC ae,aT al] h λao d=>Ext h d/\cu d (aec s n P Q S T V X Y ab ac ad p am ao) 164 λh=>mD R d h)):Cl 75 [bA q A B E G I J M O U W Z] h R:=vi func75 H
theorem IC(G:Sl)(I J:Int)(M O:Int)(U W:Int)(Z ab:Int)(ac ad:Int)(ae:Int)(H:cu h (bA G I J M O U W Z ab ac ad ae) 24 λF=>iG F h.size 0 λs n N P Q S T V X Y al am=>cQ 74 [bA s n N P Q S T V X Y al am] F λb r=>If (!b) (BJ R 1 r) (QE (jY r 137) h.size 0 λK=>iJ λnew=>cv (jY r 137) K 2 new/\iI new (aq ctx 137 (dI r 0 0) K.len new (jY r 137) λao ap=>bS ap h.size 0 1 (.slice ao) λg=>bU (λ(ar:OL×Int×Int×OL×Int×Int×OL×Int×Int×Int×OL×OL) a=>iG a h.size 0 λaw u v w x y z A B C D i=>cV a h 9 λj=>aee ar.snd.snd.snd.snd.snd.snd.snd.snd.snd.snd.snd 0 a λp d c f=>C7 79 [aT j] a λaE h=>Ext a h/\cu h (aef aw u v w x y z A B C D i aE p d c f) 147 λe=>R (aer (.aX [fh h,bh 0])) e) λt=>iG g h.size 0 λs n u v w x y z A B C D=>mO g h 4 6 λi j=>mO g h 5 6 λo q=>mO g h 7 10 λk l=>aJ g h 11 λm=>(C7 75 [bA s n u v w x y z A B C D] g λp h=>Ext g h/\(Fu 76 i j h λd a=>(Fu 77 o q a λc h=>(C7 78 [aT k,aT l,aT m] h λf h=>cu h (WR) 143 λe=>Ext h e/\bS e h.size 0 4 (acJ p d c f) λE=>t (p,i,j,d,o,q,c,k,l,m,f,eE h 0) E)/\cu h (WR) 143 λe=>Ext h e/\On k l m e h p d c λf E L=>t (p,i,j,d,o,q,c,k,l,m,f,eE h 0) L)/\cu a (WR) 143 λh=>Ext a h/\Fu 77 o q h λc e=>On k l m e a p d c λf h h=>t (p,i,j,d,o,q,c,k,l,m,f,eE a 0) h)/\cu h (WR) 143 λa=>Ext h a/\Fu 76 i j a λd e=>Fu 77 o q e λc E=>On k l m E h p d c λf L a0=>t (p,i,j,d,o,q,c,k,l,m,f,eE h 0) a0)/\cu g (WR) 143 λh=>Ext g h/\C7 75 [bA s n u v w x y z A B C D] h λp a=>Ext h a/\Fu 76 i j a λd h=>Fu 77 o q h λc e=>On k l m e g p d c λf h h=>t (p,i,j,d,o,q,c,k,l,m,f,eE g 0) h))):Cl 19 [bA G I J M O U W Z ab ac ad ae] h R:=vi func19 H
theorem Ag(g:OL)(H:Of g R h 13):Cl 32 [.ptr g] h R:=vi func32 H
theorem ym(b:OL)(H:Of b R h 12):Cl 33 [.ptr b] h R:=vi func33 H
theorem yo(g:OL)(H:Of g R h 15):Cl 51 [.ptr g] h R:=vi func51 H
theorem yp(g:OL)(H:Of g R h 16):Cl 52 [.ptr g] h R:=vi func52 H
theorem Bw(g:OL)(H:Ko g R h 12 98):Cl 31 [.ptr g] h R:=vi func31 H
open Go.IntKind (wrap)
open Go.IntKind (wrap)
theorem yq(g:OL)(H:dH h λe=>gE g 13 e λp=>FW 33 p e λp i=>N7 34 [.ptr p,bh 0] i λb n j k c=>qv c (Ud) 69 34 (C8 b n j) λf=>∃(a:Array Obj),Vc.Sub a f/\CK a c.size 0 λb=>t_ a c.size 32 λn=>bS f h.size 0 32 (bK b) λd=>Vc.Sub a d/\bu d h 0 λb=>R (aer (.aX [bK b,aT n])) d):Cl 116 [.ptr g] h R:=viL func116 H
theorem yt(g:OL)(q A:Int)(B:Bs 32)(E G:Int)(I:Sl)(J:Bs 16)(H:dh h q A B E G I J λa=>aJ a h 0 λn=>If (!decide (n=1)) (gE g 12 a λp=>aJ a h 1 λn=>cQ 262 (c7 p n) a λb h=>jw R b h) (acH 116 [.ptr g] a λb n d=>nT d b λc=>gE g 12 c λp=>aJ c h 1 λe=>cQ 263 [.ptr p,aT n,aT e] c λb h=>jw R b h)):Cl 205 [.ptr g,(gL q A B E G I J)] h R:=vi func205 H
theorem DU(q:Int)(H:bU (λ(s:Bool) h=>If s (R (dO 4) h) (bU (λ(s:Bool) h=>If s (R (dO 1) h) (If (decide (q=7)) (If (decide (q=7)) (R (dO 3) h) (If (decide (q=8)) (R (dO 5) h) (R (dO 0) h))) (If (decide (q=10)) (R (dO 3) h) (If (decide (q=8)) (R (dO 5) h) (R (dO 0) h))))) λa=>If (decide (q=6)) (a (decide (q=6)) h) (a (decide (q=9)) h))) λa=>If (decide (q=4)) (a (decide (q=4)) h) (a (decide (q=5)) h)):Cl 82 [.i q] h R:=vi func82 H
open Go.IntKind (wrap)
theorem yu(g:OL)(q A:Int)(B:Bs 32)(E G:Int)(I:Sl)(J:Bs 16)(root:Bs 32)(H:dh h q A B E G I J λd=>bV d root λc=>gE g 15 c λp=>bU (λ(s:Vc.One) a=>cV a h 0 λn=>If (decide (n=1)) (gE g 13 a λp=>dZ a d 0 λb=>C7 33 [.ptr p] a λp h=>Ext a h/\jZ 35 p b h λn h=>If (decide (0<=n)) (R (i_) h) (Hz s h "Len" [] λv h=>Xd v h d s R)) (Hz s a "Len" [] λv h=>Xd v h d s R)) λe=>aJ c h 0 λn=>If (decide (n=1)) (gE g 14 c λp=>e (Vc.One.mk (afg 84 (aer (.ptr p))) (BT._proof_1 84 (.ptr p))) c) (e (Vc.One.mk (afg 97 (aer (.ptr p))) (BT._proof_1 97 (.ptr p))) c)):Cl 207 [.ptr g,(gL q A B E G I J),.bytes 32 root] h R:=vi func207 H
open Go.IntKind (wrap)
theorem JJ(key:LU)(q:Int)(H:cu h (.bytes 64 (aeZ 64)) 407 λd=>((fC h 0 64 64 64).a=none->Go.Vc.Loop (aG 0) d λ(s:Int) b K=>If (decide (s<64)) (xF s 64 b h.size 0 1 λn=>pM s 64 b h.size 0 1 1 (QK n q) λh=>K (c5 s 1) h) (gu λbs=>jM b (fC h 0 64 64 64) bs/\R (aer (.str bs)) b))/\∀(l:Go.Vc.Loc),(fC h 0 64 64 64).a=some l->Uj d l key h 0 64 64 64 0 64 64 64 λb=>Go.Vc.Loop (aG 0) b λ(s:Int) c K=>If (decide (s<64)) (xF s 64 c h.size 0 1 λn=>pM s 64 c h.size 0 1 1 (QK n q) λh=>K (c5 s 1) h) (gu λbs=>jM c (fC h 0 64 64 64) bs/\R (aer (.str bs)) c)):Cl 328 [.str key,.int .u8 q] h R:=vi func328 H
theorem MW(key:LU)(q:Sl)(H:cu h (pV) 56 λm=>bU (λ(s:LU) o=>fT 328 [.str s,.int .u8 54] o λn g=>iJ λnew=>cv (HF g n) q 1 new/\iI new (aq ctx 9 (dI g 1 1) q.len new (HF g n) λp r=>iH 201 [.slice p] r λb i=>nT i b λe=>bU (λ(d:LU×LU×Sl×LU×Sl×Bs 32×OL) c=>Nn d.snd.snd.snd.snd.snd.snd λl=>dz 16 (16<=(↑32:Int)/\16<=(HH l 32 32 16).len/\Nn (HH l 32 32 16).a λl=>xH c l.b l.o λb=>Og c h b R)) λf=>gu λbs=>jM e (fC i 0 32 32 32) bs/\(fT 328 [.str s,.int .u8 92] e λd h=>Ext e h/\((iH 201 [jg h 2 2] (JB h d bs) λb c=>dH c λj=>Ext c j/\bS j c.size 0 32 (bK b) λk=>f (s,d,fC i 0 32 32 32,bs,dI h 2 2,b,eE c 0) k)/\cu (JB h d bs) (fU) 52 λc=>Ext (JB h d bs) c/\iH 201 [jg h 2 2] c λb j=>bS j (aeT (JB h d bs)) 0 32 (bK b) λk=>f (s,d,fC i 0 32 32 32,bs,dI h 2 2,b,some (aeQ (aeT (JB h d bs)) 0)) k)/\dH h λc=>Ext h c/\iH 201 [jg c 2 2] (JB c d bs) λb j=>bS j h.size 0 32 (bK b) λk=>f (s,d,fC i 0 32 32 32,bs,dI c 2 2,b,eE h 0) k)/\dH e λh=>Ext e h/\fT 328 [.str s,.int .u8 92] h λd c=>Ext h c/\iH 201 [jg c 2 2] (JB c d bs) λb h=>bS h e.size 0 32 (bK b) λh=>f (s,d,fC i 0 32 32 32,bs,dI c 2 2,b,eE e 0) h)) λf=>If (decide (64<(c4 key))) (iH 201 [jg m 1 1] (HF m key) λb h=>nT h b λg=>gu λbs=>jM g (fC h 0 32 32 32) bs/\f bs g) (f key m)):Cl 293 [.str key,.slice q] h R:=vi func293 H
theorem II(q:Sl)(H:cu h (pV) 56 λd=>cu d (pV) 56 λe=>Go.Vc.Loop (aG 0) e λ(s:Int) a K=>If (gU s q) (aaK s q 16 0 a λb=>cu a (pV) 56 λh=>bS h a.size 0 16 (.bytes 16 b) λh=>Go.Vc.Loop (aG 0) h λ(c:Int) h f=>If (decide (c<16)) (xF c 16 h d.size 0 1 λn=>xF c 16 h a.size 0 1 λg=>pM c 16 h d.size 0 1 1 (QK n g) λh=>f (c5 c 1) h) (K (c5 s 1) h)) (xH a d.size 0 λb=>Og a h b R)):Cl 295 [.slice q] h R:=vi func295 H
open Go.IntKind (wrap)
theorem IK(q A:Int)(B:Bs 32)(E G:Int)(I:Sl)(J:Bs 16)(who:Int)(H:dh h q A B E G I J λc=>cu c (Cc) 58 λa=>aJ a h 0 λn=>If (decide (n=3)) (aJ a h 1 λn=>bu a h 2 λb=>bS a c.size 0 53 (aaL 2 n b who) λh=>dW h c λn d b e f s g=>R (aer (gL n d b e f s g)) h) (dW a h λn d b e f s g=>bS a c.size 0 53 (gL n d b e f s g) λh=>dW h c λn j b k l s m=>R (aer (gL n j b k l s m)) h)):Cl 294 [(gL q A B E G I J),.i who] h R:=vi func294 H
theorem Bx(q:Sl)(A B:Int)(E G:Int)(I J:Int)(M O:Int)(U W:Int)(Z ab:Int)(ac:Int)(ad:Bs 32)(ae al:Int)(am:Sl)(ao:Bs 16)(H:cu h (bA q A B E G I J M O U W Z) 24 λa=>dh a ab ac ad ae al am ao λe=>dW e a λn g b i j s k=>cQ 232 [gL n g b i j s k] e λb c=>If (!b) (R (sN) c) (aJ c a 0 λn=>If (decide (n=3)) (SN c h a 233 R) (aJ c a 0 λn=>If (decide (n=1)) (iG c h.size 0 λs n l m o p r t u v w x=>mO c a 1 34 λy f=>mM 234 [(bA s n l m o p r t u v w x),aT y] c λn d=>Ext c d/\If (!decide (n=f)) (If (!decide (n=f)) (R (sN) d) (Uk d a R)) (Xa d h a R)) (Xa c h a R)))):Cl 170 [(bA q A B E G I J M O U W Z),(gL ab ac ad ae al am ao)] h R:=vi func170 H
open Go.IntKind (wrap)
theorem IL(q:Sl)(A B:Int)(E G:Int)(I J:Int)(M O:Int)(U W:Int)(Z ab:Int)(ac:Int)(ad:Bs 32)(ae al:Int)(am:Sl)(ao:Bs 16)(H:cu h (bA q A B E G I J M O U W Z) 24 λf=>dh f ab ac ad ae al am ao λe=>cu e (pV) 56 λg=>iG g h.size 0 λs n k l m o p r t u v w=>dW g f λx y b z C D F=>Jw 170 [(bA s n k l m o p r t u v w),(gL x y b z C D F)] g λs b i=>If (!b) (bS i e.size 0 16 (pV) λh=>xH h e.size 0 λb=>R (aer (.aX [.bytes 16 b,.bool false])) h) (Go.Vc.Loop (dL,0) i λ(c:Sl×Int) a K=>If (jT c s) (kG c.snd s 1 0 a λn=>fK a h 0 λs=>Ob n s 2 1 a λs=>vF a f.size 0 λL N b P Q S T=>acS 294 [(gL L N b P Q S T),aT n] a λn V b X Y ap ar h=>Ext a h/\fT 265 [gL n V b X Y ap ar] h λj d=>Ext h d/\Ext d (HF d j)/\Oc 293 [.str s,jg d 1 1] (HF d j) λb h=>fR h (.bytes 16 b) 56 16 c.fst λs h=>K (s,fJ c) h) (Oc 295 [.slice c.fst] a λb h=>Oi h e b R))):Cl 264 [(bA q A B E G I J M O U W Z),(gL ab ac ad ae al am ao)] h R:=vi func264 H
theorem E2(q:Sl)(A B:Int)(E G:Int)(I J:Int)(M O:Int)(U W:Int)(Z ab:Int)(ac:Int)(ad:Bs 32)(ae al:Int)(am:Sl)(ao:Bs 16)(H:cu h (bA q A B E G I J M O U W Z) 24 λa=>dh a ab ac ad ae al am ao λb=>SL b h a 264 R):Cl 206 [(bA q A B E G I J M O U W Z),(gL ab ac ad ae al am ao)] h R:=vi func206 H
theorem E3(q:Sl)(A B:Int)(E G:Int)(I J:Int)(M O:Int)(U W:Int)(Z ab:Int)(ac:Int)(ad:Bs 32)(ae al:Int)(am:Sl)(ao:Bs 16)(H:cu h (bA q A B E G I J M O U W Z) 24 λa=>dh a ab ac ad ae al am ao λc=>iG c h.size 0 λs n d e f g i j k l m o=>dW c a λp r b t u v w=>Jw 170 [(bA s n d e f g i j k l m o),(gL p r b t u v w)] c λs b h=>bU (λy h=>SM h s a R) λx=>If (!b) (pW R h) (aJ h a 0 λn=>If (decide (n=1)) (pW R h) (x (dL) h))):Cl 104 [(bA q A B E G I J M O U W Z),(gL ab ac ad ae al am ao)] h R:=vi func104 H
open Go.IntKind (wrap)
theorem yx(g:OL)(text:LU)(H:cu h (Cc) 58 λk=>Ep 169 [.str text] k λn l b m o s p q a=>jx a n l b m o s p λf=>If (!q) (QI f a h R 5) (dW f a λn r b t u s v=>cQ 205 [.ptr g,(gL n r b t u s v)] f λb d=>If (!b) (QI d a h R 6) (Uf g 0 d λs n w x y z A B C D E F=>dW d a λG I b J K L M=>Jw 170 [(bA s n w x y z A B C D E F),(gL G I b J K L M)] d λs b e=>If (!b) (QI e a h R 7) (Uf g 0 e λs n N O P Q S T U V W X=>dW e a λY Z b ab ac ad ae=>cQ 206 [(bA s n N O P Q S T U V W X),(gL Y Z b ab ac ad ae)] e λb c=>If (!b) (QI c a h R 8) (dW c a λn al b am ao s ap=>dW c a λar aw aE a0 a1 a2 a3=>iH 208 [gL ar aw aE a0 a1 a2 a3] c λa4 i=>Ext c i/\cQ 207 [.ptr g,(gL n al b am ao s ap),bK a4] i λb j=>If b (QI j a h R 9) (QI j a h R 0)))))):Cl 148 [.ptr g,.str text] h R:=vi func148 H
open Go.IntKind (wrap)
theorem wX(b:OL)(who:Int)(root:Bs 32)(H:bV h root λd=>gE b 14 d λp=>abn 70 (c7 p who) d λn f g j e=>qv e (Md) 124 34 (mj n f g) λc=>If (!j) (aD R 0 c) (gE b 14 c λp=>cQ 71 (c7 p who) c λk a=>If (!k) (aD R 0 a) (bu a e 2 λl=>bu a h 0 λm=>If (!decide (l.l=m.l)) (aD R 0 a) (pN b 0 a who 2 λs n=>dw R n a)))):Cl 171 [.ptr b,.i who,.bytes 32 root] h R:=vi func171 H
theorem Aj(b:OL)(root:Bs 32)(H:bV h root λd=>aI b 0 d λs=>Go.Vc.Loop (0,0) d λ(a:Int×Int) c K=>If (jN a s) (dZ c h 0 λe=>mM 171 [.ptr b,.i a.snd,bK e] c λn h=>K (wrap .i64 (a.fst+n),iP a) h) (R (aer (.i a.fst)) c)):Cl 297 [.ptr b,.bytes 32 root] h R:=vi func297 H
theorem Ak(b:OL)(root:Bs 32)(n:Int)(H:bV h root λc=>gE b 12 c λp=>jS c h 0 35 p λe d a=>If (decide (0<=d)) (iR b 13 a h 0 λp b=>Ext a (Kq a b n)/\mM 236 [.ptr p,jg a 1 1] (Kq a b n) λn h=>R (eX) h) (R (eX) a)):Cl 173 [.ptr b,.bytes 32 root,.i n] h R:=vi func173 H
theorem Al(b:OL)(root parent:Bs 32)(slot:Int)(H:bV h root λd=>bV d parent λa=>If (aeR b) (aD R 2 a) (iR b 12 a h 0 λp f=>bu a d 0 λg=>mM 283 [.ptr p,bK f,bK g,aT slot] a λn c=>If (!decide (n=0)) (dw R n c) (iR b 13 c h 0 λp e=>jS c h 0 297 b λj n h=>Ext c h/\Ext h (Kq h e n)/\mM 236 [.ptr p,jg h 1 1] (Kq h e n) λn h=>dw R n h))):Cl 266 [.ptr b,.bytes 32 root,.bytes 32 parent,.i slot] h R:=vi func266 H
open Go.IntKind (wrap)
theorem yy(b:OL)(A B:Int)(E:Bs 32)(H:cu h (mj A B E) 124 λl=>If (aeR b) (aD R 5 l) (bU (λ(s:OL×OL×OL×OL×Bs 32×Int×Bool×OL×Bool) c=>bU (λ(x:Int) j=>bU (λ(v:OL×OL×Int×Bool×OL×Bool) m=>cV m h 0 λn=>Fl v.snd.snd.snd.snd.fst 2 m λe=>mM 171 [.ptr b,aT n,bK e] m λn q=>gE b 14 q λp=>Me q h.size 0 λf k g=>mM 172 [.ptr p,(mj f k g)] q λr t=>bU (λ(s:PUnit) o=>If (decide (r=0)) (dZ o h 2 λa=>cV o h 0 λn=>dZ o h 2 λw=>mM 171 [.ptr b,aT n,bK w] o λn h=>Ext o h/\lQ 173 [.ptr b,bK a,aT n] h λh=>dw R r h) (R (aer (aT r)) o)) λd=>If (decide (r=0)) (Fl v.snd.snd.snd.snd.fst 2 t λa=>lQ 173 [.ptr b,bK a,.i (wrap .i64 (0-n))] t λh=>d aeV h) (If (decide (r=2)) (Fl v.snd.snd.snd.snd.fst 2 t λa=>lQ 173 [.ptr b,bK a,.i (wrap .i64 (0-n))] t λh=>d aeV h) (d aeV t))) λd=>gE b 14 j λp=>cV j h 0 λn=>(abn 70 (c7 p n) j λf k e g h=>cu h (Md) 124 λm=>Ext h m/\bS m h.size 0 34 (mj f k e) λq=>d (b,p,n,g,eE h 0,g) q)/\cu j (Md) 124 λh=>Ext j h/\abn 70 (c7 p n) h λf k e g h=>bS h j.size 0 34 (mj f k e) λh=>d (b,p,n,g,some (aeQ j.size 0),g) h) λd=>If (!s.snd.snd.snd.snd.snd.snd.snd.snd) (R (dO 6) c) (eA s.snd.snd.snd.snd.snd.snd.snd.fst 32 c λn=>cV c h 1 λf=>If (decide (f<n)) (R (dO 6) c) (d 0 c))) λd=>gE b 12 l λp=>iR b 12 l h 2 λu e=>(jZ 35 u e l λn h=>Ext l h/\(N7 34 (c7 p n) h λg f k a h=>ud h λc=>bS c h.size 0 34 (C8 g f k) λj=>d (b,p,b,u,e,n,a,eE h 0,a) j)/\ud h λc=>BH p n c h λg f k a j m=>d (b,p,b,u,e,n,a,eE h 0,a) m)/\ud l λh=>jZ 35 u e h λn c=>Ext h c/\BH p n c l λg f k a h h=>d (b,p,b,u,e,n,a,eE l 0,a) h)):Cl 105 [.ptr b,(mj A B E)] h R:=vi func105 H
open Go.IntKind (wrap)
theorem rj(t:OL)(who:Int)(H:If (decide (0<=who)) (eA t 0 h λn=>R (aer (.bool (decide (who<n)))) h) (bO R h)):Cl 243 [.ptr t,.i who] h R:=vi func243 H
theorem o_(t:OL)(A B:Int)(E:Bs 32)(H:cu h (mj A B E) 124 λr=>bU (λ(s:Int×OL) c=>gF t 5 c λv=>cV c h 0 λn=>Hy n v 1 0 c λb=>If b (R (dO 4) c) (cV c h 1 λn=>eA t 1 c λi=>i≠0/\gF t 2 c λu=>Go.Vc.Loop (s.fst,0) c λ(g:Int×Int) e K=>If (jN g u) (ZE g.snd u 34 0 e λl j b=>qv e (Md) 255 34 (mj l j b) λa=>bU (λ(o:Bool) d=>If o (CK d e.size 2 λb=>dZ d h 2 λw=>If (mE b w) (R (dO 1) d) (gF t 5 d λs=>cV d h 0 λn=>zi n s.len s.a 1 0 d 1 (.bool true) λh=>aD R 2 h)) (K (g.fst,iP g) d)) λf=>t_ a e.size 0 λk=>aJ a h 0 λp=>If (decide (k=p)) (t_ a e.size 1 λm=>f (decide (m=wrap .i64 (aeY n i))) a) (f false a)) (gF t 2 e λo=>cV e h 0 λl=>dZ e h 2 λb=>Ext e (aeH e (row (aeM [mj l (wrap .i64 (aeY n i)) b]) 255))/\fR e (mj l (wrap .i64 (aeY n i)) b) 255 34 o λx y=>jv t 2 y x λa=>bU (λ(s:Int) d=>gF t 3 d λs=>cV d h 0 λn=>Me d h.size 0 λj k b=>zi n s.len s.a 34 0 d 34 (mj j k b) λq=>aI t 4 q λs=>aJ q h 0 λn=>zi n s.len s.a 1 0 q 1 (.bool true) λh=>aD R 0 h) λf=>aI t 4 a λz=>aJ a h 0 λj=>Hy j z 1 0 a λb=>If b (aI t 3 a λC=>aJ a h 0 λk=>kG k C 34 1 a λp=>eA t 1 a λm=>m≠0/\If (decide (wrap .i64 (aeY n i)<wrap .i64 (aeY p m))) (aD R 3 a) (f g.fst a)) (f g.fst a)))) λf=>aJ r h 0 λn=>cQ 243 (c7 t n) r λb c=>If (!b) (aD R 5 c) (aJ c h 1 λn=>If (decide (n<0)) (aD R 5 c) (aJ c h 1 λn=>If (decide (1073741824<n)) (aD R 5 c) (f (0,t) c)))):Cl 177 [.ptr t,(mj A B E)] h R:=vi func177 H
theorem nc(t:OL)(slot:Int)(H:aI t 2 h λs=>Go.Vc.Loop (dL,0) h λ(a:Sl×Int) h K=>If (jT a s) (ZE a.snd s 34 0 h λn e b=>qv h (Md) 255 34 (mj n e b) λc=>If (decide (slot<0)) (Me c h.size 0 λn d b=>fR c (mj n d b) 255 34 a.fst λs h=>K (s,fJ a) h) (t_ c h.size 1 λn=>eA t 1 c λd=>d≠0/\If (decide (wrap .i64 (aeY slot d)<=n)) (Me c h.size 0 λn f b=>fR c (mj n f b) 255 34 a.fst λs h=>K (s,fJ a) h) (K (a.fst,fJ a) c))) (lN t 2 h 1 (.slice a.fst) λh=>R (eX) h)):Cl 113 [.ptr t,.i slot] h R:=vi func113 H
theorem qg(b:OL)(q A:Int)(B:Bs 32)(H:cu h (mj q A B) 124 λc=>gE b 12 c λp=>jS c h 2 73 p λf n a=>If (decide (n<0)) (aD R 6 a) (Bd b 12 a 1 λp s=>kG n s 1 0 a λd=>aJ a h 1 λn=>If (decide (n<d)) (aD R 6 a) (gE b 13 a λp=>Me a h.size 0 λn e b=>mM 177 [.ptr p,(mj n e b)] a λn h=>dw R n h))):Cl 112 [.ptr b,(mj q A B)] h R:=vi func112 H
open Go.IntKind (wrap)
theorem yz(g:OL)(root:Bs 32)(q A:Int)(B:Bs 32)(E G:Int)(I:Sl)(J:Bs 16)(H:bV h root λf=>dh f q A B E G I J λe=>iR g 13 e h 0 λp b=>bu e f 2 λo=>aJ e f 1 λn=>mM 266 [.ptr p,bK b,bK o,aT n] e λn i=>bu i h 0 λb=>Go.Vc.Loop (dI i 1 1) (Bb i b) λ(s:Sl) h K=>If (decide (0<(bN s))) (Be s λl=>CK h l.b (gT l 0 32) λb=>qv h (fU) 52 32 (bK b) λj=>dz 1 (1<=(bN s)/\gE g 14 j λp=>CK j h.size 0 λb=>zf 267 [.ptr p,bK b] j λm r=>Go.Vc.Loop (aA s (aeL 1) s.len 32,0) r λ(a:Sl×Int) c k=>If (jT a m) (ad2 a.snd m 85 0 c λb n t u v w x y=>qv c (ad3) 342 85 (acv b n t u v w x y) λd=>gE g 13 d λp=>CK d c.size 0 λb=>CK d h.size 0 λz=>t_ d c.size 33 λn=>mM 266 [.ptr p,bK b,bK z,aT n] d λn h=>If (decide (n=0)) (CK h c.size 0 λb=>fR h (bK b) 52 32 a.fst λC h=>k (C,fJ a) h) (If (decide (n=6)) (xJ g 17 h 17 λn h=>k (a.fst,fJ a) h) (k (a.fst,fJ a) h))) (K a.fst c))) (R (eX) h)):Cl 211 [.ptr g,.bytes 32 root,(gL q A B E G I J)] h R:=vi func211 H
open Go.IntKind (wrap)
theorem yA(g:OL)(peer:Int)(text:LU)(H:gE g 16 h λp=>cQ 147 (c7 p peer) h λb h=>If b (aD R 3 h) (eA g 8 h λn=>If (decide (n<(c4 text))) (aD R 4 h) (aeb 148 [.ptr g,.str text] h λn d b e f s j c h=>jx h n d b e f s j λa=>If (!decide (c=0)) (dw R c a) (aJ a h 0 λn=>If (decide (n=1)) (dW a h λn k b l m s o=>mM 149 [.ptr g,aT peer,(gL n k b l m s o),.str text] a λn h=>dw R n h) (gE g 15 a λp=>ZB 150 (sq p peer text) a λn b h=>dw R n h))))):Cl 80 [.ptr g,.i peer,.str text] h R:=vi func80 H
theorem uS(g:OL)(peer:Int)(text:LU)(H:If (aeR g) (aD R 5 h) (mM 80 (sq g peer text) h λn h=>gE g 16 h λp=>mM 82 [aT n] h λb a=>Ext h a/\lQ 81 [.ptr p,aT peer,aT b] a λh=>dw R n h)):Cl 20 [.ptr g,.i peer,.str text] h R:=vi func20 H
open Go.IntKind (wrap)
theorem yB(g:OL)(peer A:Int)(B:Int)(E:Bs 32)(G I:Int)(J:Sl)(M:Bs 16)(text:LU)(H:dh h A B E G I J M λq=>bU (λ(s:OL×OL×OL×OL×OL×OL×Bs 32×Int×Bool×OL×Bool) a=>If (!s.snd.snd.snd.snd.snd.snd.snd.snd.snd.snd) (gE g 14 a λp=>ZB 209 (sq p peer text) a λn b h=>nT h b λh=>dw R n h) (eA s.snd.snd.snd.snd.snd.snd.snd.snd.snd.fst 32 a λn=>cV a h 1 λk=>If (decide (k<=n)) (R (dO 10) a) (gE g 13 a λp=>C7 33 [.ptr p] a λp l=>gM 210 p l λn f=>If (decide (n=0)) (aD R 13 f) (dW f h λn m b u v s o=>dW f h λw x c y z C D=>iH 208 [gL n m b u v s o] f λb h=>Ext f h/\lQ 211 [.ptr g,bK b,(gL w x c y z C D)] h λh=>aD R 0 h)))) λr=>gE g 13 q λp=>iR g 13 q h 2 λj b=>(BL 33 p q λd h=>(BL 33 j h λe a=>(jZ 35 e b a λn h=>(N7 34 (c7 d n) h λo k m c h=>ud h λl=>bS l h.size 0 34 (C8 o k m) λf=>r (g,p,d,g,j,e,b,n,c,eE h 0,c) f)/\ud h λl=>BH d n l h λo k m c f t=>r (g,p,d,g,j,e,b,n,c,eE h 0,c) t)/\ud a λh=>jZ 35 e b h λn h=>BH d n h a λo k m c h h=>r (g,p,d,g,j,e,b,n,c,eE a 0,c) h)/\ud h λa=>BL 33 j a λe l=>jZ 35 e b l λn f=>BH d n f h λo k m c t F=>r (g,p,d,g,j,e,b,n,c,eE h 0,c) F)/\ud q λh=>BL 33 p h λd a=>BL 33 j a λe h=>jZ 35 e b h λn h=>BH d n h q λo k m c h h=>r (g,p,d,g,j,e,b,n,c,eE q 0,c) h):Cl 149 [.ptr g,.i peer,(gL A B E G I J M),.str text] h R:=vi func149 H
open Go.IntKind (wrap)
theorem tE(t:OL)(slot:Int)(H:bU (λ(s:PUnit) h=>vG t 3 h λr=>sr r λl es c=>h[l]? =some (bP es c)/\Go.Vc.Loop aeV (aeH h (afw (some l) c #[] c)) λ(s:PUnit) a K=>0=0/\∃(b d c0:Nat),∃(seen:Array Nat),C' λes c=>a[h.size]? =some (afw (some b) d seen c0)/\a[b]? =some (bP es c)/\SQ es d c0 seen R a λe=>0=0/\∃(j p:Nat),∃(q:Array Nat),C' λes k=>∃(g:TV×TV×Nat),(ae3 a h.size (JA b d seen e c))[h.size]? =some (JA j p q g k)/\(ae3 a h.size (JA b d seen e c))[j]? =some (bP es k)/\g∈es/\List.Nodup (afh (λ(x:TV×TV×Nat)=>x.snd.snd) es)/\∃(n m:Int),aer (N_ n m)=aer g.fst/\qv (ae3 a h.size (JA b d seen e c)) (acI) 310 2 (N_ n m) λf=>t_ f (aeT (ae3 a h.size (JA b d seen e c))) 1 λn=>eA t 0 f λo=>o≠0/\If (decide (n<wrap .i64 (aeY slot o))) (vG t 3 f λr=>abo f (aeT (ae3 a h.size (JA b d seen e c))) 0 λn u=>sr r λl es c=>f[l]? =some (bP es c)/\dc ctx (Oh) es/\Vc.Bind (ae3 f l (bP (eW (N_ n u) es) c)) λh=>K aeV h) (K aeV f)) λv=>If (aeR t) (R (eX) h) (If (decide (slot<0)) (R (eX) h) (v aeV h))):Cl 174 [.ptr t,.i slot] h R:=vi func174 H
theorem uT(b:OL)(slot:Int)(H:If (!aeR b) (gE b 14 h λp=>lQ 174 (c7 p slot) h λh=>R (eX) h) (R (eX) h)):Cl 106 [.ptr b,.i slot] h R:=vi func106 H
open Go.IntKind (wrap)
theorem Aq(g:OL)(H:bU (λ(s:Bool) h=>gE g 16 h λp=>lQ 102 [.ptr p] h λh=>gE g 15 h λp=>gE g 12 h λj=>gM 98 j h λn f=>Ext h f/\zf 103 (c7 p n) f λs h=>Go.Vc.Loop (aG 0) h λ(a:Int) h K=>If (gU a s) (acG a s 53 0 h λn k b l m s o=>qv h (Cc) 58 53 (gL n k b l m s o) λc=>Uf g 0 c λs n q r t u v w x y z A=>vF c h.size 0 λB C b D E F G=>zf 104 [(bA s n q r t u v w x y z A),(gL B C b D E F G)] c λs h=>Go.Vc.Loop (aG 0) h λ(d:Int) h I=>If (gU d s) (ZE d s 34 0 h λn J b=>qv h (Md) 124 34 (mj n J b) λe=>gE g 13 e λp=>Me e h.size 0 λn L b=>mM 105 [.ptr p,(mj n L b)] e λn h=>I (c5 d 1) h) (K (c5 a 1) h)) (gE g 13 h λp=>gE g 12 h λM=>mM 107 [.ptr M] h λn i=>Ext h i/\lQ 106 (c7 p n) i λh=>R (i_) h)) λN=>If (aeR g) (bO R h) (gE g 12 h λp=>cQ 101 [.ptr p] h λb h=>If (!b) (bO R h) (N false h))):Cl 39 [.ptr g] h R:=vi func39 H
open Go.IntKind (wrap)
theorem pq(t:OL)(w9 root:Bs 32)(H:bV h w9 λc=>bV c root λe=>jS e h 0 73 t λb n d=>If (decide (n<0)) (bO R d) (jS d c 0 73 t λo f g=>Go.Vc.Loop (false,f) g λ(s:Bool×Int) a K=>If (decide (0<=s.snd)) (gF t 0 a λj=>Jv s.snd j 32 0 a λk=>dZ a h 0 λl=>If (mE k l) (R (i_) a) (mM 285 [.ptr t,.i s.snd] a λm h=>K (s.fst,m) h)) (R (mN) a))):Cl 246 [.ptr t,.bytes 32 w9,.bytes 32 root] h R:=vi func246 H
theorem yC(w:OL)(root:Bs 32)(H:bV h root λg=>gE w 0 g λp=>jS g h 0 73 p λb n a=>If (decide (n<0)) (zl R a) (gE w 0 a λp=>eA p 3 a λm=>cu a (ad7 m) 130 λi=>Bd w 0 i 0 λp s=>Go.Vc.Loop (dL,0) i λ(c:Sl×Int) d K=>If (jT c s) (Jv c.snd s 32 0 d λb=>qv d (fU) 52 32 (bK b) λf=>iR w 0 f h 0 λp b=>CK f d.size 0 λo=>cQ 246 [.ptr p,bK b,bK o] f λb h=>If (!b) (K (c.fst,fJ c) h) (iz h a 0 λs=>CK h d.size 0 λb=>Ext h (Bb h b)/\fR h (bK b) 52 32 s λs h=>bS h a.size 0 1 (.slice s) λh=>iz h a 1 λs=>Bd w 0 h 1 λp q=>kG c.snd q 1 0 h λj=>Ext h (aeH h (Km j))/\fR h (aT j) 3 1 s λs h=>bS h a.size 1 1 (.slice s) λh=>Bd w 0 h 2 λp s=>Jv c.snd s 32 0 h λb=>nT h b λk=>bU (λ(s:PUnit) e=>fK e a 2 λs=>dZ e h 0 λb=>Ext e (aeH e (row (aeM [bK b]) 52))/\fR e (bK b) 52 32 s λs h=>bS h a.size 2 1 (.slice s) λh=>CK h d.size 0 λb=>jZ 247 w b h λn h=>fR h (aT n) 3 1 c.fst λs h=>K (s,fJ c) h) λl=>If (decide (c.snd=n)) (bS k h.size 0 32 (fU) λh=>l aeV h) (l aeV k))) (cu d (acE (eE a 0) c.fst (nR c)) 263 λh=>R (aer (.aX [.ptr (some (aeQ d.size 0)),.bool true])) h))):Cl 180 [.ptr w,.bytes 32 root] h R:=vi func180 H
theorem qi(b:OL)(root:Bs 32)(H:bV h root λa=>iR b 12 a h 0 λp c=>BL 181 p a λp h=>N9 180 [.ptr p,bK c] h λp d h=>If (!d) (aD R 7 h) (gE p 0 h λp=>lN b 12 h 1 (.ptr p) λh=>aD R 0 h)):Cl 118 [.ptr b,.bytes 32 root] h R:=vi func118 H
open Go.IntKind (wrap)
theorem yD(most q:Int)(A:Int)(H:cu h (acQ most q A) 189 λa=>If (decide (1<=most)) (If (decide (most<=16)) (SR q 1048576 A R h 1048576 a) (HC R h a)) (HC R h a)):Cl 94 [.i most,.i q,.i A] h R:=vi func94 H
theorem ry(p:OL)(peer:Int)(H:aI p 0 h λs=>SO h s peer R):Cl 130 [.ptr p,.i peer] h R:=vi func130 H
theorem oE(p:OL)(peer:Int)(H:mM 130 (c7 p peer) h λn h=>If (decide (0<=n)) (pN p 1 h n 1 λs a=>dw R a h) (aD R 0 h)):Cl 129 [.ptr p,.i peer] h R:=vi func129 H
theorem ng(p:OL)(peer:Int)(H:eA p 3 h λn=>mM 129 (c7 p peer) h λb a=>Ext h a/\R (aer (.bool (decide (n<=wrap .i64 (0-b))))) a):Cl 182 [.ptr p,.i peer] h R:=vi func182 H
theorem pE(p:OL)(H:aI p 0 h λs=>Go.Vc.Loop (xL s) h λ(s:Int) h K=>If (decide (0<=s)) (gF p 1 h λa=>zu p 1 h s λc n=>eA p 4 h λb=>zi s a.len a.a 1 0 h 1 (BM n b) λh=>pN p 1 h s 1 λd n=>If (decide (0<=n)) (lQ 131 (c7 p s) h λh=>K (iQ s 1) h) (K (iQ s 1) h)) (R (eX) h)):Cl 109 [.ptr p] h R:=vi func109 H
theorem pF(p:OL)(peer q:Int)(H:If (decide (q<=0)) (R (eX) h) (bU (λ(s:PUnit) h=>mM 130 (c7 p peer) h λn h=>pN p 1 h n 1 λs c=>If (decide (wrap .i64 (1048576+c)<=q)) (aI p 1 h λs=>zi n s.len s.a 1 0 h 1 (.i (-1048576)) λh=>R (eX) h) (aI p 1 h λs=>pN p 1 h n 1 λa d=>zi n s.len s.a 1 0 h 1 (.i (wrap .i64 (d-q))) λh=>R (eX) h)) λb=>mM 130 (c7 p peer) h λn h=>If (decide (n<0)) (bU (λ(s:PUnit) h=>gF p 0 h λs=>fR h (aT peer) 3 1 s λs h=>jv p 0 h s λh=>aI p 1 h λs=>fR h (bh 0) 3 1 s λs h=>jv p 1 h s λh=>b aeV h) λb=>aI p 0 h λs=>eA p 2 h λn=>If (decide (n<=(bN s))) (aI p 0 h λs=>Go.Vc.Loop (0,0) h λ(a:Int×Int) h K=>If (jN a s) (gF p 1 h λs=>kG a.snd s 1 0 h λn=>gF p 1 h λs=>kG a.fst s 1 0 h λc=>If (decide (n<c)) (K (a.snd,iP a) h) (gF p 1 h λs=>kG a.snd s 1 0 h λn=>gF p 1 h λs=>kG a.fst s 1 0 h λd=>If (decide (n=d)) (gF p 0 h λs=>kG a.snd s 1 0 h λn=>gF p 0 h λs=>kG a.fst s 1 0 h λe=>If (decide (n<e)) (K (a.snd,iP a) h) (K (a.fst,iP a) h)) (K (a.fst,iP a) h))) (lQ 131 [.ptr p,.i a.fst] h λh=>xJ p 5 h 5 λn h=>b aeV h)) (b aeV h)) (b aeV h))):Cl 55 [.ptr p,.i peer,.i q] h R:=vi func55 H
open Go.IntKind (wrap)
theorem pI(g:OL)(root parent:Bs 32)(slot:Int)(H:bV h root λj=>bV j parent λd=>gE g 13 d λp=>iR p 12 d h 0 λr b=>bu d j 0 λt=>mM 249 [.ptr r,bK b,bK t,aT slot] d λn e=>bu e h 0 λu=>Go.Vc.Loop (dI e 1 1,0) (Bb e u) λ(s:Sl×Int) h K=>If (decide (s.snd<(nR s))) (gE g 14 h λv=>Jv s.snd s.fst 32 0 h λw=>zf 250 [.ptr v,bK w] h λk h=>Go.Vc.Loop (s.fst,0) h λ(a:Sl×Int) h l=>If (jT a k) (zj a.snd k 67 0 h λx y z A B=>qv h (sL) 82 67 (bW x y z A B) λc=>gE g 13 c λC=>gE C 12 c λD=>CK c h.size 1 λE=>Jv s.snd a.fst 32 0 c λF=>t_ c h.size 0 λG=>mM 249 [.ptr D,bK E,bK F,aT G] c λm f=>bU (λo h=>If (decide (m=6)) (eA g 17 h λI=>lN g 17 h 1 (.i (c5 I 1)) λh=>lN g 18 h 1 (.bool true) λh=>l (o,fJ a) h) (l (o,fJ a) h)) λq=>If (decide (m=0)) (CK f h.size 1 λJ=>fR f (bK J) 52 32 a.fst λs h=>q s h) (q a.fst f)) (K (a.fst,fJ s) h)) (R (eX) h)):Cl 189 [.ptr g,.bytes 32 root,.bytes 32 parent,.i slot] h R:=vi func189 H
open Go.IntKind (wrap)
theorem xm(r:Bs 32)(H:bV h r λa=>iJ λnew=>cv (jY a 5) (fC h 0 32 32 32) 1 new/\iI new (aq ctx 5 (dI a 0 0) (fC h 0 32 32 32).len new (jY a 5) λs h=>BF h s R)):Cl 274 [.bytes 32 r] h R:=vi func274 H
theorem Av(key q:LU)(H:cu h (pV) 56 λg=>bU (λ(s:LU) m=>Go.Vc.Loop s m λ(s:LU) i K=>If (decide ((c4 s)<64)) ((Ol s 0)<=9223372036854775807/\K (s++(ae0 #[(0:UInt8)]).data.toList) i) (Go.Vc.Loop ((ae0 #[]).data.toList,(ae0 #[]).data.toList,0) i λ(a:LU×LU×Int) c K=>If (decide (a.snd.snd<64)) (0<=a.snd.snd/\a.snd.snd<(c4 s)/\gu λbs=>jM (aeH c (QH s a 54)) (aeP (some (aeQ c.size 0)) 1 1) bs/\(↑(aeU a.fst+aeU bs):Int)<=9223372036854775807/\0<=a.snd.snd/\a.snd.snd<(c4 s)/\gu λe=>jM (aeH (aeH c (QH s a 54)) (QH s a 92)) (aeP (some (aeQ (aeT (aeH c (QH s a 54))) 0)) 1 1) e/\(↑(aeU a.snd.fst+aeU e):Int)<=9223372036854775807/\K (a.fst++bs,a.snd.fst++e,wrap .i64 (a.snd.snd+1)) (aeH (aeH c (QH s a 54)) (QH s a 92))) ((↑(aeU a.fst+aeU q):Int)<=9223372036854775807/\iH 156 [.str (a.fst++q)] c λb o=>fT 274 [bK b] o λj p=>(↑(aeU a.snd.fst+aeU j):Int)<=9223372036854775807/\iH 156 [.str (a.snd.fst++j)] p λb k=>nT k b λf=>cu f (pV) 56 λr=>Go.Vc.Loop (aG 0) r λ(s:Int) d K=>If (decide (s<16)) (xF s 32 d k.size 0 1 λn=>pM s 16 d f.size 0 1 1 (.int .u8 n) λh=>K (c5 s 1) h) (xH d f.size 0 λb=>Og d h b R)))) λl=>If (decide (64<(c4 key))) (iH 156 [.str key] g λb h=>fT 274 [bK b] h λs h=>l s h) (l key g)):Cl 217 [.str key,.str q] h R:=vi func217 H
theorem xo(q:Sl)(H:cu h (pV) 56 λa=>cu a (pV) 56 λf=>Go.Vc.Loop (aG 0) f λ(s:Int) c K=>If (decide (s<16)) (Go.Vc.Loop (aG 0) c λ(d:Int) h g=>If (gU d q) (aaK d q 16 0 h λb=>qv h (pV) 56 16 (.bytes 16 b) λe=>xF s 16 e a.size 0 1 λn=>xF s 16 e h.size 0 1 λi=>pM s 16 e a.size 0 1 1 (QK n i) λh=>g (c5 d 1) h) (K (c5 s 1) h)) (xH c a.size 0 λb=>Og c h b R)):Cl 218 [.slice q] h R:=vi func218 H
open Go.IntKind (wrap)
theorem rY(q:Sl)(A B:Int)(E G:Int)(I J:Int)(M O:Int)(U W:Int)(Z slot:Int)(H:cu h (bA q A B E G I J M O U W Z) 24 λf=>bU (λs j=>fK j h 0 λs=>Go.Vc.Loop (dL,0) j λ(c:Sl×Int) d K=>If (jT c s) (fT 222 [rH slot,bh 4] d λs h=>(↑(aeU (Kl).data.toList+aeU s):Int)<=9223372036854775807/\fT 222 [.int .u64 (wrap .u64 c.snd),bh 2] h λa h=>(↑(aeU ((Kl).data.toList++s)+aeU a):Int)<=9223372036854775807/\iH 156 [.str ((Kl).data.toList++s++a)] h λb h=>fR h (bK b) 52 32 c.fst λs h=>K (s,fJ c) h) (0<=(nR c)/\(nR c)<=(nR c)/\(↑1:Int)*(nR c)<=281474976710656/\(nR c)<9223372036854775808/\Go.Vc.Loop (dL) (aeH d (row (bZ (.bool false) (aeL (nR c))) 4)) λ(s:Sl) g K=>cV g h 2 λn=>If (decide ((bN s)<n)) (Go.Vc.Loop ((-1),0) g λ(a:Int×Int) h e=>If (decide (a.snd<(nR c))) (acR a.snd (aeL (nR c)) h d.size 0 1 λb=>If (!b) (If (decide (a.fst<0)) (e (a.snd,iP a) h) (Jv a.snd c.fst 32 0 h λb=>Jv a.fst c.fst 32 0 h λk=>cQ 133 [bK b,bK k] h λb h=>If b (e (a.snd,iP a) h) (e (a.fst,iP a) h))) (e (a.fst,iP a) h)) (If (decide (a.fst<0)) (R (aer (.slice s)) h) (pM a.fst (aeL (nR c)) h d.size 0 1 1 (.bool true) λh=>fR h (.i a.fst) 3 1 s λs h=>K s h))) (R (aer (.slice s)) g))) λl=>If (decide (slot<0)) (pW R f) (If (decide (1073741824<slot)) (pW R f) (l (dL) f))):Cl 282 [(bA q A B E G I J M O U W Z),.i slot] h R:=vi func282 H
theorem uV(q:Sl)(A B:Int)(E G:Int)(I J:Int)(M O:Int)(U W:Int)(Z slot:Int)(who:Int)(H:cu h (bA q A B E G I J M O U W Z) 24 λa=>iG a h.size 0 λs n b c d e f g j k l m=>zf 282 [(bA s n b c d e f g j k l m),aT slot] a λs h=>SO h s who R):Cl 242 [(bA q A B E G I J M O U W Z),.i slot,.i who] h R:=vi func242 H
theorem xw(q:Sl)(A B:Int)(E G:Int)(I J:Int)(M O:Int)(U W:Int)(Z slot:Int)(row:Sl)(H:cu h (bA q A B E G I J M O U W Z) 24 λc=>iG c h.size 0 λs n d e f g j k l m o p=>zf 282 [(bA s n d e f g j k l m o p),aT slot] c λs h=>bU (λ(t:Sl×Bool) h=>Go.Vc.Loop (dL,0) h λ(a:Sl×Int) h K=>If (jT a s) (Hy a.snd row 1 0 h λb=>If b (kG a.snd s 1 0 h λn=>iJ λnew=>cv (aeH h (Vc.row (aeM [aT n]) 3)) (aeP (some (aeQ h.size 0)) 1 1) 1 new/\iI new (aq ctx 3 a.fst 1 new (aeH h (Vc.row (aeM [aT n]) 3)) λs h=>K (s,fJ a) h)) (K (a.fst,fJ a) h)) (R (aer (.aX [.slice a.fst,.bool true])) h)) λr=>If (!decide ((bN s)=(bN row))) (R (sN) h) (If (decide ((bN s)=0)) (R (sN) h) (r (dL,false) h))):Cl 241 [(bA q A B E G I J M O U W Z),.i slot,.slice row] h R:=vi func241 H
open Go.IntKind (wrap)
theorem rz(q:Sl)(A B:Int)(E G:Int)(I J:Int)(M O:Int)(U W:Int)(Z ab:Int)(ac:Int)(ad:Bs 32)(ae al:Int)(am:Sl)(ao:Bs 16)(H:cu h (bA q A B E G I J M O U W Z) 24 λa=>dh a ab ac ad ae al am ao λd=>dW d a λn e b f g s i=>cQ 97 [gL n e b f g s i] d λb c=>If (!b) (R (sN) c) (aJ c a 0 λn=>If (decide (n=3)) (SN c h a 241 R) (iG c h.size 0 λs n j k l m o p r t u v=>mO c a 1 34 λw x=>mM 242 [(bA s n j k l m o p r t u v),aT w,aT x] c λn h=>If (decide (n<0)) (R (sN) h) (aJ h a 0 λy=>If (decide (y=1)) (If (decide (0<n)) (R (sN) h) (Uk h a R)) (Uk h a R))))):Cl 176 [(bA q A B E G I J M O U W Z),(gL ab ac ad ae al am ao)] h R:=vi func176 H
open Go.IntKind (wrap)
theorem yE(q:Sl)(A B:Int)(E G:Int)(I J:Int)(M O:Int)(U W:Int)(Z ab:Int)(ac:Int)(ad:Bs 32)(ae al:Int)(am:Sl)(ao:Bs 16)(H:cu h (bA q A B E G I J M O U W Z) 24 λd=>dh d ab ac ad ae al am ao λf=>cu f (pV) 56 λg=>iG g h.size 0 λs n k l m o p r t u v w=>dW g d λx y b z C D F=>Jw 176 [(bA s n k l m o p r t u v w),(gL x y b z C D F)] g λs b a=>If (!b) (bS a f.size 0 16 (pV) λh=>xH h f.size 0 λb=>R (aer (.aX [.bytes 16 b,.bool false])) h) (aJ a d 0 λn=>If (!decide (n=3)) (iz a h 0 λs=>aJ a d 34 λn=>Ob n s 2 1 a λs=>dW a d λn i b L N e P=>fT 158 [gL n i b L N e P] a λj h=>Ext a h/\Oc 217 [.str s,.str j] h λb h=>Oi h f b R) (Go.Vc.Loop (dL,0) a λ(e:Sl×Int) c K=>If (jT e s) (kG e.snd s 1 0 c λn=>fK c h 0 λs=>Ob n s 2 1 c λs=>cV c d 1 λi=>dZ c d 2 λb=>fT 158 [aaL 2 i b n] c λj h=>Ext c h/\Oc 217 [.str s,.str j] h λb h=>fR h (.bytes 16 b) 56 16 e.fst λs h=>K (s,fJ e) h) (Oc 218 [.slice e.fst] c λb h=>Oi h f b R)))):Cl 155 [(bA q A B E G I J M O U W Z),(gL ab ac ad ae al am ao)] h R:=vi func155 H
theorem uW(q:Sl)(A B:Int)(E G:Int)(I J:Int)(M O:Int)(U W:Int)(Z ab:Int)(ac:Int)(ad:Bs 32)(ae al:Int)(am:Sl)(ao:Bs 16)(H:cu h (bA q A B E G I J M O U W Z) 24 λa=>dh a ab ac ad ae al am ao λb=>SL b h a 155 R):Cl 185 [(bA q A B E G I J M O U W Z),(gL ab ac ad ae al am ao)] h R:=vi func185 H
theorem uX(q:Sl)(A B:Int)(E G:Int)(I J:Int)(M O:Int)(U W:Int)(Z ab:Int)(ac:Int)(ad:Bs 32)(ae al:Int)(am:Sl)(ao:Bs 16)(H:cu h (bA q A B E G I J M O U W Z) 24 λa=>dh a ab ac ad ae al am ao λc=>iG c h.size 0 λs n d e f g i j k l m o=>dW c a λp r b t u v w=>Jw 176 [(bA s n d e f g i j k l m o),(gL p r b t u v w)] c λs b h=>bU (λy h=>SM h s a R) λx=>If (!b) (pW R h) (aJ h a 0 λn=>If (decide (n=1)) (pW R h) (x (dL) h))):Cl 111 [(bA q A B E G I J M O U W Z),(gL ab ac ad ae al am ao)] h R:=vi func111 H
open Go.IntKind (wrap)
theorem pJ(g:OL)(peer:Int)(text:LU)(H:gE g 16 h λp=>cQ 182 (c7 p peer) h λb h=>If b (aD R 3 h) (eA g 8 h λn=>If (decide (n<(c4 text))) (aD R 4 h) (Ep 175 [.str text] h λn r b t u s v w h=>jx h n r b t u s v λo=>If (!w) (aD R 5 o) (dW o h λn x b y z s A=>iH 91 [gL n x b y z s A] o λb j=>nT j b λc=>bU (λ(s:Int) d=>Uf g 0 d λB n q C D E F G I J K L=>vF d h.size 0 λM N b O P Q S=>Jw 176 [(bA B n q C D E F G I J K L),(gL M N b O P Q S)] d λa2 b k=>If (!b) (aD R 7 k) (Uf g 0 k λT n U V W X Y Z ab ac ad ae=>dW k h λal am b ao ap ar aw=>cQ 185 [(bA T n U V W X Y Z ab ac ad ae),(gL al am b ao ap ar aw)] k λb e=>If (!b) (aD R 8 e) (aJ e h 0 λn=>If (!decide (n=1)) (iR g 15 e j 0 λp b=>cQ 186 [.ptr p,bK b] e λb h=>If b (aD R 9 h) (gE g 15 h λp=>ZB 187 (sq p peer text) h λn b h=>nT h b λh=>dw R n h)) (bU (λ(s:Int) m=>gE g 13 m λp=>gE p 12 m λp=>dZ m h 2 λb=>mM 73 [.ptr p,bK b] m λn a=>If (decide (n<0)) (gE g 14 a λp=>ZB 188 (sq p peer text) a λn b h=>nT h b λh=>dw R n h) (gE g 13 a λp=>Bd p 12 a 1 λp s=>kG n s 1 0 a λaE=>aJ a h 1 λn=>If (decide (n<=aE)) (aD R 10 a) (gE g 13 a λp=>Bd p 12 a 0 λp s=>gE g 13 a λp=>gE p 12 a λp=>eA p 3 a λn=>If (decide (n<=(bN s))) (aD R 13 a) (bu a j 0 λb=>bu a h 2 λa0=>aJ a h 1 λn=>lQ 189 [.ptr g,bK b,bK a0,aT n] a λh=>aD R 0 h)))) λf=>gE g 13 e λp=>gE p 12 e λp=>jS e j 0 73 p λb n h=>If (decide (0<=n)) (aD R 9 h) (iR g 14 h j 0 λp b=>cQ 186 [.ptr p,bK b] h λb h=>If b (aD R 9 h) (f s h)))))) λf=>aJ c h 0 λn=>If (decide (n=1)) (gE g 12 c λp=>gE g 13 c λa1=>Bd a1 12 c 1 λa3 s=>Be s λl=>t_ c l.b (gT l 0 1) λn=>aJ c h 1 λq=>cQ 183 [.ptr p,aT n,aT q] c λb d=>If (!b) (aD R 6 d) (aJ d h 0 λn=>If (!decide (n=1)) (gE g 12 d λp=>aJ d h 1 λn=>cQ 184 (c7 p n) d λb h=>If (!b) (aD R 6 h) (f 0 h)) (f 0 d))) (aJ c h 0 λn=>If (!decide (n=1)) (gE g 12 c λp=>aJ c h 1 λn=>cQ 184 (c7 p n) c λb h=>If (!b) (aD R 6 h) (f 0 h)) (f 0 c)))))):Cl 120 [.ptr g,.i peer,.str text] h R:=vi func120 H
theorem tG(q:Int)(H:acD q 14 (aeH h (row (aeM [bh 0,bh 0,bh 0,bh 0,bh 4,bh 4,bh 1,bh 3,bh 5,bh 1,bh 3,bh 0,bh 0,bh 0]) 3)) h.size 0 1 λn=>R (aer (aT n)) (aeH h (row (aeM [bh 0,bh 0,bh 0,bh 0,bh 4,bh 4,bh 1,bh 3,bh 5,bh 1,bh 3,bh 0,bh 0,bh 0]) 3))):Cl 56 [.i q] h R:=vi func56 H
theorem nh(g:OL)(peer:Int)(text:LU)(H:mM 120 (sq g peer text) h λn h=>gE g 16 h λp=>mM 56 [aT n] h λd c=>Ext h c/\lQ 55 [.ptr p,aT peer,aT d] c λh=>bU (λ(s:PUnit) h=>Ug g 19 h λb=>If b (lN g 19 h 1 (.bool true) λh=>dw R n h) (lN g 19 h 1 (.bool (decide (n=3))) λh=>dw R n h)) λa=>Ug g 18 h λb=>If b (lN g 18 h 1 (.bool true) λh=>a aeV h) (If (decide (n=2)) (lN g 18 h 1 (.bool true) λh=>a aeV h) (If (decide (11<=n)) (lN g 18 h 1 (.bool true) λh=>a aeV h) (gE g 16 h λp=>eA p 5 h λn=>lN g 18 h 1 (.bool (decide (0<n))) λh=>a aeV h)))):Cl 43 [.ptr g,.i peer,.str text] h R:=vi func43 H
open Go.IntKind (wrap)
theorem qj(g:OL)(H:gE g 12 h λp=>cQ 108 [.ptr p] h λb h=>If (!b) (bO R h) (gE g 16 h λp=>lQ 109 [.ptr p] h λh=>gE g 15 h λp=>gE g 12 h λi=>eA i 0 h λn=>zf 110 (c7 p n) h λs h=>Go.Vc.Loop (aG 0) h λ(a:Int) h K=>If (gU a s) (acG a s 53 0 h λn j b k l s m=>qv h (Cc) 58 53 (gL n j b k l s m) λc=>Uf g 0 c λs n o q r t u v w x y z=>vF c h.size 0 λA B b C D E F=>zf 111 [(bA s n o q r t u v w x y z),(gL A B b C D E F)] c λs h=>Go.Vc.Loop (aG 0) h λ(d:Int) h G=>If (gU d s) (ZE d s 34 0 h λn I b=>qv h (Md) 124 34 (mj n I b) λe=>gE g 13 e λp=>Me e h.size 0 λn J b=>mM 112 [.ptr p,(mj n J b)] e λn h=>G (c5 d 1) h) (K (c5 a 1) h)) (gE g 13 h λp=>gE p 13 h λp=>gE g 12 h λL=>mM 114 [.ptr L] h λn f=>Ext h f/\lQ 113 (c7 p n) f λh=>R (i_) h))):Cl 40 [.ptr g] h R:=vi func40 H
theorem mw(g:OL)(root:Bs 32)(H:bV h root λa=>gE g 13 a λp=>jS a h 0 118 p λb n h=>If (decide (n=0)) (gE g 14 h λp=>gE g 13 h λc=>Bd c 12 h 1 λe s=>Be s λl=>t_ h l.b (gT l 0 1) λd=>mM 119 (c7 p d) h λf h=>dw R n h) (dw R n h)):Cl 42 [.ptr g,.bytes 32 root] h R:=vi func42 H
theorem xz(p:OL)(now:Int)(H:aI p 0 h λs=>Go.Vc.Loop (dL,dL,0) h λ(a:Sl×Sl×Int) h K=>If (decide (a.snd.snd<(bN s))) (zj a.snd.snd s 67 0 h λn b k l m=>qv h (sL) 82 67 (bW n b k l m) λc=>t_ c h.size 0 λn=>If (decide (now<=n)) (sM c h.size 0 λn b d e f=>fR c (bW n b d e f) 82 67 a.snd.fst λg h=>K (a.fst,g,ue a) h) (Cd c h.size 66 λf=>Ep 175 [.str f] c λn d b o q g e y h=>jx h n d b o q g e λj=>dW j h λn r b t u v w=>fR j (gL n r b t u v w) 58 53 a.fst λx h=>K (x,a.snd.fst,ue a) h)) (lN p 0 h 1 (.slice a.snd.fst) λh=>R (aer (.slice a.fst)) h)):Cl 110 [.ptr p,.i now] h R:=vi func110 H
open Go.IntKind (wrap)
theorem iN(q:Sl)(H:cu h (.slice q) 165 λa=>R (aer (uh 252 h)) a):Cl 195 [.slice q] h R:=vi func195 H
open Go.IntKind (wrap)
theorem E6(t:OL)(root:Bs 32)(H:bV h root λe=>If (aeR t) (BJ R 2 e) (jS e h 0 35 t λb n j=>BI t n j λb n v k l a=>If (!k) (BJ R 7 a) (bu a h 0 λb=>aJ a l 32 λn=>gM 57 t a λm d=>Ext a d/\gM 210 t d λo f=>Ext d f/\WN 141 [bK b,aT n,BM m o] f λp n q=>jS q h 0 35 t λb n h=>Go.Vc.Loop (c5 n 1) h λ(s:Int) h K=>mM 57 [.ptr t] h λn h=>If (decide (s<n)) (BI t s h λb n w x h g=>aJ g h 33 λn=>BI t n g λb n y z i r=>jS r i 0 35 p λb n c=>If (decide (0<=n)) (bu c h 0 λb=>bu c i 0 λu=>aJ c h 32 λn=>mM 283 [.ptr p,bK b,bK u,aT n] c λn h=>K (c5 s 1) h) (K (c5 s 1) c)) (R (aer (.aX [.ptr p,bh 0])) h)))):Cl 244 [.ptr t,.bytes 32 root] h R:=vi func244 H
theorem Gm(t w:OL)(root:Bs 32)(H:bV h root λd=>bu d h 0 λb=>WN 244 [.ptr t,bK b] d λp n h=>If (!decide (n=0)) (R (aer (.aX [.ptr none,.ptr none,aT n])) h) (FW 143 p h λe h=>zf 125 [.ptr p] h λs h=>Go.Vc.Loop (dL,0) h λ(a:Sl×Int) h K=>If (jT a s) (Jv a.snd s 32 0 h λb=>qv h (fU) 52 32 (bK b) λc=>CK c h.size 0 λb=>CK c h.size 0 λf=>jZ 245 w f c λn h=>Ext c h/\fR h (Mc b n) 314 33 a.fst λs h=>K (s,fJ a) h) (mM 236 [.ptr e,.slice a.fst] h λn h=>R (aer (.aX [.ptr p,.ptr e,bh 0])) h))):Cl 178 [.ptr t,.ptr w,.bytes 32 root] h R:=vi func178 H
theorem yF(b:OL)(root:Bs 32)(H:bV h root λa=>If (aeR b) (aD R 2 a) (gE b 12 a λp=>iR b 13 a h 0 λc d=>aeg 178 [.ptr p,.ptr c,bK d] a λp e n h=>If (!decide (n=0)) (dw R n h) (lN b 12 h 1 (.ptr p) λh=>lN b 13 h 1 (.ptr e) λh=>aD R 0 h))):Cl 115 [.ptr b,.bytes 32 root] h R:=vi func115 H
theorem yG(b:OL)(H:dH h λa=>If (aeR b) (bS a h.size 0 32 (fU) λc=>De c h R) (gE b 13 a λp=>iH 190 [.ptr p] a λb c=>xQ c h b R)):Cl 121 [.ptr b] h R:=vi func121 H
open Go.IntKind (wrap)
theorem tH(g:OL)(root:Bs 32)(H:bV h root λa=>If (aeR g) (aD R 2 a) (gE g 13 a λp=>jS a h 0 115 p λb n h=>If (!decide (n=0)) (dw R n h) (acH 116 [.ptr g] h λb n h=>nT h b λh=>gE g 14 h λp=>mM 117 (c7 p n) h λn h=>aD R 0 h))):Cl 41 [.ptr g,.bytes 32 root] h R:=vi func41 H
open Go.IntKind (wrap)
theorem Az(g m:OL)(q A:Int)(B:LU)(E G:Int)(I:Bs 32)(J M:Int)(O:Sl)(U:Bs 16)(W:Int)(Z:Bool)(text:LU)(root:Bs 32)(H:cu h (Ki q A B E G I J M O U W Z) 60 λd=>bV d root λc=>aJ c h 0 λn=>If (decide (n=2)) (cQ 39 [.ptr g] c λb h=>cQ 40 [.ptr m] h λe h=>R (aer (.bool (b==e))) h) (If (decide (n=3)) (∃(a:Array Obj),Vc.Sub a c/\CK a d.size 0 λb=>CK a d.size 0 λe=>jZ 41 g b c λn h=>Vc.Sub a h/\jZ 42 m e h λf h=>R (aer (.bool (decide (n=f)))) h) (∃(a:Array Obj),Vc.Sub a c/\t_ a h.size 1 λn=>t_ a h.size 1 λf=>mM 20 (sq g n text) c λn h=>Vc.Sub a h/\mM 43 (sq m f text) h λi h=>R (aer (.bool (decide (n=i)))) h))):Cl 29 [.ptr g,.ptr m,(Ki q A B E G I J M O U W Z),.str text,.bytes 32 root] h R:=viL func29 H
theorem xB(q:Sl)(A:Int)(H:dH h λa=>wrap .u64 (bN q)≠0/\0<=wrap .i64 (ae1 (wrap .u64 A) (wrap .u64 (bN q)))/\wrap .i64 (ae1 (wrap .u64 A) (wrap .u64 (bN q)))<(bN q)/\Nn q.a λl=>CK a l.b (l.o+aeL (wrap .i64 (ae1 (wrap .u64 A) (wrap .u64 (bN q))))*32) λb=>xQ a h b R):Cl 30 [.slice q,.i A] h R:=vi func30 H
open Go.IntKind (wrap)
theorem xC(q:Sl)(A B:Int)(E G:Int)(I J:Int)(M O:Int)(U W:Int)(Z ab:Int)(ac:Int)(ad:Bs 32)(ae al:Int)(am:Sl)(ao:Bs 16)(H:cu h (bA q A B E G I J M O U W Z) 24 λa=>dh a ab ac ad ae al am ao λc=>cu c (Cc) 58 λd=>iG d h.size 0 λs n f g i j k l m o p r=>dW d a λt u b v w x y=>aaM 155 [(bA s n f g i j k l m o p r),(gL t u b v w x y)] d λb z h=>qv h (pV) 56 16 (.bytes 16 b) λe=>If (!z) (Jy e c R) (xH e h.size 0 λb=>bS e a.size 37 16 (.bytes 16 b) λh=>dW h a λn C b D F s K=>bS h c.size 0 53 (gL n C b D F s K) λh=>dW h c λn L b N P s Q=>R (aer (.aX [(gL n L b N P s Q),.bool true])) h)):Cl 88 [(bA q A B E G I J M O U W Z),(gL ab ac ad ae al am ao)] h R:=vi func88 H
open Go.IntKind (wrap)
theorem pK(G:Sl)(I J:Int)(M O:Int)(U W:Int)(Z ab:Int)(ac ad:Int)(ae:Int)(al:Sl)(H:cu h (Oa G I J M O U W Z ab ac ad ae al) 42 λL=>iG L h.size 0 λs n S T V X Y am ao ap ar aw=>iH 89 [bA s n S T V X Y am ao ap ar aw] L λb p=>QE (Bb p b) h.size 12 λN=>Go.Vc.Loop (dI p 1 1,dL,0) (Bb p b) λ(a:Sl×Sl×Int) e K=>If (decide (a.snd.snd<(bN N))) (abp a.snd.snd N 58 0 e λaE a0 a1 a2 a3 a4 a5 a6 a7 a8 a9 a'=>qv e (WS) 60 58 (Ki aE a0 a1 a2 a3 a4 a5 a6 a7 a8 a9 a') λc=>Cd c e.size 2 λba=>vF c e.size 3 λbb bc bd bi bj bk bl=>jx c bb bc bd bi bj bk bl λq=>t_ q e.size 56 λr=>wrap .u64 (↑a.fst.len:Int)≠0/\0<=wrap .i64 (SV r a)/\wrap .i64 (SV r a)<(↑a.fst.len:Int)/\Nn a.fst.a λl=>CK q l.b (l.o+aeL (wrap .i64 (SV r a))*32) λbm=>bS q c.size 2 32 (bK bm) λo=>bU (λ(P:PUnit) f=>bU (λ(bo:Bool) t=>If bo (vF t c.size 0 λi j k m u v w=>fT 90 [gL i j k m u v w] t λQ d=>aJ d c 0 λx=>If (decide (x=1)) (dW d c λy z A B C D E=>iH 91 [gL y z A B C D E] d λbp F=>fR F (bK bp) 52 32 a.fst λbr bt=>fR bt (.str Q) 9 1 a.snd.fst λbx b0=>K (br,bx,ue a) b0) (fR d (.str Q) 9 1 a.snd.fst λD F=>K (a.fst,D,ue a) F)) (fR t (.str ba) 9 1 a.snd.fst λv d=>K (a.fst,v,ue a) d)) λg=>t_ f e.size 0 λn=>If (decide (n=1)) (vF f c.size 0 λn i b j m s k=>cQ 97 [gL n i b j m s k] f λb h=>g b h) (g false f)) λg=>bU (λ(s:Bool) f=>If s (iG f h.size 0 λs n i j m u x y z B C b1=>vF f c.size 0 λb2 b3 b b5 b6 P k=>Ep 88 [(bA s n i j m u x y z B C b1),(gL b2 b3 b b5 b6 P k)] f λn b7 b b8 b9 s w A h=>jx h n b7 b b8 b9 s w λd=>If A (dW d h λn b' b ca cc s E=>bS d c.size 0 53 (gL n b' b ca cc s E) λh=>g aeV h) (g aeV d)) (g aeV f)) λg=>t_ o e.size 0 λn=>If (decide (n=1)) (ZA o e.size 57 λb=>g b o) (g false o)) (R (aer (.aX [.slice a.snd.fst,.slice a.fst])) e)):Cl 28 [Oa G I J M O U W Z ab ac ad ae al] h R:=vi func28 H
theorem pL(q:Sl)(A B:Int)(E G:Int)(I J:Int)(M O:Int)(U W:Int)(Z:Int)(ab:Sl)(most:Int)(H:cu h (Oa q A B E G I J M O U W Z ab) 42 λm=>bU (λ(s:Bool) a=>fK a h 12 λo=>Go.Vc.Loop (s,0) a λ(d:Bool×Int) h K=>If (Fq d o) (abp d.snd o 58 0 h λn e p f g b j k r t l u=>qv h (WS) 60 58 (Ki n e p f g b j k r t l u) λc=>Cd c h.size 2 λv=>If (decide (400<(c4 v))) (R (i_) c) (QE c h.size 39 λw=>If (decide (40<(bN w))) (R (i_) c) (K (HB d 1) c))) (R (mN) h)) λx=>iG m h.size 0 λs n e f g j k l y z C D=>cQ 18 [bA s n e f g j k l y z C D] m λb a=>If b (R (i_) a) (iz a h 12 λs=>If (gU most s) (R (i_) a) (x false a))):Cl 26 [(Oa q A B E G I J M O U W Z ab),.i most] h R:=vi func26 H
open Go.IntKind (wrap)
theorem AA(g:OL)(H:dH h λa=>FW 32 g a λp c=>iH 121 [.ptr p] c λb d=>xQ d h b R):Cl 48 [.ptr g] h R:=vi func48 H
open Go.IntKind (wrap)
open Go.IntKind (wrap)
theorem yI(q:Sl)(A B:Int)(E G:Int)(I J:Int)(M O:Int)(U W:Int)(Z:Int)(H:cu h (bA q A B E G I J M O U W Z) 24 λf=>iG f h.size 0 λs n ab ac ad ae al am ao ap ar aw=>N9 92 [bA s n ab ac ad ae al am ao ap ar aw] f λp b d=>If (!b) (zl R d) (mO d h 4 6 λn aE=>N9 93 [aT n,aT aE] d λg b i=>mO i h 5 6 λn a0=>N9 93 [aT n,aT a0] i λj b e=>mO e h 7 10 λn a1=>aJ e h 11 λa2=>N9 94 [aT n,aT a1,aT a2] e λk b c=>iG c h.size 0 λs n l m o r t u v w x y=>aJ c h 9 λa3=>iG c h.size 0 λz C D F K L N P Q S T V=>C7 95 [aT a3] c λX h=>Ext c h/\(cu h (acF s n l m o r t u v w x y X p g j k) 80 λa=>Ext h a/\cQ 96 [bA z C D F K L N P Q S T V] a λb Y=>Ext a Y/\R (aer (.aX [fh h,.bool b])) Y)/\cQ 96 [bA z C D F K L N P Q S T V] h λb a=>Ext h a/\cu a (acF s n l m o r t u v w x y X p g j k) 80 λh=>Ext a h/\R (aer (.aX [fh a,.bool b])) h)):Cl 27 [bA q A B E G I J M O U W Z] h R:=vi func27 H
theorem yJ(q:Sl)(A B:Int)(E G:Int)(I J:Int)(M O:Int)(U W:Int)(Z:Int)(H:cu h (bA q A B E G I J M O U W Z) 24 λe=>iG e h.size 0 λs n g i j k l m o r t u=>cQ 96 [bA s n g i j k l m o r t u] e λb a=>If (!b) (zl R a) (iG a h.size 0 λs n v w x y z C D F K L=>aJ a h 3 λN=>iH 89 [bA s n v w x y z C D F K L] a λb f=>Ext a f/\N9 160 [bK b,bh 0,aT N] f λp b c=>iz c h 0 λs=>aJ c h 1 λn=>N9 161 [mC s,aT n] c λP b d=>iG d h.size 0 λs n Q S T V X Y ab ac ad ae=>cu d (ad8 s n Q S T V X Y ab ac ad ae p P) 134 λh=>R (aer (.aX [fh d,.bool true])) h)):Cl 92 [bA q A B E G I J M O U W Z] h R:=vi func92 H
open Go.IntKind (wrap)
open Go.IntKind (wrap)
theorem u9(H:qv (W4 h) (ad4) 24 12 (bA (dI h 1 1) 4 1 9 1 1 1 1 99 1 9 1) λF=>iG F (aeT (W4 h)) 0 λs n Q S T U V W X Y Z ab=>WN 19 [bA s n Q S T U V W X Y Z ab] F λp ac G=>bU (λ(ar:Bool) d=>bU (λ(g:Bs 32×Bool×OL×Bool) a=>abl g.snd.snd.fst 0 a λi j b k l ad e=>fT 90 [gL i j b k l ad e] a λae m=>mM 20 [.ptr p,bh 2,.str ae] m λo q=>If (decide (o=0)) (abl g.snd.snd.fst 0 q λr t b u v al f=>fT 90 [gL r t b u v al f] q λam ao=>mM 20 [.ptr p,bh 2,.str am] ao λw B=>If (decide (w=9)) (abl g.snd.snd.fst 0 B λn C b D E s c=>iH 48 [.ptr p] B λap h=>Ext B h/\iH 91 [gL n C b D E s c] h λb h=>R (aer (.bool (mE ap b))) h) (bO R B)) (bO R q)) λx=>iG d (aeT (W4 h)) 0 λs n i j k l o r t u v w=>iG d (aeT (W4 h)) 0 λg C D E I J K L M N O P=>(iH 89 [bA g C D E I J K L M N O P] d λb h=>Ext d h/\(Ep 88 [(bA s n i j k l o r t u v w),(abm 1 1 b)] h λn y e z A s f c h=>cu h (Cc) 58 λa=>Ext h a/\bS a h.size 0 53 (gL n y e z A s f) λm=>x (b,c,eE h 0,c) m)/\cu h (Cc) 58 λa=>Ext h a/\Ep 88 [(bA s n i j k l o r t u v w),(abm 1 1 b)] a λn y e z A s f c m=>bS m h.size 0 53 (gL n y e z A s f) λq=>x (b,c,eE h 0,c) q)/\cu d (Cc) 58 λh=>Ext d h/\iH 89 [bA g C D E I J K L M N O P] h λb a=>Ext h a/\Ep 88 [(bA s n i j k l o r t u v w),(abm 1 1 b)] a λn y e z A s f c h=>bS h d.size 0 53 (gL n y e z A s f) λh=>x (b,c,some (aeQ d.size 0),c) h) λx=>If (!decide (ac=0)) (bO R G) (cQ 39 [.ptr p] G λb h=>If (!b) (bO R h) (gM 31 p h λn h=>If (!decide (n=1)) (bO R h) (mM 20 [.ptr p,bh 1,.str (ae0 #[(120:UInt8)]).data.toList] h λn h=>If (!decide (n=5)) (bO R h) (FW 52 p h λp h=>mM 87 [.ptr p,bh 1] h λn h=>If (!decide (n=(-4))) (bO R h) (x false h)))))):Cl 25 [] h R:=vi func25 H
open Go.IntKind (wrap)
theorem qs(q:Sl)(A B:Int)(E G:Int)(I J:Int)(M O:Int)(U W:Int)(Z:Int)(ab:Sl)(H:cu h (Oa q A B E G I J M O U W Z ab) 42 λw=>cQ 25 [] w λb f=>If (!b) (bO R f) (acK f h.size 0 λs n x y z C D F L N P Q S=>cQ 26 [(Oa s n x y z C D F L N P Q S),bh 60] f λT g=>If T (R (i_) g) (iG g h.size 0 λV X Y ac ad ae al am ao ap ar aw=>WN 19 [bA V X Y ac ad ae al am ao ap ar aw] g λp aE k=>iG k h.size 0 λa0 a1 a2 a3 a4 a5 a6 a7 a8 a9 a' ba=>N9 27 [bA a0 a1 a2 a3 a4 a5 a6 a7 a8 a9 a' ba] k λbb bc bd=>bU (λ(bi:Bool) l=>acK l h.size 0 λbj bk bl bm bo bp br bt bx b0 b1 b2 b3=>aeh 28 [Oa bj bk bl bm bo bp br bt bx b0 b1 b2 b3] l λb5 b6 m=>iz m h 12 λo=>Go.Vc.Loop (bi,0,0) m λ(a:Bool×Int×Int) c K=>If (decide (a.snd.snd<(bN o))) (abp a.snd.snd o 58 0 c λb7 b8 b9 b' ca cc cd ce cf ch ci cj=>qv c (WS) 60 58 (Ki b7 b8 b9 b' ca cc cd ce cf ch ci cj) λi=>bU (λ(r:Int) d=>acL d c.size 0 λj cl cp cs ct cw cx cy cA cB cC cI=>Ob a.snd.snd b5 1 0 d λcJ=>t_ d c.size 56 λcK=>iH 30 [.slice b6,aT cK] d λcM t=>Ext d t/\cQ 29 [.ptr p,.ptr bb,(Ki j cl cp cs ct cw cx cy cA cB cC cI),.str cJ,bK cM] t λcP u=>If (!cP) (bO R u) (gM 31 p u λcR v=>If (!decide (cR=r)) (bO R v) (K (a.fst,r,wrap .i64 (a.snd.snd+1)) v))) λe=>t_ i c.size 0 λj=>If (decide (j=2)) (e (wrap .i64 (a.snd.fst+1)) i) (e a.snd.fst i)) (R (i_) c)) λe=>aaP aE R bd bc e))):Cl 4 [Oa q A B E G I J M O U W Z ab] h R:=vi func4 H
end
namespace Gate
open Pool (xE)
abbrev kR(r:Bs 32):TV:=.bytes 32 r
abbrev vI(n:Int):TV:=.i n
abbrev ZJ(L:List Nd):List TV:=L.map Nd.tv
theorem aej:(ctx.ti 5).d=some (.int .u8):=κ
theorem SY:Zi ctx (.array 32 5) kR:=⟨λa b=>by simp only[jl];exact El a b,λa=>by simp[c_,aej,Zl]⟩
theorem Nd.size(x:Nd):x.tv.size=34:=by simp only[Nd.tv,ae2,afe]
theorem Nd.plain(x:Nd):x.tv.plain=true:=by simp only[Nd.tv,TV.plain,aj.plain,Bool.and_self]
theorem Xh(L:List Nd):∀t∈ZJ L,t.size=34:=λt a=>by obtain⟨x,_,rfl⟩:=afF.1 a;exact x.size
section
variable{R:Rq}{h h':aa}{b r:Nat}{A:Sl}{L:List Nd}{most:Int}
structure yK(h:aa)(b r:Nat)(A:Sl)(L:List Nd)(most:Int):Prop where
 var:Var 168 h b (.agg [.slice A,.map (some r),.i most])
 own:Own 69 34 h A (ZJ L)
 map:k9 kR vI h r (C5 L 0)
 ok:Cb L most
 ne:¬In A b/\¬In A r
def kH(b r:Nat)(A:Sl)(i:Nat):Prop:=i=b\/i=r\/In A i
theorem yK.only{S:Nat->Prop}(p:yK h b r A L most)(o:ag S h h')(q:∀i,kH b r A i->¬S i):yK h' b r A L most:=
 ⟨p.var.only o (q b (.inl rfl)),p.own.only o λl a=>q l.b (.inr (.inr ⟨l,a,rfl⟩)),p.map.only o (q r (.inr (.inl rfl))),p.ok,p.ne⟩
theorem yK.ext(p:yK h b r A L most)(x:Ext h h'):yK h' b r A L most:=p.only (S:=λ_=>False) (.an x) λ_ _ a=>a
theorem yK.lt(p:yK h b r A L most){i:Nat}(q:kH b r A i):i<h.size:=by
 rcases q with rfl|rfl|⟨l,a,rfl⟩
 ·exact p.var.lt
 ·exact p.map.lt
 ·exact p.own.lt l a
theorem yK.len(p:yK h b r A L most):L.length=A.len:=by have:=p.own.len;rwa [ae4]at this
theorem dx(p:yK h b r A L most){k:Bs 32}(q:∀h',Ext h h'->R (TV.i (place k L)).val h'):Cl 35 [.ptr (PT b),.bytes 32 k] h R:=by
 apply xR;delta lR bV dw bu bK aT bh;refine af λe v1 a m=>If.no ⟨some r,(p.var.ext a).ah rfl,k,v1.bytes,?_⟩;obtain⟨es,c,f,g,j,l⟩:=(p.map.ext a).look SY k 0;refine⟨es,c,f,g,_,j,?_⟩;have q:=q e a;rw[l];rw[Em];unfold place at q;cases d:kQ k L with
 |none=>rw[d]at q;exact If.no q
 |some i=>rw[d]at q;refine If.yes ?_;simpa using q
theorem Dh(p:yK h b r A L most)(q:R (TV.i (L.length:Int)).val h):Cl 57 [.ptr (PT b)] h R:=by
 apply Bf;delta mC aI aD dO bN bh;refine If.no ⟨A,p.var.ah rfl,?_⟩;dsimp only;rw[<-p.len];exact q
theorem Ev(p:yK h b r A L most)(q:R (TV.i (most-L.length)).val h):Cl 210 [.ptr (PT b)] h R:=by
 apply zw;delta aI aD dO bN bh;have a:=p.ok.most;have c:=p.ok.len;refine If.no ⟨most,p.var.ah rfl,A,p.var.ah rfl,?_⟩;dsimp only;rw[<-p.len,wrap_i64 ω ω];exact q
def dm(L:List Nd)(i:Int):Nd×Bool:=match nodeAt L i with
 |some x=>(x,true)
 |none=>(Nd.zero,false)
theorem aaQ{T:TypeId}{b:Nat}{x:Nd}(v:Var T h b x.tv){K:Bs 32->Int->Int->Prop}(q:K x.root x.slot x.par):
 ∃(k:Bs 32),∃(n m:Int),(ay h b 0 32 k/\ah h b 32 (.i n)/\ah h b 33 (.i m))/\K k n m:=⟨_,_,_,v.at,q⟩
theorem Oq(b:aa){q:Nat}(x:Ext h b)(v:Var 69 b q (TV.agg [.bytes 32 (aeZ 32),.i 0,.i 0]))(G:h.size<=q)(E:∀h',Ext h h'->R (afy [Nd.zero.tv,.bool false]).val h'):
 gi b q 0 34/\Bind (TV.put b q 0 (.agg [.bytes 32 (aeZ 32),.i 0,.i (-1)])) λB=>∃(k:Bs 32),∃(n m:Int),(ay B q 0 32 k/\ah B q 32 (.i n)/\ah B q 33 (.i m))/\R (aer (.aX [.agg [.bytes 32 k,.i n,.i m],.bool false])) B:=
 aH v (t:=Nd.zero.tv) rfl λa c f2 _=>aaQ c (E a (ae7 x f2 λi d=>ω))
theorem cL(p:yK h b r A L most){i:Int}(q:∀h',Ext h h'->R (afy [(dm L i).1.tv,.bool (dm L i).2]).val h'):Cl 34 [.ptr (PT b),.i i] h R:=by
 apply zv;delta aI SJ bN;have n:=p.len;refine af λc v1 a o=>If.no (ID (λd=>?_) λd=>⟨A,(p.var.ext a).ah rfl,ID (λf=>?_) λf=>⟨A,(p.var.ext a).ah rfl,?_⟩⟩)
 ·refine Oq c a v1 (afa _) λh' x=>?_;have:=q h' x;unfold dm nodeAt at this;rw[if_neg ω]at this;exact this
 ·refine Oq c a v1 (afa _) λh' x=>?_;have:=q h' x;unfold dm nodeAt at this;rw[if_pos ω,List.getElem?_eq_none ω]at this;exact this
 ·refine(p.own.ext a).elems.read ω ω λl t s e g=>?_;rw[afp]at e;obtain⟨x,j,rfl⟩:=Option.map_eq_some_iff.1 e;refine⟨x.root,x.slot,x.par,g,aH v1 (t:=x.tv) rfl λk m f2 _=>aaQ m ?_⟩;have:=q k (ae7 a f2 λi d=>ω);unfold dm nodeAt at this;rw[if_pos ω,j]at this;exact this
end
end Gate
end Go.Proofs.YtennbinbffdimaaGreat
namespace Go.Vc
open Go
structure Step(M:Nat->Prop)(h:aa)(M':Nat->Prop)(h':aa):Prop where
 only:ag M h h'
 new:∀i,M' i->M i\/h.size<=i
theorem Step.an{M:Nat->Prop}{h h':aa}(x:Ext h h'):Step M h M h':=⟨.an x,λ_ a=>.inl a⟩
theorem Step.trans{M M' M'':Nat->Prop}{h h' q:aa}(a:Step M h M' h')(b:Step M' h' M'' q):Step M h M'' q:=
 ⟨⟨Nat.le_trans a.only.size b.only.size,λi d e=>by
   rw[b.only.same i (Nat.lt_of_lt_of_le d a.only.size) (λf=>by rcases a.new i f with c|c;exact e c;omega),a.only.same i d e]⟩,λi d=>by
   rcases b.new i d with c|c
   ·exact a.new i c
   ·have:=a.only.size;exact .inr ω⟩
theorem Step.mono{M N M':Nat->Prop}{h h':aa}(a:Step M h M' h')(q:∀i,M i->N i):Step N h M' h':=⟨a.only.mono q,λi b=>(a.new i b).imp (q i) id⟩
theorem Step.cut{M M':Nat->Prop}{h q h':aa}(x:Ext h q)(a:Step M q M' h'):Step M h M' h':=(Step.an x).trans a
theorem Step.loc{M:Nat->Prop}{S:Nat->Prop}{h q h':aa}(x:Ext h q)(a:ag S q h')(B:∀i,S i->h.size<=i):Step M h M h':=.an (ae7 x a B)
end Go.Vc
namespace Go.Proofs.YtennbinbffdimaaGreat
open Go Go.Vc
namespace Gate
open Pool (xE)
theorem Fv:(ctx.ti 69).bytes=48:=κ
theorem QM:0<(ctx.ti 69).bytes:=by rw[Fv];decide
theorem Um:(ctx.ti 69).size=34:=κ
theorem QN:(ctx.ti 69).z.size=34:=κ
section
variable{R:Rq}{h h':aa}{b r:Nat}{A:Sl}{L:List Nd}{most:Int}
theorem Ot(p:yK h b r A L most){root parent:Bs 32}{slot:Int}
 (U:∀h' A',yK h' b r A' (iF L most root parent slot) most->Step (kH b r A) h (kH b r A') h'->R (TV.i (nQ L most root parent slot)).val h'):
 Cl 283 [.ptr (PT b),.bytes 32 root,.bytes 32 parent,.i slot] h R:=by
 apply Bg;delta sr mC dZ aI aD gM BI c7 jv C' bV jS bu dO aJ bK bN aT bh;have nb:=p.var.lt;refine af λS v1 V s1=>af λW X Y s2=>⟨parent,X.bytes,?_⟩;have H:=V.trans Y;refine dx (p.ext H) λZ I=>⟨_,rfl,?_⟩;have ab:=H.trans I;refine cL (p.ext ab) λw x4=>⟨_,_,_,_,rfl,?_⟩;have aw:=ab.trans x4;obtain⟨u,g⟩:∃u,u=dm L (place parent L):=⟨_,rfl⟩;rw[<-g];refine af λh5 v5 x5 s5=>aH v5 (t:=u.1.tv) rfl λh6 v6 f6 s6=>?_;have K:Ext w h6:=ae7 x5 f6 λi hi=>ω;have y:=aw.trans K;have ac:=((((v1.ext Y).ext I).ext x4).ext K);have aE:=(((X.ext I).ext x4).ext K)
 have m:∀{e:Int}{v:aa},Ext h v->nQ L most root parent slot=e->e≠0->R (TV.i e).val v:=λ{e v} x f j=>by
  have:=U v A;unfold iF at this;rw[f,if_neg j]at this;exact this (p.ext x) (.an x)
 intro J HJ;refine If.no ⟨root,ac.bytes,dx (p.ext y) λh7 q=>⟨_,rfl,ID (λz=>?_) λz=>If.split (λM=>?_) λM=>?_⟩⟩
 ·refine m (y.trans q) ?_ δ;unfold nQ;rw[if_pos z]
 ·refine m (y.trans q) ?_ δ;unfold nQ;rw[if_neg z];have:u.2=false:=by simpa using M
  unfold dm at g;split at g
  ·rw[g]at this;cases this
  ·rename_i j;rw[j]
 have ad:u.2=true:=by simpa using M
 have B:nodeAt L (place parent L)=some u.1:=by
  unfold dm at g;split at g
  ·rename_i x hx;rw[hx,g]
  ·rw[g]at ad;cases ad
 have k:=y.trans q;have a0:Var 69 h7 w.size u.1.tv:=Var.ext (t:=u.1.tv) v6 q
 have D:nQ L most root parent slot=if slot<=u.1.slot\/1073741824<slot then 5 else if most<=L.length then 6 else 0:=by
  unfold nQ;rw[if_neg z,B]
 refine⟨u.1.slot,a0.at.2.1,ID (λae=>?_) λae=>If.dec.2 ⟨λal=>?_,λal=>?_⟩⟩
 ·exact m k (by rw[D,if_pos (.inl ae)]) δ
 ·exact m k (by rw[D,if_pos (.inr al)]) δ
 refine Ev (p.ext k) ⟨_,rfl,ID (λhm=>?_) λhm=>?_⟩
 ·exact m k (by rw[D,if_neg ω,if_pos ω]) δ
 have am:nQ L most root parent slot=0:=by rw[D,if_neg ω,if_neg ω]
 refine HJ 0 h7 ?_;clear HJ J m;have s:=p.ext k;have a9:=s.var.lt;have ao:=ac.ext q;have a1:=aE.ext q
 have hk:root∉mB (C5 L 0):=by
  rw[Eo];exact mL.1 ω
 refine⟨some r,s.var.ah rfl,root,ao.bytes,A,s.var.ah rfl,s.map.put SY root (A.len:Int) λE N f8 s8=>?_⟩;rw[N6 hk]at N;have ap:b≠r:=p.map.ne p.var;have a':=p.map.lt;have ba:=p.var.lt;have bb:=k.size;have bc:=H.size;have z1:=V.size;have O:Var 168 E b (.agg [.slice A,.map (some r),.i most]):=s.var.only f8 ap;have o8:Own 69 34 E A (ZJ L):=s.own.only f8 λl d f=>p.ne.2 ⟨l,d,f⟩;have a2:Var 52 E h.size (.bytes 32 root):=ao.only f8 ω;have a3:Var 52 E S.size (.bytes 32 parent):=a1.only f8 ω;refine⟨A,O.ah rfl,root,a2.bytes,some r,O.ah rfl,parent,a3.bytes,?_⟩;obtain⟨es,c,hb,d,ho,v⟩:=N.look SY parent 0;refine⟨es,c,hb,d,_,ho,afi _ _,?_⟩
 have hp:(kF parent (C5 L 0++[(root,(A.len:Int))])).getD 0=place parent L:=by
  obtain⟨i,x,S,W,Z,w,h5⟩:=fB (r:=parent) (L:=L) (by unfold nodeAt at B;split at B;assumption;cases B);have e:C5 L 0++[(root,(A.len:Int))]=C5 (L++[⟨root,slot,place parent L⟩]) 0:=by rw[En,p.len];simp
  have hf:kQ parent (L++[⟨root,slot,place parent L⟩])=some i:=by
   have:=vD (i:=i) (x:=x) (L:=L++[⟨root,slot,place parent L⟩]) (by
    rw[List.map_append,List.nodup_append];refine⟨p.ok.nodup,by simp,λa ha b' a4=>?_⟩;have:b'=root:=by simpa using a4
    rw[this];rintro rfl;exact hk (by rw[Eo];exact ha)) (by rw[List.getElem?_append_left h5];exact Z)
   rw[w]at this;exact this
  rw[e,Em,hf,W];simp
 rw[hp];have a5:=p.len;have bd:=p.ok.most;refine cz (C:=ctx) (T:=69) (sz:=34) (x:=(⟨root,slot,place parent L⟩:Nd).tv) Um QN QM (by rw[Fv,<-p.len];omega) o8 (Nd.size _) (Nd.plain _) λP h9 o9 f9 n9=>?_;have v9:Var 168 h9 b (.agg [.slice A,.map (some r),.i most]):=O.only f9 p.ne.1;have m9:=N.only f9 p.ne.2;refine⟨(v9.gi (o:=0) (n:=1) (by simp[ae2,afe])),?_⟩;refine(aF v9 (i:=0) (t:=.slice P) rfl rfl rfl rfl λa6 v10 f10 bi=>?_).2
 have Q:∀l,P.a=some l->l.b≠b/\l.b≠r:=λl d=>by
  rcases n9 l d with⟨F,G,f⟩|ar
  ·exact⟨λe=>p.ne.1 ⟨F,G,ω⟩,λe=>p.ne.2 ⟨F,G,ω⟩⟩
  ·omega
 have hL:iF L most root parent slot=L++[⟨root,slot,place parent L⟩]:=by unfold iF;rw[if_pos am]
 have a7:=p.ok.add (root:=root) (parent:=parent) (slot:=slot);have:=U a6 P ⟨?_,?_,?_,a7,⟨λ⟨l,d,f⟩=>(Q l d).1 f,λ⟨l,d,f⟩=>(Q l d).2 f⟩⟩ ⟨⟨?_,?_⟩,?_⟩
 ·rw[am]at this;exact this
 ·exact v10
 ·rw[hL];have a8:=o9.only f10 λl d=>(Q l d).1;simpa[ZJ]using a8
 ·rw[hL,En,Nat.zero_add,a5];exact m9.only f10 (Ne.symm ap)
 ·have:=f8.size;have:=f9.size;have:=f10.size;omega
 ·intro i hi j;have bj:=f8.size;have ar:=f9.size;rw[f10.same i ω (λe=>j (.inl e)),f9.same i ω (λ⟨l,d,f⟩=>j (.inr (.inr ⟨l,d,f⟩))),f8.same i ω (λe=>j (.inr (.inl e))),k.same i hi]
 ·rintro i (rfl|rfl|⟨l,d,rfl⟩)
  ·exact .inl (.inl rfl)
  ·exact .inl (.inr (.inl rfl))
  ·rcases n9 l d with⟨F,G,f⟩|ar
   ·exact .inl (.inr (.inr ⟨F,G,f⟩))
   ·exact .inr (by have:=f8.size;omega)
end
end Gate
end Go.Proofs.YtennbinbffdimaaGreat
namespace Go.Vc
open Go
section
variable{C:Ctx}{T:TypeId}{sz:Nat}{h h0:aa}{s1 s2:Sl}{ts1 ts2:List TV}{x y:TV}{K:Sl->Sl->aa->Prop}
theorem Gu{K:Sl->aa->Prop}{q:Nat}(A:(C.ti T).size=sz)(B:(C.ti T).z.size=sz)(E:0<(C.ti T).bytes)(G:0<sz)(H:(s1.len+1)*(C.ti T).bytes<=70368744177664)
 (o:Own T sz h s1 ts1)(v:h[q]? =some (row (aeM [x]) T))(I:x.size=sz)(J:x.plain=true)
 (M:∀b a,Own T sz a b (ts1++[x])->ag (In s1) h a->(∀i,In b i->In s1 i\/h.size<=i)->K b a):
 ∃new,cv h (aeP (some (aeQ q 0)) 1 1) sz new/\(∀v∈new,bQ v=true)/\aq C T s1 1 new h K:=by
 have one:∀t∈[x],t.size=sz:=λt c=>by rw[List.mem_singleton.1 c];exact I
 have f:∀t∈[x],t.plain=true:=λt c=>by rw[List.mem_singleton.1 c];exact J
 have e:ak sz h (aeP (some (aeQ q 0)) 1 1) [x]:=by
  have:Own T sz h (aeP (some (aeQ q 0)) 1 1) [x]:=⟨one,rfl,afa _,.inr ⟨q,[],rfl,by simpa using v,by simp⟩⟩;exact this.elems
 exact pT (s:=aeP (some (aeQ q 0)) 1 1) A B E G H o e one f λt' a g _ j k=>M t' a g j λi⟨l,m,p⟩=>by
  rcases k l m with⟨n,d,r⟩|d
  ·exact .inl ⟨n,d,ω⟩
  ·exact .inr ω
theorem SZ(E:(C.ti T).size=sz)(G:(C.ti T).z.size=sz)(H:0<(C.ti T).bytes)(I:0<sz)(U:(s1.len+1)*(C.ti T).bytes<=70368744177664)(W:(s2.len+1)*(C.ti T).bytes<=70368744177664)
 (M:Own T sz h s1 ts1)(O:Own T sz h s2 ts2)(ap:∀i,In s1 i->¬In s2 i)(Z:x.size=sz)(ab:x.plain=true)(hy:y.size=sz)(hyp:y.plain=true)
 (J:∀c,ag (λi=>In s1 i\/In s2 i) h c->Sub h0 c)
 (hk:∀u w c,Own T sz c u (ts1++[x])->Own T sz c w (ts2++[y])->ag (λi=>In s1 i\/In s2 i) h c->(∀i,In u i->In s1 i\/h.size<=i)->(∀i,In w i->In s2 i\/h.size<=i)->(∀i,In u i->¬In w i)->K u w c):
 (Sub h0 (aeH h (row (aeM [x]) T))/\
  (∃new,cv (aeH h (row (aeM [x]) T)) (aeP (some (aeQ h.size 0)) 1 1) sz new/\(∀v∈new,bQ v=true)/\aq C T s1 1 new (aeH h (row (aeM [x]) T)) λs h=>Sub h0 h/\Sub h0 (aeH h (row (aeM [y]) T))/\
   ∃new,cv (aeH h (row (aeM [y]) T)) (aeP (some (aeQ h.size 0)) 1 1) sz new/\(∀v∈new,bQ v=true)/\aq C T s2 1 new (aeH h (row (aeM [y]) T)) λB h=>K s B h)/\
  Sub h0 (aeH (aeH h (row (aeM [x]) T)) (row (aeM [y]) T))/\
  ∃new,cv (aeH (aeH h (row (aeM [x]) T)) (row (aeM [y]) T)) (aeP (some (aeQ h.size 0)) 1 1) sz new/\(∀v∈new,bQ v=true)/\aq C T s1 1 new (aeH (aeH h (row (aeM [x]) T)) (row (aeM [y]) T)) λs A=>Sub h0 A/\
   ∃new,cv A (aeP (some (aeQ (aeT (aeH h (row (aeM [x]) T))) 0)) 1 1) sz new/\(∀v∈new,bQ v=true)/\aq C T s2 1 new A λB h=>K s B h)/\
 Sub h0 (aeH h (row (aeM [y]) T))/\Sub h0 (aeH (aeH h (row (aeM [y]) T)) (row (aeM [x]) T))/\
  ∃new,cv (aeH (aeH h (row (aeM [y]) T)) (row (aeM [x]) T)) (aeP (some (aeQ (aeT (aeH h (row (aeM [y]) T))) 0)) 1 1) sz new/\(∀v∈new,bQ v=true)/\aq C T s1 1 new (aeH (aeH h (row (aeM [y]) T)) (row (aeM [x]) T)) λs A=>Sub h0 A/\
   ∃new,cv A (aeP (some (aeQ h.size 0)) 1 1) sz new/\(∀v∈new,bQ v=true)/\aq C T s2 1 new A λB h=>K s B h:=by
 have Y:∀i,In s1 i->i<h.size:=λi⟨l,b,a⟩=>by have:=M.lt l b;omega
 have V:∀i,In s2 i->i<h.size:=λi⟨l,b,a⟩=>by have:=O.lt l b;omega
 have sub:∀c,Ext h c->Sub h0 c:=λc e=>J c (.an e)
 have both:∀{g:aa}{p q:Nat},Ext h g->g[p]? =some (row (aeM [x]) T)->g[q]? =some (row (aeM [y]) T)->h.size<=q->
  ∃new,cv g (aeP (some (aeQ p 0)) 1 1) sz new/\(∀v∈new,bQ v=true)/\aq C T s1 1 new g λs A=>Sub h0 A/\
   ∃new,cv A (aeP (some (aeQ q 0)) 1 1) sz new/\(∀v∈new,bQ v=true)/\aq C T s2 1 new A λB h=>K s B h:=by
  intro g p q D vp X hq;have zg:=D.size;refine Gu E G H I U (M.ext D) vp Z ab λs f n f1 o=>?_;have ac:=f1.size;have m:ag (λi=>In s1 i\/In s2 i) h f:=(afz D).trans (f1.mono λi a=>.inl a);have F:Own T sz f s2 ts2:=(O.ext D).only f1 λl b a=>ap _ a ⟨l,b,rfl⟩;have ad:f[q]? =some (row (aeM [y]) T):=by rw[f1.same q (jo X) (λa=>by have:=Y q a;omega),X]
  refine⟨J f m,Gu E G H I W F ad hy hyp λL N P f2 r=>?_⟩
  have d1:∀i,In s i->¬In s2 i:=λi a j=>by
   rcases o i a with d|d
   ·exact ap i d j
   ·have:=V i j;omega
  refine hk s L N (n.only f2 λl b a=>d1 _ ⟨l,b,rfl⟩ a) P (m.trans (f2.mono λi a=>.inr a)) (λi a=>(o i a).imp id (λh=>ω)) (λi a=>(r i a).imp id (λh=>ω)) λi a j=>?_;rcases r i j with d|d
  ·exact d1 i a d
  ·obtain⟨l,b,he⟩:=a;have:=n.lt l b;omega
 have k:=afi h (row (aeM [x]) T);have Q:=afi h (row (aeM [y]) T);have R:=afi (aeH h (row (aeM [x]) T)) (row (aeM [y]) T);have S:=afi (aeH h (row (aeM [y]) T)) (row (aeM [x]) T);refine⟨⟨sub _ k,?_,sub _ (k.trans R),both (k.trans R) ?_ (cg _ _) k.size⟩,sub _ Q,sub _ (Q.trans S),both (Q.trans S) (cg _ _) ?_ (afa _)⟩
 ·have zg:=k.size;refine Gu E G H I U (M.ext k) (cg _ _) Z ab λs f n f1 o=>?_;have ac:=f1.size;have m:ag (λi=>In s1 i\/In s2 i) h f:=(afz k).trans (f1.mono λi a=>.inl a);have F:Own T sz f s2 ts2:=(O.ext k).only f1 λl b a=>ap _ a ⟨l,b,rfl⟩;have t:=afi f (row (aeM [y]) T);have zy:=t.size;refine⟨J f m,J _ (m.trans (.an t)),Gu E G H I W (F.ext t) (cg _ _) hy hyp λL N P f2 r=>?_⟩
  have d1:∀i,In s i->¬In s2 i:=λi a j=>by
   rcases o i a with d|d
   ·exact ap i d j
   ·have:=V i j;omega
  refine hk s L N ((n.ext t).only f2 λl b a=>d1 _ ⟨l,b,rfl⟩ a) P ((m.trans (.an t)).trans (f2.mono λi a=>.inr a)) (λi a=>(o i a).imp id (λh=>ω)) (λi a=>(r i a).imp id (λh=>ω)) λi a j=>?_;rcases r i j with d|d
  ·exact d1 i a d
  ·obtain⟨l,b,he⟩:=a;have:=n.lt l b;omega
 ·exact(R.same _ (by simp)).trans (cg _ _)
 ·exact(S.same _ (by simp)).trans (cg _ _)
end
end Go.Vc
namespace Go.Vc
open Go
theorem su{A A' B:Sl}{n:Nat}(d:∀i,In A i->¬In B i)(q:∀i,In A' i->In A i\/n<=i)(lt:∀i,In B i->i<n):∀i,In A' i->¬In B i:=λi c a=>by
 rcases q i c with b|b
 ·exact d i b a
 ·have:=lt i a;omega
theorem Own.gv{T:TypeId}{sz:Nat}{h:aa}{s:Sl}{ts:List TV}(o:Own T sz h s ts):∀i,In s i->i<h.size:=λi⟨l,a,b⟩=>by have:=o.lt l a;omega
theorem Own.keep{T:TypeId}{sz:Nat}{S:Nat->Prop}{h h':aa}{s:Sl}{ts:List TV}(o:Own T sz h s ts)(f:ag S h h')(q:∀i,In s i->¬S i):Own T sz h' s ts:=o.only f λl a=>q l.b ⟨l,a,rfl⟩
def HM(h:aa)(b o:Nat):Nat:=match lz h b o with
 |some (.slice _ n _)=>n
 |_=>0
theorem Ov{h:aa}{b o:Nat}{s:Sl}(a:ah h b o (aW s)):HM h b o=s.len:=by
 unfold HM;rw[show lz h b o=some (aW s)from a];rfl
end Go.Vc
namespace Go.Proofs.YtennbinbffdimaaGreat
open Go Go.Vc
namespace Gate
abbrev dX(l:List Int):List TV:=l.map vI
theorem Ew(l:List Int):∀t∈dX l,t.size=1:=λt a=>by obtain⟨x,_,rfl⟩:=afF.1 a;rfl
theorem uj:(tR.ti 3).bytes=8:=κ
theorem Ow:(tR.ti 3).size=1:=κ
theorem Kt:(tR.ti 3).z.size=1:=κ
theorem S7:0<(tR.ti 3).bytes:=by rw[uj];decide
section
variable{R:Rq}{h h':aa}{w tb:Nat}{O S B G:Sl}{os ss bs fs:List Int}
structure WP(h:aa)(w tb:Nat)(O S B G:Sl)(os ss bs fs:List Int):Prop where
 var:Var 270 h w (.agg [.ptr (PT tb),.slice O,.slice S,.slice B,.slice G])
 o:Own 3 1 h O (dX os)
 s:Own 3 1 h S (dX ss)
 b:Own 3 1 h B (dX bs)
 f:Own 3 1 h G (dX fs)
 now:¬In O w/\¬In S w/\¬In B w/\¬In G w
 os_:∀i,In O i->¬In S i
 ob:∀i,In O i->¬In B i
 of:∀i,In O i->¬In G i
 sb:∀i,In S i->¬In B i
 sf:∀i,In S i->¬In G i
 bf:∀i,In B i->¬In G i
def gV(w:Nat)(O S B G:Sl)(i:Nat):Prop:=i=w\/In O i\/In S i\/In B i\/In G i
theorem WP.only{Q:Nat->Prop}(p:WP h w tb O S B G os ss bs fs)(f:ag Q h h')(q:∀i,gV w O S B G i->¬Q i):WP h' w tb O S B G os ss bs fs:=
 ⟨p.var.only f (q w (.inl rfl)),p.o.keep f λi a=>q i (.inr (.inl a)),p.s.keep f λi a=>q i (.inr (.inr (.inl a))),p.b.keep f λi a=>q i (.inr (.inr (.inr (.inl a)))),p.f.keep f λi a=>q i (.inr (.inr (.inr (.inr a)))),
  p.now,p.os_,p.ob,p.of,p.sb,p.sf,p.bf⟩
theorem WP.ext(p:WP h w tb O S B G os ss bs fs)(x:Ext h h'):WP h' w tb O S B G os ss bs fs:=p.only (Q:=λ_=>False) (.an x) λ_ _ a=>a
theorem WP.lt(p:WP h w tb O S B G os ss bs fs){i:Nat}(q:gV w O S B G i):i<h.size:=by
 rcases q with rfl|q|q|q|q
 ·exact p.var.lt
 ·exact p.o.gv i q
 ·exact p.s.gv i q
 ·exact p.b.gv i q
 ·exact p.f.gv i q
theorem WP.lo(p:WP h w tb O S B G os ss bs fs):os.length=O.len:=by have:=p.o.len;rwa [ae4]at this
theorem WP.ls(p:WP h w tb O S B G os ss bs fs):ss.length=S.len:=by have:=p.s.len;rwa [ae4]at this
theorem WP.lb(p:WP h w tb O S B G os ss bs fs):bs.length=B.len:=by have:=p.b.len;rwa [ae4]at this
theorem WP.lf(p:WP h w tb O S B G os ss bs fs):fs.length=G.len:=by have:=p.f.len;rwa [ae4]at this
def pad(l:List Int)(n:Nat)(v:Int):List Int:=l++List.replicate (n-l.length) v
theorem Di{l:List Int}{n:Nat}{v:Int}(h:l.length<n):pad (l++[v]) n v=pad l n v:=by
 unfold pad;rw[List.append_assoc,afA,List.length_singleton];congr 1;obtain⟨m,a⟩:∃m,n-l.length=m+1:=⟨n-l.length-1,ω⟩;rw[a,show n-(l.length+1)=m by omega];rfl
theorem AK{l:List Int}{n:Nat}{v:Int}(h:n<=l.length):pad l n v=l:=by
 unfold pad;rw[Nat.sub_eq_zero_of_le h];simp
theorem Ku{r:Nat}{A:Sl}{L:List Nd}{most:Int}(p:WP h w tb O S B G os ss bs fs)(t:yK h tb r A L most)(ap:∀i,kH tb r A i->¬gV w O S B G i)
 (l1:ss.length=os.length)(l2:bs.length=os.length)(l3:fs.length=os.length)(E:os.length<=L.length)
 (hr:∀h' O' S' B' G',WP h' w tb O' S' B' G' (pad os L.length 0) (pad ss L.length 0) (pad bs L.length (-1)) (pad fs L.length (-1))->Step (gV w O S B G) h (gV w O' S' B' G') h'->R (afy []).val h'):
 Cl 203 [.ptr (PT w)] h R:=by
 apply sO;delta Kn HD iJ jv QJ eX dI Od iI bN bh eE;have a8:=t.ok.len;have a9:=t.ok.most
 refine⟨λ_ u=>∃O' S' B' G' v ab ac ad,WP u w tb O' S' B' G' v ab ac ad/\Step (gV w O S B G) h (gV w O' S' B' G') u/\ab.length=v.length/\ac.length=v.length/\ad.length=v.length/\v.length<=L.length/\
  pad v L.length 0=pad os L.length 0/\pad ab L.length 0=pad ss L.length 0/\pad ac L.length (-1)=pad bs L.length (-1)/\pad ad L.length (-1)=pad fs L.length (-1),
  λ_ u=>L.length-HM u w 1,⟨O,S,B,G,os,ss,bs,fs,p,.an (ae5 _),l1,l2,l3,E,rfl,rfl,rfl,rfl⟩,?_⟩
 rintro _ k ⟨F,S1,z,D,K,al,am,ao,c,ae,l1,l2,l3,E,e1,e2,e3,e4⟩;have v1:=c.var;have M:Var 270 (keeps (·=w) k) w _:=v1.keeps rfl;have t1:yK k tb r A L most:=t.only ae.only ap;refine⟨keeps (·=w) k,jq,F,M.ah rfl,some ⟨tb,0⟩,M.ah rfl,Dh t1 ⟨_,rfl,jq,ID (λa'=>?_) λba=>?_⟩⟩
 ·have a2:=c.lo;have bb:=c.ls;have bc:=c.lb;have bd:=c.lf;have a3:K.length<L.length:=ω;have bi:HM k w 1=F.len:=Ov (v1.ah rfl)
  have ar:∀{X Y:Sl}{g g':aa},¬In X w->¬In Y w->ag (λi=>In X i\/In Y i) g g'->Sub (keeps (·=w) g) g':=λH hY f=>tV f λi a b=>by
   subst a;exact b.elim H hY
  intro J HJ
  refine⟨keeps (·=w) k,jq,F,M.ah rfl,S1,M.ah rfl,SZ (C:=tR) (T:=3) (sz:=1) (x:=.i 0) (y:=.i 0) Ow Kt S7 δ (by rw[uj];omega) (by rw[uj];omega)
   c.o c.s c.os_ rfl rfl rfl rfl (λh' f=>ar c.now.1 c.now.2.1 f) λl s h2 o2 s2 f2 N P aw=>?_⟩
  have z2:=f2.size;have v2:Var 270 h2 w _:=v1.only f2 λb=>b.elim c.now.1 c.now.2.1;have b2:=c.b.keep f2 λi a b=>b.elim (λb=>c.ob i b a) λb=>c.sb i b a;have g2:=c.f.keep f2 λi a b=>b.elim (λb=>c.of i b a) λb=>c.sf i b a
  have nw:∀{X X':Sl},¬In X w->(∀i,In X' i->In X i\/k.size<=i)->¬In X' w:=λH E b=>by
   rcases E w b with I|I
   ·exact H I
   ·have:=v1.lt;omega
  refine⟨v2.gi (o:=1) (n:=1) (by simp[ae2,afe]),?_⟩;refine(aF v2 (i:=1) (t:=.slice l) rfl rfl rfl rfl λh3 v3 f3 s3=>?_).2;refine⟨v3.gi (o:=2) (n:=1) (by simp[ae2,afe]),?_⟩;refine(aF v3 (i:=2) (t:=.slice s) rfl rfl rfl rfl λm v4 f4 s4=>?_).2;have f24:ag (·=w) h2 m:=f3.trans f4;have z4:=f24.size;have Q:=nw c.now.1 N;have U:=nw c.now.2.1 P
  have j:WP m w tb l s z D (K++[0]) (al++[0]) am ao:=by
   refine⟨v4,?_,?_,b2.keep f24 λi a e=>c.now.2.2.1 (e▸a),g2.keep f24 λi a e=>c.now.2.2.2 (e▸a),⟨Q,U,c.now.2.2⟩,aw,su c.ob N c.b.gv,su c.of N c.f.gv,su c.sb P c.b.gv,su c.sf P c.f.gv,c.bf⟩
   ·have:=o2.keep f24 λi a e=>Q (e▸a);simpa[dX]using this
   ·have:=s2.keep f24 λi a e=>U (e▸a);simpa[dX]using this
  have a4:Step (gV w F S1 z D) k (gV w l s z D) m:=by
   refine⟨(f2.mono λi a=>?_).trans (f24.mono λi a=>.inl a),λi a=>?_⟩
   ·exact a.elim (λh=>.inr (.inl h)) λh=>.inr (.inr (.inl h))
   ·rcases a with rfl|a|a|a|a
    ·exact .inl (.inl rfl)
    ·exact(N i a).imp (λh=>.inr (.inl h)) id
    ·exact(P i a).imp (λh=>.inr (.inr (.inl h))) id
    ·exact .inl (.inr (.inr (.inr (.inl a))))
    ·exact .inl (.inr (.inr (.inr (.inr a))))
  refine HJ _ m ?_;clear HJ J;have w4:Var 270 (keeps (·=w) m) w _:=v4.keeps rfl
  refine⟨keeps (·=w) m,jq,z,w4.ah rfl,D,w4.ah rfl,SZ (C:=tR) (T:=3) (sz:=1) (x:=.i (-1)) (y:=.i (-1)) Ow Kt S7 δ (by rw[uj];omega) (by rw[uj];omega)
   j.b j.f j.bf rfl rfl rfl rfl (λh' f=>ar j.now.2.2.1 j.now.2.2.2 f) λV W h5 b5 g5 f5 Z nF a5=>?_⟩
  have v5:Var 270 h5 w _:=v4.only f5 λb=>b.elim j.now.2.2.1 j.now.2.2.2;have o5:=j.o.keep f5 λi a b=>b.elim (λb=>j.ob i a b) λb=>j.of i a b;have s5:=j.s.keep f5 λi a b=>b.elim (λb=>j.sb i a b) λb=>j.sf i a b;refine⟨v5.gi (o:=3) (n:=1) (by simp[ae2,afe]),?_⟩;refine(aF v5 (i:=3) (t:=.slice V) rfl rfl rfl rfl λh6 v6 f6 s6=>?_).2;refine⟨v6.gi (o:=4) (n:=1) (by simp[ae2,afe]),?_⟩;refine(aF v6 (i:=4) (t:=.slice W) rfl rfl rfl rfl λh7 v7 f7 s7=>?_).2;have f57:ag (·=w) h5 h7:=f6.trans f7
  have aE:∀{X X':Sl},¬In X w->(∀i,In X' i->In X i\/m.size<=i)->¬In X' w:=λH E b=>by
   rcases E w b with I|I
   ·exact H I
   ·have:=v4.lt;omega
  have a0:=aE j.now.2.2.1 Z;have a1:=aE j.now.2.2.2 nF;have q:∀{X Y:Sl},(∀i,In X i->¬In Y i)->∀i,In Y i->¬In X i:=λd i hy b=>d i b hy
  have p7:WP h7 w tb l s V W (K++[0]) (al++[0]) (am++[-1]) (ao++[-1]):=by
   refine⟨v7,o5.keep f57 λi a e=>Q (e▸a),s5.keep f57 λi a e=>U (e▸a),?_,?_,⟨Q,U,a0,a1⟩,aw,q (su (q j.ob) Z j.o.gv),q (su (q j.of) nF j.o.gv),q (su (q j.sb) Z j.s.gv),q (su (q j.sf) nF j.s.gv),a5⟩
   ·have:=b5.keep f57 λi a e=>a0 (e▸a);simpa[dX]using this
   ·have:=g5.keep f57 λi a e=>a1 (e▸a);simpa[dX]using this
  have a6:Step (gV w l s z D) m (gV w l s V W) h7:=by
   refine⟨(f5.mono λi a=>?_).trans (f57.mono λi a=>.inl a),λi a=>?_⟩
   ·exact a.elim (λh=>.inr (.inr (.inr (.inl h)))) λh=>.inr (.inr (.inr (.inr h)))
   ·rcases a with rfl|a|a|a|a
    ·exact .inl (.inl rfl)
    ·exact .inl (.inr (.inl a))
    ·exact .inl (.inr (.inr (.inl a)))
    ·exact(Z i a).imp (λh=>.inr (.inr (.inr (.inl h)))) id
    ·exact(nF i a).imp (λh=>.inr (.inr (.inr (.inr h)))) id
  have bj:HM h7 w 1=l.len:=Ov (v7.ah rfl);have a7:=p7.lo;simp only[afA,List.length_singleton]at a7;refine⟨⟨l,s,V,W,_,_,_,_,p7,(ae.trans a4).trans a6,by simp[l1],by simp[l2],by simp[l3],by simp;omega,?_,?_,?_,?_⟩,by show L.length-HM h7 w 1<L.length-HM k w 1;omega⟩
  ·rw[Di a3,e1]
  ·rw[Di ω,e2]
  ·rw[Di ω,e3]
  ·rw[Di ω,e4]
 ·have a2:=c.lo;have u:L.length<=K.length:=ω;refine hr k F S1 z D ?_ ae;rw[<-e1,<-e2,<-e3,<-e4,AK u,AK ω,AK ω,AK ω];exact c
end
end Gate
namespace Board
def be(n q A B:Int):Int:=(aeN aeI (↑(aeO (aeK (aeF aeI) (aeN aeI (↑(aeO (aeK (aeF aeI) (aeN aeI (↑(aeO (aeK (aeF aeI) (aeN aeI (aeN aeI n*(2:Int)^min (aeL (24:Int)) (aeF aeI)))|||aeK (aeF aeI) (aeN aeI (aeN aeI q*(2:Int)^min (aeL (16:Int)) (aeF aeI))))):Int))|||aeK (aeF aeI) (aeN aeI (aeN aeI A*(2:Int)^min (aeL (8:Int)) (aeF aeI))))):Int))|||aeK (aeF aeI) (aeN aeI B))):Int))
def ex(n q A B E G H I:Int):Int:=(aeN aeI (aeN aeI (aeN aeI (A+aeN aeI (↑(aeO (aeK (aeF aeI) (aeN aeI (↑(aeO (aeK (aeF aeI) E^^^aeK (aeF aeI) G)):Int))^^^aeK (aeF aeI) (aeW n ((2:Int)^min (aeL (3:Int)) (aeF aeI))))):Int))+B)+aeN aeI (↑(aeO (aeK (aeF aeI) (aeN aeI (↑(aeO (aeK (aeF aeI) H^^^aeK (aeF aeI) I)):Int))^^^aeK (aeF aeI) (aeW q ((2:Int)^min (aeL (10:Int)) (aeF aeI))))):Int)))
def rot(x k:Int):Int:=(aeN aeI (↑(aeO (aeK (aeF aeI) (aeN aeI (x*(2:Int)^min (aeL (aeN afd (↑(aeO (aeK (aeF afd) (aeN afd k)&&&aeK (aeF afd) (31:Int))):Int))) (aeF aeI)))|||aeK (aeF aeI) (aeW x ((2:Int)^min (aeL (aeN afd ((32:Int)-aeN afd (↑(aeO (aeK (aeF afd) (aeN afd k)&&&aeK (aeF afd) (31:Int))):Int)))) (aeF aeI))))):Int))
def eB(x n:Int):Int:=rot x (aeN .i64 (0-n))
def FY(bs:LU)(i:Nat):Int:=((bs.getD i 0).toNat:Int)
def wd{n:Nat}(w:Ws n)(i:Nat):Int:=w.l.getD i 0
def Ce(bs:LU):Nat->Ws 64
 |0=>ae6 64
 |i+1=>(Ce bs i).set i (be (FY bs (4*i)) (FY bs (4*i+1)) (FY bs (4*i+2)) (FY bs (4*i+3)))
def Xi(w:Ws 64)(i:Nat):Int:=
 ex (wd w (i-15)) (wd w (i-2)) (wd w (i-16)) (wd w (i-7)) (eB (wd w (i-15)) 7) (eB (wd w (i-15)) 18) (eB (wd w (i-2)) 17) (eB (wd w (i-2)) 19)
def FZ(w:Ws 64):Nat->Ws 64
 |0=>w
 |i+1=>(FZ w i).set (16+i) (Xi (FZ w i) (16+i))
def zx(bs:LU):Ws 64:=FZ (Ce bs 16) 48
def HP(c:UInt8):TV:=.int .u8 (c.toNat:Int)
section
variable{R:Rq}{h:aa}
theorem wrap_u64_nonneg(n:Int):0<=aeN .u64 n:=by
 simp[aeN,aeF,afv];omega
theorem Xj{x k:Int}(q:R (ae8 .u32 (rot x k)).val h):Cl 340 [.int .u32 x,.i k] h R:=by
 apply oL;delta aG W6;exact⟨wrap_u64_nonneg _,wrap_u64_nonneg _,q⟩
theorem iW{x n:Int}(q:R (ae8 .u32 (eB x n)).val h):Cl 327 [.int .u32 x,.i n] h R:=by
 apply HN;exact Xj ⟨_,rfl,q⟩
theorem bw{T:TypeId}{b n:Nat}{k:IntKind}{w:Ws n}(v:Var T h b (.words k n w)){i:Nat}(q:i<n):ah h b (0+i*1) (.int k (wd w i)):=by
 have:=v.at i q;rw[afG];exact this
theorem nU{T:TypeId}{h:aa}{b n i o:Nat}{k:IntKind}{x:Ws n}{c:Int}{K:aa->Prop}(v:Var T h b (.words k n x))(q:i<n)(A:o=i)
 (B:∀a,Var T a b (.words k n (x.set i c))->ag (·=b) h a->a.size=h.size->K a):gi h b o 1/\Bind ((ae8 k c).put h b o) K:=by
 subst A;have d:o+(ae8 k c).size<=(aff k n x).cells.length:=by rw[TV.ai];simp only[ae2];omega
 refine⟨v.gi (by simp only[ae2];omega),B _ ?_ (gm v d) (gn v d)⟩;have:=je (t:=.int k c) v d;unfold Var;rw[this];congr 2;simp only[afB,ae2,aeG,afq];rw[List.set_eq_take_append_cons_drop,if_pos (by rw[ae4,x.h];exact q)];simp
theorem vH{s:Sl}{bs:LU}{i:Int}(e:ak 1 h s (bs.map HP))(A:0<=i)(B:i<bs.length){K:Int->Prop}(q:K (FY bs i.toNat)):
 0<=i/\i<(s.len:Int)/\Nn s.a λ(l:Vc.Loc)=>∃(n:Int),ah h l.b (l.o+i.toNat*1) (.int .u8 n)/\K n:=by
 have b:=e.len;rw[ae4]at b;refine e.read A ω λl t f a c=>?_;rw[afp]at a;obtain⟨x,d,rfl⟩:=Option.map_eq_some_iff.1 a;refine⟨_,c,?_⟩
 have:FY bs i.toNat=(x.toNat:Int):=by
  unfold FY;rw[List.getD_eq_getElem?_getD,d];rfl
 rw[this]at q;exact q
def fV:Ws 8:=(aeG (aeG (aeG (aeG (aeG (aeG (aeG (aeG (ae6 (8:Nat)) (0:Nat) (1779033703:Int)) (1:Nat) (3144134277:Int)) (2:Nat) (1013904242:Int)) (3:Nat) (2773480762:Int)) (4:Nat) (1359893119:Int)) (5:Nat) (2600822924:Int)) (6:Nat) (528734635:Int)) (7:Nat) (1541459225:Int))
def sx:Ws 64:=(aeG (aeG (aeG (aeG (aeG (aeG (aeG (aeG (aeG (aeG (aeG (aeG (aeG (aeG (aeG (aeG (aeG (aeG (aeG (aeG (aeG (aeG (aeG (aeG (aeG (aeG (aeG (aeG (aeG (aeG (aeG (aeG (aeG (aeG (aeG (aeG (aeG (aeG (aeG (aeG (aeG (aeG (aeG (aeG (aeG (aeG (aeG (aeG (aeG (aeG (aeG (aeG (aeG (aeG (aeG (aeG (aeG (aeG (aeG (aeG (aeG (aeG (aeG (aeG (ae6 (64:Nat)) (0:Nat) (1116352408:Int)) (1:Nat) (1899447441:Int)) (2:Nat) (3049323471:Int)) (3:Nat) (3921009573:Int)) (4:Nat) (961987163:Int)) (5:Nat) (1508970993:Int)) (6:Nat) (2453635748:Int)) (7:Nat) (2870763221:Int)) (8:Nat) (3624381080:Int)) (9:Nat) (310598401:Int)) (10:Nat) (607225278:Int)) (11:Nat) (1426881987:Int)) (12:Nat) (1925078388:Int)) (13:Nat) (2162078206:Int)) (14:Nat) (2614888103:Int)) (15:Nat) (3248222580:Int)) (16:Nat) (3835390401:Int)) (17:Nat) (4022224774:Int)) (18:Nat) (264347078:Int)) (19:Nat) (604807628:Int)) (20:Nat) (770255983:Int)) (21:Nat) (1249150122:Int)) (22:Nat) (1555081692:Int)) (23:Nat) (1996064986:Int)) (24:Nat) (2554220882:Int)) (25:Nat) (2821834349:Int)) (26:Nat) (2952996808:Int)) (27:Nat) (3210313671:Int)) (28:Nat) (3336571891:Int)) (29:Nat) (3584528711:Int)) (30:Nat) (113926993:Int)) (31:Nat) (338241895:Int)) (32:Nat) (666307205:Int)) (33:Nat) (773529912:Int)) (34:Nat) (1294757372:Int)) (35:Nat) (1396182291:Int)) (36:Nat) (1695183700:Int)) (37:Nat) (1986661051:Int)) (38:Nat) (2177026350:Int)) (39:Nat) (2456956037:Int)) (40:Nat) (2730485921:Int)) (41:Nat) (2820302411:Int)) (42:Nat) (3259730800:Int)) (43:Nat) (3345764771:Int)) (44:Nat) (3516065817:Int)) (45:Nat) (3600352804:Int)) (46:Nat) (4094571909:Int)) (47:Nat) (275423344:Int)) (48:Nat) (430227734:Int)) (49:Nat) (506948616:Int)) (50:Nat) (659060556:Int)) (51:Nat) (883997877:Int)) (52:Nat) (958139571:Int)) (53:Nat) (1322822218:Int)) (54:Nat) (1537002063:Int)) (55:Nat) (1747873779:Int)) (56:Nat) (1955562222:Int)) (57:Nat) (2024104815:Int)) (58:Nat) (2227730452:Int)) (59:Nat) (2361852424:Int)) (60:Nat) (2428436474:Int)) (61:Nat) (2756734187:Int)) (62:Nat) (3204031479:Int)) (63:Nat) (3329325298:Int))
theorem vJ(q:∀a,Ext h a->R (aff .u32 8 fV).val a):Cl 257 [] h R:=by
 apply FX;delta BN Ft;refine af λe v1 b f=>aH (t0:=.words .u32 8 (ae6 8)) (t:=.words .u32 8 fV) v1 rfl λg c d j=>⟨_,c.at,q _ (ae7 b d λi k=>ω)⟩
theorem aB(q:∀a,Ext h a->R (aff .u32 64 sx).val a):Cl 326 [] h R:=by
 apply HO;delta xI;refine af λe v1 b f=>aH (t0:=.words .u32 64 (ae6 64)) (t:=.words .u32 64 sx) v1 rfl λg c d j=>⟨_,c.at,q _ (ae7 b d λi k=>ω)⟩
theorem eY{s:Sl}{bs:LU}(e:ak 1 h s (bs.map HP))(H:bs.length=64)(A:∀u,Ext h u->R (aff .u32 64 (zx bs)).val u):Cl 325 [.slice s] h R:=by
 apply JC;delta dz aG SP xI SI Db c5 Ui Jz Uh bN bh;refine af λb v1 y I=>af λg z v J=>?_;have B:=y.trans v;have w:∀a,ag (·=b.size) g a->Ext h a:=λa o=>ae7 B o λi c=>ω;refine⟨λi a=>0<=i/\i<=16/\ag (·=b.size) g a/\Var 293 a b.size (.words .u32 64 (Ce bs i.toNat)),λi _=>((16:Int)-i).toNat,⟨afj 0,δ,afr _ _,z⟩,?_⟩;rintro i C ⟨x,D,j,k⟩;have f:=e.ext (w C j);refine ID (λc=>?_) λc=>?_
 ·rw[wrap_i64 (n:=4*i) ω ω,wrap_i64 (n:=4*i+1) ω ω,wrap_i64 (n:=4*i+2) ω ω,wrap_i64 (n:=4*i+3) ω ω,wrap_i64 (n:=i+1) ω ω];have t0:(4*i).toNat=4*i.toNat:=ω;have t1:(4*i+1).toNat=4*i.toNat+1:=ω;have t2:(4*i+2).toNat=4*i.toNat+2:=ω;have t3:(4*i+3).toNat=4*i.toNat+3:=ω;refine vH f ω ω ⟨δ,vH f ω ω ⟨δ,vH f ω ω ⟨δ,vH f ω ω ?_⟩⟩⟩;refine⟨x,ω,nU k (i:=i.toNat) ω ω λl v4 d K=>?_⟩;rw[t0,t1,t2,t3]at v4;have m:(i+1).toNat=i.toNat+1:=ω;refine⟨⟨ω,ω,j.trans d,?_⟩,Ω⟩;rw[m];exact v4
 ·have p:i.toNat=16:=ω;rw[p]at k;refine⟨λi a=>16<=i/\i<=64/\ag (·=b.size) g a/\Var 293 a b.size (.words .u32 64 (FZ (Ce bs 16) (i.toNat-16))),λi _=>((64:Int)-i).toNat,⟨afj 16,δ,j,k⟩,?_⟩;rintro i l ⟨x,D,d,v4⟩;refine ID (λc=>?_) λc=>?_
  ·rw[wrap_i64 (n:=i-15) ω ω,wrap_i64 (n:=i-2) ω ω,wrap_i64 (n:=i-16) ω ω,wrap_i64 (n:=i-7) ω ω,wrap_i64 (n:=i+1) ω ω];have t0:(i-15).toNat=i.toNat-15:=ω;have t1:(i-2).toNat=i.toNat-2:=ω;have t2:(i-16).toNat=i.toNat-16:=ω;have t3:(i-7).toNat=i.toNat-7:=ω;rw[t0,t1,t2,t3];refine⟨ω,ω,_,bw v4 ω,ω,ω,_,bw v4 ω,ω,ω,_,bw v4 ω,δ,ω,ω,_,bw v4 ω,δ,?_⟩;refine iW ⟨_,rfl,ae5 _,iW ⟨_,rfl,ae5 _,iW ⟨_,rfl,ae5 _,iW ⟨_,rfl,ae5 _,?_⟩⟩⟩⟩;refine⟨ω,ω,nU v4 (i:=i.toNat) ω ω λE q r F=>?_⟩;have m:(i+1).toNat-16=(i.toNat-16)+1:=ω;have G:16+(i.toNat-16)=i.toNat:=ω;refine⟨⟨ω,ω,d.trans r,?_⟩,Ω⟩;rw[m];unfold FZ;rw[G];unfold Xi ex;exact q
  ·have p:i.toNat-16=48:=ω;rw[p]at v4;have v0:Var 293 l h.size (.words .u32 64 (ae6 64)):=(v1.ext v).only d ω;refine⟨_,v4.at,aH v0 (t:=.words .u32 64 (zx bs)) (by simp only[ae2]) λE q r F=>⟨_,q.at,?_⟩⟩;exact A _ (ae7 (w l d) r λi c=>ω)
end
end Board
namespace Board
theorem HQ{C:Ctx}{T:TypeId}{sz:Nat}{h:aa}{t:Sl}{ts us:List TV}{K:Sl->aa->Prop}(A:(C.ti T).size=sz)(E:(C.ti T).z.size=sz)(G:0<(C.ti T).bytes)(H:0<sz)
 (I:(t.len+us.length)*(C.ti T).bytes<=70368744177664)(o:Own T sz h t ts)(B:∀u∈us,u.size=sz)
 (q:∀t' i,Own T sz i t' (ts++us)->ag (λb=>∃l,t.a=some l/\l.b=b) h i->(∀l,t'.a=some l->(∃n,t.a=some n/\n.b=l.b)\/h.size<=l.b)->K t' i):
 aq C T t us.length (aeM us) h K:=by
 have p:=aj.bz us B
 have r:∀x∈ts++us,x.size=sz:=λx j=>by
  rcases List.mem_append.1 j with k|k
  ·exact o.size x k
  ·exact B x k
 have s:=aj.bz ts o.size;have m:=o.len;have S:=o.cap;refine⟨aeM ts,?_,I,G,?_,?_,?_⟩
 ·rw[A];exact o.elems.cells o.size H
 ·intro f;rcases o.row with rfl|⟨b,d,e,v,w⟩
  ·simp only[aeX]at f⊢;exact⟨.inl ω,λl a=>by cases a⟩
  ·refine⟨.inr (by rw[e];rfl),λl a=>?_⟩;rw[e]at a;cases a;rw[A];simp only[Nat.zero_add]
   have U:us.length*sz<=d.length:=by
    rw[w];exact Nat.mul_le_mul_right _ ω
   have y:t.len*sz+(aeM us).length<=(aeM ts++d).length:=by
    simp only[afA,s,<-o.len,p];omega
   refine⟨gO v y,?_⟩;obtain⟨D,F,J⟩:=iO (aeM us) h b (t.len*sz) _ T v y;have L:aeM (ts++us)=aeM ts++aeM us:=aj.fe _ _
   have M:(rE h b (t.len*sz) (aeM us))[b]? =some (Go.Vc.row (aeM (ts++us)++d.drop (us.length*sz)) T):=by
    rw[D,L,<-o.len,<-s];congr 2;simp[p]
   have N:(d.drop (us.length*sz)).length=(t.cap-(t.len+us.length))*sz:=by
    simp only[List.length_drop,w];rw[<-Nat.sub_sub,Nat.sub_mul (t.cap-t.len)]
   refine q _ _ ⟨r,by simp[m],by simp only;omega,.inr ⟨b,d.drop (us.length*sz),rfl,M,N⟩⟩ ?_ ?_
   ·refine⟨by rw[F];exact afa _,λO V g=>?_⟩;exact J O (λj=>g ⟨_,e,j.symm⟩)
   ·intro l a;cases a;exact .inl ⟨_,e,rfl⟩
 ·intro f g;rcases o.row with rfl|⟨b,d,e,_⟩
  ·simp only[aeX]at f;have P:us=[]:=List.eq_nil_of_length_eq_zero ω;have Q:ts=[]:=List.eq_nil_of_length_eq_zero (by simpa[aeX]using m);subst P;refine q _ _ ?_ (afr _ _) (λl a=>by cases a);rw[Q];exact Own.nil T sz h
  ·rw[e]at g;cases g
 ·intro f c R;refine q _ _ ⟨r,by simp[m],R,.inr ⟨_,bZ (C.ti T).z (c-(t.len+us.length)),rfl,?_,?_⟩⟩ ?_ ?_
  ·rw[cg,aj.fe]
  ·rw[iD,E]
  ·exact afz (afi _ _)
  ·intro l a;cases a;exact .inr (afa _)
abbrev Ox(bs:LU):List TV:=bs.map HP
theorem zz(bs:LU):∀u∈Ox bs,u.size=1:=λu a=>by
 obtain⟨x,_,rfl⟩:=afF.1 a;rfl
theorem qw:∀bs:LU,aeM (Ox bs)=bs.map λc=>afk .u8 (c.toNat:Int)
 |[]=>rfl
 |c::bs=>by
  show afB (HP c)++aeM (Ox bs)=_;rw[qw bs];rfl
theorem Ey:(ctx.ti 5).bytes=1:=κ
theorem S8:(ctx.ti 5).size=1:=κ
theorem QO:(ctx.ti 5).z.size=1:=κ
section
variable{R:Rq}{h:aa}
structure Row(Q:Nat->Prop)(h:aa)(s:Sl)(bs:LU):Prop where
 own:Own 5 1 h s (Ox bs)
 sP:∀l,s.a=some l->Q l.b
 new:∀i,h.size<=i->Q i
theorem Row.len{Q:Nat->Prop}{s:Sl}{bs:LU}(r:Row Q h s bs):bs.length=s.len:=by have:=r.own.len;rwa [ae4]at this
theorem Ez{Q:Nat->Prop}{s:Sl}{bs us:LU}{K:Sl->aa->Prop}(r:Row Q h s bs)(q:bs.length+us.length<10000)
 (A:∀a d,Row Q d a (bs++us)->ag (In s) h d->(∀l,a.a=some l->(∃e,s.a=some e/\e.b=l.b)\/h.size<=l.b)->K a d):
 aq ctx 5 s us.length (us.map λc=>afk .u8 (c.toNat:Int)) h K:=by
 have m:=r.len;have:=HQ (C:=ctx) (T:=5) (us:=Ox us) (K:=K) S8 QO (by rw[Ey];decide) δ (by rw[Ey,ae4];omega) r.own (zz us) λa d o f b=>A a d ⟨by simpa[Ox]using o,λl q=>?_,λi j=>r.new i (Nat.le_trans f.size j)⟩ f b
 ·rw[ae4,qw]at this;exact this
 ·rcases b l q with⟨e,g,k⟩|g
  ·rw[<-k];exact r.sP e g
  ·exact r.new _ g
theorem Oy{Q:Nat->Prop}{s:Sl}{bs:LU}{c:Int}{K:Sl->aa->Prop}(r:Row Q h s bs)(q:bs.length<10000)(c0:0<=c)(B:c<256)
 (A:∀a d,Row Q d a (bs++[ae9 c.toNat])->ag (In s) h d->(∀l,a.a=some l->(∃g,s.a=some g/\g.b=l.b)\/h.size<=l.b)->K a d):
 ∃new,cv (h.push (row (aeM [ae8 .u8 c]) 5)) (aeP (some (Vc.Loc.mk h.size 0)) 1 1) 1 new/\(∀v∈new,bQ v=true)/\aq ctx 5 s 1 new (h.push (row (aeM [ae8 .u8 c]) 5)) K:=by
 have n:=r.len;refine cz (C:=ctx) (T:=5) (sz:=1) (x:=.int .u8 c) S8 QO (by rw[Ey];decide) (by rw[Ey];omega) r.own rfl rfl λa d o f b=>A a d ⟨?_,λl q=>?_,λi k=>r.new i (Nat.le_trans f.size k)⟩ f b
 ·have e:HP (ae9 c.toNat)=ae8 .u8 c:=by
   unfold HP;rw[UInt8.toNat_ofNat'];congr 1;omega
  have:Ox (bs++[ae9 c.toNat])=Ox bs++[ae8 .u8 c]:=by simp[Ox,e]
  rw[this];exact o
 ·rcases b l q with⟨g,j,m⟩|j
  ·rw[<-m];exact r.sP g j
  ·exact r.new _ j
theorem Row.cut{Q:Nat->Prop}{s:Sl}{bs:LU}(r:Row Q h s bs){q:aa}(o:ag (In s) h q):ag Q h q:=o.mono λi⟨l,a,e⟩=>by rw[<-e];exact r.sP l a
structure St(Q:Nat->Prop)(h:aa)(b:Nat)(w:Ws 8)(s:Sl)(bs:LU)(n:Int):Prop where
 var:Var 333 h b (.agg [.words .u32 8 w,.slice s,.int .u64 n])
 row:Row Q h s bs
 sP:Q b
 apart:∀l,s.a=some l->l.b≠b
variable{Q:Nat->Prop}{b:Nat}{w:Ws 8}{s:Sl}{bs:LU}{n:Int}
theorem St.words(st:St Q h b w s bs n):jc h b 0 .u32 8 w:=st.var.at.1
theorem St.rest(st:St Q h b w s bs n):ah h b 8 (aW s):=st.var.at.2.1
def Oz(h:aa)(b:Nat):Nat:=match lz h b 8 with
 |some (.slice _ l _)=>l
 |_=>0
theorem uk(q:ah h b 8 (aW s)):Oz h b=s.len:=by
 unfold Board.Oz;unfold ah at q;rw[q];rfl
end
end Board
namespace Board
section
variable{R:Rq}{h:aa}
def ac3(zA:Ws 8->LU->Ws 8):Prop:=∀(h:aa)(R:Rq)(b:Nat)(w:Ws 8)(s q:Sl)(bs:LU)(n:Int),Var 333 h b (.agg [.words .u32 8 w,.slice s,.int .u64 n])->
 ak 1 h q (Ox bs)->bs.length=64->(∀l,q.a=some l->l.b≠b)->
 (∀a,Var 333 a b (.agg [.words .u32 8 (zA w bs),.slice s,.int .u64 n])->ag (·=b) h a->R (afy []).val a)->Cl 292 [.ptr (PT b),.slice q] h R
theorem AL{s:Sl}{ts:List TV}{i j:Nat}(e:ak 1 h s ts)(q:i<=j)(A:j<=s.len)(B:s.len<=s.cap):ak 1 h (aA s i j 1) ((ts.drop i).take (j-i)):=by
 have g:=e.len;refine⟨by simp only[aA,List.length_take,List.length_drop];omega,λc=>?_,λl a k t d=>?_⟩
 ·unfold aA at c;simp only at c
  have:ts=[]\/i=j:=by
   split at c
   ·right;omega
   ·left;cases b:s.a with
    |none=>exact e.nil b
    |some l=>rw[b]at c;simp at c
  rcases this with rfl|rfl
  ·simp
  ·simp
 ·unfold aA at a;simp only at a;rw[List.getElem?_take]at d;split at d
  ·rename_i m;rw[List.getElem?_drop]at d;split at a
   ·omega
   ·cases b:s.a with
    |none=>rw[b]at a;simp at a
    |some f=>
     rw[b]at a;simp only[Option.map_some,Option.some.injEq]at a;subst a;have:=e.get f b (i+k) t d;simp only[afG]at this⊢;rw[Nat.add_assoc];exact this
  ·cases d
theorem EA{s:Sl}{i j:Nat}{l:Vc.Loc}(q:(aA s i j 1).a=some l):∃b,s.a=some b/\b.b=l.b:=by
 unfold aA at q;simp only at q;split at q
 ·exact⟨l,q,rfl⟩
 ·cases c:s.a with
  |none=>rw[c]at q;simp at q
  |some d=>
   rw[c]at q;simp only[Option.map_some,Option.some.injEq]at q;subst q;exact⟨d,rfl,rfl⟩
theorem wrap_u8(n:Int):aeN .u8 n=n%256:=by
 unfold aeN;show(if(false&&_)=true then _ else n%2^8)=n%256;simp
theorem aO(n:Int):0<=aeN .u8 n/\aeN .u8 n<256:=by
 rw[wrap_u8];omega
theorem j3{T:TypeId}{h:aa}{b n i o:Nat}{x:Bs n}{K:aa->Prop}(v:Var T h b (.bytes n x))(A:i<n)(B:o=i){c:Int}(G:0<=c)(q:c<256)
 (E:∀q,Var T q b (.bytes n (x.set i (ae9 c.toNat)))->ag (·=b) h q->q.size=h.size->K q):gi h b o 1/\Bind ((ae8 .u8 c).put h b o) K:=by
 subst B;have a:o+(ae8 .u8 c).size<=(TV.bytes n x).cells.length:=by rw[TV.ai];simp only[ae2];omega
 refine⟨v.gi (by simp only[ae2];omega),E _ ?_ (gm v a) (gn v a)⟩;have:=je (t:=.int .u8 c) v a;unfold Var;rw[this];congr 2;simp only[afB,ae2,Bs.set,afq]
 have e:((ae9 c.toNat).toNat:Int)=c:=by
  rw[UInt8.toNat_ofNat'];omega
 rw[e,List.set_eq_take_append_cons_drop,if_pos (by rw[ae4,x.h];exact A)];simp
def Mg(n i:Int):Int:=aeN .u8 (aeW (aeN .u64 (n*8)) (2^min (aeL (aeN .i64 (56-aeN .i64 (8*i)))) (aeF .u64)))
def lens(n:Int):Nat->LU
 |0=>[]
 |i+1=>lens n i++[ae9 (Mg n (i:Int)).toNat]
theorem zB(n:Int):∀i,(lens n i).length=i
 |0=>rfl
 |i+1=>by simp[lens,zB n i]
def ob(x k:Int):Int:=aeN .u8 (aeW x (2^min (aeL k) (aeF .u32)))
def ac4(w:Ws 8)(i:Nat)(x:Bs 32):Bs 32:=
 (((x.set (4*i) (ae9 (ob (wd w i) 24).toNat)).set (4*i+1) (ae9 (ob (wd w i) 16).toNat)).set (4*i+2) (ae9 (ob (wd w i) 8).toNat)).set (4*i+3) (ae9 (aeN .u8 (wd w i)).toNat)
def Mh(w:Ws 8):Nat->Bs 32
 |0=>aeZ 32
 |i+1=>ac4 w i (Mh w i)
variable{Q:Nat->Prop}{b:Nat}{w:Ws 8}{s:Sl}{bs:LU}{n:Int}{zA:Ws 8->LU->Ws 8}
end
end Board
end Go.Proofs.YtennbinbffdimaaGreat
namespace Go.Vc
open Go
structure Made where
 b:Nat
 T:TypeId
 t:TV
structure vK(h hh:aa)(l:List Made):Prop where
 ext:Ext h hh
 var:∀x∈l,Var x.T hh x.b x.t
 new:∀x∈l,h.size<=x.b
 two:l.Pairwise λx y=>x.b≠y.b
section
variable{h hh:aa}{l:List Made}
theorem vK.nil(h:aa):vK h h []:=⟨ae5 _,(λ_ a=>by cases a),(λ_ a=>by cases a),List.Pairwise.nil⟩
theorem vK.on{q:aa}(B:vK h hh l)(e:Ext hh q):vK h q l:=⟨B.ext.trans e,λx a=>(B.var x a).ext e,B.new,B.two⟩
theorem vK.make{T:TypeId}{t:TV}{K:aa->Prop}(B:vK h hh l)(q:∀b,Ext hh b->vK h b (⟨hh.size,T,t⟩::l)->K b):Bind (iu hh t T) K:=
 af λb v x _=>q b x ⟨B.ext.trans x,λy a=>by
  rcases afH.1 a with rfl|a
  ·exact v
  ·exact(B.var y a).ext x,λy a=>by
  rcases afH.1 a with rfl|a
  ·exact B.ext.size
  ·exact B.new y a,List.pairwise_cons.2 ⟨λy a=>by
   have:=(B.var y a).lt;intro c;simp only at c;omega,B.two⟩⟩
theorem vK.dA{b n:Nat}{T:TypeId}{t0 t:TV}{K:aa->Prop}(B:vK h hh (⟨b,T,t0⟩::l))(A:t.size=t0.size)(q:n=t0.size)(E:∀c,vK h c (⟨b,T,t⟩::l)->K c):gi hh b 0 n/\Bind (t.put hh b 0) K:=by
 subst q;have d:=List.pairwise_cons.1 B.two;have e:=B.new _ (afI ..);refine aH (B.var _ (afI ..)) A λc v o _=>E c ⟨ae7 B.ext o λi f=>by subst f;exact e,λy a=>?_,λy a=>?_,List.pairwise_cons.2 ⟨λy a=>d.1 y a,d.2⟩⟩
 ·rcases afH.1 a with rfl|a
  ·exact v
  ·exact(B.var y (List.mem_cons_of_mem _ a)).only o λq=>d.1 y a q.symm
 ·rcases afH.1 a with rfl|a
  ·exact e
  ·exact B.new y (List.mem_cons_of_mem _ a)
theorem vK.perm{A:List Made}(B:vK h hh l)(q:l.Perm A):vK h hh A:=
 ⟨B.ext,λx a=>B.var x (q.mem_iff.2 a),λx a=>B.new x (q.mem_iff.2 a),q.pairwise B.two λb=>b.symm⟩
theorem vK.ZK{x y:Made}(B:vK h hh (x::y::l)):vK h hh (y::x::l):=B.perm (List.Perm.swap ..)
theorem vK.Xk{x y z:Made}(B:vK h hh (x::y::z::l)):vK h hh (z::x::y::l):=B.perm (by
 refine List.Perm.trans (List.Perm.cons x (List.Perm.swap z y l)) (List.Perm.swap z x _))
theorem vK.dJ{b n:Nat}{T:TypeId}{t0 t:TV}{K:aa->Prop}{x:Made}(B:vK h hh (x::⟨b,T,t0⟩::l))(q:t.size=t0.size)(A:n=t0.size)(E:∀a,vK h a (x::⟨b,T,t⟩::l)->K a):gi hh b 0 n/\Bind (t.put hh b 0) K:=
 B.ZK.dA q A λa B'=>E a B'.ZK
theorem vK.dK{b n:Nat}{T:TypeId}{t0 t:TV}{K:aa->Prop}{x y:Made}(B:vK h hh (x::y::⟨b,T,t0⟩::l))(q:t.size=t0.size)(A:n=t0.size)(E:∀a,vK h a (x::y::⟨b,T,t⟩::l)->K a):gi hh b 0 n/\Bind (t.put hh b 0) K:=
 B.Xk.dA q A λa B'=>E a (B'.perm (List.Perm.trans (List.Perm.swap ..) (List.Perm.cons _ (List.Perm.swap ..))))
theorem vK.v0{b:Nat}{T:TypeId}{t:TV}(B:vK h hh (⟨b,T,t⟩::l)):Var T hh b t:=B.var _ (afI ..)
theorem vK.v1{b:Nat}{T:TypeId}{t:TV}{x:Made}(B:vK h hh (x::⟨b,T,t⟩::l)):Var T hh b t:=B.ZK.v0
theorem vK.v2{b:Nat}{T:TypeId}{t:TV}{x y:Made}(B:vK h hh (x::y::⟨b,T,t⟩::l)):Var T hh b t:=B.Xk.v0
theorem vK.n0{b:Nat}{T:TypeId}{t:TV}(B:vK h hh (⟨b,T,t⟩::l)):h.size<=b:=B.new _ (afI ..)
theorem vK.n1{b:Nat}{T:TypeId}{t:TV}{x:Made}(B:vK h hh (x::⟨b,T,t⟩::l)):h.size<=b:=B.ZK.n0
theorem vK.n2{b:Nat}{T:TypeId}{t:TV}{x y:Made}(B:vK h hh (x::y::⟨b,T,t⟩::l)):h.size<=b:=B.Xk.n0
end
end Go.Vc
namespace Go.Proofs.YtennbinbffdimaaGreat
open Go Go.Vc
namespace Board
def t4(A B E G H q I J M O:Int):Int:=(aeN aeI (A+aeN aeI (aeN aeI (aeN aeI (aeN aeI (B+aeN aeI (↑(aeO (aeK (aeF aeI) (aeN aeI (↑(aeO (aeK (aeF aeI) E^^^aeK (aeF aeI) G)):Int))^^^aeK (aeF aeI) H)):Int))+aeN aeI (↑(aeO (aeK (aeF aeI) (aeN aeI (↑(aeO (aeK (aeF aeI) q&&&aeK (aeF aeI) I)):Int))^^^aeK (aeF aeI) (aeN aeI (↑(aeO (aeK (aeF aeI) (aeN aeI (↑(aeO (aeK (aeF aeI) (if afv aeI=true then(-1:Int)else afD aeI)^^^aeK (aeF aeI) q)):Int))&&&aeK (aeF aeI) J)):Int)))):Int))+M)+O)))
def t0(A B E G q H I J M O U W n Z ab ac ad:Int):Int:=(aeN aeI (aeN aeI (aeN aeI (aeN aeI (aeN aeI (A+aeN aeI (↑(aeO (aeK (aeF aeI) (aeN aeI (↑(aeO (aeK (aeF aeI) B^^^aeK (aeF aeI) E)):Int))^^^aeK (aeF aeI) G)):Int))+aeN aeI (↑(aeO (aeK (aeF aeI) (aeN aeI (↑(aeO (aeK (aeF aeI) q&&&aeK (aeF aeI) H)):Int))^^^aeK (aeF aeI) (aeN aeI (↑(aeO (aeK (aeF aeI) (aeN aeI (↑(aeO (aeK (aeF aeI) (if afv aeI=true then(-1:Int)else afD aeI)^^^aeK (aeF aeI) q)):Int))&&&aeK (aeF aeI) I)):Int)))):Int))+J)+M)+aeN aeI (aeN aeI (↑(aeO (aeK (aeF aeI) (aeN aeI (↑(aeO (aeK (aeF aeI) O^^^aeK (aeF aeI) U)):Int))^^^aeK (aeF aeI) W)):Int)+aeN aeI (↑(aeO (aeK (aeF aeI) (aeN aeI (↑(aeO (aeK (aeF aeI) (aeN aeI (↑(aeO (aeK (aeF aeI) n&&&aeK (aeF aeI) Z)):Int))^^^aeK (aeF aeI) (aeN aeI (↑(aeO (aeK (aeF aeI) n&&&aeK (aeF aeI) ab)):Int)))):Int))^^^aeK (aeF aeI) (aeN aeI (↑(aeO (aeK (aeF aeI) ac&&&aeK (aeF aeI) ad)):Int)))):Int))))
def shift(v:Ws 8):Ws 8:=⟨v.l.take 1++v.l.take 7,by simp[v.h]⟩
def qM(w k:Ws 64)(i:Nat)(v:Ws 8):Ws 8:=
 ((shift v).set 4 (t4 (wd (shift v) 4) (wd v 7) (eB (wd v 4) 6) (eB (wd v 4) 11) (eB (wd v 4) 25) (wd v 4) (wd v 5) (wd v 6) (wd k i) (wd w i))).set 0
   (t0 (wd v 7) (eB (wd v 4) 6) (eB (wd v 4) 11) (eB (wd v 4) 25) (wd v 4) (wd v 5) (wd v 6) (wd k i) (wd w i) (eB (wd v 0) 2) (eB (wd v 0) 13) (eB (wd v 0) 22) (wd v 0) (wd v 1) (wd v 2) (wd v 1) (wd v 2))
def AM(w k:Ws 64)(v:Ws 8):Nat->Ws 8
 |0=>v
 |i+1=>qM w k i (AM w k v i)
def pS(w v:Ws 8):Nat->Ws 8
 |0=>w
 |i+1=>(pS w v i).set i (aeN .u32 (wd (pS w v i) i+wd v i))
def zA(w:Ws 8)(bs:LU):Ws 8:=pS w (AM (zx bs) sx w 64) 8
section
variable{R:Rq}{h:aa}
theorem ZL{T:TypeId}{b:Nat}{k:IntKind}{x:Ws 8}{K:aa->Prop}{P:Prop}(v:Var T h b (.words k 8 x))
 (A:∀c,Var T c b (.words k 8 (shift x))->ag (·=b) h c->c.size=h.size->K c):
 ∃new:List Value,cv h (aeP (aA (aeP (some (Vc.Loc.mk b 0)) 8 8) 0 (aeL 7) 1).a (afn (aA (aeP (some (Vc.Loc.mk b 0)) 8 8) 0 (aeL 7) 1).len (aA (aeP (some (Vc.Loc.mk b 0)) 8 8) (aeL 1) 8 1).len)
  (afn (aA (aeP (some (Vc.Loc.mk b 0)) 8 8) 0 (aeL 7) 1).len (aA (aeP (some (Vc.Loc.mk b 0)) 8 8) (aeL 1) 8 1).len)) 1 new/\(∀(v:Value),v∈new->bQ v=true)/\
  ((aA (aeP (some (Vc.Loc.mk b 0)) 8 8) (aeL 1) 8 1).a=none->P)/\
  ∀(q:Vc.Loc),(aA (aeP (some (Vc.Loc.mk b 0)) 8 8) (aeL 1) 8 1).a=some q->gi h q.b q.o (aeU new)/\Bind (rE h q.b q.o new) K:=by
 have e:=x.h;have i:(aff k 8 x).cells.length=8:=by rw[TV.ai];rfl
 refine⟨(x.l.take 7).map (afk k),⟨?_,.inr ⟨⟨b,0⟩,rfl,λj m=>?_⟩⟩,?_,?_,?_⟩
 ·simp[e,aA]
 ·simp only[ae4,List.length_take,e]at m
  have c:lz h b j=some (.int k (wd x j)):=by
   have:=v.at j ω;rw[Nat.zero_add]at this;exact this
  show lz h b (0+0*1+j)=_;have n:0+0*1+j=j:=ω;rw[n,c];simp only[afp,List.getElem?_take,show j<7 by omega,if_true];unfold wd;rw[List.getD_eq_getElem?_getD,afC ω];rfl
 ·intro v o;obtain⟨a,_,rfl⟩:=afF.1 o;rfl
 ·intro f;cases f
 ·intro l p
  have r:l=⟨b,1⟩:=by
   have:some (Vc.Loc.mk b (0+1*1))=some l:=p;injection this with this;exact this.symm
  subst r;have g:((x.l.take 7).map (afk k)).length=7:=by simp[e]
  rw[g];have d:=iO ((x.l.take 7).map (afk k)) h b 1 _ T v (by rw[g,i];exact afa _);refine⟨v.gi (by simp only[ae2];exact afa _),A _ ?_ ⟨by rw[d.2.1];exact afa _,λs _ f=>d.2.2 s f⟩ d.2.1⟩;unfold Var;rw[d.1];congr 2;rw[List.drop_eq_nil_of_le (by rw[g,i];exact afa _)];simp only[afB,shift,List.map_append,List.map_take,List.append_nil]
theorem HR{T:TypeId}{b n i o:Nat}{k:IntKind}{x:Ws n}{ts:List TV}{c:Int}{K:aa->Prop}(v:Var T h b (.agg (.words k n x::ts)))(q:i<n)(A:o=i)
 (B:∀a,Var T a b (.agg (.words k n (x.set i c)::ts))->ag (·=b) h a->a.size=h.size->K a):gi h b o 1/\Bind ((ae8 k c).put h b o) K:=by
 subst A;have d:o+(ae8 k c).size<=(TV.agg (.words k n x::ts)).cells.length:=by rw[TV.ai];simp only[ae2,afe];omega
 refine⟨v.gi (by simp only[ae2,afe];omega),B _ ?_ (gm v d) (gn v d)⟩;have:=je (t:=.int k c) v d;unfold Var;rw[this];congr 2;simp only[afB,aeM,ae2,aeG,afq];have e:o<(afh (afk k) x.l).length:=by rw[ae4,x.h];exact q
 have f:o+1<=(afh (afk k) x.l).length:=e;rw[List.set_eq_take_append_cons_drop,if_pos e,List.take_append_of_le_length (Nat.le_of_lt e),List.drop_append_of_le_length f];simp
theorem _root_.Go.Vc.Var.S9{T A:TypeId}{b B:Nat}{t t':TV}(v:Var T h b t)(q:Var A h B t')(E:T≠A):b≠B:=by
 rintro rfl;unfold Var at v q;rw[v]at q;injection q with q;unfold row at q;injection q with _ a;exact E a
theorem QS{T:TypeId}{b n:Nat}{k:IntKind}{w:Ws n}{ts:List TV}(v:Var T h b (.agg (.words k n w::ts))){i:Nat}(q:i<n):ah h b (0+i*1) (.int k (wd w i)):=by
 have a:=v.at;rw[afG];cases ts with
 |nil=>exact a i q
 |cons t ts=>exact a.1 i q
theorem bM{k:IntKind}{n:Nat}{x y:Ws n}:(aff k n x).size=(aff k n y).size:=by simp only[ae2]
theorem az{k:IntKind}{n:Nat}{x:Ws n}:n=(aff k n x).size:=by simp only[ae2]
set_option maxHeartbeats 1000000 in
theorem QT:ac3 zA:=by
 intro h R b w s q bs n v e j W D;apply zC;delta HI Ft dz aG ug uf Om HH gT xI Db iJ Bc HA eX c5 Et Es Er abr mm Uh iI oK jt bh wz5 qK ZF wz0;intro I E;refine⟨w,v.at.1,?_⟩
 have leaf:∀(a c d:Nat)(k:aa),Var 293 k a (.words .u32 64 (zx bs))->Var 293 k c (.words .u32 64 sx)->Var 289 k d (.words .u32 8 w)->Ext h k->h.size<=d->
  I (some ⟨a,0⟩,some ⟨c,0⟩,some ⟨d,0⟩) k:=by
  intro a c d k F vc t x X;have J:=F.S9 t δ;have K:=vc.S9 t δ;refine E _ _ ?_;refine⟨λi m=>0<=i/\i<=64/\ag (·=d) k m/\Var 289 m d (.words .u32 8 (AM (zx bs) sx w i.toNat)),λi _=>((64:Int)-i).toNat,⟨afj 0,δ,afr _ _,t⟩,?_⟩;rintro i u ⟨G,Y,o,v1⟩;have L:=F.only o J;have M:=vc.only o K;refine ID (λr=>?_) λr=>?_
  ·rw[wrap_i64 (n:=i+1) ω ω]
   refine⟨δ,δ,_,bw v1 δ,δ,δ,_,bw v1 δ,δ,δ,_,bw v1 δ,δ,δ,_,bw v1 δ,δ,δ,_,bw v1 δ,
    G,ω,_,bw M ω,G,ω,_,bw L ω,?_⟩
   refine iW ⟨_,rfl,ae5 _,iW ⟨_,rfl,ae5 _,iW ⟨_,rfl,ae5 _,?_⟩⟩⟩;refine⟨δ,δ,_,bw v1 δ,δ,δ,_,bw v1 δ,δ,δ,_,bw v1 δ,δ,δ,_,bw v1 δ,?_⟩;refine iW ⟨_,rfl,ae5 _,iW ⟨_,rfl,ae5 _,iW ⟨_,rfl,ae5 _,?_⟩⟩⟩;refine⟨δ,δ,δ,δ,?_⟩;refine ZL v1 λH l p Z=>?_;refine⟨δ,δ,_,bw l δ,δ,δ,?_⟩;refine nU l (i:=4) δ rfl λN y z O=>⟨δ,δ,?_⟩;refine nU y (i:=0) δ rfl λh4 v4 P s4=>?_;have A:(i+1).toNat=i.toNat+1:=ω;refine⟨⟨ω,ω,((o.trans p).trans z).trans P,?_⟩,Ω⟩;rw[A];exact v4
  ·have Q:i.toNat=64:=ω;rw[Q]at v1;have v0:Var 333 u b (.agg [.words .u32 8 w,.slice s,.int .u64 n]):=(v.ext x).only o (by have:=v.lt;omega);have S:b≠d:=by have:=v.lt;omega
   refine⟨λi m=>0<=i/\i<=8/\ag (·=b) u m/\Var 333 m b (.agg [.words .u32 8 (pS w (AM (zx bs) sx w 64) i.toNat),.slice s,.int .u64 n]),λi _=>((8:Int)-i).toNat,⟨afj 0,δ,afr _ _,v0⟩,?_⟩;rintro i H ⟨C,j1,p,l⟩;have T:=v1.only p (Ne.symm S);refine ID (λr=>?_) λr=>?_
   ·rw[wrap_i64 (n:=i+1) ω ω];refine⟨C,ω,_,QS l ω,C,ω,_,bw T ω,C,ω,?_⟩;refine HR l (i:=i.toNat) ω (by show 0+i.toNat*1=i.toNat;omega) λN y z O=>?_;have A:(i+1).toNat=i.toNat+1:=ω;refine⟨⟨ω,ω,p.trans z,?_⟩,Ω⟩;rw[A];exact y
   ·have U:i.toNat=8:=ω;rw[U]at l;have V:Ext h u:=ae7 x o λi r=>ω;exact D H l ((afz V).trans p)
 have B:=vK.nil h;clear E D;exact⟨eY (bs:=bs) (e.ext B.ext) j λf g=>have B:=B.on g;⟨_,rfl,B.ext,⟨aB λf g=>have B:=B.on g;⟨_,rfl,B.ext,⟨B.make λf g B=>⟨B.ext,⟨B.make λf g B=>⟨B.ext,B.make λf g B=>⟨B.ext,B.dK bM az λf B=>⟨B.ext,B.dJ bM az λf B=>⟨B.ext,B.dA bM az λf B=>leaf _ _ _ _ B.v2 B.v1 B.v0 B.ext B.n0⟩⟩⟩⟩,B.make λf g B=>⟨B.ext,B.make λf g B=>⟨B.ext,B.dK bM az λf B=>⟨B.ext,B.dA bM az λf B=>⟨B.ext,B.dJ bM az λf B=>leaf _ _ _ _ B.v2 B.v0 B.v1 B.ext B.n1⟩⟩⟩⟩⟩⟩,⟨B.make λf g B=>⟨B.ext,⟨B.make λf g B=>⟨B.ext,B.make λf g B=>⟨B.ext,B.dJ bM az λf B=>⟨B.ext,B.dK bM az λf B=>⟨B.ext,B.dA bM az λf B=>leaf _ _ _ _ B.v1 B.v2 B.v0 B.ext B.n0⟩⟩⟩⟩,B.make λf g B=>⟨B.ext,B.make λf g B=>⟨B.ext,B.dA bM az λf B=>⟨B.ext,B.dK bM az λf B=>⟨B.ext,B.dJ bM az λf B=>leaf _ _ _ _ B.v0 B.v2 B.v1 B.ext B.n1⟩⟩⟩⟩⟩⟩,B.make λf g B=>⟨B.ext,⟨B.make λf g B=>⟨B.ext,B.make λf g B=>⟨B.ext,B.dJ bM az λf B=>⟨B.ext,B.dA bM az λf B=>⟨B.ext,B.dK bM az λf B=>leaf _ _ _ _ B.v1 B.v0 B.v2 B.ext B.n2⟩⟩⟩⟩,B.make λf g B=>⟨B.ext,B.make λf g B=>⟨B.ext,B.dA bM az λf B=>⟨B.ext,B.dJ bM az λf B=>⟨B.ext,B.dK bM az λf B=>leaf _ _ _ _ B.v0 B.v1 B.v2 B.ext B.n2⟩⟩⟩⟩⟩⟩⟩⟩⟩,⟨B.make λf g B=>⟨B.ext,⟨aB λf g=>have B:=B.on g;⟨_,rfl,B.ext,⟨B.make λf g B=>⟨B.ext,B.make λf g B=>⟨B.ext,B.dK bM az λf B=>⟨B.ext,B.dJ bM az λf B=>⟨B.ext,B.dA bM az λf B=>leaf _ _ _ _ B.v2 B.v1 B.v0 B.ext B.n0⟩⟩⟩⟩,B.make λf g B=>⟨B.ext,B.make λf g B=>⟨B.ext,B.dK bM az λf B=>⟨B.ext,B.dA bM az λf B=>⟨B.ext,B.dJ bM az λf B=>leaf _ _ _ _ B.v2 B.v0 B.v1 B.ext B.n1⟩⟩⟩⟩⟩⟩,⟨B.make λf g B=>⟨B.ext,⟨aB λf g=>have B:=B.on g;⟨_,rfl,B.ext,B.make λf g B=>⟨B.ext,B.dK bM az λf B=>⟨B.ext,B.dJ bM az λf B=>⟨B.ext,B.dA bM az λf B=>leaf _ _ _ _ B.v2 B.v1 B.v0 B.ext B.n0⟩⟩⟩⟩,B.make λf g B=>⟨B.ext,aB λf g=>have B:=B.on g;⟨_,rfl,B.ext,B.dK bM az λf B=>⟨B.ext,B.dJ bM az λf B=>⟨B.ext,B.dA bM az λf B=>leaf _ _ _ _ B.v2 B.v1 B.v0 B.ext B.n0⟩⟩⟩⟩⟩⟩,B.make λf g B=>⟨B.ext,⟨aB λf g=>have B:=B.on g;⟨_,rfl,B.ext,B.make λf g B=>⟨B.ext,B.dK bM az λf B=>⟨B.ext,B.dA bM az λf B=>⟨B.ext,B.dJ bM az λf B=>leaf _ _ _ _ B.v2 B.v0 B.v1 B.ext B.n1⟩⟩⟩⟩,B.make λf g B=>⟨B.ext,aB λf g=>have B:=B.on g;⟨_,rfl,B.ext,B.dK bM az λf B=>⟨B.ext,B.dA bM az λf B=>⟨B.ext,B.dJ bM az λf B=>leaf _ _ _ _ B.v2 B.v0 B.v1 B.ext B.n1⟩⟩⟩⟩⟩⟩⟩⟩⟩,⟨B.make λf g B=>⟨B.ext,⟨aB λf g=>have B:=B.on g;⟨_,rfl,B.ext,⟨B.make λf g B=>⟨B.ext,B.make λf g B=>⟨B.ext,B.dJ bM az λf B=>⟨B.ext,B.dK bM az λf B=>⟨B.ext,B.dA bM az λf B=>leaf _ _ _ _ B.v1 B.v2 B.v0 B.ext B.n0⟩⟩⟩⟩,B.make λf g B=>⟨B.ext,B.make λf g B=>⟨B.ext,B.dA bM az λf B=>⟨B.ext,B.dK bM az λf B=>⟨B.ext,B.dJ bM az λf B=>leaf _ _ _ _ B.v0 B.v2 B.v1 B.ext B.n1⟩⟩⟩⟩⟩⟩,⟨B.make λf g B=>⟨B.ext,⟨aB λf g=>have B:=B.on g;⟨_,rfl,B.ext,B.make λf g B=>⟨B.ext,B.dJ bM az λf B=>⟨B.ext,B.dK bM az λf B=>⟨B.ext,B.dA bM az λf B=>leaf _ _ _ _ B.v1 B.v2 B.v0 B.ext B.n0⟩⟩⟩⟩,B.make λf g B=>⟨B.ext,aB λf g=>have B:=B.on g;⟨_,rfl,B.ext,B.dJ bM az λf B=>⟨B.ext,B.dK bM az λf B=>⟨B.ext,B.dA bM az λf B=>leaf _ _ _ _ B.v1 B.v2 B.v0 B.ext B.n0⟩⟩⟩⟩⟩⟩,B.make λf g B=>⟨B.ext,⟨aB λf g=>have B:=B.on g;⟨_,rfl,B.ext,B.make λf g B=>⟨B.ext,B.dA bM az λf B=>⟨B.ext,B.dK bM az λf B=>⟨B.ext,B.dJ bM az λf B=>leaf _ _ _ _ B.v0 B.v2 B.v1 B.ext B.n1⟩⟩⟩⟩,B.make λf g B=>⟨B.ext,aB λf g=>have B:=B.on g;⟨_,rfl,B.ext,B.dA bM az λf B=>⟨B.ext,B.dK bM az λf B=>⟨B.ext,B.dJ bM az λf B=>leaf _ _ _ _ B.v0 B.v2 B.v1 B.ext B.n1⟩⟩⟩⟩⟩⟩⟩⟩⟩,B.make λf g B=>⟨B.ext,⟨aB λf g=>have B:=B.on g;⟨_,rfl,B.ext,⟨B.make λf g B=>⟨B.ext,B.make λf g B=>⟨B.ext,B.dJ bM az λf B=>⟨B.ext,B.dA bM az λf B=>⟨B.ext,B.dK bM az λf B=>leaf _ _ _ _ B.v1 B.v0 B.v2 B.ext B.n2⟩⟩⟩⟩,B.make λf g B=>⟨B.ext,B.make λf g B=>⟨B.ext,B.dA bM az λf B=>⟨B.ext,B.dJ bM az λf B=>⟨B.ext,B.dK bM az λf B=>leaf _ _ _ _ B.v0 B.v1 B.v2 B.ext B.n2⟩⟩⟩⟩⟩⟩,⟨B.make λf g B=>⟨B.ext,⟨aB λf g=>have B:=B.on g;⟨_,rfl,B.ext,B.make λf g B=>⟨B.ext,B.dJ bM az λf B=>⟨B.ext,B.dA bM az λf B=>⟨B.ext,B.dK bM az λf B=>leaf _ _ _ _ B.v1 B.v0 B.v2 B.ext B.n2⟩⟩⟩⟩,B.make λf g B=>⟨B.ext,aB λf g=>have B:=B.on g;⟨_,rfl,B.ext,B.dJ bM az λf B=>⟨B.ext,B.dA bM az λf B=>⟨B.ext,B.dK bM az λf B=>leaf _ _ _ _ B.v1 B.v0 B.v2 B.ext B.n2⟩⟩⟩⟩⟩⟩,B.make λf g B=>⟨B.ext,⟨aB λf g=>have B:=B.on g;⟨_,rfl,B.ext,B.make λf g B=>⟨B.ext,B.dA bM az λf B=>⟨B.ext,B.dJ bM az λf B=>⟨B.ext,B.dK bM az λf B=>leaf _ _ _ _ B.v0 B.v1 B.v2 B.ext B.n2⟩⟩⟩⟩,B.make λf g B=>⟨B.ext,aB λf g=>have B:=B.on g;⟨_,rfl,B.ext,B.dA bM az λf B=>⟨B.ext,B.dJ bM az λf B=>⟨B.ext,B.dK bM az λf B=>leaf _ _ _ _ B.v0 B.v1 B.v2 B.ext B.n2⟩⟩⟩⟩⟩⟩⟩⟩⟩⟩⟩⟩⟩,⟨B.make λf g B=>⟨B.ext,⟨eY (bs:=bs) (e.ext B.ext) j λf g=>have B:=B.on g;⟨_,rfl,B.ext,⟨aB λf g=>have B:=B.on g;⟨_,rfl,B.ext,⟨B.make λf g B=>⟨B.ext,B.make λf g B=>⟨B.ext,B.dK bM az λf B=>⟨B.ext,B.dJ bM az λf B=>⟨B.ext,B.dA bM az λf B=>leaf _ _ _ _ B.v2 B.v1 B.v0 B.ext B.n0⟩⟩⟩⟩,B.make λf g B=>⟨B.ext,B.make λf g B=>⟨B.ext,B.dK bM az λf B=>⟨B.ext,B.dA bM az λf B=>⟨B.ext,B.dJ bM az λf B=>leaf _ _ _ _ B.v2 B.v0 B.v1 B.ext B.n1⟩⟩⟩⟩⟩⟩,⟨B.make λf g B=>⟨B.ext,⟨aB λf g=>have B:=B.on g;⟨_,rfl,B.ext,B.make λf g B=>⟨B.ext,B.dK bM az λf B=>⟨B.ext,B.dJ bM az λf B=>⟨B.ext,B.dA bM az λf B=>leaf _ _ _ _ B.v2 B.v1 B.v0 B.ext B.n0⟩⟩⟩⟩,B.make λf g B=>⟨B.ext,aB λf g=>have B:=B.on g;⟨_,rfl,B.ext,B.dK bM az λf B=>⟨B.ext,B.dJ bM az λf B=>⟨B.ext,B.dA bM az λf B=>leaf _ _ _ _ B.v2 B.v1 B.v0 B.ext B.n0⟩⟩⟩⟩⟩⟩,B.make λf g B=>⟨B.ext,⟨aB λf g=>have B:=B.on g;⟨_,rfl,B.ext,B.make λf g B=>⟨B.ext,B.dK bM az λf B=>⟨B.ext,B.dA bM az λf B=>⟨B.ext,B.dJ bM az λf B=>leaf _ _ _ _ B.v2 B.v0 B.v1 B.ext B.n1⟩⟩⟩⟩,B.make λf g B=>⟨B.ext,aB λf g=>have B:=B.on g;⟨_,rfl,B.ext,B.dK bM az λf B=>⟨B.ext,B.dA bM az λf B=>⟨B.ext,B.dJ bM az λf B=>leaf _ _ _ _ B.v2 B.v0 B.v1 B.ext B.n1⟩⟩⟩⟩⟩⟩⟩⟩⟩,⟨B.make λf g B=>⟨B.ext,⟨eY (bs:=bs) (e.ext B.ext) j λf g=>have B:=B.on g;⟨_,rfl,B.ext,⟨aB λf g=>have B:=B.on g;⟨_,rfl,B.ext,B.make λf g B=>⟨B.ext,B.dK bM az λf B=>⟨B.ext,B.dJ bM az λf B=>⟨B.ext,B.dA bM az λf B=>leaf _ _ _ _ B.v2 B.v1 B.v0 B.ext B.n0⟩⟩⟩⟩,B.make λf g B=>⟨B.ext,aB λf g=>have B:=B.on g;⟨_,rfl,B.ext,B.dK bM az λf B=>⟨B.ext,B.dJ bM az λf B=>⟨B.ext,B.dA bM az λf B=>leaf _ _ _ _ B.v2 B.v1 B.v0 B.ext B.n0⟩⟩⟩⟩⟩⟩,B.make λf g B=>⟨B.ext,eY (bs:=bs) (e.ext B.ext) j λf g=>have B:=B.on g;⟨_,rfl,B.ext,aB λf g=>have B:=B.on g;⟨_,rfl,B.ext,B.dK bM az λf B=>⟨B.ext,B.dJ bM az λf B=>⟨B.ext,B.dA bM az λf B=>leaf _ _ _ _ B.v2 B.v1 B.v0 B.ext B.n0⟩⟩⟩⟩⟩⟩⟩,B.make λf g B=>⟨B.ext,⟨eY (bs:=bs) (e.ext B.ext) j λf g=>have B:=B.on g;⟨_,rfl,B.ext,⟨aB λf g=>have B:=B.on g;⟨_,rfl,B.ext,B.make λf g B=>⟨B.ext,B.dK bM az λf B=>⟨B.ext,B.dA bM az λf B=>⟨B.ext,B.dJ bM az λf B=>leaf _ _ _ _ B.v2 B.v0 B.v1 B.ext B.n1⟩⟩⟩⟩,B.make λf g B=>⟨B.ext,aB λf g=>have B:=B.on g;⟨_,rfl,B.ext,B.dK bM az λf B=>⟨B.ext,B.dA bM az λf B=>⟨B.ext,B.dJ bM az λf B=>leaf _ _ _ _ B.v2 B.v0 B.v1 B.ext B.n1⟩⟩⟩⟩⟩⟩,B.make λf g B=>⟨B.ext,eY (bs:=bs) (e.ext B.ext) j λf g=>have B:=B.on g;⟨_,rfl,B.ext,aB λf g=>have B:=B.on g;⟨_,rfl,B.ext,B.dK bM az λf B=>⟨B.ext,B.dA bM az λf B=>⟨B.ext,B.dJ bM az λf B=>leaf _ _ _ _ B.v2 B.v0 B.v1 B.ext B.n1⟩⟩⟩⟩⟩⟩⟩⟩⟩⟩,⟨B.make λf g B=>⟨B.ext,⟨eY (bs:=bs) (e.ext B.ext) j λf g=>have B:=B.on g;⟨_,rfl,B.ext,⟨aB λf g=>have B:=B.on g;⟨_,rfl,B.ext,⟨B.make λf g B=>⟨B.ext,B.make λf g B=>⟨B.ext,B.dJ bM az λf B=>⟨B.ext,B.dK bM az λf B=>⟨B.ext,B.dA bM az λf B=>leaf _ _ _ _ B.v1 B.v2 B.v0 B.ext B.n0⟩⟩⟩⟩,B.make λf g B=>⟨B.ext,B.make λf g B=>⟨B.ext,B.dA bM az λf B=>⟨B.ext,B.dK bM az λf B=>⟨B.ext,B.dJ bM az λf B=>leaf _ _ _ _ B.v0 B.v2 B.v1 B.ext B.n1⟩⟩⟩⟩⟩⟩,⟨B.make λf g B=>⟨B.ext,⟨aB λf g=>have B:=B.on g;⟨_,rfl,B.ext,B.make λf g B=>⟨B.ext,B.dJ bM az λf B=>⟨B.ext,B.dK bM az λf B=>⟨B.ext,B.dA bM az λf B=>leaf _ _ _ _ B.v1 B.v2 B.v0 B.ext B.n0⟩⟩⟩⟩,B.make λf g B=>⟨B.ext,aB λf g=>have B:=B.on g;⟨_,rfl,B.ext,B.dJ bM az λf B=>⟨B.ext,B.dK bM az λf B=>⟨B.ext,B.dA bM az λf B=>leaf _ _ _ _ B.v1 B.v2 B.v0 B.ext B.n0⟩⟩⟩⟩⟩⟩,B.make λf g B=>⟨B.ext,⟨aB λf g=>have B:=B.on g;⟨_,rfl,B.ext,B.make λf g B=>⟨B.ext,B.dA bM az λf B=>⟨B.ext,B.dK bM az λf B=>⟨B.ext,B.dJ bM az λf B=>leaf _ _ _ _ B.v0 B.v2 B.v1 B.ext B.n1⟩⟩⟩⟩,B.make λf g B=>⟨B.ext,aB λf g=>have B:=B.on g;⟨_,rfl,B.ext,B.dA bM az λf B=>⟨B.ext,B.dK bM az λf B=>⟨B.ext,B.dJ bM az λf B=>leaf _ _ _ _ B.v0 B.v2 B.v1 B.ext B.n1⟩⟩⟩⟩⟩⟩⟩⟩⟩,⟨B.make λf g B=>⟨B.ext,⟨eY (bs:=bs) (e.ext B.ext) j λf g=>have B:=B.on g;⟨_,rfl,B.ext,⟨aB λf g=>have B:=B.on g;⟨_,rfl,B.ext,B.make λf g B=>⟨B.ext,B.dJ bM az λf B=>⟨B.ext,B.dK bM az λf B=>⟨B.ext,B.dA bM az λf B=>leaf _ _ _ _ B.v1 B.v2 B.v0 B.ext B.n0⟩⟩⟩⟩,B.make λf g B=>⟨B.ext,aB λf g=>have B:=B.on g;⟨_,rfl,B.ext,B.dJ bM az λf B=>⟨B.ext,B.dK bM az λf B=>⟨B.ext,B.dA bM az λf B=>leaf _ _ _ _ B.v1 B.v2 B.v0 B.ext B.n0⟩⟩⟩⟩⟩⟩,B.make λf g B=>⟨B.ext,eY (bs:=bs) (e.ext B.ext) j λf g=>have B:=B.on g;⟨_,rfl,B.ext,aB λf g=>have B:=B.on g;⟨_,rfl,B.ext,B.dJ bM az λf B=>⟨B.ext,B.dK bM az λf B=>⟨B.ext,B.dA bM az λf B=>leaf _ _ _ _ B.v1 B.v2 B.v0 B.ext B.n0⟩⟩⟩⟩⟩⟩⟩,B.make λf g B=>⟨B.ext,⟨eY (bs:=bs) (e.ext B.ext) j λf g=>have B:=B.on g;⟨_,rfl,B.ext,⟨aB λf g=>have B:=B.on g;⟨_,rfl,B.ext,B.make λf g B=>⟨B.ext,B.dA bM az λf B=>⟨B.ext,B.dK bM az λf B=>⟨B.ext,B.dJ bM az λf B=>leaf _ _ _ _ B.v0 B.v2 B.v1 B.ext B.n1⟩⟩⟩⟩,B.make λf g B=>⟨B.ext,aB λf g=>have B:=B.on g;⟨_,rfl,B.ext,B.dA bM az λf B=>⟨B.ext,B.dK bM az λf B=>⟨B.ext,B.dJ bM az λf B=>leaf _ _ _ _ B.v0 B.v2 B.v1 B.ext B.n1⟩⟩⟩⟩⟩⟩,B.make λf g B=>⟨B.ext,eY (bs:=bs) (e.ext B.ext) j λf g=>have B:=B.on g;⟨_,rfl,B.ext,aB λf g=>have B:=B.on g;⟨_,rfl,B.ext,B.dA bM az λf B=>⟨B.ext,B.dK bM az λf B=>⟨B.ext,B.dJ bM az λf B=>leaf _ _ _ _ B.v0 B.v2 B.v1 B.ext B.n1⟩⟩⟩⟩⟩⟩⟩⟩⟩⟩,B.make λf g B=>⟨B.ext,⟨eY (bs:=bs) (e.ext B.ext) j λf g=>have B:=B.on g;⟨_,rfl,B.ext,⟨aB λf g=>have B:=B.on g;⟨_,rfl,B.ext,⟨B.make λf g B=>⟨B.ext,B.make λf g B=>⟨B.ext,B.dJ bM az λf B=>⟨B.ext,B.dA bM az λf B=>⟨B.ext,B.dK bM az λf B=>leaf _ _ _ _ B.v1 B.v0 B.v2 B.ext B.n2⟩⟩⟩⟩,B.make λf g B=>⟨B.ext,B.make λf g B=>⟨B.ext,B.dA bM az λf B=>⟨B.ext,B.dJ bM az λf B=>⟨B.ext,B.dK bM az λf B=>leaf _ _ _ _ B.v0 B.v1 B.v2 B.ext B.n2⟩⟩⟩⟩⟩⟩,⟨B.make λf g B=>⟨B.ext,⟨aB λf g=>have B:=B.on g;⟨_,rfl,B.ext,B.make λf g B=>⟨B.ext,B.dJ bM az λf B=>⟨B.ext,B.dA bM az λf B=>⟨B.ext,B.dK bM az λf B=>leaf _ _ _ _ B.v1 B.v0 B.v2 B.ext B.n2⟩⟩⟩⟩,B.make λf g B=>⟨B.ext,aB λf g=>have B:=B.on g;⟨_,rfl,B.ext,B.dJ bM az λf B=>⟨B.ext,B.dA bM az λf B=>⟨B.ext,B.dK bM az λf B=>leaf _ _ _ _ B.v1 B.v0 B.v2 B.ext B.n2⟩⟩⟩⟩⟩⟩,B.make λf g B=>⟨B.ext,⟨aB λf g=>have B:=B.on g;⟨_,rfl,B.ext,B.make λf g B=>⟨B.ext,B.dA bM az λf B=>⟨B.ext,B.dJ bM az λf B=>⟨B.ext,B.dK bM az λf B=>leaf _ _ _ _ B.v0 B.v1 B.v2 B.ext B.n2⟩⟩⟩⟩,B.make λf g B=>⟨B.ext,aB λf g=>have B:=B.on g;⟨_,rfl,B.ext,B.dA bM az λf B=>⟨B.ext,B.dJ bM az λf B=>⟨B.ext,B.dK bM az λf B=>leaf _ _ _ _ B.v0 B.v1 B.v2 B.ext B.n2⟩⟩⟩⟩⟩⟩⟩⟩⟩,⟨B.make λf g B=>⟨B.ext,⟨eY (bs:=bs) (e.ext B.ext) j λf g=>have B:=B.on g;⟨_,rfl,B.ext,⟨aB λf g=>have B:=B.on g;⟨_,rfl,B.ext,B.make λf g B=>⟨B.ext,B.dJ bM az λf B=>⟨B.ext,B.dA bM az λf B=>⟨B.ext,B.dK bM az λf B=>leaf _ _ _ _ B.v1 B.v0 B.v2 B.ext B.n2⟩⟩⟩⟩,B.make λf g B=>⟨B.ext,aB λf g=>have B:=B.on g;⟨_,rfl,B.ext,B.dJ bM az λf B=>⟨B.ext,B.dA bM az λf B=>⟨B.ext,B.dK bM az λf B=>leaf _ _ _ _ B.v1 B.v0 B.v2 B.ext B.n2⟩⟩⟩⟩⟩⟩,B.make λf g B=>⟨B.ext,eY (bs:=bs) (e.ext B.ext) j λf g=>have B:=B.on g;⟨_,rfl,B.ext,aB λf g=>have B:=B.on g;⟨_,rfl,B.ext,B.dJ bM az λf B=>⟨B.ext,B.dA bM az λf B=>⟨B.ext,B.dK bM az λf B=>leaf _ _ _ _ B.v1 B.v0 B.v2 B.ext B.n2⟩⟩⟩⟩⟩⟩⟩,B.make λf g B=>⟨B.ext,⟨eY (bs:=bs) (e.ext B.ext) j λf g=>have B:=B.on g;⟨_,rfl,B.ext,⟨aB λf g=>have B:=B.on g;⟨_,rfl,B.ext,B.make λf g B=>⟨B.ext,B.dA bM az λf B=>⟨B.ext,B.dJ bM az λf B=>⟨B.ext,B.dK bM az λf B=>leaf _ _ _ _ B.v0 B.v1 B.v2 B.ext B.n2⟩⟩⟩⟩,B.make λf g B=>⟨B.ext,aB λf g=>have B:=B.on g;⟨_,rfl,B.ext,B.dA bM az λf B=>⟨B.ext,B.dJ bM az λf B=>⟨B.ext,B.dK bM az λf B=>leaf _ _ _ _ B.v0 B.v1 B.v2 B.ext B.n2⟩⟩⟩⟩⟩⟩,B.make λf g B=>⟨B.ext,eY (bs:=bs) (e.ext B.ext) j λf g=>have B:=B.on g;⟨_,rfl,B.ext,aB λf g=>have B:=B.on g;⟨_,rfl,B.ext,B.dA bM az λf B=>⟨B.ext,B.dJ bM az λf B=>⟨B.ext,B.dK bM az λf B=>leaf _ _ _ _ B.v0 B.v1 B.v2 B.ext B.n2⟩⟩⟩⟩⟩⟩⟩⟩⟩⟩⟩⟩⟩
end
end Board
namespace Board
section
variable{R:Rq}{h:aa}
theorem xM:∀(ts:List (LU))(i:Nat),(ts.take i).flatten.length<=ts.flatten.length
 |[],i=>by simp
 |t::ts,0=>by simp
 |t::ts,i+1=>by
  have:=xM ts i;simp only[List.take_succ_cons,List.flatten_cons,afA];omega
theorem bq{α:Type}{ts:List α}{i:Nat}{t:α}(q:ts[i]? =some t):ts.take (i+1)=ts.take i++[t]:=by
 rw[List.take_add_one,q];rfl
theorem uo{n:Nat}{x y:Bs n}:(TV.bytes n x).size=(TV.bytes n y).size:=by simp only[ae2]
def vM(n:Int):Nat->LU
 |0=>[]
 |k+1=>ae9 (aeN .u8 n).toNat::vM (aeW n (2^min (aeL 8) (aeF .u64))) k
def leN(n:Int):Nat->Int
 |0=>n
 |k+1=>leN (aeW n (2^min (aeL 8) (aeF .u64))) k
theorem OA:∀(k:Nat)(n:Int),leN n (k+1)=aeW (leN n k) (2^min (aeL 8) (aeF .u64))
 |0,_=>rfl
 |k+1,_=>OA k _
theorem OB:∀(k:Nat)(n:Int),vM n (k+1)=vM n k++[ae9 (aeN .u8 (leN n k)).toNat]
 |0,_=>rfl
 |k+1,n=>by
  rw[vM,OB k];rfl
theorem fL:∀(k:Nat)(n:Int),(vM n k).length=k
 |0,_=>rfl
 |k+1,n=>by simp[vM,fL k]
theorem gw{Q:Nat->Prop}{s:Sl}{bs:LU}{n:Int}{k:Nat}(r:Row Q h s bs)(A:bs.length<5000)(B:k<=8)
 (q:∀a c,Row Q a c (bs++vM n k)->ag Q h a->R (TV.slice c).val a):Cl 260 [.slice s,.int .u64 n,.i (k:Int)] h R:=by
 apply Mi;delta dz aG Eu;refine⟨λσ d=>0<=σ.2.2/\σ.2.2<=(k:Int)/\Row Q d σ.1 (bs++vM n σ.2.2.toNat)/\σ.2.1=leN n σ.2.2.toNat/\ag Q h d,λσ _=>((k:Int)-σ.2.2).toNat,⟨afj 0,by dsimp only;omega,by simpa[vM]using r,rfl,afr _ _⟩,?_⟩;rintro⟨j,l,i⟩ m ⟨o,p,r1,b,e⟩;dsimp only at o p r1 b⊢;have t:mn (mx (k:Int) 0) 8=(k:Int):=by rw[aaG,J7];omega
 rw[t];refine ID (λu=>?_) λu=>?_
 ·have f:=aO l;have y:=fL i.toNat n;refine Oy r1 (by rw[afA];omega) f.1 f.2 λz C v w D=>⟨δ,?_⟩;rw[wrap_i64 (n:=i+1) ω ω];have g:(i+1).toNat=i.toNat+1:=ω;refine⟨⟨ω,ω,?_,?_,e.trans (r1.cut w)⟩,Ω⟩
  ·rw[g,OB,<-List.append_assoc,<-b];exact v
  ·rw[g,OA,b]
 ·have x:i.toNat=k:=ω;rw[x]at r1;exact q m j r1 e
theorem Row.str{Q:Nat->Prop}{s:Sl}{bs:LU}(r:Row Q h s bs):jM h s bs:=by
 have e:=r.own.elems;have c:=r.len;refine⟨c,?_⟩;cases a:s.a with
 |none=>
  have:=e.nil a;refine .inl ⟨rfl,?_⟩;cases bs with
  |nil=>rfl
  |cons b bs=>cases this
 |some l=>
  refine .inr ⟨l,rfl,λj d=>?_⟩;have:=e.get l a j (HP bs[j]) (by rw[afp,afC d];rfl);rw[afG]at this;exact this
theorem vN{T:TypeId}{h:aa}{b n c:Nat}{x:Bs n}(v:Var T h b (.bytes n x)):jM h ⟨some ⟨b,0⟩,n,c⟩ x.l:=
 ⟨x.h,.inr ⟨_,rfl,λj a=>by
  have:=v.bytes j (by rw[<-x.h];exact a);rw[this];simp[afc,a]⟩⟩
theorem mP{a b:Bs 32}(q:∀c,Ext h c->R (afJ (Op.bytesLess a.l b.l)).val c):iB Tryz.prog 198 (aeS [.bytes 32 a,.bytes 32 b]) h R:=by
 apply zD;delta gu bV fC bK eE;refine af λg v1 e i=>af λj f d k=>?_;exact⟨a.l,vN (v1.ext d),b.l,vN f,q _ (e.trans d)⟩
theorem Kv{a b:Bs 32}(q:∀c,Ext h c->R (afJ (Op.bytesLess a.l b.l)).val c):Cl 198 [.bytes 32 a,.bytes 32 b] h R:=(mP q).weak
end
end Board
namespace Gate
theorem Un{R:Rq}{h:aa}{a b:Bs 32}(q:∀c,Ext h c->R (afJ (Op.bytesLess a.l b.l)).val c):Cl 198 [.bytes 32 a,.bytes 32 b] h R:=Board.Kv q
end Gate
namespace Gate
open Pool (xE)
abbrev gy(n:Nat)(f:Nat->Int):List Int:=(List.range n).map f
theorem vP(n:Nat)(f:Nat->Int):(gy n f).length=n:=by simp
theorem ja{n i:Nat}(f:Nat->Int)(h:i<n):(gy n f)[i]? =some (f i):=by simp[h]
theorem Gv(n i:Nat)(f:Nat->Int)(v:Int):(gy n f).set i v=gy n λk=>if k=i then v else f k:=by
 apply List.ext_getElem?;intro j;rw[List.getElem?_set];simp only[gy,ae4,List.length_range,afp];by_cases b:j<n
 ·by_cases a:i=j
  ·subst a;simp[b]
  ·have:¬j=i:=λe=>a e.symm;simp[b,a,this]
 ·have:(List.range n)[j]? =none:=by simp;omega
  rw[this];by_cases a:i=j
  ·subst a;simp[b]
  ·simp[a]
theorem Xl{l:List Int}{n:Nat}(h:l.length=n):l=gy n λk=>l.getD k 0:=by
 apply List.ext_getElem
 ·simp[h]
 ·intro i a b;simp[a]
theorem fD{n:Nat}{f g:Nat->Int}(h:∀k,k<n->f k=g k):gy n f=gy n g:=List.map_congr_left λk a=>h k (List.mem_range.1 a)
def pX:Option Nat->Int
 |some b=>b
 |none=>-1
theorem gz{h:aa}{A:Sl}{l:List Int}(o:Own 3 1 h A (dX l)){i:Int}(E:0<=i){v:Int}(q:l[i.toNat]? =some v){K:Int->Prop}(H:K v):
 0<=i/\i<(A.len:Int)/\Nn A.a λp=>∃n,ah h p.b (p.o+i.toNat*1) (.i n)/\K n:=by
 have b:=o.len;have:=(List.getElem?_eq_some_iff.1 q).1;rw[ae4]at b;refine o.elems.read E ω λp t _ a c=>?_;rw[afp,q]at a;cases a;exact⟨v,c,H⟩
section
variable{R:Rq}{h h':aa}{w tb r:Nat}{O S B G A:Sl}{os ss bs fs:List Int}{L:List Nd}{most:Int}{n:Nat}
theorem WP.cD{bf:Nat->Int}(p:WP h w tb O S B G os (gy n bf) bs fs){i v:Int}(E:0<=i)(q:i<n){K:aa->Prop}
 (H:∀q,WP q w tb O S B G os (gy n λk=>if k=i.toNat then v else bf k) bs fs->ag (In S) h q->q.size=h.size->K q):
 0<=i/\i<(S.len:Int)/\Nn S.a λl=>gi h l.b (l.o+i.toNat*1) 1/\Bind ((TV.i v).put h l.b (l.o+i.toNat*1)) K:=
 p.s.aH (sz:=1) (n:=1) (t:=.i v) E (by simp;omega) rfl rfl λc d f2 e=>H c ⟨p.var.only f2 p.now.2.1,p.o.keep f2 p.os_,by rw[<-Gv];simpa[dX,afq]using d,p.b.keep f2 λi a b=>p.sb i b a,p.f.keep f2 λi a b=>p.sf i b a,p.now,p.os_,p.ob,p.of,p.sb,p.sf,p.bf⟩ f2 e
theorem WP.ac6{bf:Nat->Int}(p:WP h w tb O S B G os ss (gy n bf) fs){i v:Int}(E:0<=i)(q:i<n){K:aa->Prop}
 (H:∀q,WP q w tb O S B G os ss (gy n λk=>if k=i.toNat then v else bf k) fs->ag (In B) h q->q.size=h.size->K q):
 0<=i/\i<(B.len:Int)/\Nn B.a λl=>gi h l.b (l.o+i.toNat*1) 1/\Bind ((TV.i v).put h l.b (l.o+i.toNat*1)) K:=
 p.b.aH (sz:=1) (n:=1) (t:=.i v) E (by simp;omega) rfl rfl λa b f2 c=>H a ⟨p.var.only f2 p.now.2.2.1,p.o.keep f2 p.ob,p.s.keep f2 p.sb,by rw[<-Gv];simpa[dX,afq]using b,p.f.keep f2 λi d e=>p.bf i e d,p.now,p.os_,p.ob,p.of,p.sb,p.sf,p.bf⟩ f2 c
theorem WP.ac7{E:Nat->Int}(p:WP h w tb O S B G os ss bs (gy n E)){i v:Int}(H:0<=i)(q:i<n){K:aa->Prop}
 (I:∀q,WP q w tb O S B G os ss bs (gy n λk=>if k=i.toNat then v else E k)->ag (In G) h q->q.size=h.size->K q):
 0<=i/\i<(G.len:Int)/\Nn G.a λl=>gi h l.b (l.o+i.toNat*1) 1/\Bind ((TV.i v).put h l.b (l.o+i.toNat*1)) K:=
 p.f.aH (sz:=1) (n:=1) (t:=.i v) H (by simp;omega) rfl rfl λa b f2 c=>I a ⟨p.var.only f2 p.now.2.2.2,p.o.keep f2 p.of,p.s.keep f2 p.sf,p.b.keep f2 p.bf,by rw[<-Gv];simpa[dX,afq]using b,p.now,p.os_,p.ob,p.of,p.sb,p.sf,p.bf⟩ f2 c
theorem gW{i:Int}{x:Nd}(q:0<=i)(E:L[i.toNat]? =some x):dm L i=(x,true):=by
 unfold dm nodeAt;rw[if_pos q,E]
def Xm(s:Nat->Int)(r:Nat->LU)(i:Nat):Option Nat->Bool
 |none=>true
 |some b=>Qx s r i b
theorem QU{s:Nat->Int}(p:WP h w tb O S B G os (gy n s) bs fs)(t:yK h tb r A L most)(W:L.length=n){i:Nat}{k:Option Nat}(q:i<n)(H:∀b,k=some b->b<n)
 (E:∀h',Ext h h'->R (afJ (Xm s (lM L) i k)).val h'):
 Cl 261 [.ptr (PT w),.i (i:Int),.i (pX k)] h R:=by
 apply rI;delta zu pN aI BI jw c7 i_ bu bK aT;intro X z;intro Y g;cases k with
 |none=>
  refine ID (λ_=>?_) λa=>absurd δ a;exact g true h (If.yes (ID (λ_=>E h (ae5 h)) λa=>absurd δ a))
 |some b=>
  have j:=H b rfl;have l:¬(pX (some b)<0):=by simp only[pX];omega
  have m:((i:Int)).toNat=i:=rfl;have c:(pX (some b)).toNat=b:=rfl;refine ID (λa=>absurd a l) λ_=>?_;refine⟨S,p.var.ah rfl,gz p.s ω (v:=s i) (by rw[m];exact ja s q) ⟨S,p.var.ah rfl,gz p.s (by simp only[pX];omega) (v:=s b) (by rw[c];exact ja s j) ?_⟩⟩;refine g _ h (If.split (λd=>ID (λa=>absurd a l) λ_=>?_) λe=>?_)
  ·refine⟨S,p.var.ah rfl,gz p.s ω (v:=s i) (by rw[m];exact ja s q) ⟨S,p.var.ah rfl,gz p.s (by simp only[pX];omega) (v:=s b) (by rw[c];exact ja s j) ?_⟩⟩;have d:¬s i=s b:=by simpa using d
   have:=E h (ae5 h);simp only[Xm,Qx,d,decide_false,Bool.false_and,Bool.or_false]at this;exact this
  ·have e:s i=s b:=by simpa using e
   refine z false h ?_;have o:L[i]? =some L[i]:=afC ω;have u:L[b]? =some L[b]:=afC ω;refine⟨some ⟨tb,0⟩,p.var.ah rfl,cL t λC D=>⟨_,_,_,_,rfl,?_⟩⟩;rw[gW (i:=(i:Int)) ω o];refine af λZ F I s2=>aH F (t:=L[i].tv) rfl λJ K f3 s3=>?_;have M:Ext C J:=ae7 I f3 λi q=>ω;have f:=D.trans M;refine⟨some ⟨tb,0⟩,(p.var.ext f).ah rfl,cL (t.ext f) λN x=>⟨_,_,_,_,rfl,?_⟩⟩;rw[gW (i:=pX (some b)) (by simp only[pX];omega) (by rw[c];exact u)];refine af λh5 P Q s5=>aH P (t:=L[b].tv) rfl λT v6 f6 s6=>?_;have y:Ext N T:=ae7 Q f6 λi q=>ω;refine⟨_,v6.at.1,_,((Var.ext (t:=L[i].tv) K x).ext y).at.1,Un λU V=>⟨_,rfl,?_⟩⟩;have:=E U (((f.trans x).trans y).trans V);have ab:¬s b<s i:=ω;simp only[Xm,Qx,e,decide_true,Bool.true_and,C6 o,C6 u]at this;simpa using this
theorem Kw{s:Nat->Int}(p:WP h w tb O S B G os (gy n s) bs fs)(t:yK h tb r A L most)(ap:∀i,kH tb r A i->¬gV w O S B G i)(U:L.length=n)(l2:bs.length=n)(l3:fs.length=n)
 (hr:∀h',WP h' w tb O S B G os (gy n s) (gy n λk=>pX (nP n (dV L) s (lM L) k)) (gy n λk=>(C2 n (dV L) s (lM L) k:Int))->ag (λi=>In B i\/In G i) h h'->R (afy []).val h'):
 Cl 204 [.ptr (PT w)] h R:=by
 apply sQ;delta zu xL aG aI iQ gU c7 eX c5 aJ bN aT;have up:Up n (dV L):=U▸t.ok.tree;have H:Names n (lM L):=U▸t.ok.names;have aw:=t.ok.len;have aE:=t.ok.most;have n0:0<n:=by have:=t.ok.QD;omega
 have Y:=p.lb;have ac:∀{c:aa},ag (λi=>In B i\/In G i) h c->yK c tb r A L most:=λf=>t.only f λi l u=>ap i l (u.elim (λh=>.inr (.inr (.inr (.inl h)))) λh=>.inr (.inr (.inr (.inr h))));rw[Xl l2,Xl l3]at p
 refine⟨B,p.var.ah rfl,λσ c=>0<=σ/\σ<=n/\∃bf g,WP c w tb O S B G os (gy n s) (gy n bf) (gy n g)/\(∀k:Nat,(k:Int)<σ->bf k=-1/\g k=k)/\ag (λi=>In B i\/In G i) h c,
  λσ _=>((n:Int)-σ).toNat,⟨afj 0,ω,_,_,p,λk a=>ω,afr _ _⟩,?_⟩
 rintro σ h1 ⟨Z,a1,bf,g,z,N,f1⟩;refine ID (λad=>?_) λP=>?_
 ·refine⟨B,z.var.ah rfl,G,z.var.ah rfl,z.ac6 Z ω λh2 q f2 s2=>q.ac7 Z ω λC j f3 s3=>?_⟩;rw[wrap_i64 (n:=σ+1) ω ω];refine⟨⟨ω,ω,_,_,j,λk a=>?_,(f1.trans (f2.mono λi l=>.inl l)).trans (f3.mono λi l=>.inr l)⟩,by show((n:Int)-(σ+1)).toNat<((n:Int)-σ).toNat;omega⟩;by_cases m:k=σ.toNat
  ·rw[if_pos m,if_pos m];exact⟨rfl,ω⟩
  ·rw[if_neg m,if_neg m];exact N k ω
 have a0:σ=n:=ω;have e0:gy n bf=gy n λk=>pX ((λ_=>none:Nat->Option Nat) k):=fD λk a=>(N k ω).1;have ae:gy n g=gy n λk=>(k:Int):=fD λk a=>(N k ω).2;rw[e0,ae]at z;refine⟨B,z.var.ah rfl,?_⟩;dsimp only;rw[<-Y,l2,wrap_i64 (n:=(n:Int)-1) ω ω]
 refine⟨λσ c=>0<=σ/\σ<n/\∃d:Nat->Option Nat,WP c w tb O S B G os (gy n s) (gy n λk=>pX (d k)) (gy n λk=>(k:Int))/\Hx n (dV L) s (lM L) (σ.toNat+1) d/\ag (λi=>In B i\/In G i) h c,
  λσ _=>σ.toNat,⟨ω,ω,_,z,?_,f1⟩,?_⟩
 ·have:((n:Int)-1).toNat+1=n:=ω;rw[this];exact QA _ λ_=>rfl
 rintro e h2 ⟨b0,b1,d,q,Q,f2⟩;have t2:=ac f2;refine ID (λhgt=>?_) λa2=>?_
 ·have u:L[e.toNat]? =some L[e.toNat]:=afC ω;obtain⟨x,al⟩:∃x,x=L[e.toNat]:=⟨_,rfl⟩;rw[<-al]at u;have hu:=t.ok.up _ x u ω;have T:=AJ u;refine⟨some ⟨tb,0⟩,q.var.ah rfl,cL t2 λC x3=>⟨_,_,_,_,rfl,?_⟩⟩;rw[gW b0 u];refine af λh4 v4 x4 s4=>aH v4 (t:=x.tv) rfl λh5 v5 f5 s5=>?_;have am:Ext C h5:=ae7 x4 f5 λi l=>ω;have V:=x3.trans am;have I:=q.ext V;have pb:pX (d (dV L e.toNat))=(λk=>pX (d k)) x.par.toNat:=by rw[T]
  refine⟨B,I.var.ah rfl,x.par,v5.at.2.2,gz I.b hu.1 (ja _ ω) ?_⟩;have ao:e=((e.toNat:Nat):Int):=ω;rw[ao]
  have bl:∀b,d x.par.toNat=some b->b<n:=λb o=>by
   have D:=Q x.par.toNat ω;rw[o]at D;exact(gp.1 (jF.1 D.1).1).2.1
  refine QU I (t2.ext V) U ω bl λh6 W=>⟨_,rfl,?_⟩;have J:=I.ext W;have f6:=f2.trans (afz (S:=λi=>In B i\/In G i) (V.trans W));have step:=N5 H (i:=e.toNat) ω ω Q;rw[wrap_i64 (n:=((e.toNat:Nat):Int)-1) ω ω];have e9:((((e.toNat:Nat):Int)-1).toNat)+1=e.toNat:=ω;have v6:Var 69 h6 C.size x.tv:=Var.ext (t:=x.tv) v5 W;refine If.split (λX=>?_) λE=>?_
  ·refine⟨B,J.var.ah rfl,x.par,v6.at.2.2,J.ac6 hu.1 ω λh7 p7 f7 s7=>?_⟩;refine⟨⟨ω,ω,_,?_,by rw[e9];exact step,f6.trans (f7.mono λi l=>.inl l)⟩,by dsimp only;omega⟩;rw[show(gy n λk=>if k=x.par.toNat then((e.toNat:Nat):Int)else pX (d k))=gy n λk=>pX (if k=dV L e.toNat then lJ s (lM L) (d k) e.toNat else d k)from fD λk _=>?_]at p7
   ·exact p7
   ·rw[T];by_cases a:k=x.par.toNat
    ·rw[if_pos a,if_pos a,a];unfold lJ;cases o:d x.par.toNat with
     |none=>rfl
     |some y=>
      rw[o]at X;simp only[Xm]at X;simp only[X,if_true];rfl
    ·rw[if_neg a,if_neg a]
  ·refine⟨⟨ω,ω,_,?_,by rw[e9];exact step,f6⟩,by dsimp only;omega⟩;rw[show(gy n λk=>pX (d k))=gy n λk=>pX (if k=dV L e.toNat then lJ s (lM L) (d k) e.toNat else d k)from fD λk _=>?_]at J
   ·exact J
   ·rw[T];by_cases a:k=x.par.toNat
    ·rw[if_pos a,a];unfold lJ;cases o:d x.par.toNat with
     |none=>rw[o]at E;cases E
     |some y=>
      rw[o]at E;simp only[Xm]at E;simp[E]
    ·rw[if_neg a]
 have eb:(gy n λk=>pX (d k))=gy n λk=>pX (nP n (dV L) s (lM L) k):=fD λk a=>by rw[QB H ω Q a]
 rw[eb]at q;refine⟨B,q.var.ah rfl,?_⟩;dsimp only;rw[<-Y,l2,wrap_i64 (n:=(n:Int)-1) ω ω]
 refine⟨λσ c=>-1<=σ/\σ<n/\∃g:Nat->Int,WP c w tb O S B G os (gy n s) (gy n λk=>pX (nP n (dV L) s (lM L) k)) (gy n g)/\(∀k:Nat,k<n->if σ<(k:Int)then g k=C2 n (dV L) s (lM L) k else g k=k)/\ag (λi=>In B i\/In G i) h c,
  λσ _=>(σ+1).toNat,⟨ω,ω,_,q,λk a=>by rw[if_neg ω],f2⟩,?_⟩
 rintro ρ C ⟨c0,c1,g,j,K,f3⟩;refine ID (λP=>?_) λad=>?_
 ·refine⟨B,j.var.ah rfl,gz j.b P (ja _ ω) ?_⟩;have ar:ρ.toNat<n:=ω;have M:=Uc up H (s:=s) ar;rw[wrap_i64 (n:=ρ-1) ω ω];cases o:nP n (dV L) s (lM L) ρ.toNat with
  |none=>
   rw[o]at M;refine ID (λc=>absurd c δ) λ_=>?_;refine⟨⟨ω,ω,g,j,λk a=>?_,f3⟩,by dsimp only;omega⟩;have:=K k a;by_cases m:ρ<(k:Int)
   ·rw[if_pos m]at this;rw[if_pos ω];exact this
   ·rw[if_neg m]at this;by_cases F:k=ρ.toNat
    ·rw[if_pos ω,this,F,M]
    ·rw[if_neg ω];exact this
  |some b=>
   rw[o]at M;have ab:=tY up H o;refine ID (λ_=>?_) λc=>absurd (by simp only[pX];omega) c;have tk:(pX (some b)).toNat=b:=rfl;refine⟨G,j.var.ah rfl,G,j.var.ah rfl,gz j.f (by simp only[pX];omega) (v:=g b) (by rw[tk];exact ja g ab.2.1) (j.ac7 P ω λh4 p4 f4 s4=>?_)⟩;refine⟨⟨ω,ω,_,p4,λk a=>?_,f3.trans (f4.mono λi l=>.inr l)⟩,by dsimp only;omega⟩;have D:=K b ab.2.1;rw[if_pos ω]at D;have:=K k a;by_cases F:k=ρ.toNat
   ·rw[if_pos ω,if_pos F,F,M,D]
   ·rw[if_neg F];by_cases m:ρ<(k:Int)
    ·rw[if_pos m]at this;rw[if_pos ω];exact this
    ·rw[if_neg m]at this;rw[if_neg ω];exact this
 ·rw[show gy n g=gy n λk=>(C2 n (dV L) s (lM L) k:Int)from fD λk a=>by have:=K k a;rw[if_pos ω]at this;exact this]at j;exact hr C j f3
end
end Gate
namespace Gate
section
variable{n:Nat}{par:Nat->Nat}
def tot(n:Nat)(f:Nat->Int):Int:=((List.range n).map f).sum
theorem jy(n:Nat)(f:Nat->Int):tot (n+1) f=tot n f+f n:=by
 unfold tot;rw[List.range_succ,List.map_append,List.sum_append];simp
theorem ZM(f k:Nat):wt n par (λ_=>0) f k=0:=by
 have:∀f k,wt n par (λ_=>0) f k=0:=by
  intro f
  induction f with
  |zero=>intro k;rfl
  |succ f a=>
   intro k;unfold wt;rw[nN λx _=>a x];rfl
 exact this f k
theorem Kx(k:Nat):pS n par (λ_=>0) k=0:=ZM n k
theorem Cg(up:Up n par){own q:Nat->Int}{k:Nat}(A:k<n)(h:∀i,i<n->own i=q i):pS n par own k=pS n par q k:=Hp up n k A h
theorem Gw(up:Up n par)(own:Nat->Int){k:Nat}(q:k<n):pS n par own k=tot n λj=>own j*one (bL par k j):=by
 have:∀m,m<=n->pS n par (λj=>if j<m then own j else 0) k=tot m λj=>own j*one (bL par k j):=by
  intro m
  induction m with
  |zero=>intro _;simp only[Nat.not_lt_zero,if_false,Kx];rfl
  |succ m c=>
   intro d;rw[jy,<-c ω,<-NZ up _ ω q (own m)];refine Cg up q λi a=>?_;by_cases h:i=m
   ·subst h;simp
   ·by_cases b:i<m
    ·rw[if_pos ω,if_neg h,if_pos b]
    ·rw[if_neg ω,if_neg h,if_neg b]
 have h:=this n (afa _);rw[<-h];exact Cg up q λi a=>by rw[if_pos a]
theorem Mj{f g:Nat->Int}(n:Nat)(h:∀i,i<n->f i<=g i):tot n f<=tot n g:=by
 induction n with
 |zero=>exact afj _
 |succ n a=>
  rw[jy,jy];have:=a λi b=>h i ω;have:=h n ω;omega
theorem Gx{f:Nat->Int}(n:Nat)(h:∀i,i<n->0<=f i):0<=tot n f:=by
 have:=Mj (f:=λ_=>0) (g:=f) n h;have e:tot n (λ_=>0)=0:=nN λ_ _=>rfl;omega
theorem ZN(n:Nat)(f g:Nat->Int):tot n (λi=>f i+g i)=tot n f+tot n g:=sk _ _ _
theorem ZO(up:Up n par){own:Nat->Int}(q:∀i,i<n->0<=own i){k:Nat}(A:k<n):0<=pS n par own k/\pS n par own k<=tot n own:=by
 rw[Gw up own A]
 have e:∀i,i<n->0<=own i*one (bL par k i)/\own i*one (bL par k i)<=own i:=λi a=>by
  have:=q i a;unfold one;split<;>omega
 exact⟨Gx n λi a=>(e i a).1,Mj n λi a=>(e i a).2⟩
theorem Uo(up:Up n par){m k:Nat}(q:m<k):∀i,i<n->bL par m i=true->bL par k i=true->bL par m (par k)=true:=by
 intro i
 induction i using Nat.strongRecOn with
 |ind i d=>
  intro c b a;have f:=za up i c a;rw[gq up c]at b a;simp only[Bool.or_eq_true,decide_eq_true_eq,Bool.and_eq_true]at b a;rcases b with b|⟨e,b⟩
  ·omega
  ·rcases a with a|⟨_,a⟩
   ·rw[<-a];exact b
   ·have:=up i e c;exact d (par i) this ω b a
theorem abt(up:Up n par){k i:Nat}(A:i<n)(B:0<k)(q:bL par k i=true):bL par (par k) i=true:=by
 have:∀i,i<n->bL par k i=true->bL par (par k) i=true:=by
  intro i
  induction i using Nat.strongRecOn with
  |ind i b=>
   intro A q;rw[gq up A]at q;simp only[Bool.or_eq_true,decide_eq_true_eq,Bool.and_eq_true]at q;rcases q with q|⟨a,q⟩
   ·subst q;rw[gq up A,qH];simp[B]
   ·have c:=up i a A;rw[gq up A,b (par i) c ω q];simp[a]
 exact this i A q
theorem Ch{f:Nat->Int}:∀(n:Nat),(∀i,i<n->0<=f i)->∀i,i<n->f i<=tot n f
 |0,_,i,a=>ω
 |n+1,h,i,a=>by
  rw[jy];have d:=Gx n λj b=>h j ω;have e:=h n ω;by_cases c:i=n
  ·subst c;omega
  ·have:=Ch n (λj b=>h j ω) i ω;omega
def bump(own:Nat->Int)(i:Nat)(d:Int):Nat->Int:=λk=>if k=i then own k+d else own k
end
end Gate
end Go.Proofs.YtennbinbffdimaaGreat

/- Texts that the proof needs, joined. -/
import Derived.Test.YtennbinbffdimaaGreatPk1
set_option maxRecDepth 100000
open Go.Vc.TV renaming val->RG
open Go.IntKind renaming bits->RY,u32->Sy
open BitVec renaming ofInt->R6,toNat->Sr
open Int renaming toNat->R7,fdiv->T'
open Go.Vc.ak renaming vals->R8,cells->Su
open Array renaming push->Ss,size->UH
open Go.Vc.Sl renaming nil->Sv,mk->TW
open Go.Vc.Bs renaming zero->Sw
open ByteArray renaming mk->SB
open Go.Value renaming string->TX,pointer->Uc
open List renaming toArray->T4,length->UM
open Option renaming map->Uy
namespace Go.Proofs.YtennbinbffdimaaGreat
open Go Go.Vc
section
abbrev Rt:=Rq
abbrev Cl(f:FuncId)(a:List TV)(h:af)(R:Rt):Prop:=bC Tryz.prog f (R8 a) h R
abbrev ClS(f:FuncId)(a:List TV)(h:af)(R:Rt):Prop:=jc Tryz.prog f (R8 a) h R
section
variable{f:FuncId}{fn:Func}{a:List TV}{h:af}{R:Rt}{P:Prop}
theorem vi(q:Tryz.prog.funcs[f]? =some fn)(H:P)(e:P=Qm ctx fn a h R:=by kernel_rfl):Cl f a h R:=via bP q e H
theorem viL(q:Tryz.prog.funcs[f]? =some fn)(H:P)(e:P=Qm vS fn a h R:=by kernel_rfl):Cl f a h R:=via abH q e H
theorem viS(q:Tryz.prog.funcs[f]? =some fn)(H:P)(e:P=Qm ae1 fn a h R:=by kernel_rfl):ClS f a h R:=via abI q e H
end
abbrev cL(h:af)(z:TV)(e:TypeId)(K:af->Prop):Prop:=Vc.Bind (iW h z e) K
abbrev iF(q:Int)(A:Int)(B:Bs 32)(E:Int)(G:Int)(H:Sl)(I:Bs 16):TV:=.agg [.i q,.i A,.bytes 32 B,.i E,.int .u64 G,.slice H,.bytes 16 I]
abbrev rd2(h:af)(b o:Nat)(K:(OL)->Prop):Prop:=∃(a:OL),ah h b o (Uc (Uy Loc.addr a))/\K a
abbrev fe(p:OL)(k:Nat)(h:af)(K:(OL)->Prop):Prop:=Nn p λl=>rd2 h l.b (l.o+k) K
abbrev CZ(h:af)(b o:Nat)(K:(Bs 32)->Prop):Prop:=∃(a:Bs 32),av h b o 32 a/\K a
abbrev nW(h:af)(b o:Nat)(K:Int->Prop):Prop:=∃(a:Int),ah h b o (.i a)/\K a
abbrev jK(f:FuncId)(a:List TV)(h:af)(K:Int->af->Prop):Prop:=bC Tryz.prog f (R8 a) h λv c=>∃(b:Int),v=RG (.i b)/\K b c
abbrev nX(h:af)(z:TV)(e:TypeId)(n:Nat)(t:TV)(K:af->Prop):Prop:=Vc.Bind (iW h z e) λa=>gT a (UH h) 0 n/\Vc.Bind (TV.put a (UH h) 0 t) K
abbrev uO(f:FuncId)(a:List TV)(h:af)(K:Sl->af->Prop):Prop:=bC Tryz.prog f (R8 a) h λv c=>∃(b:Sl),v=RG (.slice b)/\K b c
abbrev rd9(h:af)(b o:Nat)(K:(Bs 32)->Int->Int->(Bs 32)->Int->Int->Sl->(Bs 16)->Prop):Prop:=∃(a:Bs 32)(c:Int)(d:Int)(e:Bs 32)(f:Int)(g:Int)(j:Sl)(k:Bs 16),(av h b o 32 a/\ah h b (o+32) (.i c)/\ah h b (o+32+1) (.i d)/\av h b (o+32+1+1) 32 e/\ah h b (o+32+1+1+32) (.i f)/\ah h b (o+32+1+1+32+1) (.int .u64 g)/\ah h b (o+32+1+1+32+1+1) (bu j)/\av h b (o+32+1+1+32+1+1+1) 16 k)/\K a c d e f g j k
abbrev agv(i:Int)(s:Sl)(z k:Nat)(h:af)(K:(Bs 32)->Int->Int->(Bs 32)->Int->Int->Sl->(Bs 16)->Prop):Prop:=0<=i/\i<(s.len:Int)/\Nn s.a λl=>rd9 h l.b (l.o+R7 i*z+k) K
abbrev agw:TV:=.agg [.bytes 32 (Sw 32),.agg [.i 0,.i 0,.bytes 32 (Sw 32),.i 0,.int .u64 0,.slice Sv,.bytes 16 (Sw 16)]]
abbrev ae3(q:Bs 32)(A:Int)(B:Int)(E:Bs 32)(G:Int)(H:Int)(I:Sl)(J:Bs 16):TV:=.agg [.bytes 32 q,.agg [.i A,.i B,.bytes 32 E,.i G,.int .u64 H,.slice I,.bytes 16 J]]
abbrev gi(h:af)(t:TV)(e:TypeId)(z:Nat)(s:Sl)(K:Sl->af->Prop):Prop:=∃(new:List Value),cn (Ss h (row (Su [t]) e)) (TW (some (Go.Vc.Loc.mk (UH h) 0)) 1 1) z new/\(∀(v:Value),v∈new->bU v=true)/\au ctx e s 1 new (Ss h (row (Su [t]) e)) K
abbrev eO(p:OL)(k:Nat)(h:af)(K:Int->Prop):Prop:=Nn p λl=>nW h l.b (l.o+k) K
abbrev bS(h:af)(b o n:Nat)(t:TV)(K:af->Prop):Prop:=gT h b o n/\Vc.Bind (TV.put h b o t) K
abbrev mL(p:OL)(k:Nat)(h:af)(n:Nat)(t:TV)(K:af->Prop):Prop:=Nn p λl=>bS h l.b (l.o+k) n t K
abbrev agx:TV:=.agg [.slice Sv,.i 0,.i 0,.i 0,.i 0,.i 0,.i 0,.i 0,.i 0,.i 0,.i 0,.i 0]
abbrev bD(q:Sl)(A:Int)(B:Int)(E:Int)(G:Int)(H:Int)(I:Int)(J:Int)(M:Int)(O:Int)(U:Int)(W:Int):TV:=.agg [.slice q,.i A,.i B,.i E,.i G,.i H,.i I,.i J,.i M,.i O,.i U,.i W]
abbrev gy(h:af)(b o:Nat)(K:Sl->Int->Int->Int->Int->Int->Int->Int->Int->Int->Int->Int->Prop):Prop:=∃(a:Sl)(c:Int)(d:Int)(e:Int)(f:Int)(g:Int)(j:Int)(k:Int)(l:Int)(m:Int)(n:Int)(p:Int),(ah h b o (bu a)/\ah h b (o+1) (.i c)/\ah h b (o+2) (.i d)/\ah h b (o+3) (.i e)/\ah h b (o+4) (.i f)/\ah h b (o+5) (.i g)/\ah h b (o+6) (.i j)/\ah h b (o+7) (.i k)/\ah h b (o+8) (.i l)/\ah h b (o+9) (.i m)/\ah h b (o+10) (.i n)/\ah h b (o+11) (.i p))/\K a c d e f g j k l m n p
abbrev Oj(f:FuncId)(a:List TV)(h:af)(K:(OL)->Int->af->Prop):Prop:=bC Tryz.prog f (R8 a) h λv d=>∃(b:OL),∃(c:Int),v=RG (.bg [.ptr b,.i c])/\K b c d
abbrev ae4(h:af)(b o:Nat)(K:Int->Int->(Bs 32)->Int->Int->Sl->(Bs 16)->Prop):Prop:=∃(a:Int)(c:Int)(d:Bs 32)(e:Int)(f:Int)(g:Sl)(j:Bs 16),(ah h b o (.i a)/\ah h b (o+1) (.i c)/\av h b (o+1+1) 32 d/\ah h b (o+1+1+32) (.i e)/\ah h b (o+1+1+32+1) (.int .u64 f)/\ah h b (o+1+1+32+1+1) (bu g)/\av h b (o+1+1+32+1+1+1) 16 j)/\K a c d e f g j
abbrev ad0(p:OL)(k:Nat)(h:af)(K:Int->Int->(Bs 32)->Int->Int->Sl->(Bs 16)->Prop):Prop:=Nn p λl=>ae4 h l.b (l.o+k) K
abbrev gM(f:FuncId)(a:List TV)(h:af)(K:(LU)->af->Prop):Prop:=bC Tryz.prog f (R8 a) h λv c=>∃(b:LU),v=RG (.str b)/\K b c
abbrev fh(f:FuncId)(a:List TV)(h:af)(K:(Bs 32)->af->Prop):Prop:=bC Tryz.prog f (R8 a) h λv c=>∃(b:Bs 32),v=RG (.bytes 32 b)/\K b c
abbrev Gg(f:FuncId)(a:List TV)(h:af)(K:Int->Int->(Bs 32)->Int->Int->Sl->(Bs 16)->Bool->af->Prop):Prop:=bC Tryz.prog f (R8 a) h λv m=>∃(b:Int),∃(c:Int),∃(d:Bs 32),∃(e:Int),∃(g:Int),∃(j:Sl),∃(k:Bs 16),∃(l:Bool),v=RG (.bg [.agg [.i b,.i c,.bytes 32 d,.i e,.int .u64 g,.slice j,.bytes 16 k],.bool l])/\K b c d e g j k l m
abbrev ad1(q:Int)(A:Int)(B:Bs 32):TV:=.agg [.i q,.i A,.bytes 32 B,.i 0,.int .u64 0,.slice Sv,.bytes 16 (Sw 16)]
abbrev DR:TV:=.agg [.i 0,.i 0,.bytes 32 (Sw 32),.i 0,.int .u64 0,.slice Sv,.bytes 16 (Sw 16)]
abbrev bR(f:FuncId)(a:List TV)(h:af)(K:Bool->af->Prop):Prop:=bC Tryz.prog f (R8 a) h λv c=>∃(b:Bool),v=RG (.bool b)/\K b c
abbrev tJ(f:FuncId)(a:List TV)(h:af)(K:(OL)->af->Prop):Prop:=bC Tryz.prog f (R8 a) h λv c=>∃(b:OL),v=RG (.ptr b)/\K b c
abbrev mm(f:FuncId)(a:List TV)(h:af)(K:af->Prop):Prop:=bC Tryz.prog f (R8 a) h λv b=>v=RG (.bg [])/\K b
abbrev agy(f:FuncId)(a:List TV)(h:af)(K:Sl->Int->af->Prop):Prop:=bC Tryz.prog f (R8 a) h λv d=>∃(b:Sl),∃(c:Int),v=RG (.bg [.slice b,.i c])/\K b c d
abbrev jq(i:Int)(s:Sl)(z k:Nat)(h:af)(K:Int->Prop):Prop:=0<=i/\i<(s.len:Int)/\Nn s.a λl=>nW h l.b (l.o+R7 i*z+k) K
abbrev S_(h:af)(b o:Nat)(K:Sl->Prop):Prop:=∃(a:Sl),ah h b o (bu a)/\K a
abbrev fV(p:OL)(k:Nat)(h:af)(K:Sl->Prop):Prop:=Nn p λl=>S_ h l.b (l.o+k) K
abbrev zX(i:Int)(N:Nat)(p:OL)(z k:Nat)(h:af)(n:Nat)(t:TV)(K:af->Prop):Prop:=0<=i/\i<(N:Int)/\Nn p λl=>bS h l.b (l.o+R7 i*z+k) n t K
abbrev Qx(f:FuncId)(a:List TV)(h:af)(K:(Bs 32)->Int->Int->Bool->af->Prop):Prop:=bC Tryz.prog f (R8 a) h λv g=>∃(b:Bs 32),∃(c:Int),∃(d:Int),∃(e:Bool),v=RG (.bg [.agg [.bytes 32 b,.i c,.i d],.bool e])/\K b c d e g
abbrev Wl:TV:=.agg [.bytes 32 (Sw 32),.i 0,.i 0]
abbrev ES(q:Bs 32)(A:Int)(B:Int):TV:=.agg [.bytes 32 q,.i A,.i B]
abbrev abL(h:af)(b o:Nat)(K:Bool->Prop):Prop:=∃(a:Bool),ah h b o (Value.bool a)/\K a
abbrev DT(i:Int)(s:Sl)(z k:Nat)(h:af)(K:Bool->Prop):Prop:=0<=i/\i<(s.len:Int)/\Nn s.a λl=>abL h l.b (l.o+R7 i*z+k) K
abbrev Wm(h:af)(b o:Nat)(K:Int->Prop):Prop:=∃(a:Int),ah h b o (.int .u8 a)/\K a
abbrev Ta(h:af)(b o:Nat)(K:Int->Prop):Prop:=∃(a:Int),ah h b o (.int .u64 a)/\K a
abbrev abM(f:FuncId)(a:List TV)(h:af)(K:Int->(Bs 32)->af->Prop):Prop:=bC Tryz.prog f (R8 a) h λv d=>∃(b:Int),∃(c:Bs 32),v=RG (.bg [.i b,.bytes 32 c])/\K b c d
abbrev yg(h:af)(b o:Nat)(K:Int->Int->(Bs 32)->Int->Int->Sl->(Bs 16)->Prop):Prop:=∃(a:Int)(c:Int)(d:Bs 32)(e:Int)(f:Int)(g:Sl)(j:Bs 16),(ah h b o (.i a)/\ah h b (o+1) (.i c)/\av h b (o+2) 32 d/\ah h b (o+34) (.i e)/\ah h b (o+35) (.int .u64 f)/\ah h b (o+36) (bu g)/\av h b (o+37) 16 j)/\K a c d e f g j
abbrev Ol(q:Bs 32)(A:Int):TV:=.agg [.bytes 32 q,.i A]
abbrev ae5(h:af)(b o:Nat)(K:(Bs 32)->Int->Prop):Prop:=∃(a:Bs 32)(c:Int),(av h b o 32 a/\ah h b (o+32) (.i c))/\K a c
abbrev ae6:TV:=.agg [.bytes 32 (Sw 32),.i 0]
abbrev ae7(h:af)(b o:Nat)(K:Int->(LU)->Prop):Prop:=∃(a:Int)(c:LU),(ah h b o (.i a)/\ah h b (o+1) (TX (SB (T4 c))))/\K a c
abbrev Wn(i:Int)(s:Sl)(z k:Nat)(h:af)(K:Int->(LU)->Prop):Prop:=0<=i/\i<(s.len:Int)/\Nn s.a λl=>ae7 h l.b (l.o+R7 i*z+k) K
abbrev Wo:TV:=.agg [.i 0,.str []]
abbrev Om(q:Int)(A:LU):TV:=.agg [.i q,.str A]
abbrev DU(h:af)(b o:Nat)(K:(LU)->Prop):Prop:=∃(a:LU),ah h b o (TX (SB (T4 a)))/\K a
abbrev ae8(f:FuncId)(a:List TV)(h:af)(K:Int->Bool->af->Prop):Prop:=bC Tryz.prog f (R8 a) h λv d=>∃(b:Int),∃(c:Bool),v=RG (.bg [.i b,.bool c])/\K b c d
abbrev abN(f:FuncId)(a:List TV)(h:af)(K:Int->Int->(Bs 32)->Bool->af->Prop):Prop:=bC Tryz.prog f (R8 a) h λv g=>∃(b:Int),∃(c:Int),∃(d:Bs 32),∃(e:Bool),v=RG (.bg [.agg [.i b,.i c,.bytes 32 d],.bool e])/\K b c d e g
abbrev LJ:TV:=.agg [.i 0,.i 0,.bytes 32 (Sw 32)]
abbrev mM(q:Int)(A:Int)(B:Bs 32):TV:=.agg [.i q,.i A,.bytes 32 B]
abbrev abO(q:Int):TV:=.agg [.i 0,.i q]
abbrev C0(i:Int)(s:Sl)(z k:Nat)(h:af)(K:(Bs 32)->Prop):Prop:=0<=i/\i<(s.len:Int)/\Nn s.a λl=>CZ h l.b (l.o+R7 i*z+k) K
abbrev abP(h:af)(b o:Nat)(K:Int->(Bs 32)->Int->(Bs 32)->(LU)->Prop):Prop:=∃(a:Int)(c:Bs 32)(d:Int)(e:Bs 32)(f:LU),(ah h b o (.i a)/\av h b (o+1) 32 c/\ah h b (o+1+32) (.i d)/\av h b (o+1+32+1) 32 e/\ah h b (o+1+32+1+32) (TX (SB (T4 f))))/\K a c d e f
abbrev zY(i:Int)(s:Sl)(z k:Nat)(h:af)(K:Int->(Bs 32)->Int->(Bs 32)->(LU)->Prop):Prop:=0<=i/\i<(s.len:Int)/\Nn s.a λl=>abP h l.b (l.o+R7 i*z+k) K
abbrev tK:TV:=.agg [.i 0,.bytes 32 (Sw 32),.i 0,.bytes 32 (Sw 32),.str []]
abbrev cg(q:Int)(A:Bs 32)(B:Int)(E:Bs 32)(G:LU):TV:=.agg [.i q,.bytes 32 A,.i B,.bytes 32 E,.str G]
abbrev ae9(h:af)(b o:Nat)(K:Int->Int->(Bs 32)->Prop):Prop:=∃(a:Int)(c:Int)(d:Bs 32),(ah h b o (.i a)/\ah h b (o+1) (.i c)/\av h b (o+1+1) 32 d)/\K a c d
abbrev Y4(i:Int)(s:Sl)(z k:Nat)(h:af)(K:Int->Int->(Bs 32)->Prop):Prop:=0<=i/\i<(s.len:Int)/\Nn s.a λl=>ae9 h l.b (l.o+R7 i*z+k) K
abbrev LK(h:af)(b o:Nat)(K:Int->Int->(Bs 32)->Prop):Prop:=∃(a:Int)(c:Int)(d:Bs 32),(ah h b o (.i a)/\ah h b (o+1) (.i c)/\av h b (o+2) 32 d)/\K a c d
abbrev agz(h:af)(b o:Nat)(K:Sl->Int->Int->Int->Int->Int->Int->Int->Int->Int->Int->Int->Prop):Prop:=∃(a:Sl)(c:Int)(d:Int)(e:Int)(f:Int)(g:Int)(j:Int)(k:Int)(l:Int)(m:Int)(n:Int)(p:Int),(ah h b o (bu a)/\ah h b (o+1) (.i c)/\ah h b (o+1+1) (.i d)/\ah h b (o+1+1+1) (.i e)/\ah h b (o+1+1+1+1) (.i f)/\ah h b (o+1+1+1+1+1) (.i g)/\ah h b (o+1+1+1+1+1+1) (.i j)/\ah h b (o+1+1+1+1+1+1+1) (.i k)/\ah h b (o+1+1+1+1+1+1+1+1) (.i l)/\ah h b (o+1+1+1+1+1+1+1+1+1) (.i m)/\ah h b (o+1+1+1+1+1+1+1+1+1+1) (.i n)/\ah h b (o+1+1+1+1+1+1+1+1+1+1+1) (.i p))/\K a c d e f g j k l m n p
abbrev Wp(p:OL)(k:Nat)(h:af)(K:Sl->Int->Int->Int->Int->Int->Int->Int->Int->Int->Int->Int->Prop):Prop:=Nn p λl=>agz h l.b (l.o+k) K
abbrev LL(f:FuncId)(a:List TV)(h:af)(K:Sl->Bool->af->Prop):Prop:=bC Tryz.prog f (R8 a) h λv d=>∃(b:Sl),∃(c:Bool),v=RG (.bg [.slice b,.bool c])/\K b c d
abbrev afa(i:Int)(N:Nat)(h:af)(b o z:Nat)(K:Int->Prop):Prop:=0<=i/\i<(N:Int)/\nW h b (o+R7 i*z) K
abbrev Wq(p:OL)(k:Nat)(h:af)(K:Bool->Prop):Prop:=Nn p λl=>abL h l.b (l.o+k) K
abbrev agA(q:Int):TV:=.agg [.slice Sv,.slice Sv,.slice Sv,.i q]
abbrev afb(q:OL)(A:Sl)(B:Int):TV:=.agg [.ptr q,.slice A,.i B]
abbrev H6(f:FuncId)(a:List TV)(h:af)(K:(OL)->Bool->af->Prop):Prop:=bC Tryz.prog f (R8 a) h λv d=>∃(b:OL),∃(c:Bool),v=RG (.bg [.ptr b,.bool c])/\K b c d
abbrev afc(q:Sl)(A:Int)(B:Int)(E:Int)(G:Int)(H:Int)(I:Int)(J:Int)(M:Int)(O:Int)(U:Int)(W:Int)(Z:OL)(ab:OL)(ac:OL)(ad:OL)(IJ:OL):TV:=.agg [.agg [.slice q,.i A,.i B,.i E,.i G,.i H,.i I,.i J,.i M,.i O,.i U,.i W],.ptr Z,.ptr ab,.ptr ac,.ptr ad,.ptr IJ,.i 0,.bool false,.bool false]
abbrev agB(q:Sl)(A:Int)(B:Int)(E:Int)(G:Int)(H:Int)(I:Int)(J:Int)(M:Int)(O:Int)(U:Int)(W:Int)(Z:OL)(ab:OL):TV:=.agg [.agg [.slice q,.i A,.i B,.i E,.i G,.i H,.i I,.i J,.i M,.i O,.i U,.i W],.ptr Z,.ptr ab]
abbrev afd(i:Int)(s:Sl)(z k:Nat)(h:af)(K:Int->Int->(Bs 32)->Int->Int->Sl->(Bs 16)->Prop):Prop:=0<=i/\i<(s.len:Int)/\Nn s.a λl=>ae4 h l.b (l.o+R7 i*z+k) K
abbrev uP(h:af)(b o:Nat)(K:Int->(Bs 32)->Int->(Bs 32)->(LU)->Prop):Prop:=∃(a:Int)(c:Bs 32)(d:Int)(e:Bs 32)(f:LU),(ah h b o (.i a)/\av h b (o+1) 32 c/\ah h b (o+33) (.i d)/\av h b (o+34) 32 e/\ah h b (o+66) (TX (SB (T4 f))))/\K a c d e f
abbrev agC(q:Sl)(A:Sl)(B:Sl)(E:Int):TV:=.agg [.slice q,.slice A,.slice B,.i E]
abbrev ad2(f:FuncId)(a:List TV)(h:af)(K:(Bs 32)->Int->af->Prop):Prop:=bC Tryz.prog f (R8 a) h λv d=>∃(b:Bs 32),∃(c:Int),v=RG (.bg [.bytes 32 b,.i c])/\K b c d
abbrev agE(h:af)(b o:Nat)(K:(Option Nat)->Prop):Prop:=∃(a:Option Nat),ah h b o (Value.map a)/\K a
abbrev wg(p:OL)(k:Nat)(h:af)(K:(Option Nat)->Prop):Prop:=Nn p λl=>agE h l.b (l.o+k) K
abbrev Qy(q:Int)(A:Int):TV:=.agg [.i q,.i A]
abbrev afe:TV:=.agg [.i 0,.i 0]
abbrev ad3(h:af)(b o:Nat)(K:Int->Int->Prop):Prop:=∃(a:Int)(c:Int),(ah h b o (.i a)/\ah h b (o+1) (.i c))/\K a c
abbrev agF(f:FuncId)(a:List TV)(h:af)(K:Int->Int->(Bs 32)->Int->Int->Sl->(Bs 16)->Int->af->Prop):Prop:=bC Tryz.prog f (R8 a) h λv m=>∃(b:Int),∃(c:Int),∃(d:Bs 32),∃(e:Int),∃(g:Int),∃(j:Sl),∃(k:Bs 16),∃(l:Int),v=RG (.bg [.agg [.i b,.i c,.bytes 32 d,.i e,.int .u64 g,.slice j,.bytes 16 k],.i l])/\K b c d e g j k l m
abbrev JI(o:Vc.One)(h:af)(m:String)(a:List TV)(K:Rq):Prop:=∃(t:Nat),∃(x:Value),∃(f:Nat),∃(b:Value),o.v=Value.iface t x/\gq Tryz.prog h t x m f b/\bC Tryz.prog f (b::R8 a) h K
abbrev agG(q:Sl)(A:Int)(B:Int)(E:Int)(G:Int)(H:Int)(I:Int)(J:Int)(M:Int)(O:Int)(U:Int)(W:Int)(Z:OL)(ab:OL)(ac:OL):TV:=.agg [.agg [.slice q,.i A,.i B,.i E,.i G,.i H,.i I,.i J,.i M,.i O,.i U,.i W],.ptr Z,.ptr ab,.ptr ac]
abbrev agH(h:af)(b o:Nat)(K:(OL)->(OL)->(OL)->(OL)->Prop):Prop:=∃(a:OL)(c:OL)(d:OL)(e:OL),(ah h b o (Uc (Uy Loc.addr a))/\ah h b (o+1) (Uc (Uy Loc.addr c))/\ah h b (o+1+1) (Uc (Uy Loc.addr d))/\ah h b (o+1+1+1) (Uc (Uy Loc.addr e)))/\K a c d e
abbrev agI(p:OL)(k:Nat)(h:af)(K:(OL)->(OL)->(OL)->(OL)->Prop):Prop:=Nn p λl=>agH h l.b (l.o+k) K
abbrev agJ(q:Sl)(A:Int)(B:Int)(E:Int)(G:Int)(H:Int)(I:Int)(J:Int)(M:Int)(O:Int)(U:Int)(W:Int)(Z:OL)(ab:OL)(ac:OL)(ad:OL)(IJ:OL):TV:=.agg [.agg [.slice q,.i A,.i B,.i E,.i G,.i H,.i I,.i J,.i M,.i O,.i U,.i W],.ptr Z,.agg [.ptr ab,.ptr ac,.ptr ad,.ptr IJ],.i 0]
abbrev Y5:TV:=.agg [.ptr none,.ptr none,.ptr none,.ptr none]
abbrev aff(q:OL)(A:OL)(B:OL)(E:OL):TV:=.agg [.ptr q,.ptr A,.ptr B,.ptr E]
abbrev agK(f:FuncId)(a:List TV)(h:af)(K:(OL)->(OL)->Int->af->Prop):Prop:=bC Tryz.prog f (R8 a) h λv e=>∃(b:OL),∃(c:OL),∃(d:Int),v=RG (.bg [.ptr b,.ptr c,.i d])/\K b c d e
abbrev rC(q:Sl)(A:Int)(B:Int)(E:Int)(G:Int)(H:Int)(I:Int)(J:Int)(M:Int)(O:Int)(U:Int)(W:Int)(Z:Sl):TV:=.agg [.agg [.slice q,.i A,.i B,.i E,.i G,.i H,.i I,.i J,.i M,.i O,.i U,.i W],.slice Z]
abbrev LM(h:af)(b o:Nat)(K:Sl->Int->Int->Int->Int->Int->Int->Int->Int->Int->Int->Int->Sl->Prop):Prop:=∃(a:Sl)(c:Int)(d:Int)(e:Int)(f:Int)(g:Int)(j:Int)(k:Int)(l:Int)(m:Int)(n:Int)(p:Int)(q:Sl),((ah h b o (bu a)/\ah h b (o+1) (.i c)/\ah h b (o+2) (.i d)/\ah h b (o+3) (.i e)/\ah h b (o+4) (.i f)/\ah h b (o+5) (.i g)/\ah h b (o+6) (.i j)/\ah h b (o+7) (.i k)/\ah h b (o+8) (.i l)/\ah h b (o+9) (.i m)/\ah h b (o+10) (.i n)/\ah h b (o+11) (.i p))/\ah h b (o+12) (bu q))/\K a c d e f g j k l m n p q
abbrev Y6(f:FuncId)(a:List TV)(h:af)(K:Sl->Sl->af->Prop):Prop:=bC Tryz.prog f (R8 a) h λv d=>∃(b:Sl),∃(c:Sl),v=RG (.bg [.slice b,.slice c])/\K b c d
abbrev agL(h:af)(b o:Nat)(K:Int->Int->(LU)->Int->Int->(Bs 32)->Int->Int->Sl->(Bs 16)->Int->Bool->Prop):Prop:=∃(a:Int)(c:Int)(d:LU)(e:Int)(f:Int)(g:Bs 32)(j:Int)(k:Int)(l:Sl)(m:Bs 16)(n:Int)(p:Bool),(ah h b o (.i a)/\ah h b (o+1) (.i c)/\ah h b (o+1+1) (TX (SB (T4 d)))/\(ah h b (o+1+1+1) (.i e)/\ah h b (o+1+1+1+1) (.i f)/\av h b (o+1+1+1+1+1) 32 g/\ah h b (o+1+1+1+1+1+32) (.i j)/\ah h b (o+1+1+1+1+1+32+1) (.int .u64 k)/\ah h b (o+1+1+1+1+1+32+1+1) (bu l)/\av h b (o+1+1+1+1+1+32+1+1+1) 16 m)/\ah h b (o+1+1+1+53) (.i n)/\ah h b (o+1+1+1+53+1) (Value.bool p))/\K a c d e f g j k l m n p
abbrev Tc(i:Int)(s:Sl)(z k:Nat)(h:af)(K:Int->Int->(LU)->Int->Int->(Bs 32)->Int->Int->Sl->(Bs 16)->Int->Bool->Prop):Prop:=0<=i/\i<(s.len:Int)/\Nn s.a λl=>agL h l.b (l.o+R7 i*z+k) K
abbrev JJ:TV:=.agg [.i 0,.i 0,.str [],.agg [.i 0,.i 0,.bytes 32 (Sw 32),.i 0,.int .u64 0,.slice Sv,.bytes 16 (Sw 16)],.i 0,.bool false]
abbrev ur(q:Int)(A:Int)(B:LU)(E:Int)(G:Int)(H:Bs 32)(I:Int)(J:Int)(M:Sl)(O:Bs 16)(U:Int)(W:Bool):TV:=.agg [.i q,.i A,.str B,.agg [.i E,.i G,.bytes 32 H,.i I,.int .u64 J,.slice M,.bytes 16 O],.i U,.bool W]
abbrev Qz(h:af)(b o:Nat)(K:Int->Int->(LU)->Int->Int->(Bs 32)->Int->Int->Sl->(Bs 16)->Int->Bool->Prop):Prop:=∃(a:Int)(c:Int)(d:LU)(e:Int)(f:Int)(g:Bs 32)(j:Int)(k:Int)(l:Sl)(m:Bs 16)(n:Int)(p:Bool),(ah h b o (.i a)/\ah h b (o+1) (.i c)/\ah h b (o+2) (TX (SB (T4 d)))/\(ah h b (o+3) (.i e)/\ah h b (o+4) (.i f)/\av h b (o+5) 32 g/\ah h b (o+37) (.i j)/\ah h b (o+38) (.int .u64 k)/\ah h b (o+39) (bu l)/\av h b (o+40) 16 m)/\ah h b (o+56) (.i n)/\ah h b (o+57) (Value.bool p))/\K a c d e f g j k l m n p
abbrev sB(i:Int)(s:Sl)(z k:Nat)(h:af)(K:(LU)->Prop):Prop:=0<=i/\i<(s.len:Int)/\Nn s.a λl=>DU h l.b (l.o+R7 i*z+k) K
abbrev zI(i:Int)(N:Nat)(h:af)(b o z:Nat)(K:Int->Prop):Prop:=0<=i/\i<(N:Int)/\Wm h b (o+R7 i*z) K
abbrev afg(q:OL):TV:=.agg [.ptr q,.slice Sv,.slice Sv,.slice Sv,.slice Sv]
abbrev afh(i:Int)(s:Sl)(z k:Nat)(h:af)(K:(Bs 32)->Int->Prop):Prop:=0<=i/\i<(s.len:Int)/\Nn s.a λl=>ae5 h l.b (l.o+R7 i*z+k) K
abbrev afi(q:Option Nat)(A:Int)(B:Int)(E:Int):TV:=.agg [.map q,.i A,.i B,.i E,.i 0]
abbrev afj(f:FuncId)(a:List TV)(h:af)(K:Vc.One->af->Prop):Prop:=bC Tryz.prog f (R8 a) h λv c=>∃(b:Vc.One),v=RG (.one b)/\K b c
abbrev afk(q:Int)(A:Int)(B:Int):TV:=.agg [.slice Sv,.slice Sv,.i q,.i A,.i B,.i 0]
abbrev Hp(p:OL)(k:Nat)(h:af)(K:(Bs 32)->Prop):Prop:=Nn p λl=>CZ h l.b (l.o+k) K
abbrev ado(q:Int)(A:Int):TV:=.agg [.slice Sv,.i q,.i A]
abbrev zJ(h:af)(b o:Nat)(K:Int->Prop):Prop:=∃(a:Int),ah h b o (.int .u32 a)/\K a
abbrev Y7(i:Int)(N:Nat)(h:af)(b o z:Nat)(K:Int->Prop):Prop:=0<=i/\i<(N:Int)/\zJ h b (o+R7 i*z) K
abbrev q6(i:Int)(N:Nat)(h:af)(b o z n:Nat)(t:TV)(K:af->Prop):Prop:=0<=i/\i<(N:Int)/\bS h b (o+R7 i*z) n t K
abbrev wm(f:FuncId)(a:List TV)(h:af)(K:Int->af->Prop):Prop:=bC Tryz.prog f (R8 a) h λv c=>∃(b:Int),v=RG (.int .u32 b)/\K b c
abbrev Y8(f:FuncId)(a:List TV)(h:af)(K:Int->Int->af->Prop):Prop:=bC Tryz.prog f (R8 a) h λv d=>∃(b:Int),∃(c:Int),v=RG (.bg [.int .u64 b,.int .u64 c])/\K b c d
abbrev Y9(i:Int)(s:Sl)(z k:Nat)(h:af)(K:Int->Prop):Prop:=0<=i/\i<(s.len:Int)/\Nn s.a λl=>Ta h l.b (l.o+R7 i*z+k) K
abbrev adp(f:FuncId)(a:List TV)(h:af)(K:(Ws 8)->af->Prop):Prop:=bC Tryz.prog f (R8 a) h λv c=>∃(b:Ws 8),v=RG (.words Sy 8 b)/\K b c
abbrev afl(i:Int)(N:Nat)(h:af)(b o z:Nat)(K:Bool->Prop):Prop:=0<=i/\i<(N:Int)/\abL h b (o+R7 i*z) K
abbrev zK(h:af)(b o:Nat)(K:(Bs 16)->Prop):Prop:=∃(a:Bs 16),av h b o 16 a/\K a
abbrev adq(i:Int)(s:Sl)(z k:Nat)(h:af)(K:(Bs 16)->Prop):Prop:=0<=i/\i<(s.len:Int)/\Nn s.a λl=>zK h l.b (l.o+R7 i*z+k) K
abbrev adr(q:Int)(A:Int)(B:Bs 32)(E:Int):TV:=.agg [.i q,.i A,.bytes 32 B,.i E,.int .u64 0,.slice Sv,.bytes 16 (Sw 16)]
abbrev afm(f:FuncId)(a:List TV)(h:af)(K:Int->Int->(Bs 32)->Int->Int->Sl->(Bs 16)->af->Prop):Prop:=bC Tryz.prog f (R8 a) h λv l=>∃(b:Int),∃(c:Int),∃(d:Bs 32),∃(e:Int),∃(g:Int),∃(j:Sl),∃(k:Bs 16),v=RG (.agg [.i b,.i c,.bytes 32 d,.i e,.int .u64 g,.slice j,.bytes 16 k])/\K b c d e g j k l
abbrev QA(f:FuncId)(a:List TV)(h:af)(K:(Bs 16)->af->Prop):Prop:=bC Tryz.prog f (R8 a) h λv c=>∃(b:Bs 16),v=RG (.bytes 16 b)/\K b c
abbrev ads(f:FuncId)(a:List TV)(h:af)(K:(Bs 16)->Bool->af->Prop):Prop:=bC Tryz.prog f (R8 a) h λv d=>∃(b:Bs 16),∃(c:Bool),v=RG (.bg [.bytes 16 b,.bool c])/\K b c d
abbrev adt(p:OL)(k:Nat)(h:af)(K:Int->Prop):Prop:=Nn p λl=>Ta h l.b (l.o+k) K
abbrev Y_(i:Int)(N:Nat)(p:OL)(z k:Nat)(h:af)(K:Int->Prop):Prop:=0<=i/\i<(N:Int)/\Nn p λl=>zJ h l.b (l.o+R7 i*z+k) K
abbrev Za(f:FuncId)(a:List TV)(h:af)(K:(Ws 64)->af->Prop):Prop:=bC Tryz.prog f (R8 a) h λv c=>∃(b:Ws 64),v=RG (.words Sy 64 b)/\K b c
abbrev acS:TV:=.agg [.i 0,.i 0,.i 0,.i 0,.i 0,.i 0]
abbrev ahF(q:Int)(A:Int)(B:Int)(E:Int)(G:Int):TV:=.agg [.i q,.i A,.i B,.i E,.i 0,.i G]
abbrev ac3(h:af)(b o:Nat)(K:Int->Int->Int->Int->Int->Int->Prop):Prop:=∃(a:Int)(c:Int)(d:Int)(e:Int)(f:Int)(g:Int),(ah h b o (.i a)/\ah h b (o+1) (.i c)/\ah h b (o+2) (.i d)/\ah h b (o+3) (.i e)/\ah h b (o+4) (.i f)/\ah h b (o+5) (.i g))/\K a c d e f g
abbrev eN(q:Int)(A:Int)(B:Int)(E:Int)(G:Int)(H:Int):TV:=.agg [.i q,.i A,.i B,.i E,.i G,.i H]
abbrev adb(f:FuncId)(a:List TV)(h:af)(K:Int->Int->Int->Int->Int->Int->af->Prop):Prop:=bC Tryz.prog f (R8 a) h λv k=>∃(b:Int),∃(c:Int),∃(d:Int),∃(e:Int),∃(g:Int),∃(j:Int),v=RG (.agg [.i b,.i c,.i d,.i e,.i g,.i j])/\K b c d e g j k
abbrev Zb(i:Int)(s:Sl)(z k:Nat)(h:af)(K:(OL)->Prop):Prop:=0<=i/\i<(s.len:Int)/\Nn s.a λl=>rd2 h l.b (l.o+R7 i*z+k) K
abbrev afn(p:OL)(k:Nat)(h:af)(K:Int->Int->(Bs 32)->Prop):Prop:=Nn p λl=>ae9 h l.b (l.o+k) K
abbrev MD(q:Int)(A:Sl)(B:Sl)(E:Option Nat):TV:=.agg [.i q,.slice A,.slice B,.map E]
abbrev afo(q:Int):TV:=.agg [.bytes 32 (Sw 32),.i 0,.i q]
abbrev adu(h:af)(b o:Nat)(K:(Bs 32)->Int->Int->Prop):Prop:=∃(a:Bs 32)(c:Int)(d:Int),(av h b o 32 a/\ah h b (o+32) (.i c)/\ah h b (o+33) (.i d))/\K a c d
abbrev afp(h:af)(b o:Nat)(K:(Bs 32)->Int->Int->Prop):Prop:=∃(a:Bs 32)(c:Int)(d:Int),(av h b o 32 a/\ah h b (o+32) (.i c)/\ah h b (o+32+1) (.i d))/\K a c d
abbrev afq(i:Int)(s:Sl)(z k:Nat)(h:af)(K:(Bs 32)->Int->Int->Prop):Prop:=0<=i/\i<(s.len:Int)/\Nn s.a λl=>afp h l.b (l.o+R7 i*z+k) K
abbrev Zc(q:Sl)(A:Option Nat)(B:Int):TV:=.agg [.slice q,.map A,.i B]
abbrev ME(f:FuncId)(a:List TV)(h:af)(K:Int->Int->(Bs 32)->Int->(Bs 32)->(LU)->af->Prop):Prop:=bC Tryz.prog f (R8 a) h λv k=>∃(b:Int),∃(c:Int),∃(d:Bs 32),∃(e:Int),∃(g:Bs 32),∃(j:LU),v=RG (.bg [.i b,.agg [.i c,.bytes 32 d,.i e,.bytes 32 g,.str j]])/\K b c d e g j k
abbrev U0(h:af)(t:TV)(e:TypeId)(z:Nat)(s:Sl)(K:Sl->af->Prop):Prop:=∃(new:List Value),cn (Ss h (row (Su [t]) e)) (TW (some (Go.Vc.Loc.mk (UH h) 0)) 1 1) z new/\(∀(v:Value),v∈new->bU v=true)/\au vS e s 1 new (Ss h (row (Su [t]) e)) K
abbrev ET(p:OL)(k:Nat)(h:af)(K:(LU)->Prop):Prop:=Nn p λl=>DU h l.b (l.o+k) K
abbrev afr(q:LU):TV:=.agg [.str q,.bool false]
abbrev wo(f:FuncId)(a:List TV)(h:af)(K:Int->af->Prop):Prop:=bC Tryz.prog f (R8 a) h λv c=>∃(b:Int),v=RG (.int .u64 b)/\K b c
abbrev afs(q:Int)(A:Int):TV:=.agg [.i q,.i A,.bytes 32 (Sw 32),.i 0,.int .u64 0,.slice Sv,.bytes 16 (Sw 16)]
abbrev afu(q:LU):TV:=.agg [.str q,.i 0,.bool false]
section
open Go.IntKind (wrap)
abbrev wz0 a(q:af)(A:Ws 8)(B:(OL×OL×OL)->af->Prop)(E:af)(G:af):=bS a q.size 0 8 (.words Sy 8 A) λb=>B (some (Loc.mk E.size 0),some (Loc.mk G.size 0),some (Loc.mk q.size 0)) b
abbrev wz1 a(q:af)(A:Ws 64)(B:af->Prop):=bS a q.size 0 64 (.words Sy 64 A) λb=>B b
abbrev sC b c(q:af->Prop):=cL b (.words Sy 64 (Ws.zero 64)) 293 λa=>Ext c a/\q a
abbrev fD(q:af) a:=some (Loc.mk q.size a)
abbrev lq:=RG (.bool false)
abbrev wz5(A:Int)(B:Int)(E:Int)(G:Int)(q:Int)(H:Int)(I:Int)(J:Int)(M:Int):=wrap .u32 (wrap .u32 (wrap .u32 (A+wrap .u32 (↑(Sr (R6 (RY .u32) (wrap .u32 (↑(Sr (R6 (RY .u32) B^^^R6 (RY .u32) E)):Int))^^^R6 (RY .u32) G)):Int))+wrap .u32 (↑(Sr (R6 (RY .u32) (wrap .u32 (↑(Sr (R6 (RY .u32) q&&&R6 (RY .u32) H)):Int))^^^R6 (RY .u32) (wrap .u32 (↑(Sr (R6 (RY .u32) (wrap .u32 (↑(Sr (R6 (RY .u32) (if IntKind.signed Sy=true then(-1)else IntKind.max Sy)^^^R6 (RY .u32) q)):Int))&&&R6 (RY .u32) I)):Int)))):Int))+J)+M
abbrev bA a:=(.i a:TV)
abbrev aT(q:Int):=(.i q:TV)
abbrev bK(q:Sl):=(↑q.len:Int)
abbrev bJ(q:Bs 32):=(.bytes 32 q:TV)
abbrev LN b(q:af)(A:Rt):=bS b q.size 0 53 (DR) λa=>yg a q.size 0 λc d e f g h i=>A (RG (.bg [(iF c d e f g h i),.bool false])) a
abbrev jV b c(q:af->Prop):=cL b (.words Sy 8 (Ws.zero 8)) 289 λa=>Ext c a/\q a
abbrev eU:=(.bytes 32 (Sw 32):TV)
abbrev Td c a(q:af)(A:Rt)(B:af) d:=If (!c) (LN a q A) (yg a B.size 0 λe f g h i j k=>bR d [iF e f g h i j k] a λl b=>If (!l) (LN b q A) (yg b B.size 0 λm n o p r s t=>bS b q.size 0 53 (iF m n o p r s t) λIJ=>yg IJ q.size 0 λu v w x y z C=>A (RG (.bg [(iF u v w x y z C),.bool true])) IJ))
abbrev aN a(q:af) b(A:Int->Prop):=nW a q.size b λc=>A c
abbrev qC f a(q:Ws 64) b c(A:Ws 64) g(B:Ws 8)(E:(OL×OL×OL)->af->Prop):=wz1 f a q λd=>Ext b d/\wz1 d c A λe=>Ext b e/\wz0 e g B E a c
abbrev Te(q:LU)(A:LU×LU×Int) a:=row (Su [.int .u8 (wrap .u8 (↑(Sr (R6 (RY .u8) (↑(UInt8.toNat (List.getD q (R7 A.snd.snd) (0:UInt8))):Int)^^^R6 (RY .u8) a)):Int))]) 5
abbrev dX a:=RG (bA a)
abbrev ad4(q:Int×Int×Int×Int×Int×Int×Int×Int×Int)(A:Int)(B:Int)(E:Int)(G:Int)(H:Int):=wrap .u32 (wrap .u32 (wrap .u32 (q.snd.snd.snd.snd.snd.snd.snd.fst+wrap .u32 (↑(Sr (R6 (RY .u32) (wrap .u32 (↑(Sr (R6 (RY .u32) A^^^R6 (RY .u32) B)):Int))^^^R6 (RY .u32) E)):Int))+wrap .u32 (↑(Sr (R6 (RY .u32) (wrap .u32 (↑(Sr (R6 (RY .u32) q.snd.snd.snd.snd.fst&&&R6 (RY .u32) q.snd.snd.snd.snd.snd.fst)):Int))^^^R6 (RY .u32) (wrap .u32 (↑(Sr (R6 (RY .u32) (wrap .u32 (↑(Sr (R6 (RY .u32) (if IntKind.signed Sy=true then(-1)else IntKind.max Sy)^^^R6 (RY .u32) q.snd.snd.snd.snd.fst)):Int))&&&R6 (RY .u32) q.snd.snd.snd.snd.snd.snd.fst)):Int)))):Int))+G)+H
abbrev gj a b c d e:=ay (TW (fD a b) c d) 0 e 1
abbrev H_ b(q:af)(A:Rt) c:=bS b q.size 0 67 (tK) λa=>uP a q.size 0 λd e f g h=>A (RG (.bg [bA c,(cg d e f g h)])) a
abbrev gY(q:List Value)(A:Prop):=(∀(a:Value),a∈q->bU a=true)/\A
abbrev Wr(q:Int)(A:Int):=wrap .u32 (↑(Sr (R6 (RY .u32) q^^^R6 (RY .u32) A)):Int)
abbrev Tf a(A:af)(q:af)(B:Rt) c:=yg a A.size 0 λd e f g h i j=>bS a q.size 0 53 (iF d e f g h i j) λb=>yg b q.size 0 λk l m n o p r=>B (RG (.bg [(iF k l m n o p r),bA c])) b
abbrev nh b c(q:(Ws 64)->af->Prop):=Za 326 [] b λd a=>Ext c a/\q d a
abbrev bz a(q:af) b(A:(Bs 32)->Prop):=CZ a q.size b λc=>A c
abbrev kT a b:=Ss a (row (Su []) b)
abbrev Bn a b c(q:af) d(A:Int->Prop):=(0:Int)<=a/\b<(↑8:Int)/\zJ c q.size (0+R7 d*1) λe=>A e
abbrev EU b(q:af)(A:Rt):=bS b q.size 0 32 (eU) λa=>bz a q 0 λc=>A (RG (.bg [bA 5,bJ c])) a
abbrev dz(q:LU):=(↑q.length:Int)
abbrev fE:=RG (.bool true)
abbrev qD b(q:af)(A:Bs 32)(B:Rt):=bS b q.size 0 32 (bJ A) λa=>bz a q 0 λc=>B (RG (bJ c)) a
abbrev Zd a:=Ss a (row (Su [.agg [bA 5,.str (SB #[(107:UInt8)]).data.toList]]) 137)
abbrev ad5(A:Int)(B:Int)(E:Int)(q:Int)(G:Int)(H:Int)(I:Int)(J:Int):=wrap .u32 (↑(Sr (R6 (RY .u32) (Wr A B)^^^R6 (RY .u32) E)):Int)+wrap .u32 (↑(Sr (R6 (RY .u32) (wrap .u32 (↑(Sr (R6 (RY .u32) (wrap .u32 (↑(Sr (R6 (RY .u32) q&&&R6 (RY .u32) G)):Int))^^^R6 (RY .u32) (wrap .u32 (↑(Sr (R6 (RY .u32) q&&&R6 (RY .u32) H)):Int)))):Int))^^^R6 (RY .u32) (wrap .u32 (↑(Sr (R6 (RY .u32) I&&&R6 (RY .u32) J)):Int)))):Int)
abbrev uQ:=RG (.bg [.slice Sv,.bool false])
abbrev Ze(q:Int):=(↑(Sr (R6 (RY .u64) q&&&R6 (RY .u64) 4294967295)):Int)
abbrev jW a c d e(q:OL)(A:(Bs 32)->Int->af->Prop):=bz a c d λb=>jK e [.ptr q,bJ b] a λf g=>A b f g
abbrev LO(q:Int) a b c(A:af) d(B:Int->Prop):=0<=wrap .i64 (q-a)/\wrap .i64 (q-b)<(↑64:Int)/\zJ c A.size (0+R7 (wrap .i64 (q-d))*1) λe=>B e
abbrev LP(q:Nat)(A:Nat)(B:Array Nat)(E:TV×TV×Nat)(G:Nat):=Obj.mapIter (some q) A (Ss B E.snd.snd) G
abbrev eW(q:Sl×Int):=wrap .i64 (q.snd+1)
abbrev Ia(q:Int):=row (cq (.bool false) q.toNat) 4
abbrev QB:=row (Su [.i (-1)]) 3
abbrev Ib(q:Int):=row (cq (.ptr none) q.toNat) 198
abbrev Gh e a(q:Ws 64) b(A:Ws 64) f(B:Ws 8)(E:(OL×OL×OL)->af->Prop):=wz1 e a q λc=>Ext a c/\wz1 c b A λd=>Ext a d/\wz0 d f B E a b
abbrev Gi e b(q:Ws 64) a(A:Ws 64) f(B:Ws 8)(E:(OL×OL×OL)->af->Prop):=wz1 e b q λc=>Ext a c/\wz1 c a A λd=>Ext a d/\wz0 d f B E b a
abbrev Gj f b(q:Ws 64) a c(A:Ws 64)(B:Ws 8)(E:(OL×OL×OL)->af->Prop):=wz1 f b q λd=>Ext a d/\wz1 d c A λe=>Ext a e/\wz0 e a B E b c
abbrev d_ a b c:=TW (fD a 0) b c
abbrev dD:=TW none 0 0
abbrev Gk a:=(2:Int)^min (R7 a) (RY .u64)
abbrev Wt(q:Int)(A:Int)(B:Int) a:=(↑(Sr (R6 (RY .u32) (Wr q A)^^^R6 (RY .u32) (T' B ((2:Int)^min (R7 a) (RY .u32))))):Int)
abbrev Wu a(q:Go.Vc.Loc)(A:LU) b c d e f g h i j(B:af->Prop):=gT a q.b q.o (Nat.min A.length (gj b c d e f).len)/\Vc.Bind (tI a q.b q.o (List.map (λ(k:UInt8)=>.int .u8 (↑(UInt8.toNat k):Int)) (List.take (Nat.min A.length (gj b g h i j).len) A))) λl=>B l
abbrev fW a:=(.ptr (fD a 0):TV)
abbrev gI(q:Int×Int):=wrap .i64 (q.snd+1)
abbrev dJ(q:Rt)(A:Int) a:=q (RG (aT A)) a
abbrev cE(q:Int) a:=wrap .i64 (q+a)
abbrev cr a(q:Bs 32)(A:af->Prop):=cL a (bJ q) 52 λb=>A b
abbrev fP:=RG (.bg [])
abbrev JK a b(q:OL×OL×OL)(A:Go.Vc.Loc->Prop):=(0:Int)<=a/\b<(↑8:Int)/\Nn q.snd.snd λc=>A c
abbrev Tg a:=Ss (Ss a (row (Su [bA 0]) 3)) (row (Su [bA 0]) 3)
abbrev QC(q:LU)(A:Int):=wrap .i64 (wrap .i64 (8*wrap .i64 ((dz q)-1))+A)-1
abbrev Wv a b(q:Rt):=aN a b 34 λc=>q (RG (.bg [.slice (d_ a 1 1),.bool true])) (Ss a (row (Su [aT c]) 3))
abbrev EV(q:(List (TV×TV×Nat))->Nat->Prop):=∃(a:List (TV×TV×Nat)),∃(b:Nat),q a b
abbrev C1(q:OL)(A:Rt) a b:=If (Option.isNone q) (A (RG (.ptr none)) a) (fe q b a λc=>A (RG (.ptr c)) a)
abbrev tL(q:Rt) a:=q (RG (.ptr none)) a
abbrev Th(q:Int)(A:Int):=(.int .u8 (wrap .u8 (↑(Sr (R6 (RY .u8) q^^^R6 (RY .u8) A)):Int)):TV)
abbrev Zf(q:Int):=(↑(Sr (R6 (RY .u64) (wrap .u64 q)&&&R6 (RY .u64) 31)):Int)
abbrev EW(q:Bs 32)(A:Int):=row (Su [ES q A (-1)]) 69
abbrev nj:=RG (.i (-1))
abbrev nY a b c d(q:Int->Int->Prop):=aN a b c λe=>aN a b d λf=>q e f
abbrev jr(q:Sl×Int)(A:Sl):=decide (q.snd<(bK A))
abbrev On(q:Int):=row (Su [.int .u8 (wrap .u8 (Int.tmod q 256))]) 5
abbrev C2 a(q:Bs 32):=Ss a (row (Su [bJ q]) 52)
abbrev jX(q:OL) a b(A:Sl)(B:af->Prop):=mL q a b 1 (.slice A) λc=>B c
abbrev rD:=(.bytes 16 (Sw 16):TV)
abbrev pR(q:Rt) a:=q (RG (.slice Sv)) a
abbrev mq(q:Bool×Int) a:=(q.fst,wrap .i64 (q.snd+a))
abbrev abR(q:af)(A:Rt):=λ(a:OL×OL×Int×Bs 32×Int×Bs 32×LU×Int×OL×Int) b=>Hp a.snd.snd.snd.snd.snd.snd.snd.snd.fst 1 b λd=>bS b q.size 0 32 (bJ d) λc=>bz c q 0 λe=>A (RG (.bg [.i a.snd.snd.snd.snd.snd.snd.snd.snd.snd,bJ e])) c
abbrev tM(q:Int):=(.int .u64 (wrap .u64 q):TV)
abbrev mu(q:Sl×Int):=(↑q.fst.len:Int)
abbrev LQ a(q:LU)(A:LU):=Ss a (row (Su [.str q,.str A]) 9)
abbrev C3(q:Sl) b c(A:(Ws 64)->af->Prop):=Za 325 [.slice q] b λd a=>Ext c a/\A d a
abbrev eY a(q:af)(A:Int->Int->(Bs 32)->Int->Int->Sl->(Bs 16)->Prop):=yg a q.size 0 λb c d e f g h=>A b c d e f g h
abbrev cu(q:OL)(A:Int):=([.ptr q,aT A]:List TV)
abbrev dx a(q:af) b(A:Int->Prop):=nW a q.size b λc=>A c
abbrev Zg a(A:af)(q:af)(B:Rt):=uP a A.size 0 λc d e f g=>bS a q.size 0 67 (cg c d e f g) λb=>uP b q.size 0 λh i j k l=>B (RG (.bg [bA 2,(cg h i j k l)])) b
abbrev abS(q:af)(A:Rt):=λ(a:OL×Int×Bs 32×Int×Bs 32×LU×Int×OL×Int) b=>Hp a.snd.snd.snd.snd.snd.snd.snd.fst 1 b λd=>bS b q.size 0 32 (bJ d) λc=>bz c q 0 λe=>A (RG (.bg [.i a.snd.snd.snd.snd.snd.snd.snd.snd,bJ e])) c
abbrev iA(q:(List Value)->Prop):=∃(a:List Value),q a
abbrev Ww(q:Vc.One)(A:Nat->(Array Value)->(Array Value)->Prop):=∃(a:Nat),∃(b c:Array Value),q.v=Value.func (Fn.func a) b c/\NZ Tryz.prog a/\A a b c
abbrev mw(q:OL) c a d(A:(OL)->Sl->Prop):=fe q c a λb=>fV b d a λe=>A b e
abbrev EX c(q:Int) d a(A:Int->af->Prop):=wm c [.int .u32 q,bA d] a λe b=>Ext a b/\A e b
abbrev uR a(q:OL) b(A:(OL)->af->Prop):=tJ a [.ptr q] b λc d=>A c d
abbrev Zh(q:Go.Vc.Loc):=(.one (Vc.One.mk (Value.iface 299 (RG (.ptr (some (Loc.mk q.b q.o))))) (DE._proof_1 299 (.ptr (some (Loc.mk q.b q.o))))):TV)
abbrev abT e(q:Sl) f(A:Int)(B:Rt):=Go.Vc.Loop (0,0) e λ(a:Int×Int) b d=>If (decide (a.snd<(bK q))) (zY a.snd q 67 0 b λg h j k l=>nX b (tK) f 67 (cg g h j k l) λc=>nW c b.size 33 λm=>If (decide (m=A)) (d (wrap .i64 (a.fst+1),gI a) c) (d (a.fst,gI a) c)) (B (RG (.i a.fst)) b)
abbrev yh(q:Sl)(A:Go.Vc.Loc->Prop):=(0:Int)<=0/\0<(bK q)/\Nn q.a λa=>A a
abbrev Ti a(q:Int)(A:Int->Prop):=dH ctx (TypeDesc.int IntKind.i64) a/\∃(b:Int),V5 (eE (aT q) a) (bA 0)=.i b/\A b
abbrev aO(q:Rt) a:=q (lq) a
abbrev QD b(q:af)(A:Bs 16)(B:Rt):=bS b q.size 0 16 (.bytes 16 A) λa=>zK a q.size 0 λc=>B (RG (.bytes 16 c)) a
abbrev U1(q:Int) b c(A:Sl) d e(B:Go.Vc.Loc->Int->Prop):=0<=wrap .i64 (wrap .i64 (4*q)+b)/\wrap .i64 (wrap .i64 (4*q)+c)<(bK A)/\Nn A.a λa=>Wm d a.b (a.o+R7 (wrap .i64 (wrap .i64 (4*q)+e))*1) λf=>B a f
abbrev Bo(q:Rt) a:=q (RG (.bg [.ptr none,.bool false])) a
abbrev iZ(q:Int×Int)(A:Sl):=decide (q.snd<(bK A))
abbrev Dj a(q:Sl)(A:Rt):=∃(b:LU),kG a q b/\A (RG (.str b)) a
abbrev JL(q:Rt) a b:=q (RG (.bg [fW a,.bool false])) b
abbrev mN a(q:Int) b:=wrap .i64 (a*q)+b
abbrev QE:=TypeDesc.struct #[Field.mk "who" 3 0 false "" "toller/table" 0,Field.mk "epoch" 3 1 false "" "toller/table" 8]
abbrev i_ a(q:Bs 32)(A:af->Prop):=nX a (eU) 52 32 (bJ q) λb=>A b
abbrev cQ a(q:af->Prop):=cL a (eU) 52 λb=>q b
abbrev EY a(q:af) b(A:Int)(B:af->Prop):=bS a q.size b 1 (.i (wrap .i64 A)) λc=>B c
abbrev Bp(q:Int) a(A:Prop):=0<=q/\q<=q/\(↑a:Int)*q<=281474976710656/\q<9223372036854775808/\A
abbrev U3 b(q:af)(A:Rt):=bS b q.size 0 34 (afo (-1)) λa=>adu a q.size 0 λc d e=>A (RG (.bg [(ES c d e),.bool false])) a
abbrev zL:=(.words Sy 64 (Ws.zero 64):TV)
abbrev gK(q:Go.Vc.Loc) a b:=q.o+R7 a*b
abbrev MF:=SB #[(98:UInt8),(111:UInt8),(97:UInt8),(114:UInt8),(100:UInt8)]
abbrev sD(q:Rt)(A:Sl×Int) a:=q (RG (.slice A.fst)) a
abbrev Dk a(q:af)(A:Nat)(B:Nat)(E:Array Nat)(G:TV×TV×Nat)(H:Nat):=Array.setIfInBounds a q.size (LP A B E G H)
abbrev iM(q:Rt) a b:=q (RG (.bool a)) b
abbrev U4(q:Ws 8)(A:Int) a:=(.int .u8 (wrap .u8 (T' (List.getD q.l A.toNat 0) ((2:Int)^min (R7 a) (RY .u32)))):TV)
abbrev jL:=bX [] 0
abbrev Bq(q:LU)(A:LU)(B:Prop):=(↑(UM q+UM A):Int)<=9223372036854775807/\B
abbrev QF b(q:af)(A:Bs 16)(B:Rt):=bS b q.size 0 16 (.bytes 16 A) λa=>zK a q.size 0 λc=>B (RG (.bg [.bytes 16 c,.bool true])) a
abbrev Hq(q:af) h i(A:OL)(B:Int)(E:Bs 32)(G:Int)(H:Bs 32)(I:LU)(J:af->Int->Int->(Bs 32)->Int->(Bs 32)->(LU)->af->af->Prop):=cL q (tK) h λa=>Ext q a/\ME i [.ptr A,(cg B E G H I)] a λj b c d e f g=>bS g q.size 0 67 (cg b c d e f) λk=>J a j b c d e f g k
abbrev Hr h(q:OL)(A:Int)(B:Bs 32)(E:Int)(G:Bs 32)(H:LU) i j(I:Int->Int->(Bs 32)->Int->(Bs 32)->(LU)->af->af->af->Prop):=ME h [.ptr q,(cg A B E G H)] i λk c d e f g a=>cL a (tK) j λb=>Ext a b/\bS b a.size 0 67 (cg c d e f g) λl=>I k c d e f g a b l
abbrev U5 b(B:af)(q:af) d(A:Rt):=gy b B.size 0 λe f g h i j k l m n o p=>eY b q λr s t u IJ v w=>ads d [(bD e f g h i j k l m n o p),(iF r s t u IJ v w)] b λx y c=>nX c (rD) 56 16 (.bytes 16 x) λa=>If y (zK a c.size 0 λz=>zK a q.size 37 λC=>A (RG (.bool (decide (z.l=C.l)))) a) (aO A a)
abbrev Dn(q:OL)(A:Int) e(B:af)(E:(Bs 32)->Int->Int->Bool->af->af->Prop):=Qx 34 (cu q A) e λa b c f d=>bS d B.size 0 34 (ES a b c) λg=>E a b c f d g
abbrev Dp(q:OL)(A:Int) e(B:(Bs 32)->Int->Int->Bool->af->af->Prop):=Qx 34 (cu q A) e λa b c f d=>nX d (Wl) 69 34 (ES a b c) λg=>B a b c f d g
abbrev Br:=(.str (SB #[]).data.toList:TV)
abbrev fk a(q:OL) b(A:Int->af->Prop):=jK a [.ptr q] b λc d=>A c d
abbrev gL(q:Int)(A:Sl):=decide (q<(bK A))
abbrev jM(q:Bool×Int)(A:Sl):=decide (q.snd<(bK A))
abbrev Zi a(q:LU)(A:LU×Int):=Ss a (row (Su [.int .u8 (wrap .u8 (T' (wrap .u64 (wrap .u64 (dz q)*8)) ((2:Int)^min (R7 (wrap .u64 (wrap .i64 (8*A.snd)))) (RY .u64))))]) 5)
abbrev JM a:=Ss (Ss a (QB)) (QB)
abbrev Dq(q:Rt) a b:=q (RG (.bg [.ptr none,bA a])) b
abbrev Hs:=RG (.bg [bA 0,.bool false])
abbrev U6 c(q:Sl)(A:af)(B:Rt):=Go.Vc.Loop (dD,0) c λ(a:Sl×Int) b d=>If (jr a q) (jq a.snd q 1 0 b λe=>dx b A 1 λf=>CZ b A.size 2 λg=>gi b (mM e f g) 124 34 a.fst λh i=>d (h,eW a) i) (sD B a b)
abbrev U7 a(A:af)(q:af) b(B:Rt):=gy a A.size 0 λc d e f g h i j k l m n=>aN a q 1 λo=>S_ a q.size 36 λp=>LL b [(bD c d e f g h i j k l m n),aT o,.slice p] a λr s IJ=>B (RG (.bg [.slice r,.bool s])) IJ
abbrev wq a(q:af->Prop):=cL a (Wl) 69 λb=>Ext a b/\q b
abbrev JN a:=RG (.bg [.slice Sv,bA a])
abbrev aD(q:Rt) a b:=q (dX a) b
abbrev sE b(q:Bool->Prop):=∃(a:Bool),b=RG (.bool a)/\q a
abbrev QG:=SB #[(116:UInt8),(111:UInt8),(108:UInt8),(108:UInt8),(101:UInt8),(114:UInt8)]
abbrev wu(q:Sl×Sl×Int):=wrap .i64 (q.snd.snd+1)
abbrev jY a(q:Int)(A:Int)(B:Bs 32)(E:Int)(G:Int)(H:Sl)(I:Bs 16)(J:af->Prop):=nX a (DR) 58 53 (iF q A B E G H I) λb=>J b
abbrev Dr(q:Int):=row (Su [aT q]) 3
abbrev Zj(A:OL) b(q:Sl)(B:Sl->af->Prop):=fV A 0 b λa=>0<=(bK q)/\(bK q)<=(↑a.cap:Int)/\0<=(bK q)/\(bK q)<=(bK q)/\mL A 0 b 1 (.slice (ay (@TW a.a a.len (R7 (bK q)) a.HX) 0 (R7 (bK q)) 67)) λc=>B a c
abbrev Zk a(A:af) b(q:Rt):=gy a A.size 0 λd e f g h i j k l m n o=>nY a b 1 34 λp r=>jK 235 [(bD d e f g h i j k l m n o),aT p,aT r] a λs c=>If (decide (s<0)) (q (uQ) c) (Wv c b q)
abbrev MG a:=Ss a (row (Su [bA 0]) 3)
abbrev U8 c(q:Sl)(B:Int)(A:Rt):=Go.Vc.Loop (0,0) c λ(a:Int×Int) b d=>If (iZ a q) (jq a.snd q 1 0 b λe=>If (decide (e=B)) (A (RG (.i a.snd)) b) (d (a.fst,gI a) b)) (A (nj) b)
abbrev js a(q:OL)(A:Bs 32) b(B:Int->af->Prop):=jK a [.ptr q,bJ A] b λc d=>B c d
abbrev Ds b a(q:Int) c(A:Bool->af->Prop):=Ext b a/\bR 139 [aT q,bA c] a λd e=>A d e
abbrev JO a(q:LU):=Ss a (row (Su [.str q]) 9)
abbrev QH(q:LU) a:=(↑(UM q+UM (SB #[(a:UInt8)]).data.toList):Int)
abbrev Bt(q:Int)(A:Bs 32)(B:Int)(E:Bs 32)(G:LU) a:=row (Su [cg q A B E G]) a
abbrev dK a(q:Int)(A:Int)(B:Bs 32)(E:Int)(G:Int)(H:Sl)(I:Bs 16)(J:af->Prop):=cL a (iF q A B E G H I) 58 λb=>J b
abbrev zM a b(q:Rt):=bz a b 0 λc=>q (RG (bJ c)) a
abbrev jt(q:Int) a:=wrap .i64 (q-a)
abbrev JP(q:Sl)(A:Int):=(bK q)+wrap .i64 (Int.tdiv A 8)
abbrev gZ(q:(LU)->Prop):=∃(a:LU),q a
abbrev wv(q:OL) c a d(A:Int->af->Prop):=eO q c a λb=>mL q d a 1 (.i (cE b 1)) λe=>A b e
abbrev U9(q:Int) a:=wrap .u32 (wrap .u32 q*(2:Int)^min (R7 a) (RY .u32))
abbrev fH a(q:af) b(A:Sl->Prop):=S_ a q.size b λc=>A c
abbrev zN a:=Ss a (jL)
abbrev JQ(q:Go.Vc.Loc) a b c:=ay (TW (some q) a b) 0 (R7 c) 1
abbrev QI(q:Go.Vc.Loc):=ay (TW (some q) 8 8) (R7 1) 8 1
abbrev aJ(q:OL) a b(A:Sl->Prop):=fV q a b λc=>A c
abbrev U_(q:List (TV×TV×Nat))(A:Nat)(E:Nat)(B:Array Nat)(G:Rt) d(H:(TV×TV×Nat)->Prop):=(∀(b:TV×TV×Nat),b∈q->b.snd.snd<A)/\A<=E/\((∀(c:TV×TV×Nat),c∈q->Array.contains B c.snd.snd=true)->G (fP) d)/\∀(a:TV×TV×Nat),a∈q->Array.contains B a.snd.snd=false->H a
abbrev Zl(q:Int)(A:Int):=wrap .u64 (wrap .u64 (T' q (Gk 32)*wrap .u64 (Ze A))+T' (wrap .u64 (wrap .u64 (Ze q)*wrap .u64 (Ze A))) (Gk 32))
abbrev Zm(q:Int)(A:Int):=(.int .u8 (wrap .u8 (T' (wrap .u64 (q*8)) ((2:Int)^min (R7 (wrap .i64 (56-wrap .i64 (8*A)))) (RY .u64)))):TV)
abbrev wz c a(q:(Ws 64)->af->af->Prop):=nh c a λd b=>sC b a λe=>q d b e
abbrev wC c a(q:af->(Ws 64)->af->Prop):=sC c a λb=>nh b a λd e=>q b d e
abbrev Zn(A:Value) a d(B:Vc.One)(q:Rt):=∃(b:Int),A=RG (aT b)/\If (decide (0<b)) (bz a d 0 λe=>JI B a "Has" [bJ e] λf g=>∃(c:Bool),f=RG (.bool c)/\iM q c g) (aO q a)
abbrev aF a:=(a:Int)
abbrev jZ(q:OL)(A:Int)(B:LU):=([.ptr q,aT A,.str B]:List TV)
abbrev wD a b:=(.fn (Fn.func a) [] [fW b]:TV)
abbrev jN a b c:=(.slice (d_ a b c):TV)
abbrev Zo(q:OL) a(A:af)(B:(Bool)->af->Prop):=wo 227 [.ptr q,bA 2] a λb c=>wo 227 [.ptr q,bA 8] c λd e=>EY e A 34 b λf=>bS f A.size 35 1 (.int .u64 d) λg=>B false g
abbrev eG a(q:af) b(A:(Bs 32)->Prop):=CZ a q.size b λc=>A c
abbrev aeU a(q:af)(A:Rt):=ac3 a q.size 0 λb c d e f g=>A (RG (eN b c d e f g)) a
abbrev j3(q:OL) b a c d(A:(OL)->(Bs 32)->Prop):=fe q b a λe=>bz a c d λf=>A e f
abbrev U'(A:Int) c(B:Int)(q:Rt) a d b:=If (decide (1<=A)) (If (decide (A<=c)) (If (decide (1<=B)) (q (RG (.bg [fW a,.bool (decide (B<=d))])) b) (JL q a b)) (JL q a b)) (JL q a b)
abbrev QJ(q:OL)(A:Rt) a b c:=If (Option.isNone q) (aD A 0 a) (fe q b a λd=>fk c d a λe f=>dJ A e f)
abbrev q7(q:OL) c a(A:Int) d(B:Sl->Int->Prop):=aJ q c a λb=>jq A b d 0 a λe=>B b e
abbrev dQ a(q:Prop):=(aF 0)<=a/\q
abbrev nE c(q:OL) a(A:(OL)->af->Prop):=uR c q a λd b=>Ext a b/\A d b
abbrev zO(q:Sl):=wrap .i64 ((bK q)-1)
abbrev wE(q:OL) c a(A:Int)(B:Sl->Int->Prop):=fV q c a λb=>jq A b 1 0 a λd=>B b d
abbrev nG(q:Sl):=(.i (bK q):TV)
abbrev zP(q:Int)(A:Int):=(.i (wrap .i64 (q+A)):TV)
abbrev Zp(q:Int×Int):=wrap .u64 (q.fst+wrap .u64 ((aF 1)*(aF 2)^min (R7 (wrap .u64 q.snd)) (RY .u64)))
abbrev Va a(q:Sl):=Ss a (row (cq (bA 0) (R7 (bK q))) 3)
abbrev MH a(q:Bs 32)(A:Int):=Ss a (row (Su [Ol q A]) 314)
abbrev Hu:=(.words Sy 8 (Ws.zero 8):TV)
abbrev MI(q:LU)(A:Int):=R7 (wrap .i64 (QC q A))
abbrev gz a(q:af) b(A:Sl->Prop):=S_ a q.size b λc=>A c
abbrev nH(q:Rt) a b:=q (RG (fW a)) b
abbrev Hv c(q:Int)(A:Int) a(B:(OL)->af->Prop):=tJ c [aT q,aT A] a λd b=>Ext a b/\B d b
abbrev Vb(q:af)(A:OL)(B:Bs 32) c(E:Rt):=cL q (.ptr A) 162 λb=>cr b B λa=>rd2 a q.size 0 λd=>bz a b 0 λe=>jK 191 [.ptr d,bJ e,wD c q] a λf g=>dJ E f g
abbrev uu(q:Option Nat)(A:Nat->(List (TV×TV×Nat))->Nat->Prop):=Nn q λ(a:Nat)=>EV λb c=>A a b c
abbrev Ve(q:Int)(A:Sl×Sl×Int):=Int.tmod (wrap .u64 q) (wrap .u64 (↑A.fst.len:Int))
abbrev EZ a(q:Int):=Ss a (Ia q)
abbrev E1 a(q:Int):=Ss a (Ib q)
abbrev kU(q:Bs 32)(A:Bs 32):=decide (q.l=A.l)
abbrev MJ(q:List (TV×TV×Nat))(A:Prop):=dH ctx (TypeDesc.int IntKind.i64) q/\A
abbrev Dt(q:Ws 8):=(.words Sy 8 q:TV)
abbrev adv b(B:Bs 32)(q:OL)(A:Rt):=cr b B λa=>If (!Option.isNone q) (j3 q 0 a b 0 λc d=>bR 99 [.ptr c,bJ d] a λe f=>iM A e f) (aO A a)
abbrev Zq b(q:af)(A:Rt):=bS b q.size 0 34 (LJ) λa=>LK a q.size 0 λc d e=>A (RG (.bg [(mM c d e),.bool false])) a
abbrev JR b c(q:OL×OL×OL) d e(A:Go.Vc.Loc->Int->Prop):=JK b c q λa=>zJ d a.b (gK a e 1) λf=>A a f
abbrev QK(q:Int)(A:Int)(B:Int) c(E:af)(G:OL)(H:OL)(I:OL)(J:(OL)->af->af->Prop):=tJ 78 [aT q,aT A,aT B] c λa b=>bS b E.size 0 4 (aff G H I a) λd=>J a b d
abbrev QL(q:Sl):=wrap .i64 (Int.tdiv (bK q) 8)+1
end
end
end Go.Proofs.YtennbinbffdimaaGreat

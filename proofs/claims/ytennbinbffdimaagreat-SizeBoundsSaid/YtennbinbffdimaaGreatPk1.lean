/- Texts that the proof needs, joined. -/
import Derived.WalkKit
import Derived.Below
import Derived.WalkLawsBesides
import Derived.MapKept
import Derived.Maps.RangeRun
import Derived.Laws.IdiomStrings
import Derived.Laws.StructEq
import Derived.Laws.BytesArg
import Derived.WideKeyRuns
import Derived.Laws.Append
import Derived.Laws.Externs
import Derived.OrdersHeld
import Derived.Test.YtennbinbffdimaaGreatProg
import Derived.KernelRfl
import Derived.Shelf.SlSortCmp.NoneTotal
import Derived.RangeFuncNested
import Derived.RangeFuncBound
import Derived.RangeFuncCalls
import Derived.RangeFuncLeaves
set_option maxRecDepth 100000
namespace Go
namespace Vc
end Vc
theorem ω{p:Prop}(h:p:=by omega):p:=h
theorem δ{p:Prop}(h:p:=by decide):p:=h
theorem κ{p:Prop}(h:p:=by kernel_rfl):p:=h
theorem Ω{p:Prop}(h:p:=by first|omega|(dsimp only;omega)):p:=h
end Go
open Go.Sem renaming run_bind->c9,run_pure->ek
open Go.Result renaming andThen_ok->di
open Go.Value renaming int->dr,iface->UN,agg->abw
open List renaming replicate->ec,mem_cons_self->eS,length_take->fo,length_append->gx,mem_cons_of_mem->i7,range->lp,getElem?_eq_some_iff->lu,append_assoc->lP,mem_cons->l8,getElem?_cons_zero->nO,eq_nil_of_length_eq_zero->n_,getElem?_append_left->oe,take_succ_cons->ox,mem_map->pn,getElem?_append_right->qb,size_toArray->qc,take->tg,all_eq_true->um,getElem?_eq_getElem->u0,mem_append->vg,length_map->v_,append_nil->wk,map_cons->w9,cons_append->xd,nil_append->xe,getElem?_toArray->xy,getElem?_set->xW,mem_singleton->G1,getElem?_map->Jx,mem_range->K_,take_zero->Ls,drop_of_length_le->Ma,replicate_succ->O2,mem_of_getElem?->abp,getElem?_cons_succ->abv
open Nat renaming le_refl->eo,beq->ey,zero_add->eL,min->ff,succ_mul->od,testBit->qm,add->qo,mul_one->rq,lor->vw,mul_le_mul_right->xg,ble->xq,le_trans->G0,le_succ->G6,min_eq_left->L1,lt_of_lt_of_le->X5,eq_of_beq_eq_true->Yd
open Bool renaming and_eq_true->eN
open Go.Region renaming ready->eP,noSelect->abb,noSelect_spec->abm
open Array renaming toList_inj->eR,range->T',getElem?_eq_some_iff->X8,getD_eq_getD_getElem?->aaP
open Go.Op renaming equalIn->fu,equal->nB,bytesLess->L2,intBits->L4
open Go.Program renaming cellsOf->hU
open Option renaming isSome_iff_exists->i6,map_some->oo
open Go.Builtin renaming zeroCells->l_,append_->qa,firstCells->vk,len_->B1,lenOf->G5,copy_->H7
open Go.Code renaming wp_mono->mg
open BitVec renaming ofInt->nu
open Go.Instr renaming checkKey->oy,sameBits->qd,sureAddr->sg,sliceBounds->tn,sliceAt->tQ,fill->tT,loadAt->A1,sliceBound->B0,findNow->B5,findAsking->E0,index->O0,slice->O1,keyThatStays->P3
open Go.MapKept renaming run_getObj_map->qf,run_setObj_map->T4
open Go.Deferred renaming ofValue->K2
open Go.IntWalk renaming i64_in->Su

namespace Go.Vc
open Go
abbrev af:=Array Obj
structure Loc where
 b:Nat
 o:Nat
def Loc.addr(l:Loc):Addr:=⟨l.b,l.o,none⟩
structure Sl where
 a:Option Loc
 len:Nat
 cap:Nat
 [HX:Inhabited (Option Addr)]
def Sl.q(s:Sl):Option Addr:=@Inhabited.default (Option Addr) s.HX
def Sl.p(s:Sl):Option Addr:=match s.a with
 |some l=>some l.addr
 |none=>s.q
theorem Sl.mC{s:Sl}{l:Loc}(h:s.a=some l):s.p=some l.addr:=by unfold Sl.p;rw[h]
theorem adQ(l:Loc)(n m:Nat):(Sl.mk (some l) n m).p=some l.addr:=rfl
theorem Sl.I5{s:Sl}(h:s.a=none):s.p=s.q:=by unfold Sl.p;rw[h]
def Sl.isNil(s:Sl):Bool:=s.p.isNone&&(s.len==0&&s.cap==0)
def Sl.nil:Sl:=⟨none,0,0⟩
structure Bs(n:Nat) where
 l:List UInt8
 h:l.length=n
theorem Bs.ext'{n:Nat}{a b:Bs n}(h:a.l=b.l):a=b:=by
 cases b;cases h;rfl
def Bs.zero(n:Nat):Bs n:=⟨ec n 0,by simp⟩
def Bs.set{n:Nat}(b:Bs n)(i:Nat)(v:UInt8):Bs n:=⟨b.l.set i v,by simp[b.h]⟩
structure Ws(n:Nat) where
 l:List Int
 h:l.length=n
theorem Ws.ext'{n:Nat}{a b:Ws n}(h:a.l=b.l):a=b:=by
 cases b;cases h;rfl
def Ws.zero(n:Nat):Ws n:=⟨ec n 0,by simp⟩
def Ws.set{n:Nat}(b:Ws n)(i:Nat)(v:Int):Ws n:=⟨b.l.set i v,by simp[b.h]⟩
def bU:Value->Bool
 |.agg _|.tuple _=>false
 |_=>true
structure One where
 v:Value
 h:bU v=true
inductive TV where
 |int (k:IntKind) (n:Int)
 |bool (b:Bool)
 |str (s:List UInt8)
 |ptr (p:Option Loc)
 |slice (s:Sl)
 |map (r:Option Nat)
 |one (v:One)
 |bytes (n:Nat) (b:Bs n)
 |words (k:IntKind) (n:Nat) (w:Ws n)
 |agg (xs:List TV)
 |bg (xs:List TV)
 |fn (f:Fn) (first captured:List TV)
 |any (v:Value)
inductive Sh where
 |int (k:IntKind)
 |bool
 |str
 |ptr
 |slice
 |map
 |one
 |bytes (n:Nat)
 |words (k:IntKind) (n:Nat)
 |agg (xs:List Sh)
 |bg (xs:List Sh)
def Bind(h:af)(K:af->Prop):Prop:=K h
def Nn{α:Type}(p:Option α)(K:α->Prop):Prop:=match p with
 |none=>False
 |some l=>K l
def bu(s:Sl):Value:=.slice s.p s.len s.cap
theorem V1{s:Sl}(h:s.isNil=true):bu s=.slice none 0 0:=by
 simp_all [Sl.isNil,bu,Option.isNone_iff_eq_none]
mutual
def TV.cells:TV->List Value
 |.int k n=>[.int k n]
 |.bool b=>[.bool b]
 |.str s=>[.string ⟨s.toArray⟩]
 |.ptr p=>[.pointer (p.map Loc.addr)]
 |.slice s=>[bu s]
 |.map r=>[.map r]
 |.one v=>[v.v]
 |.bytes _ b=>b.l.map λc=>.int .u8 (c.toNat:Int)
 |.words k _ w=>w.l.map λc=>.int k c
 |.agg d=>ak.cells d
 |.bg d=>[.tuple (ak.vals d).toArray]
 |.fn f a b=>[.func f (ak.vals a).toArray (ak.vals b).toArray]
 |.any v=>v.cells.toList
def ak.cells:List TV->List Value
 |[]=>[]
 |x::a=>TV.cells x++ak.cells a
def TV.val:TV->Value
 |.int k n=>.int k n
 |.bool b=>.bool b
 |.str s=>.string ⟨s.toArray⟩
 |.ptr p=>.pointer (p.map Loc.addr)
 |.slice s=>bu s
 |.map r=>.map r
 |.one v=>v.v
 |.bytes _ b=>.agg (b.l.map λc=>.int .u8 (c.toNat:Int)).toArray
 |.words k _ w=>.agg (w.l.map λc=>.int k c).toArray
 |.agg q=>.agg (ak.cells q).toArray
 |.bg q=>.tuple (ak.vals q).toArray
 |.fn f a b=>.func f (ak.vals a).toArray (ak.vals b).toArray
 |.any v=>v
def ak.vals:List TV->List Value
 |[]=>[]
 |x::a=>TV.val x::ak.vals a
end
mutual
def TV.size:TV->Nat
 |.bytes n _=>n
 |.words _ n _=>n
 |.agg a=>ak.size a
 |.any v=>v.cells.size
 |_=>1
def ak.size:List TV->Nat
 |[]=>0
 |x::a=>TV.size x+ak.size a
end
mutual
def Sh.size:Sh->Nat
 |.bytes n=>n
 |.words _ n=>n
 |.agg a=>Yl.size a
 |_=>1
def Yl.size:List Sh->Nat
 |[]=>0
 |x::a=>Sh.size x+Yl.size a
end
mutual
def Sh.zero:Sh->TV
 |.int k=>.int k 0
 |.bool=>.bool false
 |.str=>.str []
 |.ptr=>.ptr none
 |.slice=>.slice Sl.nil
 |.map=>.map none
 |.one=>.one ⟨.nilIface,rfl⟩
 |.bytes n=>.bytes n (Bs.zero n)
 |.words k n=>.words k n (Ws.zero n)
 |.agg q=>.agg (Yl.zero q)
 |.bg q=>.bg (Yl.zero q)
def Yl.zero:List Sh->List TV
 |[]=>[]
 |x::a=>Sh.zero x::Yl.zero a
end
mutual
def Ex:Sh->(TV->Prop)->Prop
 |.int k,K=>∃n:Int,K (.int k n)
 |.bool,K=>∃b:Bool,K (.bool b)
 |.str,K=>∃s:List UInt8,K (.str s)
 |.ptr,K=>∃p:Option Loc,K (.ptr p)
 |.slice,K=>∃s:Sl,K (.slice s)
 |.map,K=>∃r:Option Nat,K (.map r)
 |.one,K=>∃v:One,K (.one v)
 |.bytes n,K=>∃b:Bs n,K (.bytes n b)
 |.words k n,K=>∃w:Ws n,K (.words k n w)
 |.agg a,K=>Exs a λvs=>K (.agg vs)
 |.bg a,K=>Exs a λvs=>K (.bg vs)
def Exs:List Sh->(List TV->Prop)->Prop
 |[],K=>K []
 |x::a,K=>Ex x λv=>Exs a λvs=>K (v::vs)
end
mutual
def TV.has:TV->Sh->Bool
 |.int k _,.int a=>k==a
 |.bool _,.bool=>true
 |.str _,.str=>true
 |.ptr _,.ptr=>true
 |.slice _,.slice=>true
 |.map _,.map=>true
 |.one _,.one=>true
 |.bytes n _,.bytes m=>n==m
 |.words k n _,.words a m=>k==a&&n==m
 |.agg b,.agg c=>ak.has b c
 |.bg b,.bg c=>ak.has b c
 |.fn _ _ _,.one=>true
 |_,_=>false
def ak.has:List TV->List Sh->Bool
 |[],[]=>true
 |x::a,y::b=>TV.has x y&&ak.has a b
 |_,_=>false
end
mutual
theorem TV.ai:∀t:TV,t.cells.length=t.size
 |.int .. |.bool .. |.str .. |.ptr .. |.slice .. |.map .. |.one .. |.bg .. |.fn .. =>rfl
 |.any v=>by rfl
 |.bytes n b=>by simp[TV.cells,TV.size,b.h]
 |.words k n w=>by simp[TV.cells,TV.size,w.h]
 |.agg a=>by exact ak.ai a
theorem ak.ai:∀ts:List TV,(ak.cells ts).length=ak.size ts
 |[]=>rfl
 |x::q=>by simp only[ak.cells,ak.size,gx,TV.ai x,ak.ai q]
end
theorem One.cells(v:One):v.v.cells=#[v.v]:=by
 obtain⟨v,h⟩:=v;cases v
 case agg=>grind [bU]
 all_goals rfl
theorem TV.fF(t:TV):t.val.cells=t.cells.toArray:=by
 cases t
 case one v=>simp[One.cells,TV.cells,TV.val]
 all_goals simp[TV.val,TV.cells,Value.cells,bu]
mutual
theorem TV.sk:∀(t:TV)(s:Sh),t.has s=true->t.size=s.size
 |t,s,h=>by
  cases t<;>cases s<;>simp_all [TV.has,TV.size,Sh.size];exact ak.sk _ _ h
theorem ak.sk:∀(t:List TV)(s:List Sh),ak.has t s=true->ak.size t=Yl.size s
 |[],[],_=>rfl
 |x::q,y::A,h=>by
  simp only[ak.has,eN]at h;simp only[ak.size,Yl.size,TV.sk x y h.1,ak.sk q A h.2]
 |[],_::_,h=>by simp[ak.has]at h
 |_::_,[],h=>by simp[ak.has]at h
end
mutual
theorem sn:∀(s:Sh)(K:TV->Prop),Ex s K->∃t:TV,t.has s=true/\K t
 |.int k,K,⟨n,h⟩=>⟨_,by simp[TV.has],h⟩
 |.bool,K,⟨n,h⟩=>⟨_,rfl,h⟩
 |.str,K,⟨n,h⟩=>⟨_,rfl,h⟩
 |.ptr,K,⟨n,h⟩=>⟨_,rfl,h⟩
 |.slice,K,⟨n,h⟩=>⟨_,rfl,h⟩
 |.map,K,⟨n,h⟩=>⟨_,rfl,h⟩
 |.one,K,⟨n,h⟩=>⟨_,rfl,h⟩
 |.bytes k,K,⟨n,h⟩=>⟨_,by simp[TV.has],h⟩
 |.words k m,K,⟨n,h⟩=>⟨_,by simp[TV.has],h⟩
 |.agg a,K,h=>by
  obtain⟨ts,q,A⟩:=NI a _ h
  grind [TV.has]
 |.bg a,K,h=>by
  obtain⟨ts,q,A⟩:=NI a _ h
  grind [TV.has]
theorem NI:∀(s:List Sh)(K:List TV->Prop),Exs s K->∃t:List TV,ak.has t s=true/\K t
 |[],K,h=>⟨[],rfl,h⟩
 |x::a,K,h=>by
  obtain⟨t,A,q⟩:=sn x _ h;obtain⟨ts,b,c⟩:=NI a _ q
  grind [ak.has]
end
def ng(h:af)(b o:Nat):Option Value:=
 match h[b]? with
 |some (.cells c _ _)=>c[o]?
 |_=>none
def frz(h:af)(b o:Nat):Bool:=
 match h[b]? with
 |some (.cells _ _ (lo,a))=>lo<=o&&o<a
 |_=>false
def FQ(h:af)(b o:Nat)(v:Value):af:=
 h.modify b λ
  |.cells c e f=>.cells (c.setIfInBounds o v) e f
  |x=>x
def tI(h:af)(b o:Nat):List Value->af
 |[]=>h
 |v::vs=>tI (FQ h b o v) b (o+1) vs
def row(vs:List Value)(t:TypeId):Obj:=.cells vs.toArray t (0,0)
theorem cell?_eq(w:World)(b o:Nat):w.cell? ⟨b,o,none⟩=ng w.heap b o:=by
 rfl
def ah(h:af)(b o:Nat)(v:Value):Prop:=ng h b o=some v
def av(h:af)(b o n:Nat)(x:Bs n):Prop:=∀j,j<n->ng h b (o+j)=some (.int .u8 ((x.l.getD j 0).toNat:Int))
def jH(h:af)(b o:Nat)(k:IntKind)(n:Nat)(x:Ws n):Prop:=∀j,j<n->ng h b (o+j)=some (.int k (x.l.getD j 0))
mutual
def TV.at(h:af)(b o:Nat):TV->Prop
 |.int k n=>ah h b o (.int k n)
 |.bool x=>ah h b o (.bool x)
 |.str s=>ah h b o (.string ⟨s.toArray⟩)
 |.ptr p=>ah h b o (.pointer (p.map Loc.addr))
 |.slice s=>ah h b o (bu s)
 |.map r=>ah h b o (.map r)
 |.one v=>ah h b o v.v
 |.bytes n x=>av h b o n x
 |.words k n x=>jH h b o k n x
 |.agg a=>ak.at h b o a
 |.bg a=>ah h b o (.tuple (ak.vals a).toArray)
 |.fn f x y=>ah h b o (.func f (ak.vals x).toArray (ak.vals y).toArray)
 |.any v=>∀j,j<v.cells.size->ng h b (o+j)=v.cells.toList[j]?
def ak.at(h:af)(b o:Nat):List TV->Prop
 |[]=>True
 |[x]=>TV.at h b o x
 |x::y::a=>TV.at h b o x/\ak.at h b (o+TV.size x) (y::a)
end
theorem getElem?_toBytes{n:Nat}(b:Bs n)(j:Nat)(q:j<n):(b.l.map λc=>dr .u8 (c.toNat:Int))[j]? =some (.int .u8 ((b.l.getD j 0).toNat:Int)):=by
 have:j<b.l.length:=by rw[b.h];exact q
 grind
theorem getElem?_toWords{n:Nat}(k:IntKind)(b:Ws n)(j:Nat)(q:j<n):(b.l.map λc=>dr k c)[j]? =some (.int k (b.l.getD j 0)):=by
 have:j<b.l.length:=by rw[b.h];exact q
 grind
mutual
theorem TV.mD(h:af)(b:Nat):∀(t:TV)(o:Nat),t.at h b o↔∀j,j<t.size->ng h b (o+j)=t.cells[j]?
 |.int ..,o|.bool ..,o|.str ..,o|.ptr ..,o|.slice ..,o|.map ..,o|.one ..,o|.bg ..,o|.fn ..,o=>by
  simp[ah,TV.cells,TV.at,TV.size]
 |.bytes n x,o=>by
  grind [getElem?_toBytes,TV.cells,TV.at,av,TV.size]
 |.words k n x,o=>by
  grind [jH,TV.cells,getElem?_toWords,TV.at,TV.size]
 |.any v,o=>by rfl
 |.agg a,o=>by
  exact ak.mD h b a o
theorem ak.mD(h:af)(b:Nat):∀(ts:List TV)(o:Nat),ak.at h b o ts↔∀j,j<ak.size ts->ng h b (o+j)=(ak.cells ts)[j]?
 |[],o=>by simp[ak.at,ak.size]
 |[x],o=>by
  simp only[ak.size,ak.cells,wk];exact TV.mD h b x o
 |x::y::a,o=>by
  have f:=TV.mD h b x o;have c:=ak.mD h b (y::a) (o+TV.size x);have d:=TV.ai x;rw[ak.at,c];show _↔∀j,j<TV.size x+ak.size (y::a)->ng h b (o+j)=(TV.cells x++ak.cells (y::a))[j]?;constructor
  ·grind
  ·intro e;constructor
   ·grind
   ·intro j g;have:=e (TV.size x+j) ω;rw[qb ω,d]at this;rw[<-Nat.add_assoc]at this;rw[this];congr 1;omega
end
def TV.put(h:af)(b o:Nat)(t:TV):af:=tI h b o t.cells
def gT(h:af)(b o n:Nat):Prop:=∀j,j<n->(ng h b (o+j)).isSome=true/\frz h b (o+j)=false
def iW(h:af)(t:TV)(T:TypeId):af:=h.push (row t.cells T)
end Go.Vc
open Go.Vc.Loc renaming addr->abQ
open Go.Vc.Sl renaming mC->abU,mk->acg,I5->ach,nil->acn
open Go.Vc.Bs renaming zero->acz
open Go.Vc.TV renaming cells->acS,val->acV,size->acW,has->acY,ai->ac0,fF->ac1,mD->ac2,slice->ac4,bytes->ac5,agg->ac6,int->ac7,ptr->ac8
open Go.Vc.ak renaming cells->acT,vals->acU,size->acX,has->acZ
namespace Go.Vc
open Go
structure TI where
 d:Option TypeDesc
 sh:Sh
 z:TV
 size:Nat
 bytes:Nat
 DB:Bool
 eqg:Bool
 held:Bool
def One.of(v:Value):One:=if h:bU v=true then⟨v,h⟩else⟨.nilIface,rfl⟩
def ru(P:Program):Nat->TypeId->Sh
 |0,_=>.one
 |d+1,t=>match P.underlying t with
  |some .bool=>.bool
  |some (.int k)=>.int k
  |some .string=>.str
  |some (.pointer _)=>.ptr
  |some (.slice _)=>.slice
  |some (.map _ _)=>.map
  |some (.struct q)=>.agg (q.toList.map λf=>ru P d f.type)
  |some (.array n e)=>match P.underlying e with
   |some (.int .u8)=>.bytes n
   |some (.int k)=>.words k n
   |_=>.agg (ec n (ru P d e))
  |some (.tuple ts)=>.bg (ts.toList.map (ru P d))
  |_=>.one
def SD(P:Program):Nat->TypeId->TV
 |0,_=>.bool false
 |d+1,t=>match P.underlying t with
  |some .bool=>.bool false
  |some (.int k)=>.int k 0
  |some .string=>.str []
  |some (.pointer _)=>.ptr none
  |some (.slice _)=>.slice acn
  |some (.map _ _)=>.map none
  |some (.struct q)=>.agg (q.toList.map λf=>SD P d f.type)
  |some (.array n e)=>match P.underlying e with
   |some (.int .u8)=>.bytes n (acz n)
   |some (.int k)=>.words k n (Ws.zero n)
   |_=>.agg (ec n (SD P d e))
  |some (.tuple ts)=>.bg (ts.toList.map (SD P d))
  |_=>.one (One.of (((P.info? t).bind (·.zero)).getD .nilIface))
def DC:Option TypeDesc->Bool
 |some (.struct _)|some (.array _ _)=>true
 |_=>false
def kK(P:Program):List Sh->List Field->Nat->Bool
 |[],[],_=>true
 |s::a,f::b,n=>f.offset==n&&s.size==P.cellsOf f.type&&(match s with|.bytes _|.words _ _|.agg _=>true|_=>false)==DC (P.underlying f.type)&&(P.underlying f.type).isSome&&kK P a b (n+s.size)
 |_,_,_=>false
def TI.of(P:Program)(t:TypeId):TI:=
 {d:=P.underlying t,sh:=ru P 20 t,z:=SD P 20 t,size:=P.cellsOf t,bytes:=P.bytesOf t
  DB:=match P.underlying t,ru P 20 t with
   |some (.struct a),.agg b=>kK P b a.toList 0
   |_,_=>false
  eqg:=P.eqGuardType P.depth t
  held:=P.stoodInHeld t}
def ny:Option TypeDesc->Bool
 |some (.tuple _)=>true
 |_=>false
structure Ctx where
 P:Program
 gH:List TI
 Yo:List Bool
 loose:Bool:=false
 strict:Bool:=false
def Ctx.ti(C:Ctx)(t:TypeId):TI:=C.gH.getD t ⟨none,.one,.bool false,0,0,false,true,true⟩
structure Ctx.Ok(C:Ctx):Prop where
 gH:∀t,t<C.gH.length->C.ti t=TI.of C.P t
 zero:∀t,t<C.gH.length->(C.ti t).d.isSome=true->∃i,C.P.info? t=some i/\(ny (C.ti t).d=true\/i.zero=some (C.ti t).z.val)
 size:∀t,t<C.gH.length->ny (C.ti t).d=true\/(C.ti t).sh.size=(C.ti t).size/\(C.ti t).z.size=(C.ti t).size
 Yo:∀f,C.Yo.getD f false=true->∃fn,C.P.funcs[f]? =some fn/\fn.body.isSome=true/\(fn.name== "runtime.NumGoroutine")=false
 mixed:C.P.follows .mixedOrders=true
theorem Ctx.jI{C:Ctx}{t:TypeId}(h:(C.ti t).d.isSome=true):t<C.gH.length:=by
 grind [Ctx.ti]
theorem Ctx.Ok.d{C:Ctx}(q:C.Ok){t:TypeId}{d:TypeDesc}(h:(C.ti t).d=some d):C.P.underlying t=some d:=by
 have a:=Ctx.jI (C:=C) (t:=t) (by simp[h]);rw[<-h,q.gH t a];rfl
theorem Ctx.Ok.info{C:Ctx}(q:C.Ok){t:TypeId}{d:TypeDesc}(h:(C.ti t).d=some d):∃i,C.P.info? t=some i/\i.size=(C.ti t).size/\i.bytes=(C.ti t).bytes:=by
 have a:=Ctx.jI (C:=C) (t:=t) (by simp[h]);obtain⟨i,b,_⟩:=q.zero t a (by simp[h]);refine⟨i,b,?_,?_⟩
 ·rw[q.gH t a];simp[TI.of,hU,b]
 ·rw[q.gH t a];simp[TI.of,Program.bytesOf,b]
abbrev Env:=List (Option TV)
structure dZ(env:Env)(a:Act):Prop where
 defers:a.defers=[]
 size:a.tmps.size=env.length
 slot:∀(i:Nat)(tv:TV),env[i]? =some (some tv)->a.tmps[i]? =some tv.val
def TV.const:Value->Option TV
 |.int k n=>some (.int k n)
 |.bool b=>some (.bool b)
 |.string s=>some (.str s.data.toList)
 |.pointer none=>some (.ptr none)
 |.slice none 0 0=>some (.slice acn)
 |.map none=>some (.map none)
 |.nilFunc=>some (.one ⟨.nilFunc,rfl⟩)
 |.nilIface=>some (.one ⟨.nilIface,rfl⟩)
 |_=>none
def Env.ev(env:Env):Operand->Option TV
 |.tmp t=>env.getD t none
 |.const v=>TV.const v
 |.global g=>some (.ptr (some ⟨g,0⟩))
 |.func f=>some (.fn (.func f) [] [])
def Env.put(env:Env)(d:Option Tmp)(r:Option TV):Env:=
 match d with
 |some d=>env.set d r
 |none=>env
def Rel(r:Option TV)(v:Value):Prop:=∀tv,r=some tv->v=tv.val
theorem Rel.none(v:Value):Rel .none v:=λ_ h=>by cases h
theorem Rel.some{tv:TV}{v:Value}(h:v=tv.val):Rel (some tv) v:=λ_ e=>by simp_all
theorem TV.V2{v:Value}{tv:TV}(h:TV.const v=some tv):v=tv.val:=by
 unfold TV.const at h;split at h<;>simp at h<;>subst h<;>first|rfl|simp[acV]
theorem dZ.rel{env:Env}{a:Act}(h:dZ env a)(x:Operand):Rel (env.ev x) (a.eval x):=by
 intro tv b;cases x with
 |tmp t=>
  simp only[Env.ev]at b
  have c:env[t]? =some (some tv):=by
   grind
  have:=h.slot t tv c;simp[Act.eval,this]
 |const v=>exact TV.V2 b
 |global g=>simp only[Env.ev,Option.some.injEq]at b;subst b;rfl
 |func f=>simp only[Env.ev,Option.some.injEq]at b;subst b;rfl
theorem dZ.known{env:Env}{a:Act}(h:dZ env a){x:Operand}{tv:TV}(q:env.ev x=some tv):a.eval x=tv.val:=h.rel x tv q
theorem dZ.put{env:Env}{a:Act}(h:dZ env a)(d:Option Tmp){r:Option TV}{v:Value}(q:Rel r v):dZ (env.put d r) (a.put d v):=by
 cases d with
 |none=>exact h
 |some d=>
  refine⟨h.defers,by simp[Act.put,Env.put,h.size],λi tv b=>?_⟩;simp only[Env.put,xW]at b;simp only[Act.put,Array.getElem?_setIfInBounds];by_cases c:d=i
  ·subst c;simp only[if_true]at b⊢;by_cases e:d<env.length
   ·rw[if_pos e]at b;rw[if_pos (by rw[h.size];exact e)];simp only[Option.some.injEq]at b;rw[q tv b]
   simp_all
  ·rw[if_neg c]at b⊢;exact h.slot i tv b
def Yp(op:BinOp)(k:IntKind)(a b:Int)(K:Option TV->Prop):Prop:=
 match op with
 |.add=>K (some (.int k (k.wrap (a+b))))
 |.sub=>K (some (.int k (k.wrap (a-b))))
 |.mul=>K (some (.int k (k.wrap (a*b))))
 |.quo=>b≠0/\K (some (.int k (k.wrap (a.tdiv b))))
 |.rem=>b≠0/\K (some (.int k (a.tmod b)))
 |.and=>K (some (.int k (k.wrap (nu k.bits a&&&nu k.bits b).toNat)))
 |.or=>K (some (.int k (k.wrap (nu k.bits a|||nu k.bits b).toNat)))
 |.xor=>K (some (.int k (k.wrap (nu k.bits a^^^nu k.bits b).toNat)))
 |.andNot=>K (some (.int k (k.wrap (nu k.bits a&&&~~~nu k.bits b).toNat)))
 |.eql=>K (some (.bool (decide (a=b))))
 |.neq=>K (some (.bool (!decide (a=b))))
 |.lss=>K (some (.bool (decide (a<b))))
 |.leq=>K (some (.bool (decide (a<=b))))
 |.gtr=>K (some (.bool (decide (b<a))))
 |.geq=>K (some (.bool (decide (b<=a))))
 |.shl|.shr=>False
def IE(op:BinOp)(k:IntKind)(a b:Int)(K:Option TV->Prop):Prop:=
 match op with
 |.shl=>0<=b/\K (some (.int k (k.wrap (a*2^(min b.toNat k.bits)))))
 |.shr=>0<=b/\K (some (.int k (a.fdiv (2^(min b.toNat k.bits)))))
 |_=>False
def Yq(op:BinOp)(a b:List UInt8)(K:Option TV->Prop):Prop:=
 match op with
 |.add=>((a.length+b.length:Nat):Int)<=9223372036854775807/\K (some (.str (a++b)))
 |.eql=>K (some (.bool (decide (a=b))))
 |.neq=>K (some (.bool (!decide (a=b))))
 |.lss=>K (some (.bool (L2 a b)))
 |.leq=>K (some (.bool (L2 a b||decide (a=b))))
 |.gtr=>K (some (.bool (!(L2 a b||decide (a=b)))))
 |.geq=>K (some (.bool (!L2 a b)))
 |_=>False
def NJ(op:BinOp)(e:Bool)(K:Option TV->Prop):Prop:=
 match op with
 |.eql=>K (some (.bool e))
 |.neq=>K (some (.bool (!e)))
 |_=>False
mutual
def TV.eqb:TV->TV->Option Bool
 |.int k a,.int c b=>match k==c with|true=>some (decide (a=b))|false=>none
 |.bool a,.bool b=>some (a==b)
 |.str a,.str b=>some (decide (a=b))
 |.bytes n a,.bytes m b=>match n==m with|true=>some (decide (a.l=b.l))|false=>none
 |.words k n a,.words c m b=>match k==c&&n==m with|true=>some (decide (a.l=b.l))|false=>none
 |.agg d,.agg e=>ak.eqb d e
 |_,_=>none
def ak.eqb:List TV->List TV->Option Bool
 |[],[]=>some true
 |[x],[y]=>TV.eqb x y
 |x::c,y::d=>match TV.eqb x y,ak.eqb c d with
  |some a,some b=>some (a&&b)
  |_,_=>none
 |_,_=>none
end
def Yr(C:Ctx)(op:BinOp)(t:TypeId)(x y:Option TV)(K:Option TV->Prop):Prop:=
 match x,y with
 |some (.int k a),some (.int c b)=>match op with
  |.shl=>IE .shl k a b K
  |.shr=>IE .shr k a b K
  |op=>match k==c with
   |true=>Yp op k a b K
   |false=>False
 |some (.str a),some (.str b)=>Yq op a b K
 |some (.bool a),some (.bool b)=>match(C.ti t).d with
  |some .bool=>NJ op (a==b) K
  |_=>False
 |some (.ptr a),some (.ptr none)=>match(C.ti t).d with
  |some (.pointer _)=>NJ op a.isNone K
  |_=>False
 |some (.ptr none),some (.ptr b)=>match(C.ti t).d with
  |some (.pointer _)=>NJ op b.isNone K
  |_=>False
 |some (.slice s),some (.slice d)=>match d.isNil,(C.ti t).d with
  |true,some (.slice _)=>NJ op s.p.isNone K
  |_,_=>False
 |some (.map r),some (.map none)=>match(C.ti t).d with
  |some (.map _ _)=>NJ op r.isNone K
  |_=>False
 |some (.bytes n a),some (.bytes m b)=>match(C.ti t).d,(C.ti t).eqg,n==m with
  |some (.array f e),false,true=>match(C.ti e).d,f==n with
   |some (.int .u8),true=>NJ op (decide (a.l=b.l)) K
   |_,_=>False
  |_,_,_=>False
 |_,_=>False
section
variable{P:Program}
def adj(P:Program)(s:Sem Value)(h:af)(v:Value):Prop:=∀w:World,w.heap=h->s.run P w=.ok v w
def iJ(P:Program)(s:Sem Value)(v:Value):Prop:=∀w:World,s.run P w=.ok v w
theorem NK(a b:Int):(a==b)=decide (a=b):=by rfl
theorem PK{op:BinOp}{k:IntKind}{a b:Int}{K:Option TV->Prop}{t:TypeId}(q:Yp op k a b K):
 ∃r v,K r/\Rel r v/\iJ P (binOp op t (.int k a) (.int k b)) v:=by
 cases op<;>simp only[Yp]at q
 case quo=>exact⟨_,_,q.2,.some rfl,λw=>by simp[binOp,Op.intDiv,q.1,acV]⟩
 case rem=>exact⟨_,_,q.2,.some rfl,λw=>by simp[binOp,Op.intDiv,q.1,acV]⟩
 case and=>exact⟨_,_,q,.some rfl,λw=>by simp[binOp,L4,acV]⟩
 case or=>exact⟨_,_,q,.some rfl,λw=>by simp[binOp,L4,acV]⟩
 case xor=>exact⟨_,_,q,.some rfl,λw=>by simp[binOp,L4,acV]⟩
 case andNot=>exact⟨_,_,q,.some rfl,λw=>by simp[binOp,L4,acV]⟩
 case eql=>exact⟨_,_,q,.some rfl,λw=>by simp[binOp,Op.intCmp,acV,NK]⟩
 case neq=>exact⟨_,_,q,.some rfl,λw=>by simp[binOp,Op.intCmp,acV,bne,NK]⟩
 all_goals exact⟨_,_,q,.some rfl,λw=>by simp[binOp,Op.intArith,Op.intCmp,acV]⟩
theorem Df{op:BinOp}{k A:IntKind}{a b:Int}{K:Option TV->Prop}{t:TypeId}(q:IE op k a b K):
 ∃r v,K r/\Rel r v/\iJ P (binOp op t (.int k a) (.int A b)) v:=by
 cases op<;>simp only[IE]at q
 case shl=>exact⟨_,_,q.2,.some rfl,λw=>by simp[binOp,Op.shift,show¬b<0 by omega,acV]⟩
 case shr=>exact⟨_,_,q.2,.some rfl,λw=>by simp[binOp,Op.shift,show¬b<0 by omega,acV]⟩
theorem I6(a:List UInt8):(⟨a.toArray⟩:ByteArray).toList=a:=by
 simp_all
theorem PN(a b:List UInt8):(a==b)=decide (a=b):=by grind
theorem PO{op:BinOp}{a b:List UInt8}{K:Option TV->Prop}{t:TypeId}(q:Yq op a b K):
 ∃r v,K r/\Rel r v/\iJ P (binOp op t (.string ⟨a.toArray⟩) (.string ⟨b.toArray⟩)) v:=by
 cases op<;>simp only[Yq]at q
 case add=>
  refine⟨_,_,q.2,.some rfl,λw=>?_⟩;simp only[binOp];rw[run_string_add_sum w]
  ·rfl
  grind [ByteArray.size]
 all_goals exact⟨_,_,q,.some rfl,λw=>by simp[binOp,Op.stringOp,acV,PN]⟩
theorem nQ{t:TypeId}{d:TypeDesc}(q:P.underlying t=some d)(w:World):(isAgg t).run P w=.ok (DC (some d)) w:=by
 unfold isAgg;simp only[c9,run_underlying q];cases d<;>rfl
theorem Cv{e:TypeId}(A:P.underlying e=some (.int .u8))(q:Array Value)(i:Nat)(v:Value)(B:q[i]? =some v)(w:World):(part e q i).run P w=.ok v w:=by
 unfold part;simp only[c9,nQ A,B];rfl
theorem NL{e:TypeId}(q:P.underlying e=some (.int .u8))(d:Nat)(a b:Int)(w:World):(fu (d+1) e (.int .u8 a) (.int .u8 b)).run P w=.ok (decide (a=b)) w:=by
 simp only[fu,c9,run_underlying q];rfl
theorem uL{e:TypeId}(q:P.underlying e=some (.int .u8))(A:P.cellsOf e=1)(d:Nat){n:Nat}(a b:Bs n)(w:World):∀(m j:Nat),j+m=n->
 (Op.eqItems (d+1) e (P.cellsOf e) (a.l.map λc=>dr .u8 (c.toNat:Int)).toArray (b.l.map λc=>dr .u8 (c.toNat:Int)).toArray (List.range' j m)).run P w=.ok (decide (a.l.drop j=b.l.drop j)) w
 |0,j,f=>by
  have g:=a.h;have h:=b.h;rw[Ma ω,Ma ω];rfl
 |m+1,j,f=>by
  have g:=a.h;have h:=b.h;simp only[List.range'_succ,Op.eqItems,A,rq,c9];rw[Cv q _ j (.int .u8 a.l[j].toNat) (by grind)];simp only[di];rw[Cv q _ j (.int .u8 b.l[j].toNat) (by grind)];simp only[di];rw[NL q];have i:=uL q A d a b w m (j+1) ω
  have k:(a.l.drop j=b.l.drop j)↔(a.l[j]=b.l[j]/\a.l.drop (j+1)=b.l.drop (j+1)):=by
   grind [List.drop_eq_getElem_cons]
  by_cases e:a.l[j]=b.l[j]
  ·simp_all
  ·have l:¬((a.l[j].toNat:Int)=b.l[j].toNat):=by
    grind [UInt8.toNat_inj]
   simp_all
theorem G7{t e:TypeId}{n:Nat}(q:P.underlying t=some (.array n e))(A:P.underlying e=some (.int .u8)){i:TypeInfo}(B:P.info? e=some i)(E:P.cellsOf e=1)(a b:Bs n)(w:World):
 (nB t (.agg (a.l.map λc=>dr .u8 (c.toNat:Int)).toArray) (.agg (b.l.map λc=>dr .u8 (c.toNat:Int)).toArray)).run P w=.ok (decide (a.l=b.l)) w:=by
 unfold nB Op.maxDepth;rw[run_equalIn_array w 9999 _ _ q B,List.range_eq_range',uL A E 9998 a b w n 0 ω];simp
theorem lz{op:BinOp}{e:Bool}{K:Option TV->Prop}{t:TypeId}{X Y:Value}(q:NJ op e K)
 (A:binOp .eql t X Y=(do pure (.bool (<-nB t X Y))))(B:binOp .neq t X Y=(do pure (.bool (!(<-nB t X Y)))))
 (E:∀w:World,(nB t X Y).run P w=.ok e w):
 ∃r v,K r/\Rel r v/\iJ P (binOp op t X Y) v:=by
 cases op<;>simp only[NJ]at q
 case eql=>exact⟨_,.bool e,q,.some rfl,λw=>by simp_all⟩
 case neq=>exact⟨_,.bool (!e),q,.some rfl,λw=>by simp_all⟩
theorem Mf{t:TypeId}(q:P.underlying t=some .bool)(d:Nat)(a b:Bool)(w:World):(fu (d+1) t (.bool a) (.bool b)).run P w=.ok (a==b) w:=by
 simp only[fu,c9,run_underlying q];rfl
theorem V3{t e:TypeId}(q:P.underlying t=some (.pointer e))(d:Nat)(a:Option Addr)(w:World):(fu (d+1) t (.pointer a) (.pointer none)).run P w=.ok a.isNone w:=by
 simp only[fu,c9,run_underlying q];cases a<;>rfl
theorem V4{t e:TypeId}(q:P.underlying t=some (.pointer e))(d:Nat)(a:Option Addr)(w:World):(fu (d+1) t (.pointer none) (.pointer a)).run P w=.ok a.isNone w:=by
 simp only[fu,c9,run_underlying q];rfl
theorem SH{t e:TypeId}(q:P.underlying t=some (.slice e))(d:Nat)(a:Option Addr)(l c:Nat)(w:World):(fu (d+1) t (.slice a l c) (.slice none 0 0)).run P w=.ok a.isNone w:=by
 simp only[fu,c9,run_underlying q];cases a<;>rfl
theorem Ys{t k e:TypeId}(q:P.underlying t=some (.map k e))(d:Nat)(a:Option Nat)(w:World):(fu (d+1) t (.map a) (.map none)).run P w=.ok a.isNone w:=by
 simp only[fu,c9,run_underlying q];cases a<;>rfl
theorem lC{s:Sem Value}{g:Sem Unit}{v:Value}(q:g=pure ())(A:iJ P s v):iJ P (do g;s) v:=by
 simp_all
theorem PR{C:Ctx}(A:C.Ok){op:BinOp}{t:TypeId}{x y:Option TV}{K:Option TV->Prop}(q:Yr C op t x y K){X Y:Value}(B:Rel x X)(E:Rel y Y)(H I:Operand):
 ∃r v,K r/\Rel r v/\iJ C.P (do eqGuard op t H I X Y;binOp op t X Y) v:=by
 unfold Yr at q;split at q
 ·rename_i k a J b;obtain rfl:=B _ rfl;obtain rfl:=E _ rfl
  have key:∃r v,K r/\Rel r v/\iJ C.P (binOp op t (.int k a) (.int J b)) v:=by
   split at q
   ·exact Df q
   ·exact Df q
   ·split at q
    ·rename_i o;have o:=beq_iff_eq.1 o;subst o;exact PK q
    simp_all
  obtain⟨r,v,c,g,h⟩:=key;exact⟨r,v,c,g,lC (eqGuard_at_int ..) h⟩
 ·obtain rfl:=B _ rfl;obtain rfl:=E _ rfl;obtain⟨r,v,c,g,h⟩:=PO q;exact⟨r,v,c,g,lC (eqGuard_at_string ..) h⟩
 ·obtain rfl:=B _ rfl;obtain rfl:=E _ rfl;split at q
  ·rename_i j;have l:=A.d j;obtain⟨r,v,c,g,h⟩:=lz q rfl rfl (λw=>Mf l 9999 _ _ w);exact⟨r,v,c,g,lC (eqGuard_at_bool ..) h⟩
  simp_all
 ·obtain rfl:=B _ rfl;obtain rfl:=E _ rfl;split at q
  ·rename_i a _ _ j;have l:=A.d j;obtain⟨r,v,c,g,h⟩:=lz q rfl rfl (λw=>by rw[<-Option.isNone_map (f:=abQ)];exact V3 l 9999 _ w);exact⟨r,v,c,g,lC (eqGuard_at_pointer ..) h⟩
  simp_all
 ·obtain rfl:=B _ rfl;obtain rfl:=E _ rfl;split at q
  ·rename_i b _ _ _ j;have l:=A.d j;obtain⟨r,v,c,g,h⟩:=lz q rfl rfl (λw=>by rw[<-Option.isNone_map (f:=abQ)];exact V4 l 9999 _ w);exact⟨r,v,c,g,lC (eqGuard_at_pointer ..) h⟩
  simp_all
 ·obtain rfl:=B _ rfl;obtain rfl:=E _ rfl;split at q
  ·rename_i s d _ _ _ L j;have l:=A.d j;have M:(ac4 d).val=.slice none 0 0:=V1 L;rw[M];obtain⟨r,v,c,g,h⟩:=lz (P:=C.P) (t:=t) (X:=(ac4 s).val) (Y:=.slice none 0 0) q rfl rfl (λw=>SH l 9999 _ _ _ w);exact⟨r,v,c,g,lC (eqGuard_at_slice ..) h⟩
  simp_all
 ·obtain rfl:=B _ rfl;obtain rfl:=E _ rfl;split at q
  ·rename_i N _ _ _ j;have l:=A.d j;obtain⟨r,v,c,g,h⟩:=lz (P:=C.P) (t:=t) (X:=(TV.map N).val) (Y:=(TV.map none).val) q rfl rfl (λw=>Ys l 9999 _ w);exact⟨r,v,c,g,lC (eqGuard_at_map ..) h⟩
  simp_all
 ·rename_i n a m b;obtain rfl:=B _ rfl;obtain rfl:=E _ rfl;split at q
  ·rename_i F e j heq p;have p:=beq_iff_eq.1 p;subst p;split at q
   ·rename_i u z;have z:=beq_iff_eq.1 z;subst z;have l:=A.d j;have G:=A.d u;obtain⟨i,O,U,_⟩:=A.info u;have D:=Ctx.jI (C:=C) (t:=e) (by grind)
    have Q:C.P.cellsOf e=1:=by
     rcases A.size e D with c|⟨c,_⟩
     ·simp[u,ny]at c
     ·have g:(C.ti e).sh=.int .u8:=by rw[A.gH e D];simp[TI.of,ru,G]
      rw[g]at c;have h:(C.ti e).size=C.P.cellsOf e:=by rw[A.gH e D];rfl
      rw[<-h,<-c];rfl
    obtain⟨r,v,c,g,h⟩:=lz (P:=C.P) (t:=t) (X:=(ac5 _ a).val) (Y:=(ac5 _ b).val) q rfl rfl (λw=>by simp only[acV];exact G7 l G O Q a b w);refine⟨r,v,c,g,?_⟩;intro w;have R:=Ctx.jI (C:=C) (t:=t) (by grind);have S:C.P.eqGuardType C.P.depth t=false:=by rw[<-heq,A.gH t R];rfl
    have T:(eqGuard op t H I (ac5 F a).val (ac5 F b).val).run C.P w=.ok () w:=by
     unfold eqGuard;cases op<;>simp[acV,S]
    rw[c9,T];exact h w
   simp_all
  simp_all
 simp_all
end
end Go.Vc
open Go.Vc.Ctx renaming jI->ac3
namespace Go.Vc
open Go
def adR(op:UnOp)(x:Option TV)(K:Option TV->Prop):Prop:=
 match op,x with
 |.not,some (.bool b)=>K (some (.bool (!b)))
 |.neg,some (.int k n)=>K (some (.int k (k.wrap (0-n))))
 |.xor,some (.int k n)=>K (some (.int k (k.wrap (nu k.bits (if k.signed then-1 else k.max)^^^nu k.bits n).toNat)))
 |_,_=>False
def pH:List TV->List (Nat×Option TV)->Option (List TV)
 |q,[]=>some q
 |q,(i,some v)::a=>match q[i]? with
  |some z=>match v.size==z.size with
   |true=>pH (q.set i v) a
   |false=>none
  |none=>none
 |_,(_,none)::_=>none
def NM:TV->Nat->TV->Option TV
 |.words k n w,i,.int a x=>match k==a,Nat.blt i n with
  |true,true=>some (.words k n (w.set i x))
  |_,_=>none
 |_,_,_=>none
def kS:TV->List (Nat×Option TV)->Option TV
 |z,[]=>some z
 |z,(i,some v)::a=>match NM z i v with
  |some b=>kS b a
  |none=>none
 |_,(_,none)::_=>none
def NN(C:Ctx)(t:TypeId)(parts:List (Nat×Option TV))(K:Option TV->Prop):Prop:=
 match(C.ti t).d,(C.ti t).z with
 |some (.struct _),.agg a=>match(C.ti t).DB,pH a parts with
  |true,some b=>K (some (.agg b))
  |_,_=>False
 |some (.array _ e),z=>match(C.ti e).d with
  |some d=>match parts,d with
   |[],_=>K (some z)
   |p::c,.int _=>match kS z (p::c)with
    |some f=>K (some f)
    |none=>False
   |_,_=>False
  |none=>False
 |_,_=>False
def fM:Option TypeDesc->Bool
 |some (.tuple _)=>false
 |none=>false
 |_=>true
def I7(C:Ctx)(t:TypeId)(l:Loc)(h:af)(K:Option TV->Prop):Prop:=
 match fM (C.ti t).d with
 |true=>Ex (C.ti t).sh λtv=>tv.at h l.b l.o/\K (some tv)
 |false=>False
def kG(h:af)(s:Sl)(bs:List UInt8):Prop:=
 bs.length=s.len/\((s.a=none/\bs=[])\/∃l,s.a=some l/\∀j(a:j<bs.length),ng h l.b (l.o+j)=some (.int .u8 (bs[j].toNat:Int)))
def NO(C:Ctx)(s d:TypeId)(x:Option TV)(h:af)(K:Option TV->Prop):Prop:=
 match(C.ti s).d,(C.ti d).d,x with
 |some (.int _),some (.int k),some (.int _ n)=>K (some (.int k (k.wrap n)))
 |some .string,some .string,some (.str s)=>K (some (.str s))
 |some (.slice e),some .string,some (.slice s)=>match(C.ti e).d with
  |some (.int .u8)=>∃bs,kG h s bs/\K (some (.str bs))
  |_=>False
 |_,_,_=>False
def AW(C:Ctx)(t:TypeId)(x:Option TV)(f:Nat)(K:Option TV->Prop):Prop:=
 match x,(C.ti t).d with
 |some (.ptr p),some (.struct b)=>match b.toList[f]? with
  |some a=>match(C.ti a.type).d.isSome,ey (C.ti a.type).size 0 with
   |true,false=>Nn p λl=>K (some (.ptr (some ⟨l.b,l.o+a.offset⟩)))
   |_,_=>False
  |none=>False
 |_,_=>False
def NP(C:Ctx)(t:TypeId)(x:Option TV)(f:Nat)(K:Option TV->Prop):Prop:=
 match x,(C.ti t).d,(C.ti t).sh,(C.ti t).DB with
 |some (.agg a),some (.struct _),.agg b,true=>match acZ a b,a[f]? with
  |true,some v=>K (some v)
  |_,_=>False
 |_,_,_,_=>False
def AX(C:Ctx)(t:TypeId)(x i:Option TV)(K:Option TV->Prop):Prop:=
 match x,i,(C.ti t).d with
 |some (.slice s),some (.int _ n),some (.slice e)=>match(C.ti e).d.isSome with
  |true=>0<=n/\n<(s.len:Int)/\Nn s.a λl=>K (some (.ptr (some ⟨l.b,l.o+n.toNat*(C.ti e).size⟩)))
  |false=>False
 |some (.ptr p),some (.int _ n),some (.array m e)=>match(C.ti e).d.isSome with
  |true=>0<=n/\n<(m:Int)/\Nn p λl=>K (some (.ptr (some ⟨l.b,l.o+n.toNat*(C.ti e).size⟩)))
  |false=>False
 |_,_,_=>False
def NQ(C:Ctx)(t:TypeId)(x i:Option TV)(K:Option TV->Prop):Prop:=
 match x,i,(C.ti t).d with
 |some (.str s),some (.int _ n),some .string=>0<=n/\n<(s.length:Int)/\K (some (.int .u8 ((s.getD n.toNat 0).toNat:Int)))
 |some (.bytes m b),some (.int _ n),some (.array a e)=>match(C.ti e).d,m==a with
  |some (.int .u8),true=>0<=n/\n<(m:Int)/\K (some (.int .u8 ((b.l.getD n.toNat 0).toNat:Int)))
  |_,_=>False
 |some (.words k m b),some (.int _ n),some (.array a e)=>match(C.ti e).d,m==a with
  |some (.int c),true=>match k==c with
   |true=>0<=n/\n<(m:Int)/\K (some (.int k (b.l.getD n.toNat 0)))
   |false=>False
  |_,_=>False
 |_,_,_=>False
def AY(len top:Nat)(lo q:Option (Option TV))(K:Nat->Nat->Prop):Prop:=
 match lo,q with
 |none,none=>K 0 len
 |some (some (.int _ l)),none=>0<=l/\l<=(len:Int)/\K l.toNat len
 |none,some (some (.int _ u))=>0<=u/\u<=(top:Int)/\K 0 u.toNat
 |some (some (.int _ l)),some (some (.int _ u))=>0<=u/\u<=(top:Int)/\0<=l/\l<=u/\K l.toNat u.toNat
 |_,_=>False
def ay(s:Sl)(l u size:Nat):Sl:=@acg (if s.cap=l then s.a else s.a.map λp=>⟨p.b,p.o+l*size⟩) (u-l) (s.cap-l) ⟨s.q.map λx=>if s.cap=l then x else x.add (l*size)⟩
def NR(C:Ctx)(t:TypeId)(x:Option TV)(lo A:Option (Option TV))(K:Option TV->Prop):Prop:=
 match x,(C.ti t).d with
 |some (.str s),some .string=>AY s.length s.length lo A λl u=>K (some (.str ((s.drop l).take (u-l))))
 |some (.slice s),some (.slice e)=>match(C.ti e).d.isSome with
  |true=>AY s.len s.cap lo A λl u=>K (some (.slice (ay s l u (C.ti e).size)))
  |false=>False
 |some (.ptr p),some (.array n e)=>match(C.ti e).d.isSome with
  |true=>Nn p λq=>AY n n lo A λl u=>K (some (.slice (ay ⟨some q,n,n⟩ l u (C.ti e).size)))
  |false=>False
 |_,_=>False
def I8(C:Ctx)(t:TypeId)(x:Option TV)(lo q:Option (Option TV))(mx:Option TV)(K:Option TV->Prop):Prop:=
 match x,(C.ti t).d,q,mx with
 |some (.slice s),some (.slice e),some (some (.int _ u)),some (.int _ m)=>match(C.ti e).d.isSome with
  |true=>0<=m/\m<=(s.cap:Int)/\0<=u/\u<=m/\match lo with
   |none=>K (some (.slice (ay (@acg s.a s.len m.toNat s.HX) 0 u.toNat (C.ti e).size)))
   |some (some (.int _ l))=>0<=l/\l<=u/\K (some (.slice (ay (@acg s.a s.len m.toNat s.HX) l.toNat u.toNat (C.ti e).size)))
   |some _=>False
  |false=>False
 |_,_,_,_=>False
def mn(a b:Int):Int:=if b<a then b else a
def mx(a b:Int):Int:=if a<b then b else a
def allKnown:List (Option TV)->Option (List TV)
 |[]=>some []
 |some x::a=>match allKnown a with
  |some b=>some (x::b)
  |none=>none
 |none::_=>none
def sq(C:Ctx)(b:Builtin)(ts:List TypeId)(q:List (Option TV))(K:Option TV->Prop):Prop:=
 match b,ts,q with
 |.len,[t],[some (.slice s)]=>match(C.ti t).d with
  |some (.slice _)=>K (some (.int .i64 (s.len:Int)))
  |_=>False
 |.len,[t],[some (.str s)]=>match(C.ti t).d with
  |some .string=>K (some (.int .i64 (s.length:Int)))
  |_=>False
 |.len,[t],[_]=>match(C.ti t).d with
  |some (.array n _)=>K (some (.int .i64 (n:Int)))
  |_=>False
 |.cap,[t],[some (.slice s)]=>match(C.ti t).d with
  |some (.slice _)=>K (some (.int .i64 (s.cap:Int)))
  |_=>False
 |.min,_,[some (.int k a),some (.int c b)]=>match k==c with
  |true=>K (some (.int k (mn a b)))
  |false=>False
 |.max,_,[some (.int k a),some (.int c b)]=>match k==c with
  |true=>K (some (.int k (mx a b)))
  |false=>False
 |_,_,_=>False
def DE(C:Ctx)(t:TypeId)(x:Option TV)(K:Option TV->Prop):Prop:=
 match(C.ti t).d,x with
 |some (.interface _),_=>False
 |some _,some tv=>K (some (.one ⟨.iface t tv.val,rfl⟩))
 |_,_=>False
def I9(C:Ctx)(x:Option TV)(t:TypeId)(ok:Bool)(K:Option TV->Prop):Prop:=
 match(C.ti t).d,x with
 |some (.interface _),_=>False
 |some _,some (.one o)=>Ex (C.ti t).sh λtv=>o.v=.iface t tv.val/\K (some (match ok with|true=>.bg [tv,.bool true]|false=>tv))
 |_,_=>False
def bX(es:List (TV×TV×Nat))(c:Nat):Obj:=.map (es.map λe=>({key:=e.1.val,val:=e.2.1.val,born:=e.2.2}:MapEntry)).toArray c
def abx:Option TypeDesc->Bool
 |some (.int .u8)=>true
 |_=>false
def isInt(k:IntKind):Option TypeDesc->Bool
 |some (.int q)=>q==k
 |_=>false
def cz(C:Ctx):List Field->List TV->Nat->Bool
 |[],[],_=>true
 |f::a,.int k _::b,o=>!(f.name== "_")&&ey f.offset o&&isInt k (C.ti f.type).d&&cz C a b (o+1)
 |_,_,_=>false
def AZ:List TV->List TV->Bool
 |[],[]=>true
 |.int _ a::c,.int _ b::d=>decide (a=b)&&AZ c d
 |_,_=>false
def dB(C:Ctx):TypeDesc->TV->Bool
 |.int k,.int a _=>a==k
 |.string,.str _=>true
 |.array n e,.bytes m _=>m==n&&abx (C.ti e).d
 |.struct b,.agg c=>cz C b.toList c 0
 |_,_=>false
def pI(C:Ctx)(q:TypeId):TypeDesc->Bool
 |.struct _=>!(C.ti q).held
 |_=>true
def jR:TV->TV->Bool
 |.int _ a,.int _ b=>decide (a=b)
 |.str a,.str b=>decide (a=b)
 |.bytes _ a,.bytes _ b=>decide (a.l=b.l)
 |.agg c,.agg d=>AZ c d
 |_,_=>false
def eE(k:TV):List (TV×TV×Nat)->Option TV
 |[]=>none
 |e::es=>if jR k e.1=true then some e.2.1 else eE k es
def V5(o:Option TV)(z:TV):TV:=o.getD z
def Lz(k:TV)(es:List (TV×TV×Nat)):Bool:=(eE k es).isSome
def jb(k v:TV)(c:Nat):List (TV×TV×Nat)->List (TV×TV×Nat)
 |[]=>[(k,v,c)]
 |e::es=>if jR k e.1=true then(e.1,v,e.2.2)::es else e::jb k v c es
def fN(k:TV):List (TV×TV×Nat)->List (TV×TV×Nat)
 |[]=>[]
 |e::es=>if jR k e.1=true then es else e::fN k es
def fJ(k:TV)(c:Nat)(es:List (TV×TV×Nat)):Nat:=match eE k es with
 |some _=>c
 |none=>c+1
def zF(h:af)(p:Option Nat)(F:List (TV×TV×Nat)->Nat->Prop):Prop:=match p with
 |none=>F [] 0
 |some r=>∃es c,h[r]? =some (bX es c)/\F es c
def dH(C:Ctx)(d:TypeDesc)(es:List (TV×TV×Nat)):Prop:=∀e∈es,dB C d e.1=true
def xS(ok:Bool)(tv:TV)(s:Bool):TV:=match ok with
 |true=>.bg [tv,.bool s]
 |false=>tv
def I_(C:Ctx)(t:TypeId)(m k:Option TV)(ok:Bool)(h:af)(K:Option TV->Prop):Prop:=
 match(C.ti t).d,m,k with
 |some (.map c a),some (.map p),some b=>match(C.ti c).d,fM (C.ti a).d with
  |some d,true=>match dB C d b&&pI C c d with
   |true=>zF h p λes _=>dH C d es/\Ex (C.ti a).sh λtv=>V5 (eE b es) (C.ti a).z=tv/\K (some (xS ok tv (Lz b es)))
   |false=>False
  |_,_=>False
 |_,_,_=>False
def A0(C:Ctx)(ts:List TypeId)(p:Option Nat)(h:af)(K:Option TV->Prop):Prop:=
 match ts with
 |[t]=>match(C.ti t).d with
  |some (.map _ _)=>zF h p λes _=>K (some (.int .i64 (es.length:Int)))
  |_=>False
 |_=>False
def FR(C:Ctx)(t:TypeId)(x:TV)(K:Option TV->Prop):Prop:=match x with
 |.one a=>match(C.ti t).sh with
  |.one=>K (some (.one a))
  |s=>Ex s λtv=>tv.val=a.v/\K (some tv)
 |.any a=>Ex (C.ti t).sh λtv=>tv.val=a/\K (some tv)
 |v=>K (some v)
def Ja(C:Ctx)(t:TypeId)(x y:TV):Option Bool:=
 match x,y with
 |.int k a,.int c b=>match(C.ti t).d,k==c with
  |some (.int _),true=>some (decide (a=b))
  |_,_=>none
 |.str a,.str b=>match(C.ti t).d with
  |some .string=>some (decide (a=b))
  |_=>none
 |.bool a,.bool b=>match(C.ti t).d with
  |some .bool=>some (a==b)
  |_=>none
 |.bytes n a,.bytes m b=>match(C.ti t).d,n==m with
  |some (.array f e),true=>match(C.ti e).d,f==n with
   |some (.int .u8),true=>some (decide (a.l=b.l))
   |_,_=>none
  |_,_=>none
 |_,_=>none
def Yt:Option Bool->Option Bool->Option Bool
 |some a,some b=>some (a&&b)
 |_,_=>none
def Dg(C:Ctx):List Field->List TV->List TV->Option Bool
 |[],[],[]=>some true
 |f::q,x::A,y::B=>match f.name== "_" with
  |true=>none
  |false=>Yt (Ja C f.type x y) (Dg C q A B)
 |_,_,_=>none
def SI(C:Ctx)(op:BinOp)(t:TypeId)(x y:Option TV)(K:Option TV->Prop):Prop:=
 match x,y with
 |some (.agg a),some (.agg c)=>match(C.ti t).d,(C.ti t).sh,(C.ti t).DB,(C.ti t).eqg,(C.ti t).held with
  |some (.struct f),.agg e,true,false,false=>match acZ a e,acZ c e,Dg C f.toList a c with
   |true,true,some b=>NJ op b K
   |_,_,_=>False
  |_,_,_,_,_=>False
 |_,_=>Yr C op t x y K
def Ym(C:Ctx)(o:Oper)(ρ:Operand->Option TV)(h:af)(K:Option TV->Prop):Prop:=
 match o.op with
 |.move x=>K (ρ x)
 |.assign x=>K (ρ x)
 |.pick c a b=>match ρ c with
  |some (.bool true)=>K (ρ a)
  |some (.bool false)=>K (ρ b)
  |_=>False
 |.build t parts=>NN C t (parts.toList.map λp=>(p.1,ρ p.2)) K
 |.load t a=>match ρ a with
  |some (.ptr p)=>Nn p λl=>I7 C t l h K
  |_=>False
 |.nilCheck x=>match ρ x with
  |some (.ptr p)=>Nn p λl=>K (some (.ptr (some l)))
  |some (.fn (.func g) a b)=>K (some (.fn (.func g) a b))
  |_=>False
 |.binOp op t x y _=>SI C op t (ρ x) (ρ y) K
 |.unOp op _ x=>adR op (ρ x) K
 |.convert s d x=>NO C s d (ρ x) h K
 |.fieldAddr t x f=>AW C t (ρ x) f K
 |.field t x f=>NP C t (ρ x) f K
 |.indexAddr t x i=>AX C t (ρ x) (ρ i) K
 |.index t x i=>NQ C t (ρ x) (ρ i) K
 |.extract x i=>match ρ x with
  |some (.bg j)=>match j[i]? with
   |some v=>FR C o.type v K
   |none=>False
  |_=>False
 |.lookup t m k ok=>I_ C t (ρ m) (ρ k) ok h K
 |.makeInterface t x=>DE C t (ρ x) K
 |.typeAssert x _ t ok=>I9 C (ρ x) t ok K
 |.slice t x lo e none=>NR C t (ρ x) (lo.map ρ) (e.map ρ) K
 |.slice t x lo e (some m)=>I8 C t (ρ x) (lo.map ρ) (e.map ρ) (ρ m) K
 |.makeFunc f first cap=>match allKnown (first.toList.map ρ),allKnown (cap.toList.map ρ)with
  |some a,some b=>K (some (.fn f a b))
  |_,_=>False
 |.call c=>match c.callee with
  |.builtin b=>match b,c.args.toList.map ρ with
   |.len,[some (.map p)]=>A0 C c.argTypes.toList p h K
   |_,_=>sq C b c.argTypes.toList (c.args.toList.map ρ) K
  |_=>False
 |_=>False
section
variable{P:Program}{C:Ctx}{h:af}{K:Option TV->Prop}
theorem SJ{op:UnOp}{x:Option TV}{X:Value}(q:adR op x K)(A:Rel x X):∃r v,K r/\Rel r v/\iJ P (Op.unary op X) v:=by
 unfold adR at q;split at q
 ·obtain rfl:=A _ rfl;exact⟨_,_,q,.some rfl,λw=>rfl⟩
 ·obtain rfl:=A _ rfl;exact⟨_,_,q,.some rfl,λw=>rfl⟩
 ·obtain rfl:=A _ rfl;exact⟨_,_,q,.some rfl,λw=>rfl⟩
 simp_all
theorem Yu{t:TypeId}{tv:TV}(B:C.Ok)(A:fM (C.ti t).d=true)(q:tv.has (C.ti t).sh=true):
 (DC (C.ti t).d=true/\tv.val=.agg tv.cells.toArray\/DC (C.ti t).d=false/\tv.cells=[tv.val]/\tv.size=1):=by
 have a:(C.ti t).d.isSome=true:=by
  cases b:(C.ti t).d with
  |none=>rw[b]at A;cases A
  |some _=>rfl
 have c:=ac3 a;rw[B.gH t c]at*;simp only[TI.of]at*;revert q;unfold ru;cases f:C.P.underlying t with
 |none=>simp_all
 |some d=>
  rw[f]at A;cases d<;>dsimp only<;>intro q
  case array n e=>
   left;refine⟨rfl,?_⟩;cases tv<;>first|rfl|(exfalso;revert q;split<;>simp[acY])
  case struct g=>
   left;refine⟨rfl,?_⟩;cases tv<;>first|rfl|simp[acY]at q
  all_goals
   right;refine⟨rfl,?_⟩;cases tv<;>first|exact⟨rfl,rfl⟩|simp[acY]at q
theorem PU{tv:TV}{w:World}{l:Loc}(q:tv.at w.heap l.b l.o):∀j v,tv.cells[j]? =some v->w.cell? (l.addr.add j)=some v:=by
 grind [abQ,cell?_eq,lu,ac2,ac0,Addr.add]
theorem Jb(A:C.Ok){t:TypeId}{l:Loc}{tv:TV}(q:fM (C.ti t).d=true)(B:tv.has (C.ti t).sh=true){w:World}(E:tv.at w.heap l.b l.o):
 (A1 t (.pointer (some l.addr))).run C.P w=.ok tv.val w:=by
 have c:(C.ti t).d.isSome=true:=by
  cases g:(C.ti t).d with
  |none=>rw[g]at q;cases q
  |some _=>rfl
 obtain⟨d,b⟩:=i6.1 c;have h:=A.d b;obtain⟨i,j,k,_⟩:=A.info b
 have n:tv.size=i.size:=by
  rw[k,TV.sk _ _ B];rcases A.size t (ac3 c)with a|a
  ·rw[b]at a q;cases d<;>simp[fM,ny]at a q
  omega
 have e:=Yu A q B;rw[b]at e;unfold A1 loadVar;simp only[sg,c9,ek,di,nQ h];rcases e with⟨a,f⟩|⟨a,f,o⟩
 ·have m:C.P.cellsOf t=tv.cells.length:=by simp_all [hU,ac0]
  rw[a];simp only[if_true,c9,run_sizeOf w j,di,m];rw[run_loadCells_list w l.addr tv.cells (PU E)];simp[f]
 ·rw[a];have:=PU E 0 tv.val (by grind);simp only[Addr.add,if_true]at this;simp[load,Sem.run,this]
theorem Ew(A:C.Ok){t:TypeId}{l:Loc}(q:I7 C t l h K):∃r v,K r/\Rel r v/\adj C.P (A1 t (.pointer (some l.addr))) h v:=by
 unfold I7 at q;split at q
 ·rename_i a;obtain⟨tv,b,d,c⟩:=sn _ _ q;exact⟨some tv,tv.val,c,.some rfl,λw e=>Jb A a b (by simp_all)⟩
 simp_all
theorem Ey(q:C.Ok){s d:TypeId}{x:Option TV}{X:Value}(A:NO C s d x h K)(B:Rel x X):∃r v,K r/\Rel r v/\∀w:World,(∀b o v,ng h b o=some v->ng w.heap b o=some v)->(convert s d X).run C.P w=.ok v w:=by
 unfold NO at A;split at A
 ·rename_i a c;obtain rfl:=B _ rfl;refine⟨_,_,A,.some rfl,λw _=>?_⟩;unfold convert;simp only[c9,run_underlying (q.d a),run_underlying (q.d c),acV];rfl
 ·rename_i a c;obtain rfl:=B _ rfl;refine⟨_,_,A,.some rfl,λw _=>?_⟩;unfold convert;simp only[c9,run_underlying (q.d a),run_underlying (q.d c),acV];rfl
 ·rename_i g e a c;obtain rfl:=B _ rfl;split at A
  ·rename_i f;obtain⟨bs,⟨m,n⟩,p⟩:=A;refine⟨_,_,p,.some rfl,λw t=>?_⟩;have g:(ac4 e).val=.slice e.p bs.length e.cap:=by rw[m];rfl
   rw[g];rcases n with⟨i,rfl⟩|⟨l,i,u⟩
   ·cases y:e.p with
    |none=>exact run_convert_bytes_nil w _ _ (q.d a) (q.d f) _ _ _ (q.d c)
    |some x=>exact run_convert_bytes_back w _ _ _ x e.cap [] (q.d a) (q.d f) (q.d c) (λj k=>by cases k)
   ·rw[abU i]
    exact run_convert_bytes_back w _ _ _ l.addr e.cap bs (q.d a) (q.d f) (q.d c) (λj k=>by
     grind [abQ,cell?_eq,Addr.add])
  simp_all
 simp_all
theorem elim_some{α:Type}{p:Option α}{K:α->Prop}(h:Nn p K):∃l,p=some l/\K l:=by
 cases p with
 |none=>exact h.elim
 |some l=>exact⟨l,rfl,h⟩
theorem mE(l:Loc)(n:Nat):l.addr.add n=(⟨l.b,l.o+n⟩:Loc).addr:=by
 simp[abQ,Addr.add]
theorem UO(s:Sl)(l u size:Nat):(ay s l u size).p=if s.cap=l then s.p else s.p.map (·.add (l*size)):=by
 have b:(ay s l u size).q=s.q.map λx=>if s.cap=l then x else x.add (l*size):=rfl
 have c:(ay s l u size).a=if s.cap=l then s.a else s.a.map λp=>⟨p.b,p.o+l*size⟩:=rfl
 by_cases h:s.cap=l
 ·simp only[if_pos h]at b c⊢;cases d:s.a<;>simp_all [abU,ach]
 ·simp only[if_neg h]at b c⊢;cases d:s.a<;>simp_all [abU,ach,oo,mE]
theorem Ez(A:C.Ok){t:TypeId}{x:Option TV}{X:Value}{f:Nat}(q:AW C t x f K)(B:Rel x X):∃r v,K r/\Rel r v/\iJ C.P (Instr.fieldAt t X f) v:=by
 unfold AW at q;split at q
 ·rename_i p n a;obtain rfl:=B _ rfl;split at q
  ·rename_i b c;split at q
   ·rename_i d o;obtain⟨l,rfl,g⟩:=elim_some q;refine⟨_,_,g,.some rfl,λw=>?_⟩;obtain⟨s,h⟩:=i6.1 d;obtain⟨i,j,u,_⟩:=A.info h
    have k:¬C.P.cellsOf b.type=0:=by
     intro e;simp_all [hU]
    unfold Instr.fieldAt;simp only[c9,run_underlying (A.d a)];have m:=by simpa using c
    simp only[m,sg,acV,oo,c9,ek,di,fieldPlace,run_sizeOf w j,k,if_false,mE]
   simp_all
  simp_all
 simp_all
theorem EA(A:C.Ok){t:TypeId}{x y:Option TV}{X Y:Value}(q:AX C t x y K)(B:Rel x X)(E:Rel y Y):∃r v,K r/\Rel r v/\iJ C.P (Instr.indexAt t X Y) v:=by
 unfold AX at q;split at q
 ·rename_i s k n e b;obtain rfl:=B _ rfl;obtain rfl:=E _ rfl;split at q
  ·rename_i c;obtain⟨d,f,a⟩:=q;obtain⟨l,o,a⟩:=elim_some a;obtain⟨u,g⟩:=i6.1 c;obtain⟨i,h,z,_⟩:=A.info g;have j:C.P.cellsOf e=(C.ti e).size:=by simp_all [hU]
   refine⟨_,_,a,.some rfl,λw=>?_⟩;unfold Instr.indexAt;simp only[acV,bu,abU o,oo,asIntOf,c9,ek,di,run_underlying (A.d b),d,f,and_self,if_true,run_sizeOf w h,j,mE]
  simp_all
 ·rename_i p k n m e b;obtain rfl:=B _ rfl;obtain rfl:=E _ rfl;split at q
  ·rename_i c;obtain⟨d,f,a⟩:=q;obtain⟨l,rfl,a⟩:=elim_some a;obtain⟨u,g⟩:=i6.1 c;obtain⟨i,h,z,_⟩:=A.info g;have j:C.P.cellsOf e=(C.ti e).size:=by simp_all [hU]
   refine⟨_,_,a,.some rfl,λw=>?_⟩;unfold Instr.indexAt;simp only[acV,sg,oo,asIntOf,c9,ek,di,run_underlying (A.d b),d,f,and_self,if_true,run_sizeOf w h,j,mE]
  simp_all
 simp_all
def adk:Sh->Bool
 |.bytes _|.words _ _|.agg _=>true
 |_=>false
def EB:TV->Bool
 |.bytes _ _|.words _ _ _|.agg _=>true
 |.any (.agg _)=>true
 |_=>false
theorem aby{v:TV}{s:Sh}(h:v.has s=true):EB v=adk s:=by
 cases v<;>cases s<;>simp_all [acY,EB,adk]
theorem FT{v:TV}:(EB v=true->v.val=.agg v.cells.toArray)/\(EB v=false->v.cells=[v.val]/\v.size=1):=by
 cases v
 case any x=>cases x<;>simp[EB,acV,acS,acW,Value.cells]
 all_goals simp[EB,acV,acS,acW]
theorem Mg:∀(B:List Sh)(E:List Field)(n:Nat)(q:List TV)(i:Nat)(v:TV),kK P B E n=true->acZ q B=true->q[i]? =some v->
 ∃A,E[i]? =some A/\A.offset=n+acX (q.take i)/\DC (P.underlying A.type)=EB v/\P.cellsOf A.type=v.size/\(P.underlying A.type).isSome=true
 |[],[],n,q,i,v,_,a,b=>by
  grind [acZ]
 |s::B,f::E,n,q,i,v,c,a,b=>by
  cases q with
  |nil=>grind
  |cons x q=>
   simp only[acZ,eN]at a;simp only[kK,eN,beq_iff_eq]at c;obtain⟨⟨⟨⟨d,l⟩,e⟩,g⟩,H⟩:=c;cases i with
   |zero=>
    simp only[nO,Option.some.injEq]at b;subst b;refine⟨f,rfl,by simp[acX,d],?_,?_,g⟩
    ·rw[aby a.1,<-e];rfl
    grind [TV.sk]
   |succ i=>
    obtain⟨A,h,j,k⟩:=Mg B E _ q i v H a.2 b;refine⟨A,by simpa using h,?_,k⟩;rw[j,ox,acX,TV.sk _ _ a.1];omega
 |[],_::_,n,q,i,v,c,a,b=>by simp[kK]at c
 |_::_,[],n,q,i,v,c,a,b=>by simp[kK]at c
theorem Jc:∀(q:List TV)(i:Nat)(v:TV),q[i]? =some v->(acT q).drop (acX (q.take i))=v.cells++acT (q.drop (i+1))
 |[],i,v,h=>by grind
 |x::q,0,v,h=>by
  simp only[nO,Option.some.injEq]at h;subst h;simp[acX,acT]
 |x::q,i+1,v,h=>by
  simp only[ox,acX,acT];rw[<-ac0 x,List.drop_append,Ma ω];rw[show x.cells.length+acX (tg i q)-x.cells.length=acX (tg i q) by omega];exact Jc q i v h
theorem UP{B:List Sh}{E:List Field}{q:List TV}{f:Nat}{v:TV}(I:kK C.P B E 0=true)(J:acZ q B=true)(H:q[f]? =some v):
 ∃A,E[f]? =some A/\∀w:World,(part A.type (acT q).toArray A.offset).run C.P w=.ok v.val w:=by
 obtain⟨A,g,a,b,h,j⟩:=Mg B E 0 q f v I J H;refine⟨A,g,λw=>?_⟩;obtain⟨m,c⟩:=i6.1 j;have d:=Jc q f v H;unfold part;simp only[c9,nQ c];rw[c]at b;rw[b];cases e:EB v with
 |true=>
  obtain⟨i,k⟩:∃i,C.P.info? A.type=some i:=by
   cases n:C.P.info? A.type with
   |none=>simp_all [Program.underlying]
   |some i=>simp_all
  simp only[if_true,c9,run_sizeOf w k,di,ek];rw[FT.1 e];congr 2;rw[a,h,eL];apply eR.1;simp only[Array.toList_extract,List.extract_eq_take_drop];rw[d,show acX (tg f q)+v.size-acX (tg f q)=v.cells.length by rw[ac0];omega];simp
 |false=>
  obtain⟨o,p⟩:=FT.2 e
  have:(acT q)[A.offset]? =some v.val:=by
   rw[a,eL];have:=congrArg (λl=>l[0]?) d
   grind
  simp[this]
theorem LA(A:C.Ok){t:TypeId}{x:Option TV}{X:Value}{f:Nat}(q:NP C t x f K)(B:Rel x X):∃r v,K r/\Rel r v/\iJ C.P (Instr.field t X f) v:=by
 unfold NP at q;split at q
 ·rename_i o d p e b a;obtain rfl:=B _ rfl;split at q
  ·rename_i v g h;refine⟨_,_,q,.some rfl,λw=>?_⟩;have i:=ac3 (C:=C) (t:=t) (by grind);have c:=A.d e
   have j:=by
    rw[A.gH t i]at a b;simp only[TI.of,c]at a b;rw[b]at a;exact a
   obtain⟨k,l,m⟩:=UP j g h;have n:d[f]? =some k:=by simpa using l
   unfold Instr.field;simp only[c9,run_underlying c,di,n,asAgg,acV,ek];exact m w
  simp_all
 simp_all
theorem NS(q:C.Ok){t:TypeId}{x y:TV}{b:Bool}(h:Ja C t x y=some b)(d:Nat)(w:World):(fu (d+2) t x.val y.val).run C.P w=.ok b w:=by
 unfold Ja at h;split at h
 ·split at h
  ·rename_i k a E f _ _ c l;have l:=beq_iff_eq.1 l;subst l;cases h;simp only[fu,acV,c9,run_underlying (q.d c),di];simp[NK]
  ·cases h
 ·split at h
  ·rename_i a f _ c;cases h;simp only[fu,acV,c9,run_underlying (q.d c),di];rw[beq_toListBytes,I6,I6,PN];rfl
  ·cases h
 ·split at h
  ·rename_i a f _ c;cases h;exact Mf (q.d c) _ _ _ w
  ·cases h
 ·split at h
  ·rename_i n a m f _ _ u e c o;have o:=beq_iff_eq.1 o;subst o;split at h
   ·rename_i _ _ g p;have p:=beq_iff_eq.1 p;subst p;cases h;have v:=q.d c;have s:=q.d g;obtain⟨i,z,F,_⟩:=q.info g;have r:=ac3 (C:=C) (t:=e) (by simp[g])
    have A:C.P.cellsOf e=1:=by
     rcases q.size e r with j|⟨j,_⟩
     ·simp[g,ny]at j
     ·have B:(C.ti e).sh=.int .u8:=by rw[q.gH e r];simp[TI.of,ru,s]
      rw[B]at j;have D:(C.ti e).size=C.P.cellsOf e:=by rw[q.gH e r];rfl
      rw[<-D,<-j];rfl
    simp only[acV];rw[run_equalIn_array w (d+1) _ _ v z,List.range_eq_range',uL s A d a f w u 0 ω];simp
   ·cases h
  ·cases h
 ·cases h
theorem A4(H:C.Ok)(d:Nat)(w:World)(X Y:Array Value):∀(A:List Field)(B E:List TV)(b:Bool),Dg C A B E=some b->
 (∀(j:Nat)(q:Field)(x:TV),A[j]? =some q->B[j]? =some x->(part q.type X q.offset).run C.P w=.ok x.val w)->
 (∀(j:Nat)(q:Field)(y:TV),A[j]? =some q->E[j]? =some y->(part q.type Y q.offset).run C.P w=.ok y.val w)->
 (Op.eqFields (d+2) X Y A).run C.P w=.ok b w
 |[],B,E,b,h,_,_=>by
  cases B<;>cases E<;>simp[Dg]at h;subst h;rfl
 |f::A,[],E,b,h,_,_=>by simp_all [Dg]
 |f::A,x::B,[],b,h,_,_=>by simp[Dg]at h
 |f::A,x::B,y::E,b,h,g,i=>by
  unfold Dg at h;split at h
  ·cases h
  ·rename_i c;have c:=by simpa using c
   cases k:Ja C f.type x y with
   |none=>simp_all [Yt]
   |some a=>
    cases l:Dg C A B E with
    |none=>simp_all [Yt]
    |some m=>
     rw[k,l]at h;simp only[Yt,Option.some.injEq]at h;subst h;unfold Op.eqFields;have n:=g 0 f x rfl rfl;have o:=i 0 f y rfl rfl;have p:=NS H k d w;have t:=A4 H d w X Y A B E m l (λj q x e r=>g (j+1) q x e r) (λj q y e s=>i (j+1) q y e s);simp only[c,ne_eq,not_false_eq_true,if_true,c9,n,o,di,p];cases a
     ·simp
     simp_all
theorem NT(A:C.Ok){op:BinOp}{t:TypeId}{x y:Option TV}{K:Option TV->Prop}(q:SI C op t x y K){X Y:Value}(H:Rel x X)(I:Rel y Y)(B E:Operand):
 ∃r v,K r/\Rel r v/\iJ C.P (do eqGuard op t B E X Y;binOp op t X Y) v:=by
 unfold SI at q;split at q
 ·rename_i f c;obtain rfl:=H _ rfl;obtain rfl:=I _ rfl;split at q
  ·rename_i g s h d a heq i;split at q
   ·rename_i b u z D;have e:=ac3 (C:=C) (t:=t) (by grind);have j:=A.d h
    have F:=by
     rw[A.gH t e]at a d;simp only[TI.of,j]at a d;rw[d]at a;exact a
    have G:C.P.fieldsOf t=g:=by simp_all [Program.fieldsOf]
    have J:C.P.stoodInHeld t=false:=by rw[<-i,A.gH t e];rfl
    have k:C.P.eqGuardType C.P.depth t=false:=by rw[<-heq,A.gH t e];rfl
    have l:∀w:World,(nB t (.agg (acT f).toArray) (.agg (acT c).toArray)).run C.P w=.ok b w:=by
     grind [A4,Op.maxDepth,UP,run_equalIn_struct,nB]
    obtain⟨r,v,m,n,o⟩:=lz (Y:=(ac6 c).val) q rfl rfl (λw=>by simp only[acV];exact l w);refine⟨r,v,m,n,?_⟩;intro w
    have p:(eqGuard op t B E (ac6 f).val (ac6 c).val).run C.P w=.ok () w:=by
     unfold eqGuard;cases op<;>simp[acV,k]
    rw[c9,p];exact o w
   ·exact q.elim
  ·exact q.elim
 ·exact PR A q H I B E
theorem LB(q:C.Ok){t:TypeId}{x y:Option TV}{X Y:Value}(A:NQ C t x y K)(B:Rel x X)(E:Rel y Y):∃r v,K r/\Rel r v/\iJ C.P (O0 t X Y) v:=by
 unfold NQ at A;split at A
 ·rename_i s k n f;obtain rfl:=B _ rfl;obtain rfl:=E _ rfl;obtain⟨g,a,h⟩:=A;refine⟨_,_,h,.some rfl,λw=>?_⟩;have D:n.toNat<s.length:=ω
  have F:(⟨s.toArray⟩:ByteArray)[n.toNat]? =some (s.getD n.toNat 0):=by
   have l:n.toNat<(⟨s.toArray⟩:ByteArray).size:=by grind [ByteArray.size]
   rw[getElem?_pos (⟨s.toArray⟩:ByteArray) n.toNat l];show some (s.toArray[n.toNat]'ω)=_
   grind
  unfold O0;simp only[acV,asIntOf,c9,ek,di,run_underlying (q.d f),g,if_true,F]
 ·rename_i m b k n G e f;obtain rfl:=B _ rfl;obtain rfl:=E _ rfl;split at A
  ·rename_i j c;have c:=beq_iff_eq.1 c;subst c;obtain⟨g,a,h⟩:=A;refine⟨_,_,h,.some rfl,λw=>?_⟩;obtain⟨i,o,l,_⟩:=q.info j;have H:=q.d j;have d:=ac3 (C:=C) (t:=e) (by grind)
   have p:C.P.cellsOf e=1:=by
    rcases q.size e d with a|⟨a,_⟩
    ·simp_all [ny]
    ·have u:(C.ti e).sh=.int .u8:=by rw[q.gH e d];grind [ru,TI.of]
     rw[u]at a;have z:(C.ti e).size=C.P.cellsOf e:=by rw[q.gH e d];rfl
     rw[<-z,<-a];rfl
   have D:n.toNat<b.l.length:=by rw[b.h];omega
   unfold O0;simp only[acV,asIntOf,c9,ek,di,run_underlying (q.d f),g,a,and_self,if_true,run_sizeOf w o,p]
   grind [Cv]
  simp_all
 ·rename_i k m b J n G e f;obtain rfl:=B _ rfl;obtain rfl:=E _ rfl;split at A
  ·rename_i I j c;have c:=beq_iff_eq.1 c;subst c;split at A
   ·obtain⟨g,a,h⟩:=A;refine⟨_,_,h,.some rfl,λw=>?_⟩;obtain⟨i,o,l,_⟩:=q.info j;have H:=q.d j;have d:=ac3 (C:=C) (t:=e) (by grind)
    have p:C.P.cellsOf e=1:=by
     rcases q.size e d with a|⟨a,_⟩
     ·simp_all [ny]
     ·have u:(C.ti e).sh=.int I:=by rw[q.gH e d];grind [ru,TI.of]
      rw[u]at a;have z:(C.ti e).size=C.P.cellsOf e:=by rw[q.gH e d];rfl
      rw[<-z,<-a];rfl
    have D:n.toNat<b.l.length:=by rw[b.h];omega
    unfold O0;simp only[acV,asIntOf,c9,ek,di,run_underlying (q.d f),g,a,and_self,if_true,run_sizeOf w o,p];simp_all [part,di,nQ,DC,c9]
   simp_all
  simp_all
 simp_all
def SK:Option (Option TV)->Option Value->Prop
 |none,none=>True
 |some r,some v=>Rel r v
 |_,_=>False
theorem sr{len top:Nat}{lo E:Option (Option TV)}{k:Nat->Nat->Prop}(B:AY len top lo E k){L H:Option Value}
 (q:SK lo L)(A:SK E H)(I:Bool):
 ∃l u,k l u/\∀w,(tn I len top L H none).run P w=.ok (l,u,top) w:=by
 unfold AY at B;split at B
 ·cases L<;>cases H<;>first|exact q.elim|exact A.elim|skip
  simp_all [tn]
 ·cases L<;>cases H<;>first|exact q.elim|exact A.elim|skip
  obtain rfl:=q _ rfl;simp_all [tn,asIntOf,acV,B0]
 ·cases L<;>cases H<;>first|exact q.elim|exact A.elim|skip
  obtain rfl:=A _ rfl;simp_all [tn,asIntOf,acV,B0]
 ·rename_i a l b u;cases L<;>cases H<;>first|exact q.elim|exact A.elim|skip
  obtain rfl:=q _ rfl;obtain rfl:=A _ rfl;obtain⟨c,d,e,f,g⟩:=B;have h:l<=max u 0:=ω;simp_all [tn,asIntOf,acV,B0]
 simp_all
theorem LC(B:C.Ok){t:TypeId}{x:Option TV}{lo M:Option (Option TV)}{X:Value}{L H:Option Value}(A:NR C t x lo M K)(E:Rel x X)
 (I:SK lo L)(J:SK M H):∃r v,K r/\Rel r v/\iJ C.P (tQ t X L H none) v:=by
 unfold NR at A;split at A
 ·rename_i s a;obtain rfl:=E _ rfl;obtain⟨l,u,b,c⟩:=sr (P:=C.P) A I J false;refine⟨_,_,b,.some rfl,λw=>?_⟩;unfold tQ O1;have d:(⟨s.toArray⟩:ByteArray).size=s.length:=by rfl
  simp only[acV,c9,run_underlying (B.d a),di,d,Option.isSome_none,Bool.false_eq_true,if_false,c,ek];congr 2;apply ByteArray.ext;simp_all
 ·rename_i s e a;obtain rfl:=E _ rfl;split at A
  ·rename_i f;obtain⟨k,g⟩:=i6.1 f;obtain⟨i,h,d,_⟩:=B.info g;have j:C.P.cellsOf e=(C.ti e).size:=by simp_all [hU]
   obtain⟨l,u,b,c⟩:=sr (P:=C.P) A I J true;refine⟨_,_,b,.some rfl,λw=>?_⟩;unfold tQ O1;simp only[acV,bu,c9,run_underlying (B.d a),di,c,run_sizeOf w h,j,UO];rfl
  simp_all
 ·rename_i p n e a;obtain rfl:=E _ rfl;split at A
  ·rename_i f;obtain⟨q,rfl,m⟩:=elim_some A;obtain⟨k,g⟩:=i6.1 f;obtain⟨i,h,d,_⟩:=B.info g;have j:C.P.cellsOf e=(C.ti e).size:=by simp_all [hU]
   obtain⟨l,u,b,c⟩:=sr (P:=C.P) m I J false;refine⟨_,_,b,.some rfl,λw=>?_⟩;unfold tQ;simp only[acV,bu,oo,sg,c9,run_underlying (B.d a),di,c,run_sizeOf w h,ek,j,UO];split<;>rfl
  simp_all
 simp_all
theorem Jd(A:C.Ok){t:TypeId}{x m:Option TV}{lo E:Option (Option TV)}{X M:Value}{L H:Option Value}(q:I8 C t x lo E m K)(J:Rel x X)
 (B:SK lo L)(I:SK E H)(O:Rel m M):∃r v,K r/\Rel r v/\iJ C.P (tQ t X L H (some M)) v:=by
 unfold I8 at q;split at q
 ·rename_i s e f u g m b;obtain rfl:=J _ rfl;obtain rfl:=O _ rfl;cases H with
  |none=>exact I.elim
  |some H=>
  obtain rfl:=I _ rfl;split at q
  ·rename_i c;obtain⟨h,d⟩:=i6.1 c;obtain⟨i,j,k,_⟩:=A.info d;have n:C.P.cellsOf e=(C.ti e).size:=by simp_all [hU]
   obtain⟨o,y,z,D,q⟩:=q;have F:u<=max m 0:=ω;split at q
   ·cases L with
    |some _=>exact B.elim
    |none=>
    refine⟨_,_,q,.some rfl,λw=>?_⟩;unfold tQ O1;have a:(@acg s.a s.len m.toNat s.HX).p=s.p:=rfl;simp only[acV,bu,c9,run_underlying (A.d b),di,UO,a];simp_all [tn,ay,asIntOf,run_sizeOf,B0]
   ·rename_i G l;cases L with
    |none=>exact B.elim
    |some L=>
    obtain rfl:=B _ rfl;obtain⟨N,P,q⟩:=q;have Q:l<=max u 0:=ω;refine⟨_,_,q,.some rfl,λw=>?_⟩;unfold tQ O1;have a:(@acg s.a s.len m.toNat s.HX).p=s.p:=rfl;simp only[acV,bu,c9,run_underlying (A.d b),di,UO,a];simp_all [tn,asIntOf,ay,run_sizeOf,B0]
   simp_all
  simp_all
 simp_all
theorem G8(off:Nat):∀(vs:List Value)(k:Nat)(cells:Array Value)(i:Nat),((vs.zipIdx k).foldl (λa(p:Value×Nat)=>a.setIfInBounds (off+p.2) p.1) cells)[i]? =
 if off+k<=i/\i<off+k+vs.length/\i<cells.size then vs[i-off-k]? else cells[i]?
 |[],k,cells,i=>by
  simp only[List.zipIdx_nil,List.foldl_nil,List.length_nil]
  grind
 |v::vs,k,cells,i=>by
  simp only[List.zipIdx_cons,List.foldl_cons];rw[G8 off vs (k+1) _ i]
  grind
theorem EC(off:Nat)(vs:List Value)(q:List Value)(A:off+vs.length<=q.length):(vs.toArray.zipIdx.foldl (λq(p:Value×Nat)=>q.setIfInBounds (off+p.2) p.1) q.toArray)=(q.take off++vs++q.drop (off+vs.length)).toArray:=by
 rw[<-Array.foldl_toList,Array.toList_zipIdx];apply Array.ext_getElem?;intro i;rw[G8 off vs 0 _ i]
 grind
theorem G9:∀(q:List TV)(i:Nat)(z:TV),q[i]? =some z->acT q=acT (q.take i)++(z.cells++acT (q.drop (i+1)))
 |[],i,z,h=>by grind
 |x::A,0,z,h=>by
  simp only[nO,Option.some.injEq]at h;subst h;simp[acT]
 |x::A,i+1,z,h=>by
  simp only[acT,ox,List.drop_succ_cons,lP];rw[G9 A i z h]
theorem Mh:∀(q:List TV)(i:Nat)(z v:TV),q[i]? =some z->acT (q.set i v)=acT (q.take i)++(v.cells++acT (q.drop (i+1)))
 |[],i,z,v,h=>by grind
 |x::A,0,z,v,h=>by rfl
 |x::A,i+1,z,v,h=>by
  simp only[acT,List.set_cons_succ,ox,List.drop_succ_cons,lP];rw[Mh A i z v h]
theorem size_set:∀(q:List TV)(i:Nat)(z v:TV),q[i]? =some z->v.size=z.size->(q.set i v).map acW=q.map acW
 |[],i,z,v,h,_=>by rfl
 |x::A,0,z,v,h,B=>by
  simp_all
 |x::A,i+1,z,v,h,B=>by
  simp[size_set A i z v h B]
theorem UQ:∀(A:List Sh)(B:List Field)(n:Nat)(q:List TV)(i:Nat)(v:TV),kK P A B n=true->q.map acW=A.map Sh.size->q[i]? =some v->
 ∃c,B[i]? =some c/\c.offset=n+acX (q.take i)/\P.cellsOf c.type=v.size
 |[],[],n,q,i,v,_,a,b=>by
  simp_all
 |s::A,f::B,n,q,i,v,d,a,b=>by
  cases q with
  |nil=>grind
  |cons x q=>
   simp only[w9,List.cons.injEq]at a;simp only[kK,eN,beq_iff_eq]at d;obtain⟨⟨⟨⟨e,k⟩,l⟩,m⟩,E⟩:=d;cases i with
   |zero=>
    simp only[nO,Option.some.injEq]at b;subst b;exact⟨f,rfl,by simp[acX,e],ω⟩
   |succ i=>
    obtain⟨c,g,h,j⟩:=UQ A B _ q i v E a.2 b;refine⟨c,by simpa using g,?_,j⟩;rw[h,ox,acX,a.1];omega
 |[],_::_,n,q,i,v,d,a,b=>by simp_all
 |_::_,[],n,q,i,v,d,a,b=>by simp[kK]at d
def vN:List (Nat×Option TV)->List (Nat×Value)->Prop
 |[],[]=>True
 |(i,r)::a,(j,v)::vs=>i=j/\Rel r v/\vN a vs
 |_,_=>False
theorem su{sizes:List Nat}{place:Nat->Option (Nat×Nat)}(E:∀(q:List TV)(i:Nat)(z:TV),q.map acW=sizes->q[i]? =some z->place i=some (acX (q.take i),z.size)):
 ∀(B:List (Nat×Option TV))(vs:List (Nat×Value))(q A:List TV),vN B vs->pH q B=some A->q.map acW=sizes->
  tT place (acT q).toArray vs=some (acT A).toArray
 |[],[],q,A,_,a,_=>by simp only[pH,Option.some.injEq]at a;subst a;rfl
 |(i,none)::B,(j,v)::vs,q,A,c,a,_=>by grind [pH]
 |(i,some tv)::B,(j,v)::vs,q,A,c,a,e=>by
  obtain⟨rfl,H,I⟩:=c;obtain rfl:=H _ rfl;simp only[pH]at a;split at a
  ·rename_i z b;split at a
   ·rename_i d;have d:=beq_iff_eq.1 d;have f:=E q i z e b;have g:=su E B vs (q.set i tv) A I a (by grind [size_set]);have h:=ak.ai (q.take i);have m:=ac0 z;have n:=ac0 tv;have k:=G9 q i z b
    have l:acX (q.take i)+tv.cells.length<=(acT q).length:=by
     simp_all
    unfold tT;rw[f];simp only[ac1,qc];rw[if_neg (by simp_all),<-g,EC (acX (q.take i)) tv.cells (acT q) l];rw[Mh q i z tv b,k,<-h]
    grind
   grind
  grind
theorem LD{A:List Sh}{B:List Field}(J:kK P A B 0=true){place:Nat->Option (Nat×Nat)}(U:∀i a,B[i]? =some a->place i=some (a.offset,P.cellsOf a.type))
 (E:List (Nat×Option TV))(vs:List (Nat×Value))(q H:List TV)(M:vN E vs)(O:pH q E=some H)(I:q.map acW=A.map Sh.size):
  tT place (acT q).toArray vs=some (acT H).toArray:=
 su (sizes:=A.map Sh.size) (λq i z I b=>by
  obtain⟨a,c,d,e⟩:=UQ A B 0 q i z J I b;simp_all) E vs q H M O I
theorem G_:∀(A:List Sh)(q:List Field)(n:Nat),kK P A q n=true->∀f:Field,f∈q->(P.underlying f.type).isSome=true
 |[],[],n,_,f,a=>by cases a
 |s::A,g::q,n,b,f,a=>by
  simp only[kK,eN]at b;rcases l8.1 a with rfl|a
  ·simp_all
  ·exact G_ A q _ b.2 f a
 |[],_::_,n,b,_,_=>by simp[kK]at b
 |_::_,[],n,b,_,a=>by cases a
theorem Mi{α:Type}(f:α->TV)(g:α->Sh)(h:∀a,(f a).size=(g a).size):∀l:List α,acX (l.map f)=Yl.size (l.map g)
 |[]=>rfl
 |a::l=>by simp only[w9,acX,Yl.size,h a,Mi f g h l]
theorem Mj(a:TV)(b:Sh)(h:a.size=b.size):∀n:Nat,acX (ec n a)=Yl.size (ec n b)
 |0=>rfl
 |n+1=>by simp only[O2,acX,Yl.size,h,Mj a b h n]
theorem Je(P:Program):∀(d:Nat)(t:TypeId),(SD P d t).size=(ru P d t).size
 |0,t=>rfl
 |d+1,t=>by
  unfold SD ru;split
  all_goals try rfl
  ·exact Mi (λf:Field=>SD P d f.type) (λf:Field=>ru P d f.type) (λf=>Je P d f.type) _
  ·split
   ·rfl
   ·rfl
   ·exact Mj _ _ (Je P d _) _
theorem ED:∀(B:List (Nat×Option TV))(p:Nat×Option TV)(z:TV){A:TV},kS z (p::B)=some A->EB A=true
 |B,(i,none),z,A,h=>by simp[kS]at h
 |[],(i,some v),z,A,h=>by
  simp only[kS]at h;split at h
  ·rename_i b a;simp only[Option.some.injEq]at h;subst h;unfold NM at a;split at a
   ·split at a
    ·cases a;rfl
    grind
   grind
  grind
 |q::B,(i,some v),z,A,h=>by
  simp only[kS]at h;split at h
  ·exact ED B q _ h
  grind
theorem Dh:∀(A:List (Nat×Option TV))(vs:List (Nat×Value))(z q:TV),vN A vs->kS z A=some q->
 tT (λi=>some (i*1,1)) z.cells.toArray vs=some q.cells.toArray
 |[],[],z,q,_,a=>by simp only[kS,Option.some.injEq]at a;subst a;rfl
 |(i,none)::A,(j,v)::vs,z,q,e,a=>by grind [kS]
 |(i,some tv)::A,(j,v)::vs,z,q,e,a=>by
  obtain⟨rfl,B,E⟩:=e;obtain rfl:=B _ rfl;simp only[kS]at a;split at a
  ·rename_i f b;have g:=Dh A vs f q E a;unfold NM at b;split at b
   ·rename_i _ k n w h x;split at b
    ·rename_i c d;have c:=beq_iff_eq.1 c;subst c;have d:=by simpa using d
     simp only[Option.some.injEq]at b;subst b;have l:(TV.words k n w).cells.length=n:=ac0 _;unfold tT;simp only[ac1];rw[if_neg (by grind [acS]),<-g,EC (i*1) _ _ (by grind [List.length_singleton,acS])];simp only[acS,Ws.set,List.length_cons,List.length_nil];rw[List.set_eq_take_append_cons_drop,if_pos (by simp[w.h];exact d)];simp
    ·cases b
   ·cases b
  ·cases a
theorem NU(A:C.Ok){t:TypeId}{q:Array Field}(B:(C.ti t).d=some (.struct q)):
 (C.ti t).sh=.agg (q.toList.map λf:Field=>ru C.P 19 f.type)/\(C.ti t).z=.agg (q.toList.map λf:Field=>SD C.P 19 f.type)/\
 ((C.ti t).DB=true->kK C.P (q.toList.map λf:Field=>ru C.P 19 f.type) q.toList 0=true):=by
 have b:=ac3 (C:=C) (t:=t) (by grind);have a:=A.d B;have c:ru C.P (19+1) t=.agg (q.toList.map λf:Field=>ru C.P 19 f.type):=by rw[ru,a]
 have e:SD C.P (19+1) t=.agg (q.toList.map λf:Field=>SD C.P 19 f.type):=by rw[SD,a]
 rw[A.gH t b];refine⟨c,e,λh=>?_⟩;have i:(match C.P.underlying t,ru C.P (19+1) t with|some (.struct q),.agg g=>kK C.P g q.toList 0|_,_=>false)=true:=h;simp_all
theorem LF(q:C.Ok){t:TypeId}{B:List (Nat×Option TV)}{parts:Array (Nat×Value)}(A:NN C t B K)(H:vN B parts.toList):∃r v,K r/\Rel r v/\iJ C.P (Instr.build t parts) v:=by
 unfold NN at A;split at A
 ·rename_i a u j X;split at A
  ·rename_i I O x;refine⟨_,_,A,.some rfl,λw=>?_⟩;have m:=ac3 (C:=C) (t:=t) (by grind);have o:=q.d j;obtain⟨y,D,b⟩:=q.zero t m (by grind)
   have b:y.zero=some (ac6 u).val:=by
    simp_all [ny]
   obtain⟨Y,Z,c⟩:=NU q j;have c:=c O;generalize ab:(a.toList.map λf:Field=>ru C.P 19 f.type)=J at c
   have E:u.map acW=J.map Sh.size:=by
    grind [Je,List.map_map,List.map_congr_left]
   have P:a.toList.mapM (λf:Field=>(C.P.info? f.type).map λi=>(f.offset,i.size))=some (a.toList.map λf:Field=>(f.offset,C.P.cellsOf f.type)):=by
    have s:=G_ J a.toList 0 c;revert s;generalize a.toList=l;intro s
    induction l with
    |nil=>rfl
    |cons f l Q=>
     rw[List.mapM_cons,Q (λg R=>s g (by simp[R]))];have:=s f (by simp);cases L:C.P.info? f.type with
     |none=>simp[Program.underlying,L]at this
     |some i=>simp[hU,L]
   have F:C.P.built t parts.toList=some (acT I).toArray:=by
    unfold Program.built;simp only[D,o,b,P];exact LD c (λi fd h=>by simp[h]) B parts.toList u I H x E
   rw[run_build w t parts _ F];rfl
  simp_all
 ·rename_i n e j;have m:=ac3 (C:=C) (t:=t) (by grind);have o:=q.d j;obtain⟨y,D,b⟩:=q.zero t m (by grind)
  have b:y.zero=some (C.ti t).z.val:=by
   simp_all [ny]
  split at A
  ·rename_i d M;obtain⟨S,T,E,_⟩:=q.info M
   have ac:(C.ti t).z.val=.agg (C.ti t).z.cells.toArray:=by
    rw[q.gH t m];show(SD C.P (19+1) t).val=.agg (SD C.P (19+1) t).cells.toArray;rw[SD,o];dsimp only;split<;>rfl
   split at A
   ·refine⟨_,_,A,.some rfl,λw=>?_⟩
    have hp:parts.toList=[]:=by
     revert H;cases parts.toList with
     |nil=>simp_all
     |cons _ _=>intro h;exact h.elim
    grind [Program.built,tT,run_build,ac1]
   ·rename_i p ad k;split at A
    ·rename_i U x;refine⟨_,_,A,.some rfl,λw=>?_⟩
     have V:S.size=1:=by
      have N:=ac3 (C:=C) (t:=e) (by grind);rw[E];rcases q.size e N with G|⟨G,_⟩
      ·simp_all [ny]
      ·have W:(C.ti e).sh=.int k:=by rw[q.gH e N];simp[TI.of,ru,q.d M]
       rw[W]at G;rw[<-G];rfl
     have F:C.P.built t parts.toList=some U.cells.toArray:=by
      unfold Program.built;simp only[D,o,b,T,ac1,V]
      grind [Dh]
     rw[run_build w t parts _ F];have:=ED _ _ _ x
     grind [FT]
    simp_all
   simp_all
  simp_all
 simp_all
end
end Go.Vc
namespace Go.Vc
open Go
section
variable{P:Program}
def bv{n:Nat}(a:Bs n):Value:=.agg (a.l.map λc=>dr .u8 (c.toNat:Int)).toArray
theorem adS{n:Nat}{a b:Bs n}(h:bv a=bv b):a.l=b.l:=by
 injection h with h;have h:=congrArg Array.toList h
 have:∀(x y:List UInt8),x.map (λc=>dr .u8 c.toNat)=y.map (λc=>dr .u8 c.toNat)->x=y:=by
  intro x
  induction x with
  |nil=>simp_all
  |cons c x e=>
   intro y h;cases y with
   |nil=>grind
   |cons d y=>
    simp only[w9,List.cons.injEq,Value.int.injEq]at h;rw[e y h.2,UInt8.toNat_inj.1 (by omega:c.toNat=d.toNat)]
 grind
theorem PV{t e:TypeId}{n:Nat}(A:P.underlying t=some (.array n e))(q:P.underlying e=some (.int .u8)){i:TypeInfo}(B:P.info? e=some i)(E:P.cellsOf e=1)(a:Bs n)(em:Bool)(m:Nat)(w:World):
 (oy em (m+2) t (bv a)).run P w=.ok () w:=by
 rw[oy];unfold bv;simp only[c9,run_underlying A,di];simp only[Std.Legacy.Range.forIn_eq_forIn_range',Std.Legacy.Range.size,Nat.add_one_sub_one,Nat.div_one];have b:∀j∈List.range' 0 n,j<n:=λj d=>by simp_all
 generalize List.range' 0 n=f at b
 induction f with
 |nil=>simp
 |cons j f g=>
  have d:=b j (by simp);have h:j<a.l.length:=by rw[a.h];exact d
  have k:=Cv q (a.l.map λc=>dr .u8 c.toNat).toArray j (.int .u8 a.l[j].toNat) (by grind) w;have l:(sizeOf e:Sem Nat).run P w=.ok 1 w:=by grind [run_sizeOf]
  have o:(oy em (m+1) e (.int .u8 a.l[j].toNat)).run P w=.ok () w:=by
   simp[oy,run_underlying q]
  simp_all
theorem PW{n:Nat}(a:Bs n)(w:World):(P3 (bv a) (bv a)).run P w=.ok (bv a) w:=by
 have h:qd 10000 (bv a) (bv a)=true:=by
  unfold bv qd;simp only[beq_self_eq_true,Bool.true_and,um];intro p f
  have:∀(l:List Value),(∀v∈l,∃z,v=dr .u8 z)->∀q∈l.zip l,qd 9999 q.1 q.2=true:=by
   intro l
   induction l with
   |nil=>simp_all
   |cons v l c=>
    intro d q b;rcases l8.1 b with rfl|b
    ·grind [eS,qd]
    ·exact c (λu e=>d u (i7 _ e)) q b
  grind
 simp_all [P3]
end
end Go.Vc
namespace Go.Vc
open Go
section
variable{P:Program}{C:Ctx}{h:af}{K:Option TV->Prop}
def NV:List (Option TV)->List Value->Prop
 |[],[]=>True
 |r::a,v::vs=>Rel r v/\NV a vs
 |_,_=>False
theorem bsize(s:List UInt8):(⟨s.toArray⟩:ByteArray).size=s.length:=qc
theorem Jf:∀(q:List TV)(i:Nat)(v:TV),q[i]? =some v->(acU q)[i]? =some v.val
 |[],i,v,h=>by grind
 |y::a,0,v,h=>by simp only[nO,Option.some.injEq]at h;subst h;rfl
 |y::a,i+1,v,h=>by simpa[acU]using Jf a i v h
theorem dZ.FU{env:Env}{a:Act}(h:dZ env a):∀l:List Operand,NV (l.map env.ev) (l.map a.eval)
 |[]=>trivial
 |x::l=>⟨h.rel x,h.FU l⟩
theorem ga:∀(q:List (Option TV))(vs:List Value)(ts:List TV),allKnown q=some ts->NV q vs->vs=acU ts
 |[],[],ts,h,_=>by simp only[allKnown,Option.some.injEq]at h;subst h;rfl
 |some x::q,v::vs,ts,h,a=>by
  simp only[allKnown]at h;split at h
  ·rename_i b c;simp only[Option.some.injEq]at h;subst h;obtain rfl:=a.1 _ rfl;rw[ga q vs b c a.2];rfl
  grind
 |none::q,v::vs,ts,h,a=>by simp[allKnown]at h
theorem FV(B:C.Ok){b:Builtin}{ts:Array TypeId}{ty:TypeId}{E:List (Option TV)}{vs:Array Value}(A:sq C b ts.toList E K)(q:NV E vs.toList):
 ∃r v,K r/\Rel r v/\∀(H:Array Bool)(w:World),(builtin b ts ty H vs).run C.P w=.ok (.value v) w:=by
 obtain⟨ts⟩:=ts;obtain⟨vs⟩:=vs;change sq C b ts E K at A;unfold sq at A;split at A
 ·obtain⟨v,rfl⟩:∃v,vs=[v]:=by
   cases vs with
   |nil=>exact q.elim
   |cons v vs=>cases vs with
    |nil=>simp_all
    |cons _ _=>exact q.2.elim
  obtain rfl:=q.1 _ rfl;split at A
  ·rename_i a;refine⟨_,_,A,.some rfl,λ_ w=>?_⟩;unfold builtin B1;simp[run_underlying (B.d a),acV,bu,goInt]
  simp_all
 ·obtain⟨v,rfl⟩:∃v,vs=[v]:=by
   cases vs with
   |nil=>exact q.elim
   |cons v vs=>cases vs with
    |nil=>simp_all
    |cons _ _=>exact q.2.elim
  obtain rfl:=q.1 _ rfl;split at A
  ·rename_i a;refine⟨_,_,A,.some rfl,λ_ w=>?_⟩;unfold builtin B1;simp[run_underlying (B.d a),acV,goInt,bsize]
  simp_all
 ·obtain⟨v,rfl⟩:∃v,vs=[v]:=by
   cases vs with
   |nil=>exact q.elim
   |cons v vs=>cases vs with
    |nil=>simp_all
    |cons _ _=>exact q.2.elim
  split at A
  ·rename_i a;refine⟨_,_,A,.some rfl,λ_ w=>?_⟩;unfold builtin B1;simp[run_underlying (B.d a),acV,goInt]
  simp_all
 ·obtain⟨v,rfl⟩:∃v,vs=[v]:=by
   cases vs with
   |nil=>exact q.elim
   |cons v vs=>cases vs with
    |nil=>simp_all
    |cons _ _=>exact q.2.elim
  obtain rfl:=q.1 _ rfl;split at A
  ·rename_i a;refine⟨_,_,A,.some rfl,λ_ w=>?_⟩;unfold builtin Builtin.cap_;simp[run_underlying (B.d a),acV,bu,goInt]
  simp_all
 ·obtain⟨v,u,rfl⟩:∃v u,vs=[v,u]:=by
   cases vs with
   |nil=>exact q.elim
   |cons v vs=>cases vs with
    |nil=>exact q.2.elim
    |cons u vs=>cases vs with
     |nil=>simp_all
     |cons _ _=>exact q.2.2.elim
  obtain rfl:=q.1 _ rfl;obtain rfl:=q.2.1 _ rfl;split at A
  ·refine⟨_,_,A,.some rfl,λ_ w=>?_⟩;rfl
  simp_all
 ·obtain⟨v,u,rfl⟩:∃v u,vs=[v,u]:=by
   cases vs with
   |nil=>exact q.elim
   |cons v vs=>cases vs with
    |nil=>exact q.2.elim
    |cons u vs=>cases vs with
     |nil=>simp_all
     |cons _ _=>exact q.2.2.elim
  obtain rfl:=q.1 _ rfl;obtain rfl:=q.2.1 _ rfl;split at A
  ·refine⟨_,_,A,.some rfl,λ_ w=>?_⟩;rfl
  simp_all
 simp_all
theorem PX{a b:List UInt8}:(Value.string ⟨a.toArray⟩=Value.string ⟨b.toArray⟩)↔a=b:=by
 simp_all
def wide:TypeDesc->Bool
 |.array _ _|.struct _=>true
 |_=>false
theorem oU{d:TypeDesc}{k:TV}(q:wide d=false)(h:dB C d k=true):MapKept.IsKey d k.val:=by
 cases d<;>cases k<;>simp_all [dB,MapKept.IsKey,acV,wide]
theorem SL{n:Nat}(a:Bs n):(ac5 n a).val=bv a:=by rfl
theorem Jg:∀(B:List Field)(q A:List TV)(o:Nat),cz C B q o=true->cz C B A o=true->(AZ q A=true↔acT A=acT q)
 |[],[],[],_,_,_=>by simp[AZ]
 |f::B,.int k a::q,.int l b::A,o,e,g=>by
  simp only[cz,eN]at e g;have m:=Jg B q A (o+1) e.2 g.2
  have n:k=l:=by
   have c:=e.1.2;have i:=g.1.2;cases j:(C.ti f.type).d with
   |none=>rw[j]at c;cases c
   |some d=>
    rw[j]at c i;cases d<;>simp[isInt]at c i;simp_all
  subst n;simp only[AZ,eN,decide_eq_true_eq,m,acT,acS,xd,List.cons.injEq,Value.int.injEq,true_and]
  grind
 |[],x::_,_,_,h,_=>by simp[cz]at h
 |[],[],y::_,_,_,h=>by simp[cz]at h
 |f::_,[],_,_,h,_=>by simp[cz]at h
 |f::_,x::_,[],_,_,h=>by simp[cz]at h
 |f::_,.int .. ::_,.bool _::_,_,_,h|f::_,.int .. ::_,.str _::_,_,_,h|f::_,.int .. ::_,.ptr _::_,_,_,h|f::_,.int .. ::_,.slice _::_,_,_,h|f::_,.int .. ::_,.map _::_,_,_,h
 |f::_,.int .. ::_,.one _::_,_,_,h|f::_,.int .. ::_,.bytes .. ::_,_,_,h|f::_,.int .. ::_,.words .. ::_,_,_,h|f::_,.int .. ::_,.agg _::_,_,_,h|f::_,.int .. ::_,.bg _::_,_,_,h
 |f::_,.int .. ::_,.fn .. ::_,_,_,h=>by simp[cz]at h
 |f::_,.bool _::_,_::_,_,h,_|f::_,.str _::_,_::_,_,h,_|f::_,.ptr _::_,_::_,_,h,_|f::_,.slice _::_,_::_,_,h,_|f::_,.map _::_,_::_,_,h,_
 |f::_,.one _::_,_::_,_,h,_|f::_,.bytes .. ::_,_::_,_,h,_|f::_,.words .. ::_,_::_,_,h,_|f::_,.agg _::_,_::_,_,h,_|f::_,.bg _::_,_::_,_,h,_
 |f::_,.fn .. ::_,_::_,_,h,_=>by simp[cz]at h
theorem Mk{d:TypeDesc}{a b:TV}(q:dB C d a=true)(A:dB C d b=true):jR a b=true↔b.val=a.val:=by
 cases d<;>cases a<;>simp[dB]at q<;>cases b<;>simp[dB]at A
 ·subst q;subst A;simp only[jR,decide_eq_true_eq,acV,Value.int.injEq,true_and];exact eq_comm
 ·simp only[jR,decide_eq_true_eq,acV];rw[PX];exact eq_comm
 ·obtain⟨rfl,_⟩:=q;obtain⟨rfl,_⟩:=A;simp only[jR,decide_eq_true_eq,SL]
  grind [adS,bv]
 grind [Value.agg.injEq,Jg,jR,acV]
def cH(es:List (TV×TV×Nat)):List MapEntry:=es.map λe=>({key:=e.1.val,val:=e.2.1.val,born:=e.2.2}:MapEntry)
theorem Yv(q:C.Ok){e:TypeId}(A:(C.ti e).d=some (.int .u8)):C.P.underlying e=some (.int .u8)/\(∃i,C.P.info? e=some i)/\C.P.cellsOf e=1:=by
 have c:=q.d A;obtain⟨i,f,j,_⟩:=q.info A;have a:=ac3 (C:=C) (t:=e) (by grind);refine⟨c,⟨i,f⟩,?_⟩;rcases q.size e a with b|⟨b,_⟩
 ·simp_all [ny]
 ·have g:(C.ti e).sh=.int .u8:=by rw[q.gH e a];grind [ru,TI.of]
  rw[g]at b;have h:(C.ti e).size=C.P.cellsOf e:=by rw[q.gH e a];rfl
  rw[<-h,<-b];rfl
theorem PY{o:Option TypeDesc}(h:abx o=true):o=some (.int .u8):=by
 grind [abx]
theorem PZ{d:TypeDesc}{k:TV}(q:wide d=false)(A:dB C d k=true):∀(es:List (TV×TV×Nat))(i:Nat),dH C d es->
 (B5 d k.val (cH es) i=some none/\eE k es=none/\(∀v c,jb k v c es=es++[(k,v,c)])/\fN k es=es)\/
 ∃(j:Nat)(e:TV×TV×Nat),B5 d k.val (cH es) i=some (some (i+j,e.2.1.val))/\es[j]? =some e/\e.1.val=k.val/\eE k es=some e.2.1/\(∀v c,jb k v c es=es.set j (e.1,v,e.2.2))/\fN k es=es.eraseIdx j
 |[],i,_=>.inl ⟨rfl,rfl,λ_ _=>rfl,rfl⟩
 |e::es,i,h=>by
  have b:=h e (eS ..);have m:=λx n=>h x (i7 _ n);have o:=Mk A b;obtain⟨r,z,p⟩:=MapKept.sameNow_of_keys (oU q A) (oU q b);have B:cH (e::es)={key:=e.1.val,val:=e.2.1.val,born:=e.2.2}::cH es:=rfl;by_cases a:jR k e.1=true
  ·right;have f:=o.1 a;have D:=p.2 f.symm;refine⟨0,e,?_,rfl,f,?_,λv c=>?_,?_⟩
   ·simp_all [B5]
   ·simp[eE,a]
   ·simp[jb,a]
   ·simp[fN,a]
  ·have E:r=false:=by
    grind
   rcases PZ q A es (i+1) m with⟨s,t,g,l⟩|⟨j,u,s,t,g,l,w,y⟩
   ·simp_all [jb,eE,B5,fN]
   ·right;refine⟨j+1,u,by grind [B5],by simp_all,g,by simp[eE,a,l],λv c=>by simp[jb,a,w],by simp[fN,a,y]⟩
theorem P4{q:TypeId}{d:TypeDesc}{k:TV}(A:dB C d k=true)(w:World)(heq:∀y:TV,dB C d y=true->(nB q k.val y.val).run C.P w=.ok (jR k y) w):∀(es:List (TV×TV×Nat))(i:Nat),dH C d es->
 ((E0 q k.val (cH es) i).run C.P w=.ok none w/\eE k es=none/\(∀v c,jb k v c es=es++[(k,v,c)])/\fN k es=es)\/
 ∃(j:Nat)(e:TV×TV×Nat),(E0 q k.val (cH es) i).run C.P w=.ok (some (i+j,e.2.1.val)) w/\es[j]? =some e/\e.1.val=k.val/\eE k es=some e.2.1/\(∀v c,jb k v c es=es.set j (e.1,v,e.2.2))/\fN k es=es.eraseIdx j
 |[],i,_=>.inl ⟨by rfl,rfl,λ_ _=>rfl,rfl⟩
 |x::es,i,h=>by
  have l:=h x (eS ..);have m:=λy n=>h y (i7 _ n);have o:cH (x::es)={key:=x.1.val,val:=x.2.1.val,born:=x.2.2}::cH es:=rfl
  have b:(E0 q k.val (cH (x::es)) i).run C.P w=if jR k x.1=true then .ok (some (i,x.2.1.val)) w else(E0 q k.val (cH es) (i+1)).run C.P w:=by
   rw[o]
   conv=>lhs;unfold E0
   simp_all
  by_cases a:jR k x.1=true
  ·rw[if_pos a]at b;right;refine⟨0,x,b,rfl,(Mk A l).1 a,by simp[eE,a],λv c=>by simp[jb,a],by simp[fN,a]⟩
  ·rw[if_neg a]at b;rw[b];rcases P4 A w heq es (i+1) m with⟨p,r,f,g⟩|⟨j,y,p,r,f,g,s,t⟩
   ·simp_all [jb,eE,fN]
   ·right;refine⟨j+1,y,by grind,by simp_all,f,by simp[eE,a,g],λv c=>by simp[jb,a,s],by simp[fN,a,t]⟩
theorem EE:∀(A:List Field)(B:List TV)(o:Nat),cz C A B o=true->∀(j:Nat)(q:Field)(x:TV),A[j]? =some q->B[j]? =some x->q.name≠ "_" /\q.offset=o+j/\∃k n,x=.int k n/\(C.ti q.type).d=some (.int k)
 |f::A,.int k n::B,o,h,0,q,x,g,i=>by
  simp only[cz,eN]at h;cases g;cases i;refine⟨by simp_all,by simp_all,k,n,rfl,?_⟩;have e:=h.1.2;cases l:(C.ti f.type).d with
  |none=>rw[l]at e;cases e
  |some d=>
   rw[l]at e;cases d<;>simp[isInt]at e;rw[e]
 |f::A,.int k n::B,o,h,j+1,q,x,g,i=>by
  simp only[cz,eN]at h;obtain⟨a,b,c⟩:=EE A B (o+1) h.2 j q x (by simp_all) (by simp_all)
  grind
 |[],_,_,_,j,q,x,g,_=>by grind
 |f::_,[],_,h,_,_,_,_,i=>by grind
 |f::_,.bool _::_,_,h,_,_,_,_,_|f::_,.str _::_,_,h,_,_,_,_,_|f::_,.ptr _::_,_,h,_,_,_,_,_|f::_,.slice _::_,_,h,_,_,_,_,_|f::_,.map _::_,_,h,_,_,_,_,_
 |f::_,.one _::_,_,h,_,_,_,_,_|f::_,.bytes .. ::_,_,h,_,_,_,_,_|f::_,.words .. ::_,_,h,_,_,_,_,_|f::_,.agg _::_,_,h,_,_,_,_,_|f::_,.bg _::_,_,h,_,_,_,_,_
 |f::_,.fn .. ::_,_,h,_,_,_,_,_=>by simp[cz]at h
theorem IF:∀(A:List Field)(q:List TV)(o:Nat),cz C A q o=true->A.length=q.length/\∀x∈q,∃k n,x=.int k n
 |[],[],_,_=>⟨rfl,λx B=>by cases B⟩
 |f::A,.int k n::q,o,h=>by
  simp only[cz,eN]at h;obtain⟨a,b⟩:=IF A q (o+1) h.2;simp_all
 |[],x::_,_,h=>by simp[cz]at h
 |f::_,[],_,h=>by simp[cz]at h
 |f::_,.bool _::_,_,h|f::_,.str _::_,_,h|f::_,.ptr _::_,_,h|f::_,.slice _::_,_,h|f::_,.map _::_,_,h
 |f::_,.one _::_,_,h|f::_,.bytes .. ::_,_,h|f::_,.words .. ::_,_,h|f::_,.agg _::_,_,h|f::_,.bg _::_,_,h
 |f::_,.fn .. ::_,_,h=>by simp[cz]at h
theorem DF:∀(q:List TV),(∀x∈q,∃k n,x=ac7 k n)->acT q=q.map acV
 |[],_=>rfl
 |x::q,h=>by
  obtain⟨k,n,rfl⟩:=h x (eS ..);simp only[acT,acS,w9,acV,xd,xe,DF q λy a=>h y (i7 _ a)]
theorem Jh(H:C.Ok){A:List Field}{q:List TV}(h:cz C A q 0=true){j:Nat}{B:Field}{x:TV}(I:A[j]? =some B)(E:q[j]? =some x)(w:World):(part B.type (acT q).toArray B.offset).run C.P w=.ok x.val w:=by
 obtain⟨_,a,k,n,rfl,b⟩:=EE A q 0 h j B x I E;unfold part;simp only[c9,nQ (H.d b),DC];rw[DF q (IF A q 0 h).2,a];simp[E]
theorem Ml:∀(q:List Field)(A B:List TV)(o:Nat),cz C q A o=true->cz C q B o=true->Dg C q A B=some (AZ A B)
 |[],[],[],_,_,_=>rfl
 |f::q,x::A,y::B,o,c,d=>by
  obtain⟨H,_,k,a,rfl,E⟩:=EE _ _ _ c 0 f x rfl rfl;obtain⟨_,_,e,b,rfl,j⟩:=EE _ _ _ d 0 f y rfl rfl;obtain rfl:k=e:=by simp_all
  simp only[cz,eN]at c d;have g:=Ml q A B (o+1) c.2 d.2;have i:(f.name== "_")=false:=by simp_all
  simp only[Dg,i,Ja,E,beq_self_eq_true,g,Yt,AZ]
 |[],x::_,_,_,h,_=>by simp[cz]at h
 |[],[],y::_,_,_,h=>by simp[cz]at h
 |f::_,[],_,_,h,_=>by simp[cz]at h
 |f::_,x::_,[],_,_,h=>by simp[cz]at h
theorem adT(A:C.Ok){q:TypeId}{d:TypeDesc}{k:TV}(H:(C.ti q).d=some d)(I:wide d=true)(B:dB C d k=true)(J:pI C q d=true)(w:World)(y:TV)(E:dB C d y=true):
 (nB q k.val y.val).run C.P w=.ok (jR k y) w:=by
 cases d<;>simp[wide]at I<;>cases k<;>simp[dB]at B<;>cases y<;>simp[dB]at E
 ·obtain⟨rfl,e⟩:=B;obtain⟨rfl,_⟩:=E;obtain⟨f,⟨i,g⟩,h⟩:=Yv A (PY e);exact G7 (A.d H) f g h _ _ w
 ·rename_i c l m;have n:=ac3 (C:=C) (t:=q) (by grind)
  have o:C.P.stoodInHeld q=false:=by
   have p:=by simpa[pI]using J
   rw[<-p,A.gH q n];rfl
  have u:=A.d H;have r:C.P.fieldsOf q=c:=by simp_all [Program.fieldsOf]
  simp only[acV];unfold nB Op.maxDepth;rw[run_equalIn_struct w 9999 q _ _ (by simp_all) o,r];exact A4 A 9997 w _ _ c.toList l m _ (Ml _ _ _ 0 B E) (λj s x a b=>Jh A B a b w) (λj s y a b=>Jh A E a b w)
theorem Ji(A:C.Ok){q:TypeId}{d:TypeDesc}{k:TV}(B:(C.ti q).d=some d)(E:(dB C d k&&pI C q d)=true)(es:List (TV×TV×Nat))(H:dH C d es)(w:World):
 ((Instr.findKey q k.val (cH es)).run C.P w=.ok none w/\eE k es=none/\(∀v c,jb k v c es=es++[(k,v,c)])/\fN k es=es)\/
 ∃(j:Nat)(e:TV×TV×Nat),(Instr.findKey q k.val (cH es)).run C.P w=.ok (some (j,e.2.1.val)) w/\es[j]? =some e/\e.1.val=k.val/\eE k es=some e.2.1/\(∀v c,jb k v c es=es.set j (e.1,v,e.2.2))/\fN k es=es.eraseIdx j:=by
 have h:=A.d B;rw[eN]at E;obtain⟨b,i⟩:=E;cases f:wide d with
 |true=>
  rw[run_findKey_eq w (by rw[h];cases d<;>first|rfl|cases f)];rcases P4 b w (λy l=>adT A B f b i w y l) es 0 H with a|⟨j,y,a,g⟩<;>grind
 |false=>
  rcases PZ f b es 0 H with⟨a,g⟩|⟨j,y,a,g⟩
  ·simp_all [MapKept.run_findKey]
  ·rw[eL]at a
   grind [MapKept.run_findKey]
theorem V6(E:C.Ok){H:TypeId}{q:Array Field}{A:List TV}(I:C.P.underlying H=some (.struct q))(B:cz C q.toList A 0=true)(em:Bool)(m:Nat)(w:World):(oy em (m+2) H (ac6 A).val).run C.P w=.ok () w:=by
 rw[oy];simp only[acV,c9,run_underlying I,di];rw[<-Array.forIn_toList];obtain⟨l,c⟩:∃l,l=q.toList:=⟨_,rfl⟩
 have e:∀a∈l,∃(j:Nat)(x:TV),q.toList[j]? =some a/\A[j]? =some x:=λa b=>by
  rw[c]at b;obtain⟨j,g⟩:=List.getElem?_of_mem b;have s:=(IF _ _ _ B).1;have t:=(lu.1 g).1;exact⟨j,A[j]'ω,g,u0 ω⟩
 rw[<-c];clear c
 induction l with
 |nil=>simp
 |cons f l d=>
  obtain⟨j,x,h,i⟩:=e f (eS ..);obtain⟨o,_,k,n,rfl,p⟩:=EE _ _ _ B j f x h i
  have r:(oy em (m+1) f.type (ac7 k n).val).run C.P w=.ok () w:=by
   simp[oy,run_underlying (E.d p)]
  have d:=d λa b=>e a (i7 _ b);simp only[List.forIn_cons,c9,o,ne_eq,not_false_eq_true,if_true,Jh E B h i w,di,r];exact d
theorem FW(A:C.Ok){q:TypeId}{d:TypeDesc}{k:TV}(E:(C.ti q).d=some d)(B:(dB C d k&&pI C q d)=true)(em:Bool)(w:World):(oy em 10000 q k.val).run C.P w=.ok () w:=by
 have e:=A.d E;rw[eN]at B;obtain⟨a,f⟩:=B;cases b:wide d with
 |false=>grind [MapKept.run_checkKey,oU]
 |true=>
  cases d<;>simp[wide]at b<;>cases k<;>simp[dB]at a
  ·obtain⟨rfl,c⟩:=a;obtain⟨g,⟨h,i⟩,j⟩:=Yv A (PY c);simp_all [PV,SL]
  simp_all [V6]
theorem V7{d:TypeDesc}{k:TV}{b:Bool}(A:(dB C d k&&b)=true)(w:World):(P3 k.val k.val).run P w=.ok k.val w:=by
 rw[eN]at A;have a:=A.1;cases f:wide d with
 |false=>exact MapKept.run_keyThatStays (oU f a)
 |true=>
  cases d<;>simp[wide]at f<;>cases k<;>simp[dB]at a
  ·simp[PW,SL]
  ·rename_i m c
   have o:qd 10000 (ac6 c).val (ac6 c).val=true:=by
    have g:=(IF _ _ _ a).2;simp only[acV,qd,DF c g,beq_self_eq_true,Bool.true_and,um];intro p r
    have:∀(l:List TV),(∀x∈l,∃k n,x=ac7 k n)->∀q∈(l.map acV).zip (l.map acV),qd 9999 q.1 q.2=true:=by
     intro l
     induction l with
     |nil=>simp_all
     |cons v l h=>
      intro i q e;rcases l8.1 e with rfl|e
      ·grind [eS,qd,acV]
      ·exact h (λu j=>i u (i7 _ j)) q e
    grind
   simp_all [P3]
theorem V8(A:C.Ok){w:World}{q:TypeId}{d:TypeDesc}{k:TV}{es:List (TV×TV×Nat)}(B:(C.ti q).d=some d)(E:(dB C d k&&pI C q d)=true)(H:dH C d es):
 ∃a,(Instr.findKey q k.val (cH es)).run C.P w=.ok a w/\a.map (·.2)=(eE k es).map acV:=by
 rcases Ji A B E es H w with⟨b,c,_⟩|⟨j,e,b,_,_,f,_⟩<;>simp_all
theorem P6(q:C.Ok){t:TypeId}(h:fM (C.ti t).d=true)(w:World):(zeroValue t).run C.P w=.ok (C.ti t).z.val w:=by
 obtain⟨a,c⟩:(C.ti t).d.isSome=true/\ny (C.ti t).d=false:=by
  cases b:(C.ti t).d with
  |none=>rw[b]at h;cases h
  |some d=>rw[b]at h;cases d<;>first|exact⟨rfl,rfl⟩|cases h
 obtain⟨i,e,f⟩:=q.zero t (ac3 a) a;simp_all [typeInfo,zeroValue]
theorem A7(A:C.Ok){t:TypeId}{m k:Option TV}{M X:Value}{ok:Bool}(q:I_ C t m k ok h K)(O:Rel m M)(U:Rel k X):
 ∃r v,K r/\Rel r v/\∀w:World,(∀(b:Nat)(es:List (TV×TV×Nat))(c:Nat),h[b]? =some (bX es c)->w.heap[b]? =some (bX es c))->(Instr.lookup t M X ok).run C.P w=.ok v w:=by
 unfold I_ at q;split at q
 ·rename_i V B p f u;obtain rfl:=O _ rfl;obtain rfl:=U _ rfl;split at q
  ·rename_i d D E;split at q
   ·rename_i F
    obtain⟨es,G,n,L⟩:∃es,dH C d es/\(Ex (C.ti B).sh λtv=>V5 (eE f es) (C.ti B).z=tv/\K (some (xS ok tv (Lz f es))))/\((p=none/\es=[])\/∃b c,p=some b/\h[b]? =some (bX es c)):=by
     cases p with
     |none=>exact⟨[],q.1,q.2,.inl ⟨rfl,rfl⟩⟩
     |some b=>
      obtain⟨es,c,l,G,n⟩:=q
      grind
    obtain⟨tv,_,g,N⟩:=sn _ _ n;unfold V5 at g;refine⟨_,(xS ok tv (eE f es).isSome).val,N,.some rfl,λw P=>?_⟩;obtain⟨a,o,j⟩:=V8 A (w:=w) D F G;have y:=λe=>FW A D F e w
    have Q:∀(M:Value),(∀s,s=(cH es).toArray->M=.map none/\s=#[]\/∃b c,M=.map (some b)/\w.heap[b]? =some (.map s c))->(Instr.lookup t M f.val ok).run C.P w=.ok (xS ok tv (eE f es).isSome).val w:=by
     intro M R;unfold Instr.lookup;rcases R _ rfl with⟨rfl,S⟩|⟨b,c,rfl,l⟩
     ·have H:=by simpa using S
      rw[H]at o;cases a with
      |none=>
       have i:eE f es=none:=by
        cases i:eE f es<;>simp_all
       rw[i]at g⊢;subst g;cases ok<;>simp[run_underlying (A.d u),y,o,P6 A E,xS,acV,acU]
      |some a=>
       have T:=by simpa[cH]using H
       rw[T]at j;cases j
     ·cases a with
      |none=>
       have i:eE f es=none:=by
        cases i:eE f es<;>simp_all
       rw[i]at g⊢;subst g;cases ok<;>simp[run_underlying (A.d u),qf l,y,o,P6 A E,xS,acV,acU]
      |some a=>
       obtain⟨x,n,I⟩:∃x,eE f es=some x/\a.2=x.val:=by
        cases i:eE f es with
        |none=>rw[i]at j;cases j
        |some x=>rw[i]at j;exact⟨x,rfl,by simpa using j⟩
       rw[n]at g⊢;simp only[Option.getD_some]at g;subst g;obtain⟨W,Y⟩:=a;simp only at I;subst I;cases ok<;>simp[run_underlying (A.d u),qf l,y,o,xS,acV,acU]
    refine Q _ λs J=>?_;rcases L with⟨rfl,rfl⟩|⟨b,c,rfl,l⟩
    ·left;exact⟨rfl,J⟩
    ·right;refine⟨b,c,rfl,?_⟩;rw[J];exact P b _ _ l
   ·exact q.elim
  ·exact q.elim
 ·exact q.elim
theorem Jj(A:C.Ok){ts:Array TypeId}{ty:TypeId}{p:Option Nat}(q:A0 C ts.toList p h K):
 ∃r v,K r/\Rel r v/\∀(B:Array Bool)(w:World),(∀(b:Nat)(es:List (TV×TV×Nat))(c:Nat),h[b]? =some (bX es c)->w.heap[b]? =some (bX es c))->(builtin .len ts ty B #[(TV.map p).val]).run C.P w=.ok (.value v) w:=by
 obtain⟨ts⟩:=ts;change A0 C ts p h K at q;unfold A0 at q;split at q
 ·split at q
  ·rename_i a;cases p with
   |none=>
    refine⟨_,_,q,.some rfl,λ_ w _=>?_⟩;unfold builtin B1;simp[run_underlying (A.d a),acV,goInt]
   |some b=>
    obtain⟨es,c,d,q⟩:=q;refine⟨_,_,q,.some rfl,λ_ w e=>?_⟩;have f:=e b _ _ d;unfold builtin B1;simp[run_underlying (A.d a),acV,goInt,qf f]
  simp_all
 simp_all
theorem NW(A:C.Ok){t:TypeId}{x:Option TV}{X:Value}(q:DE C t x K)(B:Rel x X):∃r v,K r/\Rel r v/\iJ C.P (Instr.makeInterface t X) v:=by
 unfold DE at q;split at q
 ·simp_all
 ·rename_i d tv b a;obtain rfl:=B _ rfl;refine⟨_,_,q,.some rfl,λw=>?_⟩;unfold Instr.makeInterface;simp only[c9,run_underlying (A.d a),di];rfl
 simp_all
theorem Jk(A:C.Ok){t s:TypeId}{x:Option TV}{X:Value}{ok:Bool}(q:I9 C x t ok K)(B:Rel x X):∃r v,K r/\Rel r v/\iJ C.P (Instr.typeAssert X s t ok) v:=by
 unfold I9 at q;split at q
 ·simp_all
 ·rename_i d o b a;obtain rfl:=B _ rfl;obtain⟨tv,_,c,e⟩:=sn _ _ q;refine⟨_,(match ok with|true=>TV.bg [tv,.bool true]|false=>tv).val,e,?_,λw=>?_⟩
  ·cases ok<;>exact .some rfl
  ·have f:(TV.one o).val=.iface t tv.val:=c;unfold Instr.typeAssert;rw[f];simp only[c9,run_underlying (A.d a),di];cases d<;>first|exact absurd a (b _)|(cases ok<;>simp[acV,acU])
 simp_all
theorem HY{t:TypeId}{x:TV}(q:FR C t x K):∃r,K r/\Rel r x.val:=by
 unfold FR at q;split at q
 ·split at q
  ·exact⟨_,q,.some rfl⟩
  ·obtain⟨tv,_,a,b⟩:=sn _ _ q;exact⟨_,b,.some a.symm⟩
 ·obtain⟨tv,_,a,b⟩:=sn _ _ q;exact⟨_,b,.some a.symm⟩
 ·exact⟨_,q,.some rfl⟩
theorem xT{env:Env}{a:Act}(q:dZ env a):∀l:List (Nat×Operand),vN (l.map λp=>(p.1,env.ev p.2)) (l.map λp=>(p.1,a.eval p.2))
 |[]=>trivial
 |p::l=>⟨rfl,q.rel p.2,xT q l⟩
theorem Di(H:C.Ok){b:Builtin}{ts:Array TypeId}{ty:TypeId}{A:List (Option TV)}{vs:Array Value}
 (B:match b,A with|.len,[some (.map p)]=>A0 C ts.toList p h K|_,_=>sq C b ts.toList A K)(q:NV A vs.toList):
 ∃r v,K r/\Rel r v/\∀(E:Array Bool)(w:World),(∀(b:Nat)(es:List (TV×TV×Nat))(c:Nat),h[b]? =some (bX es c)->w.heap[b]? =some (bX es c))->(builtin b ts ty E vs).run C.P w=.ok (.value v) w:=by
 split at B
 ·obtain⟨v,rfl⟩:∃v,vs=#[v]:=by
   obtain⟨vs⟩:=vs;cases vs with
   |nil=>exact q.elim
   |cons v vs=>cases vs with
    |nil=>simp_all
    |cons _ _=>exact q.2.elim
  obtain rfl:=q.1 _ rfl;exact Jj H B
 ·obtain⟨r,v,a,d,e⟩:=FV H B q;exact⟨r,v,a,d,λE w _=>e E w⟩
theorem EF{env:Env}{a:Act}(q:dZ env a):∀l:Option Operand,SK (l.map env.ev) (l.map a.eval)
 |none=>trivial
 |some x=>q.rel x
def abz(P:Program)(o:Oper)(a:Act)(h:af)(v:Value):Prop:=∀w:World,w.heap=h->(execOp a.eval o).run P w=.ok (.value v) w
def lD:Op->Bool
 |.load _ _=>true
 |.convert _ _ _=>true
 |.lookup _ _ _ _=>true
 |.call _=>true
 |_=>false
def EG(P:Program)(o:Oper)(a:Act)(h:af)(v:Value):Prop:=abz P o a h v/\(lD o.op=false->∀w:World,(execOp a.eval o).run P w=.ok (.value v) w)
theorem xU{o:Oper}{a:Act}{s:Sem Value}{v:Value}(B:lD o.op=true)(q:adj P s h v)(A:execOp a.eval o=(do pure (.value (<-s)))):EG P o a h v:=by
 refine⟨λw b=>?_,λc=>by simp_all⟩;rw[A];simp[q w b]
theorem gp{o:Oper}{a:Act}{s:Sem Value}{v:Value}(q:iJ P s v)(A:execOp a.eval o=(do pure (.value (<-s)))):EG P o a h v:=by
 have:∀w:World,(execOp a.eval o).run P w=.ok (.value v) w:=λw=>by
  rw[A];simp[q w]
 exact⟨λw _=>this w,λ_=>this⟩
theorem iX{o:Oper}{a:Act}{v:Value}(q:∀w:World,(execOp a.eval o).run P w=.ok (.value v) w):EG P o a h v:=⟨λw _=>q w,λ_=>q⟩
theorem FX(B:C.Ok){o:Oper}{env:Env}{a:Act}(q:Ym C o env.ev h K)(A:dZ env a):∃r v,K r/\Rel r v/\EG C.P o a h v:=by
 unfold Ym at q;split at q
 ·rename_i x e;exact⟨_,_,q,A.rel x,iX λw=>by simp[execOp,e]⟩
 ·rename_i x e;exact⟨_,_,q,A.rel x,iX λw=>by simp[execOp,e]⟩
 ·rename_i c x y e;split at q
  ·rename_i G;refine⟨_,_,q,A.rel x,iX λw=>?_⟩;have:=A.known G;simp_all [execOp,asBool,acV]
  ·rename_i G;refine⟨_,_,q,A.rel y,iX λw=>?_⟩;have:=A.known G;simp_all [execOp,asBool,acV]
  simp_all
 ·rename_i t parts e;obtain⟨r,v,j,n,u⟩:=LF B (parts:=parts.map λp=>(p.1,a.eval p.2)) q (by simp_all [xT])
  grind [execOp,gp]
 ·rename_i t x e;split at q
  ·rename_i p z;obtain⟨l,rfl,q⟩:=elim_some q;obtain⟨r,v,j,n,u⟩:=Ew B q;refine⟨r,v,j,n,xU (by rw[e];rfl) u ?_⟩;have:=A.known z;simp_all [execOp,acV]
  simp_all
 ·rename_i x e;split at q
  ·rename_i p z;obtain⟨l,rfl,q⟩:=elim_some q;refine⟨_,_,q,.some rfl,iX λw=>?_⟩;have:=A.known z;simp_all [execOp,acV]
  ·rename_i g Q R z;refine⟨_,_,q,.some rfl,iX λw=>?_⟩;have:=A.known z;simp_all [execOp,acV]
  simp_all
 ·rename_i op t x y ty e;obtain⟨r,v,j,n,u⟩:=NT B q (A.rel x) (A.rel y) x y
  grind [execOp,gp]
 ·rename_i op t x e;obtain⟨r,v,j,n,u⟩:=SJ q (A.rel x);exact⟨r,v,j,n,gp u (by simp[execOp,e])⟩
 ·rename_i s d x e;obtain⟨r,v,j,n,u⟩:=Ey B q (A.rel x);exact⟨r,v,j,n,xU (by rw[e];rfl) (λw E=>u w (by simp_all)) (by simp[execOp,e])⟩
 ·rename_i t x f e;obtain⟨r,v,j,n,u⟩:=Ez B q (A.rel x)
  grind [execOp,gp]
 ·rename_i t x f e;obtain⟨r,v,j,n,u⟩:=LA B q (A.rel x)
  grind [execOp,gp]
 ·rename_i t x i e;obtain⟨r,v,j,n,u⟩:=EA B q (A.rel x) (A.rel i)
  grind [execOp,gp]
 ·rename_i t x i e;obtain⟨r,v,j,n,u⟩:=LB B q (A.rel x) (A.rel i)
  grind [execOp,gp]
 ·rename_i x i e;split at q
  ·rename_i F z;split at q
   ·rename_i v D;obtain⟨r,q,H⟩:=HY q;refine⟨_,_,q,H,iX λw=>?_⟩;have j:=A.known z
    have n:(acU F)[i]? =some v.val:=by
     exact Jf F i v D
    simp[execOp,e,j,acV,Instr.extract,n]
   ·exact q.elim
  ·exact q.elim
 ·rename_i t m k ok e;obtain⟨r,v,j,n,u⟩:=A7 B q (A.rel m) (A.rel k);exact⟨r,v,j,n,xU (by rw[e];rfl) (λw E=>u w (by rw[E];exact λ_ _ _ h=>h)) (by simp[execOp,e])⟩
 ·rename_i t x e;obtain⟨r,v,j,n,u⟩:=NW B q (A.rel x);exact⟨r,v,j,n,gp u (by simp[execOp,e])⟩
 ·rename_i x s t ok e;obtain⟨r,v,j,n,u⟩:=Jk (s:=s) B q (A.rel x);exact⟨r,v,j,n,gp u (by simp[execOp,e])⟩
 ·rename_i t x lo D e;obtain⟨r,v,j,n,u⟩:=LC B q (A.rel x) (EF A lo) (EF A D);exact⟨r,v,j,n,gp u (by simp[execOp,e])⟩
 ·rename_i t x lo D m e;obtain⟨r,v,j,n,u⟩:=Jd B q (A.rel x) (EF A lo) (EF A D) (A.rel m);exact⟨r,v,j,n,gp u (by simp[execOp,e])⟩
 ·rename_i f first cap e
  split at q
  ·rename_i F I j n;refine⟨_,_,q,.some rfl,iX λw=>?_⟩;have J:=ga _ _ _ j (A.FU first.toList);have L:=ga _ _ _ n (A.FU cap.toList);have M:first.map a.eval=(acU F).toArray:=by apply eR.1;simpa using J
   have N:cap.map a.eval=(acU I).toArray:=by apply eR.1;simpa using L
   simp[execOp,e,Instr.makeFunc,M,N,acV]
  ·exact q.elim
 ·rename_i c e;split at q
  ·rename_i b O;obtain⟨r,v,j,n,u⟩:=Di B (ty:=o.type) (vs:=c.args.map a.eval) q (by simpa using A.FU c.args.toList);refine⟨r,v,j,n,λw E=>?_,λz=>by rw[e]at z;cases z⟩;have:=λP=>u P w (by rw[E];exact λ_ _ _ h=>h);simp[execOp,e,resolve,O,invoke,this]
  ·exact q.elim
 ·exact q.elim
end
end Go.Vc
namespace Go.Vc
open Go
structure cN(w w':World):Prop where
 os:w'.os=w.os
 tape:w'.tape=w.tape
 output:w'.output=w.output
 drawn:w.drawn<=w'.drawn
theorem cN.refl(w:World):cN w w:=⟨rfl,rfl,rfl,eo _⟩
theorem cN.trans{a b c:World}(h:cN a b)(k:cN b c):cN a c:=⟨k.os.trans h.os,k.tape.trans h.tape,k.output.trans h.output,G0 h.drawn k.drawn⟩
structure fS(s:Bool)(w w':World):Prop where
 os:w'.os=w.os
 tape:w'.tape=w.tape
 output:w'.output=w.output
 drawn:s=true->w.drawn<=w'.drawn
theorem fS.refl{s:Bool}(w:World):fS s w w:=⟨rfl,rfl,rfl,λ_=>eo _⟩
theorem fS.trans{s:Bool}{a b c:World}(h:fS s a b)(k:fS s b c):fS s a c:=⟨k.os.trans h.os,k.tape.trans h.tape,k.output.trans h.output,λe=>G0 (h.drawn e) (k.drawn e)⟩
theorem cN.toS{s:Bool}{w q:World}(h:cN w q):fS s w q:=⟨h.os,h.tape,h.output,λ_=>h.drawn⟩
def qA(s:Bool)(P:Program)(f:FuncId)(args:List Value)(h:af)(R:Value->af->Prop):Prop:=
 ∀w:World,w.heap=h->Calls P f args.toArray w λe a=>fS s w a/\∃v,e=.returned v/\R v a.heap
def bC(P:Program)(f:FuncId)(args:List Value)(h:af)(R:Value->af->Prop):Prop:=qA false P f args h R
def jc(P:Program)(f:FuncId)(args:List Value)(h:af)(R:Value->af->Prop):Prop:=qA true P f args h R
theorem qA.mono{s:Bool}{P:Program}{f:FuncId}{args:List Value}{h:af}{R R':Value->af->Prop}(q:qA s P f args h R)(A:∀v a,R v a->R' v a):qA s P f args h R':=
 λw b=>(q w b).mono λ_ _⟨c,v,d,e⟩=>⟨c,v,d,A _ _ e⟩
theorem jc.weak{P:Program}{f:FuncId}{args:List Value}{h:af}{R:Value->af->Prop}(q:jc P f args h R):bC P f args h R:=
 λw b=>(q w b).mono λ_ _⟨a,c⟩=>⟨⟨a.os,a.tape,a.output,λe=>by cases e⟩,c⟩
theorem bC.mono{P:Program}{f:FuncId}{args:List Value}{h:af}{R R':Value->af->Prop}(q:bC P f args h R)(A:∀v a,R v a->R' v a):bC P f args h R':=
 λw b=>(q w b).mono λ_ _⟨c,v,d,e⟩=>⟨c,v,d,A _ _ e⟩
theorem Yw(h:af)(b o:Nat)(v:Value)(q A:Nat):ng (FQ h b o v) q A=if b=q/\o=A/\(ng h b o).isSome=true then some v else ng h q A:=by
 unfold ng FQ
 grind
theorem Yx(h:af)(b o:Nat)(v:Value)(q A:Nat):frz (FQ h b o v) q A=frz h q A:=by
 unfold frz FQ
 grind
theorem Yy{h:af}{b o n:Nat}{q A:Nat}{v:Value}(B:gT h b o n):gT (FQ h q A v) b o n:=by
 intro j a;obtain⟨c,d⟩:=B j a
 grind [Yx,Yw]
section
variable{P:Program}{C:Ctx}
theorem SM{w:World}{b o:Nat}{v:Value}(q:(ng w.heap b o).isSome=true)(A:frz w.heap b o=false)(B:bU v=true):
 (store ⟨b,o,none⟩ v).run P w=.ok () (w.setCell ⟨b,o,none⟩ v):=by
 obtain⟨u,a⟩:=i6.1 q;have c:w.cell? ⟨b,o,none⟩=some u:=by rw[cell?_eq,a]
 have d:w.frozen? ⟨b,o,none⟩=false:=A;cases v<;>first|(simp[bU]at B;done)|simp[store,Sem.run,c,d]
theorem iK(l:Loc):∀(vs:List Value)(i:Nat)(w:World),gT w.heap l.b (l.o+i) vs.length->(∀v∈vs,bU v=true)->
 ∃a,(storeCells l.addr vs i).run P w=.ok () a/\a.heap=tI w.heap l.b (l.o+i) vs/\cN w a
 |[],i,w,_,_=>⟨w,rfl,rfl,cN.refl w⟩
 |v::vs,i,w,d,e=>by
  have c:=d 0 (by simp);simp only[Nat.add_zero]at c;have k:=SM (P:=P) c.1 c.2 (e v (by simp))
  have f:gT (w.setCell ⟨l.b,l.o+i,none⟩ v).heap l.b (l.o+(i+1)) vs.length:=by
   refine Yy (λj m=>?_);have:=d (j+1) (by grind)
   grind
  obtain⟨a,n,g,h⟩:=iK l vs (i+1) _ f (λu o=>e u (by grind));refine⟨a,?_,?_,cN.trans (b:=w.setCell ⟨l.b,l.o+i,none⟩ v) ⟨rfl,rfl,rfl,eo _⟩ h⟩
  ·simp only[storeCells,c9,mE];show((store ⟨l.b,l.o+i,none⟩ v).run P w).andThen _=_;simp_all
  ·rw[g];rfl
mutual
def TV.plain:TV->Bool
 |.bg _|.any _=>false
 |.agg a=>ak.plain a
 |_=>true
def ak.plain:List TV->Bool
 |[]=>true
 |x::a=>TV.plain x&&ak.plain a
end
mutual
theorem TV.gU:∀t:TV,t.plain=true->∀v∈t.cells,bU v=true
 |.int ..,_,v,a|.bool ..,_,v,a|.str ..,_,v,a|.ptr ..,_,v,a|.map ..,_,v,a|.fn ..,_,v,a=>by
  simp only[acS,G1]at a;subst a;rfl
 |.slice ..,_,v,a=>by simp only[acS,G1]at a;subst a;rfl
 |.one x,_,v,a=>by simp only[acS,G1]at a;subst a;exact x.h
 |.bytes n b,_,v,a=>by simp only[acS,pn]at a;obtain⟨c,_,rfl⟩:=a;rfl
 |.words k n b,_,v,a=>by simp only[acS,pn]at a;obtain⟨c,_,rfl⟩:=a;rfl
 |.bg d,h,v,a=>by simp[TV.plain]at h
 |.any x,h,v,a=>by simp[TV.plain]at h
 |.agg d,h,v,a=>ak.gU d (by simp_all [TV.plain]) v (by simp_all [acS])
theorem ak.gU:∀ts:List TV,ak.plain ts=true->∀v∈acT ts,bU v=true
 |[],_,v,a=>by grind [acT]
 |x::b,h,v,a=>by
  simp only[ak.plain,eN]at h;simp only[acT,vg]at a;rcases a with a|a
  ·exact TV.gU x h.1 v a
  ·exact ak.gU b h.2 v a
end
def cn(h:af)(s:Sl)(size:Nat)(q:List Value):Prop:=
 q.length=s.len*size/\(s.len=0/\s.a=none\/∃l,s.a=some l/\∀j,j<q.length->ng h l.b (l.o+j)=q[j]?)
def cq(z:TV):Nat->List Value
 |0=>[]
 |n+1=>z.cells++cq z n
def au(C:Ctx)(e:TypeId)(s:Sl)(n:Nat)(new:List Value)(h:af)(K:Sl->af->Prop):Prop:=
 ∃old:List Value,cn h s (C.ti e).size old/\(s.len+n)*(C.ti e).bytes<=70368744177664/\0<(C.ti e).bytes/\
  (s.len+n<=s.cap->(n=0\/s.a.isSome=true)/\∀l,s.a=some l->gT h l.b (l.o+s.len*(C.ti e).size) new.length/\
   K ⟨some l,s.len+n,s.cap⟩ (tI h l.b (l.o+s.len*(C.ti e).size) new))/\
  (s.len+n<=s.cap->s.a=none->K (@acg s.a (s.len+n) s.cap s.HX) h)/\
  (s.cap<s.len+n->∀c,s.len+n<=c->K ⟨some ⟨h.size,0⟩,s.len+n,c⟩ (h.push (row (old++new++cq (C.ti e).z (c-(s.len+n))) e)))
theorem SN{w:World}{l:Loc}{q:List Value}(h:∀j,j<q.length->ng w.heap l.b (l.o+j)=q[j]?):∀j v,q[j]? =some v->w.cell? (l.addr.add j)=some v:=by
 intro j v a;have b:=(lu.1 a).1;rw[mE];show w.cell? ⟨l.b,l.o+j,none⟩=_;simp_all [cell?_eq]
theorem zG{w:World}{s:Sl}{size n:Nat}{q:List Value}(B:q.length=n*size)(A:n=0/\s.a=none\/∃l,s.a=some l/\∀j,j<q.length->ng w.heap l.b (l.o+j)=q[j]?):(vk size n (bu s)).run P w=.ok q.toArray w:=by
 unfold bu;rcases A with⟨b,a⟩|⟨l,a,c⟩
 ·subst b;have:q=[]:=n_ ω;subst this;cases d:s.p<;>simp_all [run_firstCells_some,run_firstCells_none]
 ·rw[abU a]
  grind [run_firstCells_some,SN]
theorem sx{w:World}{s:Sl}{size:Nat}{q:List Value}(h:cn w.heap s size q):(vk size s.len (bu s)).run P w=.ok q.toArray w:=zG h.1 h.2
theorem e_(z:TV)(n:Nat):l_ z.cells.toArray n=(cq z n).toArray:=by
 unfold l_;apply eR.1
 have b:∀m,(cq z m).length=m*z.cells.length:=by
  intro m
  induction m with
  |zero=>simp[cq]
  |succ m a=>simp[cq,a,od,Nat.add_comm]
 have c:∀m i,i<m*z.cells.length->(cq z m)[i]? =z.cells[i%z.cells.length]?:=by
  intro m
  induction m with
  |zero=>omega
  |succ m a=>
   grind [qb,Nat.mod_eq_of_lt,oe,cq,Nat.mod_eq_sub_mod,od]
 apply List.ext_getElem?
 grind
theorem A9(q:C.Ok){t u ty e:TypeId}{s:Sl}{n:Nat}{new:List Value}{h:af}{K:Option TV->af->Prop}(I:au C e s n new h λD F=>K (some (.slice D)) F)
 (J:(C.ti t).d=some (.slice e))(A:(C.ti e).d.isSome=true)(B:(∃k,C.P.underlying u=some (.slice k))\/C.P.underlying u=some .string){X:Value}(M:∀v∈new,bU v=true)
 (E:∀w:World,(G5 X).run C.P w=.ok n w)(H:∀w:World,w.heap=h->(vk (C.ti e).size n X).run C.P w=.ok new.toArray w)
 (aw:ny (C.ti e).d=false)(_hnl:new.length=n*(C.ti e).size)
 (w:World)(O:w.heap=h):∃r v g,(qa #[t,u] ty #[(ac4 s).val,X]).run C.P w=.ok v g/\K r g.heap/\Rel r v/\cN w g:=by
 subst O;obtain⟨old,G,aE,L,x,N,Q⟩:=I;obtain⟨d',R⟩:=i6.1 A;obtain⟨i,c,a0,S⟩:=q.info R;obtain⟨T,a1,a2⟩:=q.zero e (ac3 A) A;obtain rfl:i=T:=by simp_all
 have U:i.zero=some (C.ti e).z.val:=by
  simp_all
 have o:=q.d J;have j:C.P.cellsOf e=(C.ti e).size:=by simp_all [hU]
 have a3:=by
  have:s.len+n<=(s.len+n)*(C.ti e).bytes:=Nat.le_mul_of_pos_right _ L;omega
 by_cases f:s.len+n<=s.cap
 ·cases m:s.a with
  |none=>
   obtain⟨a,_⟩:=x f;have a:n=0:=by rcases a with a|a;exact a;rw[m]at a;cases a
   have V:new=[]:=n_ (by rw[_hnl,a,Nat.zero_mul]);subst V;refine⟨_,_,w,?_,N f m,.some rfl,cN.refl w⟩;have W:(@acg s.a (s.len+n) s.cap s.HX).p=s.p:=rfl;unfold qa;simp only[acV,bu,W];cases hp:s.p<;>rcases B with⟨k,b⟩|b<;>simp[run_underlying o,run_sizeOf w c,run_underlying b,f,j,H w rfl,E,storeCells]
  |some l=>
   obtain⟨_,Y⟩:=x f;obtain⟨Z,ab⟩:=Y l m;obtain⟨g,e1,e2,e3⟩:=iK (P:=C.P) ⟨l.b,l.o+s.len*(C.ti e).size⟩ new 0 w Z M;refine⟨_,_,g,?_,by rw[e2];exact ab,.some rfl,e3⟩;unfold qa;simp only[acV,bu,abU m,abU (s:=⟨some l,s.len+n,s.cap⟩) rfl];rcases B with⟨k,b⟩|b<;>simp[run_underlying o,run_sizeOf w c,run_underlying b,f,j,H w rfl,E,mE,e1]
 ·have ac:=nextslicecap_le (need:=s.len+n) (old:=s.cap) ω
  have ad:¬(281474976710656<Builtin.nextslicecap (s.len+n) s.cap*(C.ti e).bytes):=by
   have:=xg (C.ti e).bytes ac;rw[Nat.mul_assoc]at this;omega
  have a4:¬(9223372036854775807<((s.len:Int)+(n:Int))):=ω;have y:=sx (P:=C.P) (w:=w.drew) G;have ae:=H w.drew rfl;refine⟨some (.slice ⟨some ⟨w.heap.size,0⟩,s.len+n,grownCap w (s.len+n) s.cap e⟩),_,w.drew.alloc (.cells (old.toArray++(new.toArray++l_ (C.ti e).z.cells.toArray (grownCap w (s.len+n) s.cap e-(s.len+n)))) e),?_,?_,.some rfl,⟨rfl,rfl,rfl,G6 _⟩⟩
  ·unfold qa;simp only[acV,bu]at y⊢;have al:¬(9223372036854775807<((s.len:Int)+(n:Int))/\(C.ti e).bytes=0):=ω;have am:=run_typeInfo (P:=C.P) (w:=w.drew) c;have ao:=run_sizeOf (P:=C.P) w c;have ap:=run_typeInfo (P:=C.P) (w:=w) c;have ar:(zeroValue e).run C.P w.drew=.ok (C.ti e).z.val w.drew:=by simp[zeroValue,typeInfo,c,U]
   rcases B with⟨k,b⟩|b
   all_goals simp[run_underlying o,ao,ap,run_underlying b,E,f,j,S,ad]
   all_goals simp[al,Question.forced,am,y,ae,ar,newRow,grownCap,ac1,adQ,abQ]
  ·have j:s.len+n<=grownCap w (s.len+n) s.cap e:=by
    simp only[grownCap,Question.cut];omega
   have:=Q ω _ j;rw[e_];show K _ (w.heap.push _);unfold row at this;simpa using this
def xV(C:Ctx)(ts:List TypeId)(q:List (Option TV))(h:af)(K:Option TV->af->Prop):Prop:=
 match ts,q with
 |[t,u],[some (.slice s),some (.slice x)]=>match(C.ti t).d,(C.ti u).d with
  |some (.slice e),some (.slice _)=>match fM (C.ti e).d with
   |true=>∃new,cn h x (C.ti e).size new/\(∀v∈new,bU v=true)/\au C e s x.len new h λa b=>K (some (.slice a)) b
   |false=>False
  |_,_=>False
 |[t,u],[some (.slice s),some (.str x)]=>match(C.ti t).d,(C.ti u).d with
  |some (.slice e),some .string=>match(C.ti e).d with
   |some (.int .u8)=>au C e s x.length (x.map λc=>.int .u8 (c.toNat:Int)) h λa b=>K (some (.slice a)) b
   |_=>False
  |_,_=>False
 |[t,u],[some (.slice s),some (.int .i64 n)]=>match(C.ti t).d,(C.ti u).d with
  |some (.slice e),some (.int _)=>match(C.ti e).d,(C.ti e).z with
   |some (.int .u8),.int .u8 z=>0<=n/\n*((C.ti e).bytes:Int)<=70368744177664/\au C e s n.toNat (ec n.toNat (.int .u8 z)) h λa b=>K (some (.slice a)) b
   |_,_=>False
  |_,_=>False
 |_,_=>False
theorem gQ{d:Option TypeDesc}(h:fM d=true):d.isSome=true/\ny d=false:=by
 cases d with
 |none=>cases h
 |some d=>cases d<;>first|exact⟨rfl,rfl⟩|cases h
theorem Mm{x y:Option TV}{vs:List Value}(h:NV [x,y] vs):∃v u,vs=[v,u]/\Rel x v/\Rel y u:=by
 cases vs with
 |nil=>exact h.elim
 |cons v vs=>cases vs with
  |nil=>exact h.2.elim
  |cons u vs=>cases vs with
   |nil=>exact⟨v,u,rfl,h.1,h.2.1⟩
   |cons _ _=>exact h.2.2.elim
theorem P8(z:Int):∀n,cq (.int .u8 z) n=ec n (.int .u8 z)
 |0=>rfl
 |n+1=>by rw[cq,P8 z n];rfl
theorem HZ(A:C.Ok){t u ty e:TypeId}{s:Sl}{m:Int}{k:IntKind}{h:af}{K:Option TV->af->Prop}(Z:0<=m)(hm:m*((C.ti e).bytes:Int)<=70368744177664)(hv:au C e s m.toNat (cq (C.ti e).z m.toNat) h λX Y=>K (some (.slice X)) Y)
 (ht:(C.ti t).d=some (.slice e))(B:(C.ti e).d.isSome=true)(q:C.P.underlying u=some (.int k))(a0:ny (C.ti e).d=false)(U:∀v∈cq (C.ti e).z m.toNat,bU v=true)
 (w:World)(hw:w.heap=h):∃r v j,(qa #[t,u] ty #[(ac4 s).val,.int .i64 m]).run C.P w=.ok v j/\K r j.heap/\Rel r v/\cN w j:=by
 subst hw;obtain⟨old,ab,ac,ad,J,R,S⟩:=hv;obtain⟨d',ae⟩:=i6.1 B;obtain⟨i,g,a1,D⟩:=A.info ae;obtain⟨i2,a2,a3⟩:=A.zero e (ac3 B) B;obtain rfl:i=i2:=by simp_all
 have L:i.zero=some (C.ti e).z.val:=by
  simp_all
 have al:(C.ti e).z.size=(C.ti e).size:=by
  rcases A.size e (ac3 B)with h1|⟨_,h1⟩<;>simp_all
 have o:=A.d ht;have c:C.P.cellsOf e=(C.ti e).size:=by simp_all [hU]
 obtain⟨n,rfl⟩:=Int.eq_ofNat_of_zero_le Z;simp only[Int.toNat_natCast]at ac J R S U
 have a4:=by
  have:s.len+n<=(s.len+n)*(C.ti e).bytes:=Nat.le_mul_of_pos_right _ ad;omega
 have E:IntKind.wrap .i64 (n:Int)=(n:Int):=Su _ ⟨ω,ω⟩;have F:¬((n:Int)<0):=ω
 have G:¬(281474976710656<(n:Int)*((C.ti e).bytes:Int)):=by
  rw[<-Int.natCast_mul];omega
 have am:(C.ti e).z.cells.length=(C.ti e).size:=by rw[ac0,al]
 have M:n*(C.ti e).size=0->cq (C.ti e).z n=[]:=λh=>by
  apply n_;rw[<-qc,<-e_];simp[l_,am,h]
 have a5:∀w:World,(if n*(C.ti e).size=0 then(pure #[]:Sem (Array Value))else(zeroValue e).bind λz=>pure (l_ z.cells n)).run C.P w=.ok (cq (C.ti e).z n).toArray w:=by
  intro w;have H:(zeroValue e).run C.P w=.ok (C.ti e).z.val w:=by simp[zeroValue,typeInfo,g,L]
  by_cases a:n*(C.ti e).size=0
  ·rw[if_pos a,M a];rfl
  ·rw[if_neg a];show((zeroValue e)>>=λz=>pure (l_ z.cells n)).run C.P w=_;simp[H,ac1,e_]
 have x:=run_typeInfo (P:=C.P) (w:=w) g;have y:=run_sizeOf (P:=C.P) w g;by_cases f:s.len+n<=s.cap
 ·cases I:s.a with
  |none=>
   obtain⟨b,_⟩:=J f;have b:n=0:=by rcases b with b|b;exact b;rw[I]at b;cases b
   refine⟨_,_,w,?_,R f I,.some rfl,cN.refl w⟩;subst b;have ao:(@acg s.a (s.len+0) s.cap s.HX).p=s.p:=rfl;unfold qa;simp only[acV,bu,ao];have ap:s.len<=s.cap:=ω;cases hp:s.p<;>simp[run_underlying o,run_underlying q,y,x,c,asInt,asIntOf,ap,storeCells,show IntKind.wrap .i64 0=0 from rfl]
  |some l=>
   obtain⟨_,hl⟩:=J f;obtain⟨hk,ar⟩:=hl l I;obtain⟨j,N,e2,e3⟩:=iK (P:=C.P) ⟨l.b,l.o+s.len*(C.ti e).size⟩ (cq (C.ti e).z n) 0 w hk U;refine⟨_,_,j,?_,by rw[e2];exact ar,.some rfl,e3⟩;have aw:(zeroValue e).run C.P w=.ok (C.ti e).z.val w:=by simp[zeroValue,typeInfo,g,L]
   unfold qa;simp only[acV,bu,abU I,abU (s:=⟨some l,s.len+n,s.cap⟩) rfl];by_cases a:n*(C.ti e).size=0
   ·have O:=M a;rw[O]at N;simp[run_underlying o,run_underlying q,y,x,c,asInt,asIntOf,f,E,F,D,G,a,mE,N]
   ·simp[run_underlying o,run_underlying q,y,x,c,asInt,asIntOf,f,E,F,D,G,a,aw,ac1,e_,mE,N]
 ·have aE:=nextslicecap_le (need:=s.len+n) (old:=s.cap) ω
  have T:¬(281474976710656<Builtin.nextslicecap (s.len+n) s.cap*(C.ti e).bytes):=by
   have:=xg (C.ti e).bytes aE;rw[Nat.mul_assoc]at this;omega
  have V:¬(9223372036854775807<((s.len:Int)+(n:Int))):=ω;have Q:=sx (P:=C.P) (w:=w.drew) ab;refine⟨some (.slice ⟨some ⟨w.heap.size,0⟩,s.len+n,grownCap w (s.len+n) s.cap e⟩),_,w.drew.alloc (.cells (old.toArray++((cq (C.ti e).z n).toArray++l_ (C.ti e).z.cells.toArray (grownCap w (s.len+n) s.cap e-(s.len+n)))) e),?_,?_,.some rfl,⟨rfl,rfl,rfl,G6 _⟩⟩
  ·unfold qa;simp only[acV,bu]at Q⊢;have W:=run_typeInfo (P:=C.P) (w:=w.drew) g;have H:(zeroValue e).run C.P w.drew=.ok (C.ti e).z.val w.drew:=by simp[zeroValue,typeInfo,g,L]
   by_cases a:n*(C.ti e).size=0
   ·have O:=M a;simp[run_underlying o,run_underlying q,y,x,c,asInt,asIntOf,f,E,F,D,G,T];simp[V,a,O,Question.forced,W,Q,H,newRow,grownCap,ac1,adQ,abQ]
   ·simp[run_underlying o,run_underlying q,y,x,c,asInt,asIntOf,f,E,F,D,G,T];simp[V,a,Question.forced,W,Q,H,newRow,grownCap,ac1,e_,adQ,abQ]
  ·have c:s.len+n<=grownCap w (s.len+n) s.cap e:=by
    simp only[grownCap,Question.cut];omega
   have:=S ω _ c;rw[e_];show K _ (w.heap.push _);unfold row at this;simpa using this
theorem FY(A:C.Ok){ts:Array TypeId}{ty:TypeId}{E:List (Option TV)}{vs:Array Value}{h:af}{K:Option TV->af->Prop}(q:xV C ts.toList E h K)(H:NV E vs.toList)
 (w:World)(B:w.heap=h):∃r v i,(qa ts ty vs).run C.P w=.ok v i/\K r i.heap/\Rel r v/\cN w i:=by
 obtain⟨ts⟩:=ts;obtain⟨vs⟩:=vs;change xV C ts E h K at q;change NV E vs at H;unfold xV at q;split at q
 ·obtain⟨v,u,rfl,a,b⟩:=Mm H;obtain rfl:=a _ rfl;obtain rfl:=b _ rfl;split at q
  ·rename_i e J d f;split at q
   ·rename_i p;obtain⟨s,x⟩:=gQ p;obtain⟨new,j,y,q⟩:=q;exact A9 A q d s (.inl ⟨_,A.d f⟩) y (λw=>by simp[acV,bu,G5]) (λw B=>by subst B;exact sx j) x j.1 w B
   ·exact q.elim
  ·exact q.elim
 ·obtain⟨v,u,rfl,a,b⟩:=Mm H;obtain rfl:=a _ rfl;obtain rfl:=b _ rfl;split at q
  ·rename_i e d f;split at q
   ·rename_i g
    have D:(C.ti e).size=1:=by
     have l:=ac3 (C:=C) (t:=e) (by simp[g]);rcases A.size e l with a|⟨a,_⟩
     ·simp[g,ny]at a
     ·have b:(C.ti e).sh=.int .u8:=by rw[A.gH e l];simp[TI.of,ru,A.d g]
      rw[b]at a;rw[<-a];rfl
    refine A9 A q d (by simp[g]) (.inr (A.d f)) ?_ (λw=>by simp[acV,G5,bsize]) (λw B=>?_) (by simp[g,ny]) (by simp[D]) w B
    ·intro v q;simp only[pn]at q;obtain⟨c,_,rfl⟩:=q;rfl
    ·simp[acV,vk,ByteArray.data_extract]
   ·exact q.elim
  ·exact q.elim
 ·obtain⟨v,u,rfl,a,b⟩:=Mm H;obtain rfl:=a _ rfl;obtain rfl:=b _ rfl;split at q
  ·rename_i _ n _ _ e k d f;split at q
   ·rename_i z m F;obtain⟨G,I,q⟩:=q
    have o:cq (C.ti e).z n.toNat=ec n.toNat (.int .u8 z):=by
     rw[F];exact P8 z _
    exact HZ A G I (by rw[o];exact q) d (by rw[m];rfl) (A.d f) (by rw[m];rfl) (by
     rw[o];intro v q;rw[List.eq_of_mem_replicate q];rfl) w B
   ·exact q.elim
  ·exact q.elim
 ·exact q.elim
def DG(bs:List UInt8)(c:Nat)(e:TypeId):Obj:=.cells ((bs.map λ(b:UInt8)=>dr .u8 (b.toNat:Int))++ec (c-bs.length) (dr .u8 0)).toArray e (c,c+1)
def EH(C:Ctx)(t:TypeId)(m k x:Option TV)(h:af)(K:Option TV->af->Prop):Prop:=
 match(C.ti t).d,m,k,x with
 |some (.map b _),some (.map p),some a,some tv=>match(C.ti b).d with
  |some d=>match dB C d a&&pI C b d with
   |true=>Nn p λr=>∃es c,h[r]? =some (bX es c)/\dH C d es/\Bind (h.setIfInBounds r (bX (jb a tv c es) (fJ a c es))) λe=>K none e
   |false=>False
  |none=>False
 |_,_,_,_=>False
def EI(C:Ctx)(ts:List TypeId)(m k:Option TV)(h:af)(K:Option TV->af->Prop):Prop:=
 match ts,m,k with
 |t::_,some (.map p),some a=>match(C.ti t).d with
  |some (.map b _)=>match(C.ti b).d with
   |some d=>match dB C d a&&pI C b d with
    |true=>Nn p λr=>∃es c,h[r]? =some (bX es c)/\dH C d es/\Bind (h.setIfInBounds r (bX (fN a es) c)) λe=>K (some (.bg [])) e
    |false=>False
   |none=>False
  |_=>False
 |_,_,_=>False
def Yz(p:Option Loc)(h:af)(K:Option TV->af->Prop):Prop:=
 Nn p λl=>l.o=0/\∃b a c0 seen es c,h[l.b]? =some (.mapIter (some b) a seen c0)/\h[b]? =some (bX es c)/\(∀e∈es,e.2.2<a)/\a<=c0/\
  ((∀e∈es,seen.contains e.2.2=true)->K (some (.bg [.bool false])) h)/\
  ∀e∈es,seen.contains e.2.2=false->K (some (.bg [.bool true,e.1,e.2.1])) (h.setIfInBounds l.b (.mapIter (some b) a (seen.push e.2.2) c))
def UR(p:Option Loc)(h:af)(K:Option TV->Prop):Prop:=
 Nn p λl=>l.o=0/\∃a b seen es c e,h[l.b]? =some (.mapIter (some a) b (Array.push seen e.2.2) c)/\h[a]? =some (bX es c)/\e∈es/\(es.map (·.2.2)).Nodup/\
  K (some (.bg [.any (acV e.1),.any (acV e.2.1)]))
def NX(C:Ctx)(ts:List TypeId)(q:List (Option TV))(h:af)(K:Option TV->af->Prop):Prop:=
 match ts,q with
 |[t,u],[some (.slice d),some (.slice s)]=>match(C.ti t).d,(C.ti u).d with
  |some (.slice e),some (.slice _)=>match fM (C.ti e).d with
   |true=>∃new,cn h ⟨s.a,ff s.len d.len,ff s.len d.len⟩ (C.ti e).size new/\(∀v∈new,bU v=true)/\(d.a=none->match d.q with|none=>K (some (.int .i64 (ff s.len d.len:Nat))) h|some _=>False)/\
    ∀l,d.a=some l->gT h l.b l.o new.length/\Bind (tI h l.b l.o new) λa=>K (some (.int .i64 (ff s.len d.len:Nat))) a
   |false=>False
  |_,_=>False
 |[t,u],[some (.slice d),some (.str x)]=>match(C.ti t).d,(C.ti u).d with
  |some (.slice e),some .string=>match(C.ti e).d with
   |some (.int .u8)=>(d.a=none->match d.q with|none=>K (some (.int .i64 (ff x.length d.len:Nat))) h|some _=>False)/\
    ∀l,d.a=some l->gT h l.b l.o (ff x.length d.len)/\Bind (tI h l.b l.o ((x.take (ff x.length d.len)).map λc=>dr .u8 (c.toNat:Int))) λa=>K (some (.int .i64 (ff x.length d.len:Nat))) a
   |_=>False
  |_,_=>False
 |_,_=>False
theorem NY{C:Ctx}(A:C.Ok){ts:Array TypeId}{ty:TypeId}{B:List (Option TV)}{vs:Array Value}{h:af}{K:Option TV->af->Prop}(q:NX C ts.toList B h K)(E:NV B vs.toList)
 (w:World)(H:w.heap=h):∃r v a,(H7 ts ty vs).run C.P w=.ok v a/\K r a.heap/\Rel r v/\cN w a:=by
 subst H;obtain⟨ts⟩:=ts;obtain⟨vs⟩:=vs;change NX C ts B w.heap K at q;unfold NX at q;split at q
 ·rename_i t u d s;obtain⟨v,G,rfl,g,j⟩:=Mm E;obtain rfl:=g _ rfl;obtain rfl:=j _ rfl;split at q
  ·rename_i e Z k I;split at q
   ·rename_i J;obtain⟨L,ht⟩:=gQ J;obtain⟨new,F,M,m,n⟩:=q;obtain⟨de,o⟩:=i6.1 L;obtain⟨i,N,O,Q⟩:=A.info o;have R:=A.d k;have S:C.P.cellsOf e=(C.ti e).size:=by simp_all [hU]
    have T:(vk (C.ti e).size (ff s.len d.len) (bu s)).run C.P w=.ok new.toArray w:=zG F.1 F.2;have U:(G5 (bu s)).run C.P w=.ok s.len w:=by rfl
    cases b:d.a with
    |none=>
     have f:=m b;split at f
     case h_2=>simp_all
     rename_i V;refine⟨_,_,w,?_,f,.some rfl,cN.refl w⟩;unfold H7
     have p:(ac4 d).val=.slice none d.len d.cap:=by
      show bu d=_;simp_all [ach,bu]
     have W:(ac4 s).val=bu s:=rfl;simp_all [run_underlying,goInt,acV,run_sizeOf]
    |some l=>
     obtain⟨X,y⟩:=n l b;obtain⟨a,Y,z,D⟩:=iK (P:=C.P) l new 0 w ω M;refine⟨_,_,a,?_,by rw[z];exact y,.some rfl,D⟩;unfold H7
     have p:(ac4 d).val=.slice (some l.addr) d.len d.cap:=by
      show bu d=_;simp_all [abU,bu]
     have W:(ac4 s).val=bu s:=rfl;simp_all [goInt,run_underlying,run_sizeOf,acV]
   simp_all
  simp_all
 ·rename_i t u d x;obtain⟨v,G,rfl,g,j⟩:=Mm E;obtain rfl:=g _ rfl;obtain rfl:=j _ rfl;split at q
  ·rename_i e k I;split at q
   ·rename_i o;obtain⟨m,n⟩:=q;obtain⟨i,N,O,Q⟩:=A.info o;have R:=A.d k;have S:C.P.cellsOf e=(C.ti e).size:=by simp_all [hU]
    have U:(G5 (.string ⟨x.toArray⟩)).run C.P w=.ok x.length w:=by rfl
    have T:(vk (C.ti e).size (ff x.length d.len) (.string ⟨x.toArray⟩)).run C.P w=.ok ((x.take (ff x.length d.len)).map λc=>dr .u8 c.toNat).toArray w:=by
     simp[vk]
    cases b:d.a with
    |none=>
     have f:=m b;split at f
     case h_2=>simp_all
     rename_i V;refine⟨_,_,w,?_,f,.some rfl,cN.refl w⟩;simp_all [ach,goInt,bu,run_underlying,H7,acV,run_sizeOf]
    |some l=>
     obtain⟨X,y⟩:=n l b
     have ab:((x.take (ff x.length d.len)).map λc=>dr .u8 c.toNat).length=ff x.length d.len:=by
      simp_all
     obtain⟨a,Y,z,D⟩:=iK (P:=C.P) l ((x.take (ff x.length d.len)).map λc=>dr .u8 c.toNat) 0 w (by simp_all) (λv q=>by
      obtain⟨c,_,rfl⟩:=pn.1 q;rfl)
     refine⟨_,_,a,?_,by rw[z];exact y,.some rfl,D⟩;unfold H7
     have p:(ac4 d).val=.slice (some l.addr) d.len d.cap:=by
      show bu d=_;simp_all [abU,bu]
     rw[p];simp_all [run_underlying,List.map_take,goInt,acV,run_sizeOf]
   simp_all
  simp_all
 simp_all
def NZ(P:Program)(f:FuncId):Prop:=∀(args:Array Value)(w:World),(callFunc f args).run P w=.ok (.enter f args) w
def gq(P:Program)(h:af)(t:TypeId)(v:Value)(name:String)(f:FuncId)(q:Value):Prop:=
 NZ P f/\∀w:World,w.heap=h->(method (P.types.size+Made.depth) t v name).run P w=.ok (f,q) w
def N0(C:Ctx)(g:FuncId):Bool:=match C.P.funcs[g]? with
 |some fn=>fn.body.isNone&&((fn.name== "math/bits.Add64")&&(Extern.findNext fn).isNone)
 |none=>false
def N2(C:Ctx)(o:Oper)(ρ:Operand->Option TV)(h:af)(K:Option TV->af->Prop):Prop:=
 match o.op with
 |.alloc t=>match fM (C.ti t).d with
  |true=>Bind (iW h (C.ti t).z t) λb=>K (some (.ptr (some ⟨h.size,0⟩))) b
  |false=>False
 |.box t x=>match ρ x with
  |some tv=>Bind (iW h tv t) λb=>K (some (.ptr (some ⟨h.size,0⟩))) b
  |none=>False
 |.buildSlice t len parts=>match(C.ti t).d with
  |some (.slice e)=>match fM (C.ti e).d,xq (len*(C.ti e).size) 16777216,pH (ec len (C.ti e).z) (parts.toList.map λp=>(p.1,ρ p.2))with
   |true,true,some q=>K (some (.slice ⟨some ⟨h.size,0⟩,len,len⟩)) (h.push (row (acT q) e))
   |_,_,_=>False
  |_=>False
 |.store t a x=>match ρ a,ρ x with
  |some (.ptr p),some tv=>match(C.ti t).d.isSome,ey tv.size (C.ti t).size,tv.plain with
   |true,true,true=>Nn p λl=>gT h l.b l.o tv.size/\Bind (tv.put h l.b l.o) λb=>K none b
   |_,_,_=>False
  |_,_=>False
 |.makeSlice t l c=>match(C.ti t).d,ρ l,ρ c with
  |some (.slice e),some (.int _ l),some (.int _ c)=>match fM (C.ti e).d with
   |true=>0<=l/\l<=c/\((C.ti e).bytes:Int)*c<=281474976710656/\c<9223372036854775808/\K (some (.slice ⟨some ⟨h.size,0⟩,l.toNat,c.toNat⟩)) (h.push (row (cq (C.ti e).z c.toNat) e))
   |false=>False
  |_,_,_=>False
 |.sliceToArrayPointer arr x=>match(C.ti arr).d,ρ x with
  |some (.array n _),some (.slice s)=>n<=s.len/\match s.q with|none=>K (some (.ptr s.a)) h|some _=>False
  |_,_=>False
 |.call c=>match c.callee with
  |.builtin .append=>xV C c.argTypes.toList (c.args.toList.map ρ) h K
  |.builtin .copy=>NX C c.argTypes.toList (c.args.toList.map ρ) h K
  |.builtin .delete=>match c.args.toList.map ρ with
   |[m,k]=>EI C c.argTypes.toList m k h K
   |_=>False
  |.builtin _=>Ym C o ρ h λr=>K r h
  |.value f=>match ρ f,allKnown (c.args.toList.map ρ)with
   |some (.fn (.func g) first cap),some args=>match C.Yo.getD g false with
    |true=>qA C.strict C.P g (acU (first++args++cap)) h λv b=>Ex (C.ti o.type).sh λtv=>v=tv.val/\K (some tv) b
    |false=>match N0 C g,first++args++cap with
     |true,[.int .u64 x,.int .u64 y,.int .u64 z]=>0<=x/\0<=y/\0<=z/\z<=1/\K (some (.bg [.int .u64 ((x+y+z)%18446744073709551616),.int .u64 ((x+y+z)/18446744073709551616)])) h
     |_,_=>False
   |some (.one u),some args=>∃g first cap,u.v=.func (.func g) first cap/\NZ C.P g/\qA C.strict C.P g (first.toList++acU args++cap.toList) h λv b=>Ex (C.ti o.type).sh λtv=>v=tv.val/\K (some tv) b
   |_,_=>False
  |.invoke recv name=>match ρ recv,allKnown (c.args.toList.map ρ)with
   |some (.one u),some args=>∃t x f j,u.v=.iface t x/\gq C.P h t x name f j/\qA C.strict C.P f (j::acU args) h λv b=>Ex (C.ti o.type).sh λtv=>v=tv.val/\K (some tv) b
   |_,_=>False
 |.convert s d x=>match(C.ti s).d,(C.ti d).d,ρ x with
  |some .string,some (.slice e),some (.str bs)=>match(C.ti e).d with
   |some (.int .u8)=>∀c,bs.length<=c->K (some (.slice ⟨some ⟨h.size,0⟩,bs.length,c⟩)) (h.push (DG bs c e))
   |_=>False
  |_,_,y=>NO C s d y h λr=>K r h
 |.makeMap t none=>match(C.ti t).d with
  |some (.map _ _)=>K (some (.map (some h.size))) (h.push (bX [] 0))
  |_=>False
 |.mapUpdate t m k x=>EH C t (ρ m) (ρ k) (ρ x) h K
 |.insert t m k x=>EH C t (ρ m) (ρ k) (ρ x) h K
 |.range t x=>match(C.ti t).d,ρ x with
  |some (.map _ _),some (.map p)=>Nn p λr=>∃es c,h[r]? =some (bX es c)/\K (some (.ptr (some ⟨h.size,0⟩))) (h.push (.mapIter (some r) c #[] c))
  |_,_=>False
 |.next i false=>match ρ i with
  |some (.ptr p)=>Yz p h K
  |_=>False
 |.entry i=>match ρ i with
  |some (.ptr p)=>UR p h λr=>K r h
  |_=>False
 |_=>Ym C o ρ h λr=>K r h
end
end Go.Vc
namespace Go.Vc
open Go
section
variable{P:Program}{C:Ctx}
theorem uf:∀A q:List TV,acU (A++q)=acU A++acU q
 |[],q=>rfl
 |x::A,q=>by simp only[xd,acU,uf A q]
theorem gR(z:TV):∀n,cq z n=acT (ec n z)
 |0=>rfl
 |n+1=>by simp only[cq,O2,acT,gR z n]
theorem ug{size:Nat}:∀(len:Nat)(q:List TV),q.map acW=ec len size->∀(i:Nat)(z:TV),q[i]? =some z->acX (q.take i)=i*size/\z.size=size
 |len,[],_,i,z,a=>by grind
 |0,x::b,h,i,z,a=>by grind
 |len+1,x::b,h,0,z,a=>by
  simp only[w9,O2,List.cons.injEq]at h;simp only[nO,Option.some.injEq]at a;subst a;exact⟨by simp[acX],h.1⟩
 |len+1,x::b,h,i+1,z,a=>by
  simp only[w9,O2,List.cons.injEq]at h;obtain⟨A,B⟩:=ug len b h.2 i z a;exact⟨by simp only[ox,acX,A,h.1,od];omega,B⟩
theorem N3(q:C.Ok){t:TypeId}(h:fM (C.ti t).d=true)(w:World):(zeroValue t).run C.P w=.ok (C.ti t).z.val w:=by
 obtain⟨a,b⟩:=gQ h;obtain⟨i,c,e⟩:=q.zero t (ac3 a) a;simp_all [typeInfo,zeroValue]
theorem EJ(q:C.Ok){t:TypeId}(h:(C.ti t).d.isSome=true)(w:World):(sizeOf t).run C.P w=.ok (C.ti t).size w:=by
 obtain⟨d,a⟩:=i6.1 h;obtain⟨i,b,c,_⟩:=q.info a;simp_all [hU,run_sizeOf]
theorem adl(q:C.Ok){t:TypeId}(h:fM (C.ti t).d=true):(C.ti t).z.size=(C.ti t).size:=by
 obtain⟨a,c⟩:=gQ h;rcases q.size t (ac3 a)with b|b<;>simp_all
def V9(s:Bool)(P:Program)(o:Oper)(a:Act)(w:World)(K:Option TV->af->Prop):Prop:=
 (∃r v b,(execOp a.eval o).run P w=.ok (.value v) b/\K r b.heap/\Rel r v/\cN w b)\/
 (∃b,(execOp a.eval o).run P w=.ok .skip b/\K none b.heap/\cN w b)\/
 (∃f args,(execOp a.eval o).run P w=.ok (.enter f args.toArray) w/\qA s P f args w.heap λv c=>∃r,Rel r v/\K r c)
theorem V9.wp{s:Bool}{o:Oper}{a:Act}{w:World}{K:Option TV->af->Prop}(h:V9 s P o a w K){next:Act->World->Prop}{Q:Exit->Act->World->Prop}
 (q:∀r v b,K r b.heap->Rel r v->fS s w b->next (a.put o.dst v) b):o.wp P a w next Q:=by
 unfold Oper.wp;rcases h with⟨r,v,b,e,c,g,d⟩|⟨b,e,c,d⟩|⟨f,args,e,i⟩
 ·rw[e];exact q r v b c g d.toS
 ·rw[e];exact q none undef b c (Rel.none _) d.toS
 ·rw[e];refine(i w rfl).mono λe b=>?_
  grind
theorem FZ{o:Oper}{env:Env}{a:Act}{w:World}{K:Option TV->af->Prop}(q:C.Ok)(A:dZ env a)(h:Ym C o env.ev w.heap λr=>K r w.heap):V9 C.strict C.P o a w K:=by
 obtain⟨r,v,b,c,d⟩:=FX q h A;exact .inl ⟨r,v,w,d.1 w rfl,b,c,cN.refl w⟩
theorem YA{es:List (TV×TV×Nat)}{j:Nat}{e:TV×TV×Nat}{q tv:TV}(A:es[j]? =some e)(B:e.1.val=q.val):
 ((cH es).modify j λx=>{key:=q.val,val:=tv.val,born:=x.born})=cH (es.set j (e.1,tv,e.2.2)):=by
 apply List.ext_getElem?;intro i;rw[List.getElem?_modify];simp only[cH,Jx,xW]
 grind
theorem SO{es:List (TV×TV×Nat)}{j:Nat}:(cH es).eraseIdx j=cH (es.eraseIdx j):=by
 simp[cH,ChangeMaps.map_eraseIdx]
theorem A_(A:C.Ok){t:TypeId}{m k x:Option TV}{M X V:Value}{w:World}{K:Option TV->af->Prop}(q:EH C t m k x w.heap K)(B:Rel m M)(E:Rel k X)(H:Rel x V):
 ∃h,(Instr.mapUpdate t M X V).run C.P w=.ok () h/\K none h.heap/\cN w h:=by
 unfold EH at q;split at q
 ·rename_i L N p a tv u;obtain rfl:=B _ rfl;obtain rfl:=E _ rfl;obtain rfl:=H _ rfl;split at q
  ·rename_i d v;split at q
   ·rename_i i;obtain⟨r,rfl,es,c,z,D,q⟩:=elim_some q;have b:w.heap[r]? =some (.map (cH es).toArray c):=z;have y:=λe=>FW A v i e w;refine⟨{w with heap:=w.heap.setIfInBounds r (bX (jb a tv c es) (fJ a c es))},?_,q,⟨rfl,rfl,rfl,eo _⟩⟩;rcases Ji A v i es D w with⟨l,f,g,_⟩|⟨j,e,l,f,g,F,G,_⟩
    ·have n:=l
     have o:(cH es).toArray.push {key:=a.val,val:=tv.val,born:=c}=(cH (es++[(a,tv,c)])).toArray:=by
      simp[cH]
     have s:bX (jb a tv c es) (fJ a c es)=.map (cH (es++[(a,tv,c)])).toArray (c+1):=by
      unfold fJ;rw[g,f];rfl
     rw[s];simp[Instr.mapUpdate,run_underlying (A.d u),acV,qf b,y,n,T4 _ b,o]
    ·have n:=l;have o:=YA (tv:=tv) f g
     have s:bX (jb a tv c es) (fJ a c es)=.map (cH (es.set j (e.1,tv,e.2.2))).toArray c:=by
      unfold fJ;rw[G,F];rfl
     have I:=V7 (P:=C.P) i w;have J:(cH es)[j]? =some {key:=e.1.val,val:=e.2.1.val,born:=e.2.2}:=by simp[cH,f]
     rw[s];simp[Instr.mapUpdate,run_underlying (A.d u),acV,qf b,y,n,J,g,I,T4 _ b,o]
   simp_all
  simp_all
 simp_all
theorem Jl(A:C.Ok){ts:Array TypeId}{ty:TypeId}{m k:Option TV}{M X:Value}{w:World}{K:Option TV->af->Prop}(q:EI C ts.toList m k w.heap K)(B:Rel m M)(E:Rel k X):
 ∃b,(Builtin.delete_ ts ty #[M,X]).run C.P w=.ok (.tuple #[]) b/\K (some (.bg [])) b.heap/\cN w b:=by
 obtain⟨ts⟩:=ts;change EI C ts m k w.heap K at q;unfold EI at q;split at q
 ·rename_i t _ p f;obtain rfl:=B _ rfl;obtain rfl:=E _ rfl;split at q
  ·rename_i z D l;split at q
   ·rename_i d n;split at q
    ·rename_i o;obtain⟨r,rfl,es,c,u,v,q⟩:=elim_some q;have a:w.heap[r]? =some (.map (cH es).toArray c):=u;have s:=λe=>FW A n o e w;refine⟨{w with heap:=w.heap.setIfInBounds r (bX (fN f es) c)},?_,q,⟨rfl,rfl,rfl,eo _⟩⟩;rcases Ji A n o es v w with⟨g,_,_,F⟩|⟨j,e,g,G,_,_,_,x⟩
     ·have h:=g;have i:bX (fN f es) c=.map (cH es).toArray c:=by simp_all
      rw[i];simp[Builtin.delete_,run_underlying (A.d l),acV,qf a,s,h,T4 _ a]
     ·have h:=g;have y:=SO (es:=es) (j:=j);have i:bX (fN f es) c=.map (cH (es.eraseIdx j)).toArray c:=by rw[x];rfl
      rw[i];simp[Builtin.delete_,run_underlying (A.d l),acV,qf a,s,h,T4 _ a,y]
    simp_all
   simp_all
  simp_all
 simp_all
theorem N4{p:Option Loc}{ty:TypeId}{w:World}{K:Option TV->af->Prop}(q:Yz p w.heap K):
 ∃r v d,(Instr.next (ac8 p).val false ty).run P w=.ok v d/\K r d.heap/\Rel r v/\cN w d:=by
 obtain⟨⟨b,o⟩,rfl,k,h,i,c0,seen,es,c,l,m,C,n,s,t⟩:=elim_some q;subst k;have u:w.heap[h]? =some (.map (cH es).toArray c):=m
 have y:∀x∈(cH es).toArray.toList,x.born<i:=λx z=>by
  obtain⟨e,a,rfl⟩:=pn.1 z
  grind
 rcases run_next_at w ty b h i c0 seen _ c l u y n with⟨A,f⟩|⟨e,a,D,j,f⟩
 ·refine⟨_,_,w,f,s λe a=>?_,.some rfl,cN.refl w⟩;have:=Array.eq_empty_of_size_eq_zero A;unfold leftOf at this;rw[Array.filter_eq_empty_iff]at this;have:=this {key:=e.1.val,val:=e.2.1.val,born:=e.2.2} (by simp only[List.mem_toArray];exact pn.2 ⟨e,a,rfl⟩);simp_all
 ·unfold leftOf at a;simp only[Array.toList_filter,List.mem_filter]at a;obtain⟨a,E⟩:=a;obtain⟨g,B,rfl⟩:=pn.1 a;refine⟨some (.bg [.bool true,g.1,g.2.1]),_,_,f,?_,.some rfl,?_⟩
  ·have:=t g B (by simp_all);rcases j with rfl|rfl
   ·exact this
   ·exact this
  ·rcases j with rfl|rfl
   ·exact⟨rfl,rfl,rfl,eo _⟩
   ·exact⟨rfl,rfl,rfl,G6 _⟩
theorem LG{p:Option Loc}{w:World}{K:Option TV->Prop}(q:UR p w.heap K):
 ∃r v,(Instr.entry (ac8 p).val).run P w=.ok v w/\K r/\Rel r v:=by
 obtain⟨⟨b,o⟩,rfl,a,d,f,seen,es,c,e,g,h,i,l,j⟩:=elim_some q;subst a;have k:=h;refine⟨_,_,run_entry_at w b d f seen (cH es).toArray c {key:=e.1.val,val:=e.2.1.val,born:=e.2.2} g k ?_ ?_,j,.some ?_⟩
 ·exact pn.2 ⟨e,i,rfl⟩
 ·grind [List.map_map,cH]
 rfl
theorem SP{g:FuncId}(h:N0 C g=true):∃fn,C.P.funcs[g]? =some fn/\fn.body.isNone=true/\fn.name= "math/bits.Add64" /\Extern.findNext fn=none:=by
 unfold N0 at h;split at h<;>simp_all
theorem SQ{fn:Func}(h:fn.name= "math/bits.Add64"):Extern.find fn=some add64Entry:=by
 unfold Extern.find;rw[h];rfl
theorem xX(E:C.Ok){o:Oper}{env:Env}{a:Act}{w:World}{K:Option TV->af->Prop}(q:N2 C o env.ev w.heap K)(A:dZ env a):V9 C.strict C.P o a w K:=by
 unfold N2 at q;split at q
 ·rename_i t h;split at q
  ·rename_i J;left;refine⟨_,_,w.alloc (row (C.ti t).z.cells t),?_,q,.some rfl,⟨rfl,rfl,rfl,eo _⟩⟩;simp[execOp,h,Instr.alloc,N3 E J,newVar,newRow,ac1,acV,row,abQ]
  simp_all
 ·rename_i t x h;split at q
  ·rename_i tv D;left;refine⟨_,_,w.alloc (row tv.cells t),?_,q,.some rfl,⟨rfl,rfl,rfl,eo _⟩⟩;simp[execOp,h,Instr.box,A.known D,newVar,newRow,ac1,acV,row,abQ]
  simp_all
 ·rename_i t len parts h;split at q
  ·rename_i e L;split at q
   ·rename_i xs J I bb;left;refine⟨_,_,w.alloc (row (acT xs) e),?_,q,.some rfl,⟨rfl,rfl,rfl,eo _⟩⟩
    have ae:=by
     have:len*(C.ti e).size<=16777216:=by simpa using I
     omega
    obtain⟨T,_⟩:=gQ J;have W:=adl E J
    have Y:tT (λi=>some (i*(C.ti e).size,(C.ti e).size)) (acT (ec len (C.ti e).z)).toArray (parts.map λp=>(p.1,a.eval p.2)).toList=some (acT xs).toArray:=
     su (λzs i z Z hi=>by
      obtain⟨j,B⟩:=ug len zs Z i z hi;rw[j,B]) _ _ _ xs (by simp_all [xT]) bb (by simp[W])
    have b5:l_ (C.ti e).z.cells.toArray len=(acT (ec len (C.ti e).z)).toArray:=by
     simp[e_,gR]
    have aE:(C.ti e).z.cells.toArray.size=(C.ti e).size:=by rw[qc,ac0,W]
    have G:=run_underlying (E.d L);have ab:=EJ E T;have al:=N3 E J;by_cases h0:len*(C.ti e).size=0
    ·have am:acT (ec len (C.ti e).z)=[]:=by
      grind [e_,l_,ac0,gR,n_,qc]
     rw[am]at Y;simp only[Array.toList_map]at Y;have ao:(Array.map (λ_:Nat=>(default:Value)) (T' 0))=#[]:=by simp_all
     simp[execOp,h,Instr.buildSlice,G,ab,h0,ao,Y,newRow,acV,bu,Sl.p,row,abQ]
    ·have ap:((T' (len*(C.ti e).size)).map λi=>(C.ti e).z.val.cells[i%(C.ti e).z.val.cells.size]!)=(acT (ec len (C.ti e).z)).toArray:=by
      simp_all [l_,ac1]
     simp only[Array.toList_map]at Y;simp[execOp,h,Instr.buildSlice,G,ab,h0,ae,al,ap,Y,newRow,acV,bu,Sl.p,row,abQ]
   simp_all
  simp_all
 ·rename_i t x y h;split at q
  ·rename_i p tv D hy;split at q
   ·rename_i T a0 hp;obtain⟨l,rfl,hk,q⟩:=elim_some q;right;left;have bc:tv.size=(C.ti t).size:=by simpa using a0
    obtain⟨H,j,B,F⟩:=iK (P:=C.P) l tv.cells 0 w (by rw[ac0];exact hk) (TV.gU tv hp);refine⟨H,?_,by rw[B];exact q,F⟩;have Q:=A.known D;have N:=A.known hy;have bd:tv.cells.length=(C.ti t).size:=by rw[ac0,bc]
    simp[execOp,h,Instr.storeAt,Q,N,acV,sg,storeVar,EJ E T,ac1,bd,j]
   ·exact q.elim
  ·exact q.elim
 ·rename_i t x y h;split at q
  ·rename_i e k1 l k2 c L D hy;split at q
   ·rename_i J;obtain⟨h0,Q,N,U,q⟩:=q;left;refine⟨_,_,w.alloc (row (cq (C.ti e).z c.toNat) e),?_,q,.some rfl,⟨rfl,rfl,rfl,eo _⟩⟩;obtain⟨T,_⟩:=gQ J;obtain⟨d',bi⟩:=i6.1 T;obtain⟨i,hi,a0,a1⟩:=E.info bi;have j:=A.known D;have B:=A.known hy;have W:=adl E J;have a2:IntKind.i64.wrap l=l:=Su _ ω;have a3:IntKind.i64.wrap c=c:=Su _ ω;have a4:¬(l<0):=ω;have a5:¬(c<l):=ω;have a6:¬(c<0):=ω;have a7:¬(281474976710656<((C.ti e).bytes:Int)*c):=ω;have a8:=run_typeInfo (P:=C.P) (w:=w) hi;have G:=run_underlying (E.d L);have ab:=EJ E T;have al:=N3 E J;have aE:(C.ti e).z.cells.toArray.size=(C.ti e).size:=by rw[qc,ac0,W]
    have ap:((T' (c.toNat*(C.ti e).size)).map λi=>(C.ti e).z.val.cells[i%(C.ti e).z.val.cells.size]!)=(cq (C.ti e).z c.toNat).toArray:=by
     rw[<-e_,ac1];unfold l_;rw[aE]
    by_cases ar:c.toNat*(C.ti e).size=0
    ·have am:cq (C.ti e).z c.toNat=[]:=by
      apply n_;rw[<-qc,<-e_];simp[l_,ac0,W,ar]
     have ao:(Array.map (λ_:Nat=>(default:Value)) (T' 0))=#[]:=by apply eR.1;simp
     simp[execOp,h,Instr.makeSlice,j,B,acV,asInt,asIntOf,G,a8,a1,a2,a3,a4,a5,a6,a7,ab,ar,ao,am,newRow,bu,Sl.p,row,abQ]
    ·simp[execOp,h,Instr.makeSlice,j,B,acV,asInt,asIntOf,G,a8,a1,a2,a3,a4,a5,a6,a7,ab,ar,al,ap,newRow,bu,Sl.p,row,abQ]
   ·exact q.elim
  ·exact q.elim
 ·rename_i t x h;split at q
  ·rename_i n e s L D;obtain⟨J,q⟩:=q;split at q
   case h_2=>exact q.elim
   rename_i bj;left;have j:=A.known D;have G:=run_underlying (E.d L) (w:=w)
   have hp:s.p=s.a.map abQ:=by
    cases ha:s.a with
    |none=>rw[ach ha,bj];rfl
    |some l=>rw[abU ha];rfl
   refine⟨_,.pointer (s.a.map abQ),w,?_,q,.some rfl,cN.refl w⟩;have bk:¬(s.len<n):=ω;simp[execOp,h,Instr.arrayAt,j,acV,bu,hp,G,bk]
  ·exact q.elim
 ·rename_i c h;split at q
  ·rename_i I;left;obtain⟨r,v,H,j,B,F,O⟩:=FY E (ts:=c.argTypes) (ty:=o.type) (vs:=c.args.map a.eval) q (by simpa using A.FU c.args.toList) w rfl;refine⟨r,v,H,?_,B,F,O⟩;simp[execOp,h,resolve,I,invoke,builtin,j]
  ·rename_i I;left;obtain⟨r,v,H,j,B,F,O⟩:=NY E (ts:=c.argTypes) (ty:=o.type) (vs:=c.args.map a.eval) q (by simpa using A.FU c.args.toList) w rfl;refine⟨r,v,H,?_,B,F,O⟩;simp[execOp,h,resolve,I,invoke,builtin,j]
  ·rename_i I;split at q
   ·rename_i m k bl;have a9:=A.FU c.args.toList;rw[bl]at a9;obtain⟨M,X,bm,hM,hX⟩:=Mm a9;obtain⟨H,j,B,F⟩:=Jl E (ty:=o.type) q hM hX;left;refine⟨_,_,H,?_,B,.some rfl,F⟩;have R:c.args.map a.eval=#[M,X]:=by apply eR.1;simpa using bm
    simp[execOp,h,resolve,I,invoke,builtin,R,j,acV,acU]
   ·exact q.elim
  ·exact FZ E A q
  ·rename_i f hf;split at q
   ·rename_i g first cap args V R
    split at q
    ·rename_i ac;right;right;obtain⟨fn,aw,a',ad⟩:=E.Yo g ac;refine⟨g,acU (first++args++cap),?_,?_⟩
     ·have j:=A.known V;have B:=ga _ _ _ R (A.FU c.args.toList);have S:c.args.map a.eval=(acU args).toArray:=by apply eR.1;simpa using B
      have bo:¬fn.name= "runtime.NumGoroutine" :=by simpa using ad
      have bp:¬fn.body=none:=by intro D;rw[D]at a';cases a'
      simp[execOp,h,resolve,hf,j,acV,K2,invoke,callFunc,aw,bo,bp,S,uf]
     ·refine q.mono λv h' D=>?_;obtain⟨tv,_,N,U⟩:=sn _ _ D;exact⟨some tv,.some N,U⟩
    ·split at q
     ·rename_i x y z br bt;obtain⟨fn,aw,I,ad,bx⟩:=SP br;obtain⟨D,hy,bN,b0,hk⟩:=q;left;refine⟨_,_,w,?_,hk,.some rfl,cN.refl w⟩;have j:=A.known V;have B:=ga _ _ _ R (A.FU c.args.toList);have S:c.args.map a.eval=(acU args).toArray:=by apply eR.1;simpa using B
      have F:(acU first).toArray++(acU args).toArray++(acU cap).toArray=#[.int .u64 x,.int .u64 y,.int .u64 z]:=by
       have h9:=congrArg acU bt;rw[uf,uf]at h9;apply eR.1;simpa[acU,acV]using h9
      have b1:(fn.name== "runtime.NumGoroutine")=false:=by rw[ad];decide
      have G:=run_callFunc_extern aw b1 I bx (SQ ad) (#[.int .u64 x,.int .u64 y,.int .u64 z]) w;rw[run_add64 x y z D hy bN b0 w]at G;have b2:(callFunc g #[.int .u64 x,.int .u64 y,.int .u64 z]).run C.P w=.ok (.value (.tuple #[.int .u64 ((x+y+z)%18446744073709551616),.int .u64 ((x+y+z)/18446744073709551616)])) w:=G;simp only[execOp,h,resolve,hf,j,acV,K2,invoke,S,c9,ek,di];simp only[F,b2,acU,acV]
     ·exact q.elim
   ·rename_i u args V R;obtain⟨g,first,cap,hu,ac,hc⟩:=q;right;right;refine⟨g,first.toList++acU args++cap.toList,?_,?_⟩
    ·have j:=A.known V;have B:=ga _ _ _ R (A.FU c.args.toList);have S:c.args.map a.eval=(acU args).toArray:=by apply eR.1;simpa using B
     have F:=ac (first++(acU args).toArray++cap) w;have O:(first.toList++acU args++cap.toList).toArray=first++(acU args).toArray++cap:=by apply eR.1;simp
     simp only[execOp,h,resolve,hf,j,acV,hu,K2,invoke,S,c9,ek,di];rw[F,O]
    ·refine hc.mono λv h' D=>?_;obtain⟨tv,_,N,U⟩:=sn _ _ D;exact⟨some tv,.some N,U⟩
   ·exact q.elim
  ·rename_i recv name hf;split at q
   ·rename_i u args V R;obtain⟨t,x,f,rv,hu,⟨ac,hm⟩,hc⟩:=q;right;right;refine⟨f,rv::acU args,?_,?_⟩
    ·have j:=A.known V;have B:=ga _ _ _ R (A.FU c.args.toList);have S:c.args.map a.eval=(acU args).toArray:=by apply eR.1;simpa using B
     have F:=ac (#[rv]++(acU args).toArray) w;have O:(rv::acU args).toArray=#[rv]++(acU args).toArray:=by apply eR.1;simp
     have e5:(#[UN t x]++(acU args).toArray).extract 1 (#[UN t x]++(acU args).toArray).size=(acU args).toArray:=by apply eR.1;simp
     have e6:=hm w rfl;have e7:(#[UN t x]++(acU args).toArray)[0]? =some (UN t x):=by simp
     simp only[execOp,h,resolve,hf,j,acV,hu,invoke,S,c9,ek,di,e7,e5,callMethod,run_program,e6];rw[F,O]
    ·refine hc.mono λv h' D=>?_;obtain⟨tv,_,N,U⟩:=sn _ _ D;exact⟨some tv,.some N,U⟩
   ·exact q.elim
 ·rename_i s d x h;split at q
  ·rename_i e bs Q N D;split at q
   ·rename_i L;left
    have hc:bs.length<=grownCap w bs.length 0 e:=by
     simp only[grownCap,Question.cut];omega
    have Z:(⟨bs.toArray⟩:ByteArray).size=bs.length:=by simp[ByteArray.size]
    have G:=run_bytes_of_string (P:=C.P) w s d e ⟨bs.toArray⟩ (E.d Q) (E.d N) (E.d L)
    have ba:bytesRow ⟨bs.toArray⟩ (grownCap w (⟨bs.toArray⟩:ByteArray).size 0 e)=((bs.map λ(b:UInt8)=>dr .u8 (b.toNat:Int))++ec (grownCap w bs.length 0 e-bs.length) (dr .u8 0)).toArray:=by
     rw[Z];unfold bytesRow;rw[Z];simp
    have b3:(bytesRow ⟨bs.toArray⟩ (grownCap w (⟨bs.toArray⟩:ByteArray).size 0 e)).size=grownCap w bs.length 0 e:=by
     rw[ba];simp;omega
    have hk:=q _ hc;rw[b3,ba,Z]at G;refine⟨some (.slice ⟨some ⟨w.heap.size,0⟩,bs.length,grownCap w bs.length 0 e⟩),_,w.drew.alloc (DG bs (grownCap w bs.length 0 e) e),?_,?_,.some rfl,?_⟩
    ·have j:=A.known D;simp only[execOp,h,j,acV,c9,G,di,ek];rfl
    ·exact hk
    ·exact⟨rfl,rfl,rfl,G6 _⟩
   ·exact q.elim
  ·refine FZ E A ?_;unfold Ym;simp only[h];exact q
 ·rename_i t h;split at q
  ·rename_i kt et L;left;refine⟨_,_,w.alloc (bX [] 0),?_,q,.some rfl,⟨rfl,rfl,rfl,eo _⟩⟩;simp[execOp,h,Instr.makeMap,acV,bX]
  ·exact q.elim
 ·rename_i t m k x h;obtain⟨H,j,B,F⟩:=A_ E q (A.rel m) (A.rel k) (A.rel x);right;left;exact⟨H,by simp[execOp,h,j],B,F⟩
 ·rename_i t m k x h;obtain⟨H,j,B,F⟩:=A_ E q (A.rel m) (A.rel k) (A.rel x);right;left;exact⟨H,by simp[execOp,h,j],B,F⟩
 ·rename_i t x h;split at q
  ·rename_i kt et p L D;obtain⟨r,rfl,es,c,I,q⟩:=elim_some q;left;refine⟨_,_,w.alloc (.mapIter (some r) c #[] c),?_,q,.some rfl,⟨rfl,rfl,rfl,eo _⟩⟩;have ae:w.heap[r]? =some (.map (cH es).toArray c):=I;have j:=A.known D;simp[execOp,h,Instr.range,j,acV,run_underlying (E.d L),qf ae,abQ]
  ·exact q.elim
 ·rename_i it h;split at q
  ·rename_i p D;obtain⟨r,v,H,j,B,F,O⟩:=N4 (P:=C.P) (ty:=o.type) q;left;have Q:=A.known D;exact⟨r,v,H,by simp[execOp,h,Q,j],B,F,O⟩
  ·exact q.elim
 ·rename_i it h;split at q
  ·rename_i p D;obtain⟨r,v,j,B,F⟩:=LG (P:=C.P) q;left;have Q:=A.known D;exact⟨r,v,w,by simp[execOp,h,Q,j],B,F,cN.refl w⟩
  ·exact q.elim
 ·exact FZ E A q
end
end Go.Vc
namespace Go.Vc
open Go
structure Ext(h h':af):Prop where
 size:h.size<=h'.size
 same:∀b,b<h.size->h'[b]? =h[b]?
theorem Ext.refl(h:af):Ext h h:=⟨eo _,λ_ _=>rfl⟩
theorem Ext.trans{a b c:af}(h:Ext a b)(k:Ext b c):Ext a c:=⟨G0 h.size k.size,λi d=>(k.same i (X5 d h.size)).trans (h.same i d)⟩
theorem Ext.ng{h q:af}(e:Ext h q){b o:Nat}(A:b<h.size):ng q b o=ng h b o:=by unfold Vc.ng;rw[e.same b A]
theorem Ext.frz{h q:af}(e:Ext h q){b o:Nat}(A:b<h.size):frz q b o=frz h b o:=by unfold Vc.frz;rw[e.same b A]
theorem Ext.push(h:af)(x:Obj):Ext h (h.push x):=⟨by simp,λb a=>by grind⟩
theorem xY{h:af}{b o:Nat}{v:Value}(q:ng h b o=some v):b<h.size:=by
 grind [X8,ng]
theorem TV.adU{h q:af}(e:Ext h q){b o:Nat}{t:TV}(A:t.at h b o):t.at q b o:=by
 rw[ac2]at A⊢;intro j c;have a:=A j c;have d:j<t.cells.length:=by simp_all [ac0]
 rw[u0 d]at a⊢;rw[e.ng (xY a),a]
def hole:Obj:=.cells #[] 0 (0,0)
structure Sub(h h':af):Prop where
 same:∀(b:Nat)(o:Obj),h[b]? =some o->o≠hole->h'[b]? =some o
theorem Sub.refl(h:af):Sub h h:=⟨λ_ _ h _=>h⟩
theorem Sub.trans{a b c:af}(h:Sub a b)(k:Sub b c):Sub a c:=⟨λi o e d=>k.same i o (h.same i o e d) d⟩
theorem Ext.sub{h q:af}(e:Ext h q):Sub h q:=⟨λb _ a _=>(e.same b (X8.1 a).1).trans a⟩
theorem Sub.ng{h q:af}(e:Sub h q){b o:Nat}{v:Value}(A:ng h b o=some v):ng q b o=some v:=by
 unfold Vc.ng at A;split at A
 ·rename_i c t f a;have:=e.same b _ a (by rintro h;cases h;grind);simp_all [Vc.ng]
 grind
theorem Sub.map{h q:af}(e:Sub h q){b:Nat}{es:List (TV×TV×Nat)}{c:Nat}(A:h[b]? =some (bX es c)):q[b]? =some (bX es c):=e.same b _ A (by intro h;cases h)
theorem TV.adV{h q:af}(e:Sub h q){b o:Nat}{t:TV}(A:t.at h b o):t.at q b o:=by
 rw[ac2]at A⊢;intro j c;have a:=A j c;have d:j<t.cells.length:=by simp_all [ac0]
 rw[u0 d]at a⊢;exact e.ng a
inductive P_ where
 |now
 |at(h:af)
 |sub (h:af)
def nA(B:P_)(h:af):af:=match B with
 |.now=>h
 |.at a=>a
 |.sub a=>a
def adW(B:P_)(h q:af):Prop:=match B with
 |.now=>Ext h q
 |.at a=>Ext a q
 |.sub a=>Sub a q
theorem YB{B:P_}{h q:af}(e:adW B h q):Sub (nA B h) q:=by
 cases B with
 |now=>exact Ext.sub e
 |«at»a=>exact Ext.sub e
 |sub a=>exact e
section
variable{P:Program}{ops:Array Oper}{Q:Exit->Act->World->Prop}{ex:Nat->Bool}{B:P_}
def Qa(P:Program)(ops:Array Oper)(Q:Exit->Act->World->Prop)(ex:Nat->Bool)(B:P_):Nat->Array Bool->Act->World->Prop
 |0,l,a,w=>eP .any ops l=[]/\Q .normal a w
 |n+1,l,a,w=>(eP .any ops l=[]->Q .normal a w)/\
  ∀i∈eP .any ops l,wpOp P ops Q i (λA q=>(ex i=true\/Sub (nA B w.heap) q.heap\/q.heap=w.heap)/\Qa P ops Q ex B n (l.setIfInBounds i true) A q) a w
theorem He:∀(n:Nat)(l:Array Bool)(a:Act)(w:World),Qa P ops Q ex B n l a w->wpAny P .any ops Q n l a w
 |0,_,_,_,h=>h
 |n+1,_,_,_,h=>⟨h.1,λi q=>wpOp_mono (λ_ _ g=>He n _ _ _ g.2) (h.2 i q)⟩
def waits(q:Oper)(i:Nat):Bool:=q.after.toList.any λe=>Region.binds .any e&&ey e.on i
theorem uh{q:Oper}{i j:Nat}{l:Array Bool}(A:waits q i=true)(E:ops[j]? =some q)(H:j∈eP .any ops l):l.getD i false=true:=by
 obtain⟨_,o,a,c⟩:=mem_ready.1 H;rw[E]at a;injection a with a;subst a;obtain⟨e,d,b⟩:=List.any_eq_true.1 A;simp only[eN]at b
 grind [Yd]
def nR(ops:Array Oper)(l:Array Bool):Prop:=∀(i:Nat)(a:Oper),ops[i]? =some a->l.getD i false=true->∀k,waits a k=true->l.getD k false=true
theorem YC{l:Array Bool}{i k:Nat}(h:l.getD k false=true):(l.setIfInBounds i true).getD k false=true:=by
 simp only[aaP,Array.getElem?_setIfInBounds]at h⊢
 grind
theorem nR.set{l:Array Bool}{j:Nat}(q:nR ops l)(A:j∈eP .any ops l):nR ops (l.setIfInBounds j true):=by
 intro i b c a k d;refine YC ?_;by_cases e:i=j
 ·grind [uh]
 ·refine q i b c ?_ k d;simp only[aaP,Array.getElem?_setIfInBounds,if_neg (Ne.symm e)]at a;simpa[aaP]using a
def Hf(q:List Nat):List Edge->Nat
 |[]=>0
 |e::es=>match Region.binds .any e with
  |true=>vw (Hf q es) (vw (Nat.pow 2 e.on) (q.getD e.on 0))
  |false=>Hf q es
def US:List Oper->List Nat->List Nat
 |[],q=>q
 |o::a,q=>US a (q++[Hf q o.after.toList])
def qB(all:List Oper)(i k:Nat):Bool:=qm ((US all []).getD i 0) k
def PM(ops:Array Oper)(m:Nat)(o:Oper):Prop:=∀l,nR ops l->(∀k,waits o k=true->l.getD k false=true)->∀k,qm m k=true->l.getD k false=true
theorem Ba{ops:Array Oper}{q:List Nat}(E:∀(i m:Nat),q[i]? =some m->∃o,ops[i]? =some o/\PM ops m o){l:Array Bool}(A:nR ops l):∀(es:List Edge),(∀e∈es,Region.binds .any e=true->l.getD e.on false=true)->
 ∀k,qm (Hf q es) k=true->l.getD k false=true
 |[],_,k,a=>by simp[Hf]at a
 |e::es,h,k,a=>by
  unfold Hf at a;split at a
  ·rename_i g;have b:=h e (eS ..) g;have d:(Hf q es|||(2^e.on|||q.getD e.on 0)).testBit k=true:=a;rw[Nat.testBit_or,Nat.testBit_or,Bool.or_eq_true_iff,Bool.or_eq_true_iff]at d;rcases d with c|c|c
   ·exact Ba E A es (λe b=>h e (i7 _ b)) k c
   ·grind
   ·cases f:q[e.on]? with
    |none=>simp_all
    |some m=>
     obtain⟨j,n,pm⟩:=E _ _ f;simp only[List.getD,f]at c;exact pm l A (λk a=>A e.on j n b k a) k c
  ·exact Ba E A es (λe b=>h e (i7 _ b)) k a
theorem Hg{all:List Oper}:∀(A pre:List Oper)(q:List Nat),all=pre++A->q.length=pre.length->(∀(i m:Nat),q[i]? =some m->∃o,all.toArray[i]? =some o/\PM all.toArray m o)->
 ∀(i m:Nat),(US A q)[i]? =some m->∃o,all.toArray[i]? =some o/\PM all.toArray m o
 |[],_,_,_,_,b=>b
 |o::A,pre,q,n,p,b=>by
  refine Hg A (pre++[o]) (q++[Hf q o.after.toList]) (by simp_all) (by grind) λi m a=>?_;rw[List.getElem?_append]at a;split at a
  ·simp_all
  ·have c:i-q.length=0:=by
    grind
   rw[c]at a;simp only[nO,Option.some.injEq]at a;subst a;have r:i=pre.length:=ω;refine⟨o,by simp_all,λl d f k g=>Ba b d o.after.toList (λe h j=>f e.on ?_) k g⟩;exact List.any_eq_true.2 ⟨e,h,by simp[j]⟩
theorem EK{all:List Oper}{l:Array Bool}(q:nR all.toArray l){i k:Nat}(h:qB all i k=true)(A:i∈eP .any all.toArray l):l.getD k false=true:=by
 unfold qB at h;cases a:(US all [])[i]? with
 |none=>simp_all
 |some m=>
  obtain⟨o,b,pm⟩:=Hg all [] [] rfl rfl (by simp) i m a;simp only[List.getD,a]at h;exact pm l q (λk c=>uh c b A) k h
theorem Jm{l:Array Bool}{i:Nat}(h:i∈eP .any ops l):l.getD i false=false:=by
 grind [Array.getElem?_eq_none,Nat.lt_or_ge,mem_ready]
theorem YieldsIf.ext{q:Oper}{v:Value}{a:Act}{h A:af}(E:YieldsIf P ops (λw=>Sub h w.heap) q v a)(e:Sub h A):YieldsIf P ops (λw=>Sub A w.heap) q v a:=
 E.imp (λ⟨b,c⟩=>⟨b,λw d=>c w (e.trans d)⟩) id
theorem Mn{E:Oper}{v:Value}{a:Act}{h q:af}(A:YieldsIf P ops (λw=>Sub (nA B h) w.heap) E v a)(e:Sub (nA B h) q):YieldsIf P ops (λw=>Sub (nA B q) w.heap) E v a/\Sub (nA B q) q:=by
 cases B with
 |now=>exact⟨YieldsIf.ext A e,Sub.refl _⟩
 |«at»b=>exact⟨A,e⟩
 |sub b=>exact⟨A,e⟩
theorem SR{i:Nat}{q:Oper}{v:Value}(E:ops[i]? =some q)(I:abb ops=true)
 (J:∀c a w,Q (.panic c) (a.put q.dst v) w->Q (.panic c) a w)
 (M:∀l j g,nR ops l->ops[j]? =some g->j≠i->i∈eP .any ops l->j∈eP .any ops l->q.apart ops g=true/\ex j=false):
 ∀(n:Nat)(l:Array Bool)(a:Act)(w:World),nR ops l->i∈eP .any ops l->YieldsIf P ops (λA=>Sub (nA B w.heap) A.heap) q v a->Sub (nA B w.heap) w.heap->
  Qa P ops Q ex B n (l.setIfInBounds i true) (a.put q.dst v) w->Qa P ops Q ex B (n+1) l a w:=by
 intro n
 induction n with
 |zero=>
  intro l a w k d h m H;refine⟨λo=>(by rw[o]at d;cases d),λj f=>?_⟩;by_cases e:j=i
  ·subst e;exact h.wpOp E m ⟨.inr (.inr rfl),H⟩
  ·have u:=ready_mono f e;rw[H.1]at u
   grind
 |succ n x=>
  intro l a w k d h m H;refine⟨λo=>(by rw[o]at d;cases d),λj f=>?_⟩;by_cases e:j=i
  ·subst e;exact h.wpOp E m ⟨.inr (.inr rfl),H⟩
  ·obtain⟨F,g,p,G⟩:=mem_ready.1 f;obtain⟨y,K⟩:=M l j g k p e d f;have z:=H.2 j (ready_mono f e);have C:=wpOp_putIf p y (λr b=>abm I i q r b E) (λr b=>abm I j g r b p) J h z;refine wpOp_mono (λD A t=>?_) C
   have s:Sub (nA B w.heap) A.heap:=by
    grind
   refine⟨.inr (.inl s),x (l.setIfInBounds j true) D A (k.set f) (ready_mono d (Ne.symm e)) (Mn t.1 s).1 (Mn t.1 s).2 ?_⟩;simp_all [Array.setIfInBounds_comm]
theorem Qb{i:Nat}{q:Oper}{v:Value}(A:ops[i]? =some q)(E:abb ops=true)
 (I:∀c a w,Q (.panic c) (a.put q.dst v) w->Q (.panic c) a w)
 (J:∀l j g,nR ops l->ops[j]? =some g->j≠i->i∈eP .any ops l->j∈eP .any ops l->q.apart ops g=true):
 ∀(n:Nat)(l:Array Bool)(a:Act)(w:World),nR ops l->i∈eP .any ops l->YieldsIf P ops (λ_=>True) q v a->
  Qa P ops Q ex B n (l.setIfInBounds i true) (a.put q.dst v) w->Qa P ops Q ex B (n+1) l a w:=by
 intro n
 induction n with
 |zero=>
  intro l a w k d h H;refine⟨λm=>(by rw[m]at d;cases d),λj f=>?_⟩;by_cases e:j=i
  ·subst e;exact h.wpOp A trivial ⟨.inr (.inr rfl),H⟩
  ·have s:=ready_mono f e;rw[H.1]at s
   grind
 |succ n t=>
  intro l a w k d h H;refine⟨λm=>(by rw[m]at d;cases d),λj f=>?_⟩;by_cases e:j=i
  ·subst e;exact h.wpOp A trivial ⟨.inr (.inr rfl),H⟩
  ·obtain⟨D,g,o,F⟩:=mem_ready.1 f;have u:=J l j g k o e d f;have x:=H.2 j (ready_mono f e);have y:=wpOp_putIf o u (λp b=>abm E i q p b A) (λp b=>abm E j g p b o) I h x;refine wpOp_mono (λz C r=>?_) y;refine⟨r.2.1,t (l.setIfInBounds j true) z C (k.set f) (ready_mono d (Ne.symm e)) r.1 ?_⟩;simp_all [Array.setIfInBounds_comm]
def Jn(C:Ctx)(o:Oper):Nat:=
 match o.op with
 |.move _|.assign _|.pick _ _ _|.build _ _|.nilCheck _|.binOp _ _ _ _ _|.unOp _ _ _|.fieldAddr _ _ _|.field _ _ _|.indexAddr _ _ _|.index _ _ _|.extract _ _|.slice _ _ _ _ _|.makeFunc _ _ _|.makeInterface _ _|.typeAssert _ _ _ _=>0
 |.load _ _=>1
 |.lookup _ _ _ _=>1
 |.convert s d _=>match(C.ti s).d,(C.ti d).d with
  |some .string,some (.slice _)=>2
  |_,_=>0
 |.call c=>match c.callee with
  |.builtin .len=>match c.argTypes.toList with
   |[t]=>match(C.ti t).d with
    |some (.map _ _)=>1
    |_=>0
   |_=>0
  |.builtin .min|.builtin .max|.builtin .cap=>0
  |_=>2
 |_=>2
def YD(C:Ctx)(all:List Oper):Nat->Nat->Bool
 |0,_=>true
 |n+1,i=>match all[i]? with
  |some o=>o.after.toList.any λe=>match e.ground,all[e.on]? with
   |.data,some a=>match Jn C a with
    |2=>true
    |_=>YD C all n e.on
   |_,_=>false
  |none=>true
def early(C:Ctx)(all:List Oper)(i:Nat):Bool:=
 match all[i]? with
 |some o=>match Jn C o with
  |0=>true
  |1=>!YD C all 40 i
  |_=>false
 |none=>false
def reads(C:Ctx)(all:List Oper)(i:Nat):Bool:=
 match all[i]? with
 |some o=>match lD o.op with
  |true=>early C all i
  |false=>false
 |none=>false
def YE(C:Ctx)(all:List Oper)(j:Nat):Bool:=
 (lp all.length).all λi=>match ey i j with
  |true=>true
  |false=>match reads C all i with
   |true=>qB all j i||qB all i j
   |false=>true
def N5(all:List Oper):Bool:=
 (lp all.length).all λi=>(lp all.length).all λj=>match ey i j with
  |true=>true
  |false=>match all[i]?,all[j]? with
   |some a,some b=>waits b i||(waits a j||(a.apart all.toArray b||(qB all j i||qB all i j)))
   |_,_=>false
def YF(all:List Oper)(l:List Bool):List Nat:=eP .any all.toArray l.toArray
def xZ(C:Ctx)(all:List Oper):List Nat->Option Nat
 |[]=>none
 |i::a=>match early C all i with
  |true=>some i
  |false=>xZ C all a
end
section
variable{C:Ctx}
theorem N6(E:C.Ok){o:Oper}{env:Env}{a:Act}{H:af}{K:Option TV->Prop}(q:Ym C o env.ev H K)(A:dZ env a):
 ∃r v,K r/\Rel r v/\∀w:World,Sub H w.heap->(execOp a.eval o).run C.P w=.ok (.value v) w:=by
 cases n:lD o.op with
 |false=>
  obtain⟨r,v,e,f,h⟩:=FX E q A;exact⟨r,v,e,f,λw _=>h.2 n w⟩
 |true=>
  cases g:o.op with
  |load t x=>
   unfold Ym at q;rw[g]at q;dsimp only at q;split at q
   ·rename_i p u;obtain⟨l,rfl,q⟩:=elim_some q;unfold I7 at q;split at q
    ·rename_i y;obtain⟨tv,z,B,D⟩:=sn _ _ q;refine⟨some tv,tv.val,D,.some rfl,λw i=>?_⟩;have e:=Jb E y z (TV.adV i B);have f:=A.known u;simp_all [execOp,acV]
    ·exact q.elim
   simp_all
  |convert s d x=>
   unfold Ym at q;rw[g]at q;obtain⟨r,v,e,f,h⟩:=Ey E q (A.rel x);exact⟨r,v,e,f,λw i=>by simp[execOp,g,h w (λb o v j=>i.ng j)]⟩
  |lookup t m k ok=>
   unfold Ym at q;rw[g]at q;obtain⟨r,v,e,f,h⟩:=A7 E q (A.rel m) (A.rel k);exact⟨r,v,e,f,λw i=>by simp[execOp,g,h w (λb es c j=>i.map j)]⟩
  |call c=>
   unfold Ym at q;rw[g]at q;dsimp only at q;split at q
   ·rename_i b j;obtain⟨r,v,e,f,h⟩:=Di E (ty:=o.type) (vs:=c.args.map a.eval) q (by simpa using A.FU c.args.toList);refine⟨r,v,e,f,λw i=>?_⟩;have:=λF=>h F w (λb es c j=>i.map j);simp[execOp,g,resolve,j,invoke,this]
   ·exact q.elim
  |_=>rw[g]at n;cases n
end
end Go.Vc
namespace Go.Vc
open Go
def bit(d:Nat):Nat:=Nat.shiftLeft 1 d
def oV:List Oper->Nat
 |[]=>0
 |o::q=>match o.dst with
  |some d=>vw (bit d) (oV q)
  |none=>oV q
def bI:Code->Nat
 |.region _ ops _=>oV ops.toList
 |.seq a b=>vw (bI a) (bI b)
 |.cond _ a b=>vw (bI a) (bI b)
 |.block _ c=>bI c
 |.loop c=>bI c
 |_=>0
structure kL(m:Nat)(env env':Env):Prop where
 len:env'.length=env.length
 slot:∀i,m.testBit i=false->env'[i]? =env[i]?
theorem kL.refl(m:Nat)(env:Env):kL m env env:=⟨rfl,λ_ _=>rfl⟩
theorem kL.trans{m:Nat}{a b c:Env}(h:kL m a b)(k:kL m b c):kL m a c:=⟨k.len.trans h.len,λi d=>(k.slot i d).trans (h.slot i d)⟩
theorem kL.mono{m n:Nat}{a b:Env}(h:kL m a b)(q:∀i,n.testBit i=false->m.testBit i=false):kL n a b:=⟨h.len,λi c=>h.slot i (q i c)⟩
theorem gu{m n:Nat}:∀i,(vw m n).testBit i=false->m.testBit i=false:=λi h=>by
 simp_all
theorem vP{m n:Nat}:∀i,(vw m n).testBit i=false->n.testBit i=false:=λi h=>by
 simp_all
theorem YG{d i:Nat}(h:(bit d).testBit i=false):d≠i:=by
 rintro rfl;have:(1<<<d).testBit d=false:=h;simp_all
theorem pJ(o:Option Tmp)(env:Env)(r:Option TV){m:Nat}(q:∀d,o=some d->∀i,m.testBit i=false->d≠i):kL m env (env.put o r):=by
 cases o with
 |none=>exact kL.refl _ _
 |some d=>
  refine⟨by simp[Env.put],λi a=>?_⟩;simp only[Env.put];simp_all
def If(b:Bool)(p q:Prop):Prop:=match b with
 |true=>p
 |false=>q
theorem If.split{b:Bool}{p q:Prop}(A:b=true->p)(B:b=false->q):If b p q:=by
 cases b
 ·exact B rfl
 ·exact A rfl
theorem If.iff{b:Bool}{p q:Prop}:If b p q↔(b=true->p)/\(b=false->q):=by
 cases b<;>simp[If]
theorem If.dec{c p q:Prop}[Decidable c]:If (decide c) p q↔(c->p)/\(¬c->q):=by
 rw[If.iff];simp
def vQ(all:List Oper)(o:Oper)(env:Env):Option Bool:=
 match o.guard with
 |none=>some true
 |some (j,want)=>match all[j]? with
  |some a=>match a.dst with
   |some d=>match env.getD d none with
    |some (.bool true)=>some want
    |some (.bool false)=>some (!want)
    |some (.bg [])=>some false
    |_=>none
   |none=>none
  |none=>none
def x_(i:Nat):List Oper->Bool
 |[]=>false
 |o::a=>match o.guard with
  |some (j,_)=>match ey j i with
   |true=>true
   |false=>x_ i a
  |none=>x_ i a
def DH(q:Bool)(r:Option TV)(K:Option TV->Prop):Prop:=
 match q,r with
 |true,some (.bool b)=>If b (K (some (.bool true))) (K (some (.bool false)))
 |_,r=>K r
def Qc(C:Ctx)(all:List Oper):List Oper->Nat->Env->af->(Env->af->Prop)->Prop
 |[],_,env,h,Q=>Q env h
 |o::q,i,env,h,Q=>match vQ all o env with
  |some true=>N2 C o env.ev h λr a=>DH (x_ i q) r λA=>Qc C all q (i+1) (env.put o.dst A) a Q
  |some false=>Qc C all q (i+1) (env.put o.dst (some (.bg []))) h Q
  |none=>False
section
variable{P:Program}{C:Ctx}
theorem jd{q:Bool}{r:Option TV}{K:Option TV->Prop}(h:DH q r K){v:Value}(A:Rel r v):∃a,Rel a v/\K a:=by
 unfold DH at h;split at h
 ·rename_i b;obtain rfl:=A _ rfl;cases b
  ·exact⟨_,.some rfl,h⟩
  ·exact⟨_,.some rfl,h⟩
 grind
theorem dI{all:List Oper}{o:Oper}{env:Env}{a:Act}(q:dZ env a){b:Bool}(h:vQ all o env=some b):Region.wanted o (yielded all.toArray a.tmps)=b:=by
 unfold vQ at h;unfold Region.wanted;split at h
 ·simp_all
 ·rename_i j want f;rw[f];dsimp only;split at h
  ·rename_i g i;split at h
   ·rename_i d k
    have e:∀tv,env.getD d none=some tv->a.tmps[d]? =some tv.val:=λtv m=>by
     refine q.slot d tv ?_
     grind
    have l:yielded all.toArray a.tmps j=match a.tmps[d]? with|some (.bool b)=>some b|_=>none:=by
     unfold yielded;have:all.toArray[j]? =some g:=by simpa using i
     rw[this];simp only[Option.bind_some,k];cases a.tmps[d]? with
     |none=>rfl
     |some v=>cases v<;>rfl
    rw[l];split at h
    ·rename_i c;rw[e _ c];obtain rfl:=Option.some.inj h;cases want<;>rfl
    ·rename_i c;rw[e _ c];obtain rfl:=Option.some.inj h;cases want<;>rfl
    ·rename_i c;rw[e _ c];obtain rfl:=Option.some.inj h;rfl
    grind
   grind
  grind
theorem Bb(A:C.Ok){all:List Oper}{QQ:Exit->Act->World->Prop}{E:Env}{w0:World}{m:Nat}{Q:Env->af->Prop}
 (B:∀env a w,dZ env a->fS C.strict w0 w->kL m E env->Q env w.heap->QQ .normal a w):
 ∀(q:List Oper)(i:Nat)(env:Env)(a:Act)(w:World),Qc C all q i env w.heap Q->dZ env a->fS C.strict w0 w->kL m E env->(∀j,m.testBit j=false->(oV q).testBit j=false)->
  wpList C.P all.toArray QQ q a w
 |[],i,env,a,w,b,c,e,f,_=>B env a w c e f b
 |o::q,i,env,a,w,b,c,e,f,h=>by
  have k:=λj g=>by
   have:=h j g;unfold oV at this;split at this
   ·exact vP j this
   ·exact this
  have l:∀d,o.dst=some d->∀j,m.testBit j=false->d≠j:=λd p j g=>by
   have:=h j g;unfold oV at this;rw[p]at this;exact YG (gu j this)
  simp only[Qc]at b;unfold wpList;split at b
  ·rename_i n;rw[if_pos (dI c n)];refine .inl ((xX A b c).wp λr v s t u x=>?_);obtain⟨y,z,D⟩:=jd t u;exact Bb A B q (i+1) _ _ s D (c.put o.dst z) (e.trans x) (f.trans (pJ o.dst env y l)) k
  ·rename_i n;rw[if_neg (by grind [dI])];exact Bb A B q (i+1) _ _ w b (c.put o.dst (.some rfl)) e (f.trans (pJ o.dst env _ l)) k
  simp_all
end
def abA:List Nat->(Nat->Prop)->Prop
 |[],_=>True
 |x::a,f=>match a with
  |[]=>f x
  |_::_=>f x/\abA a f
theorem Qd{f:Nat->Prop}:∀{l:List Nat},abA l f->∀x∈l,f x
 |[],_,x,q=>by cases q
 |y::a,h,x,q=>by
  unfold abA at h;split at h
  ·simp only[G1]at q;rw[q];exact h
  ·rcases l8.1 q with rfl|q
   ·exact h.1
   ·exact Qd h.2 x q
def abB(o:Op):Bool:=match o with
 |.store _ _ _=>true
 |.insert _ _ _ _=>true
 |_=>false
def N7(C:Ctx)(all:List Oper):List Oper->Nat->Bool
 |[],_=>false
 |o::a,j=>match abB o.op with
  |true=>match YE C all j with
   |true=>N7 C all a (j+1)
   |false=>true
  |false=>N7 C all a (j+1)
def SS(C:Ctx)(all:List Oper)(h:af):P_:=match N7 C all all 0 with
 |true=>.at h
 |false=>.now
theorem Qe(C:Ctx)(all:List Oper)(h:af):nA (SS C all h) h=h:=by
 unfold SS;split<;>rfl
def adX(C:Ctx)(all:List Oper):Bool:=match C.loose with
 |false=>false
 |true=>match(lp all.length).any λi=>reads C all i with
  |false=>false
  |true=>(lp all.length).any λj=>match all[j]? with
   |some o=>match Jn C o with
    |2=>!YE C all j
    |_=>false
   |none=>false
def Jo(C:Ctx)(all:List Oper)(h:af)(K:P_->Prop):Prop:=match adX C all with
 |true=>∃a:af,Sub a h/\K (.sub a)
 |false=>K (SS C all h)
theorem N8{C:Ctx}{all:List Oper}{h:af}{K:P_->Prop}(q:Jo C all h K):∃B,Sub (nA B h) h/\K B:=by
 unfold Jo at q;split at q
 ·obtain⟨a,e,k⟩:=q;exact⟨.sub a,e,k⟩
 grind [Sub.refl,Qe]
def N9(B:P_)(h:af)(o:Oper):af:=match B with
 |.now=>h
 |.at a=>match lD o.op with
  |true=>a
  |false=>h
 |.sub a=>match lD o.op with
  |true=>a
  |false=>h
theorem Qf{B:P_}{h:af}{o:Oper}(q:lD o.op=true):N9 B h o=nA B h:=by
 cases B with
 |now=>rfl
 |«at»a=>unfold N9;rw[q];rfl
 |sub a=>unfold N9;rw[q];rfl
theorem V_{B:P_}{h q:af}(e:adW B h q):Sub (nA B q) q:=by
 cases B with
 |now=>exact Sub.refl _
 |«at»a=>exact Ext.sub e
 |sub a=>exact e
def N_(B:P_)(q:Bool)(o:Oper):Bool:=match B with
 |.now=>true
 |.at _=>match q with
  |false=>true
  |true=>!lD o.op
 |.sub _=>match q with
  |false=>true
  |true=>!lD o.op
def Wa(C:Ctx)(all:List Oper)(l:List Bool):Bool:=(lp all.length).any λi=>match reads C all i with
 |true=>!l.getD i false
 |false=>false
def YH(C:Ctx)(all:List Oper)(B:P_)(l:List Bool)(r:Nat):Bool:=match B with
 |.now=>YE C all r
 |.at _=>YE C all r
 |.sub _=>match YE C all r with
  |false=>false
  |true=>!Wa C all l
theorem YI{C:Ctx}{all:List Oper}{B:P_}{l:List Bool}{r:Nat}(h:YH C all B l r=true):YE C all r=true:=by
 unfold YH at h
 grind
def uM(C:Ctx)(all:List Oper)(B:P_):Nat->Bool->List Bool->Env->af->(Env->af->Prop)->Prop
 |0,_,l,env,h,Q=>match YF all l with
  |[]=>Q env h
  |_::_=>False
 |n+1,a,l,env,h,Q=>match YF all l with
  |[]=>Q env h
  |r::c=>match xZ C all (r::c)with
   |some i=>match all[i]? with
    |some o=>match N_ B a o with
     |true=>match vQ all o env with
      |some true=>Ym C o env.ev (N9 B h o) λr=>DH (x_ i all) r λA=>uM C all B n a (l.set i true) (env.put o.dst A) h Q
      |some false=>uM C all B n a (l.set i true) (env.put o.dst (some (.bg []))) h Q
      |none=>False
     |false=>False
    |none=>False
   |none=>abA (r::c) λr=>match all[r]? with
    |some o=>match vQ all o env with
     |some true=>match YH C all B l r with
      |true=>N2 C o env.ev h λx b=>DH (x_ r all) x λq=>uM C all B n true (l.set r true) (env.put o.dst q) b Q
      |false=>N2 C o env.ev h λx b=>adW B h b/\DH (x_ r all) x λq=>uM C all B n a (l.set r true) (env.put o.dst q) b Q
     |some false=>uM C all B n a (l.set r true) (env.put o.dst (some (.bg []))) h Q
     |none=>False
    |none=>False
section
variable{C:Ctx}
def Mo(all:List Oper):List Bool:=all.map λ_=>false
theorem Bc{C:Ctx}{all:List Oper}:∀(l:List Nat)(i:Nat),xZ C all l=some i->i∈l/\early C all i=true
 |[],i,h=>by cases h
 |x::a,i,h=>by
  unfold xZ at h;split at h
  ·simp_all
  ·obtain⟨q,A⟩:=Bc a i h;simp_all
theorem Hh{C:Ctx}{all:List Oper}(h:N5 all=true){i:Nat}{q:Oper}(H:early C all i=true)(A:all[i]? =some q)(l:Array Bool)(j:Nat)(B:Oper)(M:nR all.toArray l)
 (I:all.toArray[j]? =some B)(O:j≠i)(E:i∈eP .any all.toArray l)(J:j∈eP .any all.toArray l):
 q.apart all.toArray B=true/\(lD q.op=true->YE C all j=false):=by
 have b:=by simpa using I
 have c:ey i j=false:=by
  grind [absurd,ey,Yd]
 have r:=Jm E;have d:=Jm J
 have e:qB all j i=false:=by
  grind [EK,qB]
 have f:qB all i j=false:=by
  grind [EK,qB]
 have k:waits B i=false:=by
  grind [waits,uh]
 have m:waits q j=false:=by
  cases n:waits q j with
  |false=>rfl
  |true=>rw[uh n (by simp_all) E]at d;cases d
 refine⟨?_,?_⟩
 ·unfold N5 at h;have a:=um.1 (um.1 h i (K_.2 (lu.1 A).1)) j (K_.2 (lu.1 b).1);rw[c,A,b]at a;simpa[e,f,k,m]using a
 ·intro o;cases g:YE C all j with
  |false=>rfl
  |true=>
   unfold YE at g;have a:=um.1 g i (K_.2 (lu.1 A).1)
   have p:reads C all i=true:=by
    unfold reads;rw[A];dsimp only;rw[o];exact H
   rw[c,p,e,f]at a;cases a
theorem Jp{m:Nat}:∀(all:List Oper),(∀j,m.testBit j=false->(oV all).testBit j=false)->∀o∈all,∀d,o.dst=some d->∀j,m.testBit j=false->d≠j
 |[],_,o,a,_,_,_,_=>by cases a
 |x::f,g,o,a,d,e,j,b=>by
  have c:=g j b;unfold oV at c;rcases l8.1 a with rfl|a
  ·rw[e]at c;exact YG (gu j c)
  ·refine Jp f (λj b=>?_) o a d e j b
   grind [vP,oV]
theorem set_toArray(l:List Bool)(i:Nat):(l.set i true).toArray=l.toArray.setIfInBounds i true:=by
 simp_all
theorem UT{B:P_}{q:Bool}{o:Oper}{h:af}(A:N_ B q o=true)(E:lD o.op=true)(H:q=false->Sub (nA B h) h):Sub (nA B h) h:=by
 cases B with
 |now=>exact Sub.refl _
 |«at»a=>
  cases q with
  |false=>simp_all
  |true=>
   simp_all [N_]
 |sub a=>
  cases q with
  |false=>simp_all
  |true=>
   simp_all [N_]
theorem mF(H:C.Ok){all:List Oper}(M:N5 all=true)(O:abb all.toArray=true){QQ:Exit->Act->World->Prop}{ab:Env}{w0:World}{m:Nat}{Q:Env->af->Prop}{B:P_}
 (U:∀j,m.testBit j=false->(oV all).testBit j=false)(W:∀c a w,¬QQ (.panic c) a w)
 (Z:∀env a w,dZ env a->fS C.strict w0 w->kL m ab env->Q env w.heap->QQ .normal a w):
 ∀(n:Nat)(I:Bool)(l:List Bool)(env:Env)(a:Act)(w:World),uM C all B n I l env w.heap Q->(I=false->Sub (nA B w.heap) w.heap)->dZ env a->fS C.strict w0 w->kL m ab env->nR all.toArray l.toArray->
  Qa C.P all.toArray QQ (YE C all) B n l.toArray a w
 |0,I,l,env,a,w,q,u,A,J,E,_=>by
  simp only[uM]at q;split at q
  ·rename_i hr;exact⟨hr,Z env a w A J E q⟩
  simp_all
 |n+1,I,l,env,a,w,q,u,A,J,E,G=>by
  simp only[uM]at q;split at q
  ·rename_i hr;have al:eP .any all.toArray l.toArray=[]:=hr;exact⟨λ_=>Z env a w A J E q,by simp_all⟩
  ·rename_i r rs hr;have al:eP .any all.toArray l.toArray=r::rs:=hr;split at q
   ·rename_i i ar;obtain⟨a2,am⟩:=Bc _ _ ar;split at q
    ·rename_i o y;have K:all.toArray[i]? =some o:=by simp_all
     have L:=abp y;have g:=Jp all U o L;have k:i∈eP .any all.toArray l.toArray:=by simp_all
     have step:∀(v:Value)(z:Env),((lD o.op=true->YieldsIf C.P all.toArray (λe=>Sub (nA B w.heap) e.heap) o v a/\Sub (nA B w.heap) w.heap)/\(lD o.op=false->YieldsIf C.P all.toArray (λ_=>True) o v a))->uM C all B n I (l.set i true) z w.heap Q->dZ z (a.put o.dst v)->kL m ab z->
      Qa C.P all.toArray QQ (YE C all) B (n+1) l.toArray a w:=by
      intro v z N hd aw aE;have b:=mF H M O U W Z n I (l.set i true) z (a.put o.dst v) w hd u aw J aE (by rw[set_toArray];exact G.set k);rw[set_toArray]at b;cases d:lD o.op with
      |true=>
       exact SR K O (λc a w h=>absurd h (W c _ w))
        (λl j P R D S k T=>(Hh M am y l j P R D S k T).imp id (λh=>h d)) n l.toArray a w G k (N.1 d).1 (N.1 d).2 b
      |false=>
       exact Qb K O (λc a w h=>absurd h (W c _ w))
        (λl j P R D S k T=>(Hh M am y l j P R D S k T).1) n l.toArray a w G k (N.2 d) b
     split at q;rotate_left
     ·simp_all
     rename_i ao;split at q
     ·rename_i f;cases d:lD o.op with
      |true=>
       have a0:=UT ao d u;rw[Qf d]at q;obtain⟨x,v,V,X,Y⟩:=N6 H q A;obtain⟨p,s,t⟩:=jd V X;exact step v _ ⟨λ_=>⟨.inl ⟨dI A f,λe a1=>Y e a1⟩,a0⟩,λhf=>(by simp_all)⟩ t (A.put o.dst s) (E.trans (pJ o.dst env p g))
      |false=>
       obtain⟨x,v,V,X,Y⟩:=FX H q A;obtain⟨p,s,t⟩:=jd V X;exact step v _ ⟨λhf=>(by simp_all),λ_=>.inl ⟨dI A f,λe _=>Y.2 d e⟩⟩ t (A.put o.dst s) (E.trans (pJ o.dst env p g))
     ·rename_i f;exact step undef _ ⟨λd=>⟨.inr ⟨dI A f,rfl⟩,UT ao d u⟩,λ_=>.inr ⟨dI A f,rfl⟩⟩ q (A.put o.dst (.some rfl)) (E.trans (pJ o.dst env _ g))
     simp_all
    simp_all
   ·refine⟨λh0=>(by rw[al]at h0;cases h0),λj D=>?_⟩;have ac:=G.set D;have q:=Qd q j (by simp_all);split at q
    ·rename_i o y;have K:all.toArray[j]? =some o:=by simp_all
     have L:=abp y;have g:=Jp all U o L;unfold wpOp;rw[K];dsimp only;split at q
     ·rename_i f;rw[if_pos (dI A f)];split at q
      ·rename_i hx;refine .inl ((xX H q A).wp λx v e F ad ae=>?_);obtain⟨p,s,t⟩:=jd F ad;have b:=mF H M O U W Z n true (l.set j true) _ _ e t (λh=>by cases h) (A.put o.dst s) (J.trans ae) (E.trans (pJ o.dst env p g)) (by rw[set_toArray];exact ac);rw[set_toArray]at b;exact⟨.inl (YI hx),b⟩
      ·refine .inl ((xX H q A).wp λx v e F ad ae=>?_);obtain⟨ap,F⟩:=F;obtain⟨p,s,t⟩:=jd F ad;have b:=mF H M O U W Z n I (l.set j true) _ _ e t (λ_=>V_ ap) (A.put o.dst s) (J.trans ae) (E.trans (pJ o.dst env p g)) (by rw[set_toArray];exact ac);rw[set_toArray]at b;exact⟨.inr (.inl (YB ap)),b⟩
     ·rename_i f;rw[if_neg (by rw[dI A f];simp)];have b:=mF H M O U W Z n I (l.set j true) _ _ w q u (A.put o.dst (.some rfl)) J (E.trans (pJ o.dst env _ g)) (by rw[set_toArray];exact ac);rw[set_toArray]at b;exact⟨.inr (.inr rfl),b⟩
     ·exact q.elim
    ·exact q.elim
theorem Qg(all:List Oper):nR all.toArray (Mo all).toArray:=by
 intro i a b c k d;simp_all [Jx,aaP,xy,Mo]
end
def TV.S:TV->Type
 |.int _ _=>Int
 |.bool _=>Bool
 |.str _=>List UInt8
 |.ptr _=>Option Loc
 |.slice _=>Sl
 |.map _=>Option Nat
 |.one _=>One
 |.bytes n _=>Bs n
 |.words _ n _=>Ws n
 |.agg _=>Unit
 |.bg _=>Unit
 |.fn _ _ _=>Unit
 |.any _=>Unit
def TV.dat:(t:TV)->t.S
 |.int _ n=>n
 |.bool b=>b
 |.str s=>s
 |.ptr p=>p
 |.slice s=>s
 |.map r=>r
 |.one v=>v
 |.bytes _ b=>b
 |.words _ _ w=>w
 |.agg _=>()
 |.bg _=>()
 |.fn _ _ _=>()
 |.any _=>()
def TV.mk:(t:TV)->t.S->TV
 |.int k _,n=>.int k n
 |.bool _,b=>.bool b
 |.str _,s=>.str s
 |.ptr _,p=>.ptr p
 |.slice _,s=>.slice s
 |.map _,r=>.map r
 |.one _,v=>.one v
 |.bytes n _,b=>.bytes n b
 |.words k n _,w=>.words k n w
 |.agg c,_=>.agg c
 |.bg c,_=>.bg c
 |.fn f a b,_=>.fn f a b
 |.any v,_=>.any v
def TV.proj:(t:TV)->TV->Option t.S
 |.int k _,.int a n=>match k==a with|true=>some n|false=>none
 |.bool _,.bool b=>some b
 |.str _,.str s=>some s
 |.ptr _,.ptr p=>some p
 |.slice _,.slice s=>some s
 |.map _,.map r=>some r
 |.one _,.one v=>some v
 |.bytes n _,.bytes m b=>if h:m=n then some (h▸b)else none
 |.words k n _,.words a m w=>match k==a with
  |true=>if h:m=n then some (h▸w)else none
  |false=>none
 |_,_=>none
theorem TV.abC(t u:TV)(d:t.S)(h:t.proj u=some d):t.mk d=u:=by
 cases t<;>cases u<;>simp only[TV.proj,reduceCtorEq]at h
 case int.int k n b c=>
  split at h
  ·rename_i a;have a:=beq_iff_eq.1 a;subst a;injection h with h;subst h;rfl
  grind
 case bytes.bytes=>
  split at h
  ·rename_i e;subst e;injection h with h;subst h;rfl
  grind
 case words.words=>
  split at h
  ·rename_i a;have a:=beq_iff_eq.1 a;subst a;split at h
   ·rename_i e;subst e;injection h with h;subst h;rfl
   grind
  grind
 all_goals
  injection h with h;subst h;rfl
abbrev Tl:=List (Nat×TV)
def Tl.S:Tl->Type
 |[]=>Unit
 |[x]=>x.2.S
 |x::y::a=>x.2.S×Tl.S (y::a)
def Tl.dat:(T:Tl)->T.S
 |[]=>()
 |[x]=>x.2.dat
 |x::y::a=>(x.2.dat,Tl.dat (y::a))
def Tl.put:(T:Tl)->T.S->Env->Env
 |[],_,env=>env
 |[x],s,env=>env.set x.1 (some (x.2.mk s))
 |x::y::a,s,env=>Tl.put (y::a) s.2 (env.set x.1 (some (x.2.mk s.1)))
def Jq(t:TV)(r:Option TV):Option t.S:=
 match r with
 |some u=>t.proj u
 |none=>none
def Tl.proj:(T:Tl)->Env->Option T.S
 |[],_=>some ()
 |[x],env=>Jq x.2 (env.getD x.1 none)
 |x::y::c,env=>match Jq x.2 (env.getD x.1 none),Tl.proj (y::c) env with
  |some a,some b=>some (a,b)
  |_,_=>none
def forget(m:Nat):Nat->Env->Env
 |_,[]=>[]
 |i,x::a=>(match qm m i with|true=>none|false=>x)::forget m (i+1) a
def nT(env:Env)(m:Nat)(T:Tl)(s:T.S):Env:=T.put s (forget m 0 env)
def pK:TV->Bool
 |.fn _ _ _=>false
 |.any _=>false
 |.bg _=>false
 |.agg _=>false
 |_=>true
def carried(m:Nat):Nat->Env->Tl
 |_,[]=>[]
 |i,x::a=>match qm m i,x with
  |true,some t=>match pK t with
   |true=>(i,t)::carried m (i+1) a
   |false=>carried m (i+1) a
  |_,_=>carried m (i+1) a
theorem DI(m:Nat):∀(env:Env)(k i:Nat),(forget m k env)[i]? =if m.testBit (k+i)then(env[i]?).map λ_=>none else env[i]?
 |[],k,i=>by simp[forget]
 |x::q,k,0=>by
  simp only[forget,Nat.add_zero]
  grind
 |x::q,k,i+1=>by
  simp only[forget,abv];rw[DI m q (k+1) i,show k+1+i=k+(i+1) by omega]
theorem DJ(m:Nat):∀(env:Env)(k:Nat),(forget m k env).length=env.length
 |[],k=>rfl
 |x::q,k=>by simp[forget,DJ m q (k+1)]
theorem pL(m:Nat):∀(env:Env)(k:Nat)(x:Nat×TV),x∈carried m k env->m.testBit x.1=true
 |[],k,x,h=>by simp[carried]at h
 |y::a,k,x,h=>by
  unfold carried at h;split at h
  ·rename_i b;split at h
   ·rcases l8.1 h with rfl|h
    ·exact b
    ·exact pL m a (k+1) x h
   ·exact pL m a (k+1) x h
  ·exact pL m a (k+1) x h
theorem Hi{t:TV}{env:Env}{i:Nat}{d:t.S}(h:Jq t (env.getD i none)=some d):env[i]? =some (some (t.mk d)):=by
 unfold Jq at h;split at h
 ·rename_i u a;rw[TV.abC t u d h];rw[List.getD_eq_getElem?_getD]at a;cases b:env[i]? with
  |none=>rw[b]at a;cases a
  |some y=>rw[b]at a;simp at a;rw[a]
 ·cases h
theorem dZ.set{env:Env}{a:Act}(q:dZ env a){i:Nat}{tv:TV}(h:a.tmps[i]? =some tv.val):dZ (env.set i (some tv)) a:=by
 refine⟨q.defers,by simp[q.size],λj u b=>?_⟩;rw[xW]at b;by_cases c:i=j
 ·simp_all
 ·rw[if_neg c]at b;exact q.slot j u b
theorem YJ{E:Env}{a:Act}(B:dZ E a):∀(T:Tl)(s:T.S)(q:Env),dZ q a->T.proj E=some s->dZ (T.put s q) a
 |[],_,q,A,_=>A
 |[x],s,q,A,c=>A.set (B.slot _ _ (Hi c))
 |x::y::e,s,q,A,c=>by
  simp only[Tl.proj]at c;split at c
  ·rename_i d b f g;injection c with c;subst c;exact YJ B (y::e) b _ (A.set (B.slot _ _ (Hi f))) g
  grind
theorem Qh{m:Nat}:∀(T:Tl)(s:T.S)(q:Env),(∀x∈T,m.testBit x.1=true)->kL m q (T.put s q)
 |[],_,q,_=>kL.refl _ _
 |[x],s,q,h=>⟨by simp[Tl.put],λi A=>by
    simp only[Tl.put]
    grind⟩
 |x::y::a,s,q,h=>by
  have b:=h x (by simp);refine kL.trans ⟨by simp,λi A=>?_⟩ (Qh (y::a) s.2 _ (λz c=>h z (by grind)))
  grind
theorem Wb{m:Nat}{env A:Env}{a:Act}(q:dZ A a)(B:kL m env A):dZ (forget m 0 env) a:=by
 refine⟨q.defers,by rw[DJ,q.size,B.len],λi tv b=>?_⟩;rw[DI,eL]at b;cases c:m.testBit i with
 |true=>simp_all
 |false=>
  rw[c]at b;exact q.slot i tv (by rw[B.slot i c];exact b)
theorem SU{m:Nat}{env q:Env}{a:Act}{T:Tl}{s:T.S}(A:dZ q a)(B:kL m env q)(E:T.proj q=some s):dZ (nT env m T s) a:=
 YJ A T s _ (Wb A B) E
theorem Qi{m:Nat}{env:Env}{T:Tl}{s:T.S}(q:∀x∈T,m.testBit x.1=true):kL m env (nT env m T s):=
 kL.trans ⟨DJ m env 0,λi a=>by simp_all [eL,DI]⟩ (Qh T s _ q)
def Jr(K:Env->af->Prop)(Q:Exit->Env->af->Prop):Exit->Env->af->Prop
 |.normal=>K
 |e=>Q e
def YK(id:Nat)(Q:Exit->Env->af->Prop):Exit->Env->af->Prop
 |.exit q=>match ey q id with
  |true=>Q .normal
  |false=>Q (.exit q)
 |e=>Q e
def Qj:List Oper->Bool
 |[]=>false
 |o::a=>match o.guard with
  |some _=>true
  |none=>Qj a
def Js(id:Nat):Code->Nat
 |.exit d=>match ey d id with|true=>1|false=>0
 |.seq a b=>qo (Js id a) (Js id b)
 |.cond _ a b=>qo (Js id a) (Js id b)
 |.block _ c=>Js id c
 |.loop c=>Js id c
 |_=>0
def paths:Code->Nat
 |.region _ ops _=>match Qj ops.toList with|true=>2|false=>1
 |.seq a b=>Nat.mul (paths a) (paths b)
 |.cond _ a b=>qo (paths a) (paths b)
 |.block id c=>qo (paths c) (Js id c)
 |.loop _=>0
 |.exit _=>0
 |.ret=>0
 |_=>1
def pM:Code->Nat
 |.region _ ops _=>ops.toList.length
 |.seq a b=>qo (pM a) (pM b)
 |.cond _ a b=>qo (pM a) (qo (pM b) 1)
 |.block _ c=>pM c
 |.loop c=>qo (pM c) 10
 |_=>0
def DK(C:Ctx)(all:List Oper):Bool:=
 (lp all.length).any λi=>(lp all.length).any λj=>match Nat.blt i j,all[i]?,all[j]? with
  |true,some a,some b=>match xq 2 (Jn C a),xq 2 (Jn C b)with
   |true,true=>!(qB all i j||qB all j i)
   |_,_=>false
  |_,_,_=>false
def abD(C:Ctx):Code->Bool
 |.region _ ops true=>DK C ops.toList
 |_=>false
def aeZ(C:Ctx)(a b:Code):Bool:=match xq 2 (paths a),abD C a with
 |true,_=>xq 12 (pM b)
 |false,true=>xq 3 (pM b)
 |false,false=>false
def YL(d:Nat):List Operand->Bool
 |[]=>false
 |.tmp t::a=>ey t d||YL d a
 |_::a=>YL d a
def Oa(d:Nat):List Oper->Bool
 |[]=>false
 |o::a=>YL d o.op.operands.toList||(match o.guard with|some g=>ey g.1 d|none=>false)||Oa d a
def mG(d:Nat):Code->Bool
 |.region _ ops _=>Oa d ops.toList
 |.seq a b=>mG d a||mG d b
 |.cond (.tmp t) a b=>ey t d||(mG d a||mG d b)
 |.cond _ a b=>mG d a||mG d b
 |.block _ c=>mG d c
 |.loop c=>mG d c
 |.ret=>true
 |_=>false
def abE(C:Ctx)(o:Oper):TV:=match o.op with
 |.alloc _=>.ptr none
 |.box _ _=>.ptr none
 |_=>(C.ti o.type).z
def Cw(C:Ctx)(m:Nat)(b:Code)(env:Env):List Oper->Tl
 |[]=>[]
 |o::a=>match o.dst with
  |some d=>match qm m d,env.getD d none,mG d b,pK (abE C o)with
   |true,none,true,true=>(d,abE C o)::Cw C m b env a
   |_,_,_,_=>Cw C m b env a
  |none=>Cw C m b env a
def made(C:Ctx)(a b:Code)(env:Env):Tl:=match a with
 |.region id ops true=>match DK C ops.toList with
  |true=>Cw C (bI (.region id ops true)) b env ops.toList
  |false=>[]
 |_=>[]
theorem uj{C:Ctx}{m:Nat}{b:Code}{env:Env}:∀(q:List Oper),∀x∈Cw C m b env q,m.testBit x.1=true
 |[],x,a=>by cases a
 |o::q,x,a=>by
  unfold Cw at a;split at a
  ·split at a
   ·rename_i c _ _ _;rcases l8.1 a with rfl|a
    ·exact c
    ·exact uj q x a
   ·exact uj q x a
  ·exact uj q x a
theorem YM{C:Ctx}{a b:Code}{env:Env}:∀x∈made C a b env,(bI a).testBit x.1=true:=by
 intro x c;unfold made at c
 grind [uj]
def Jt:Code->Option Nat
 |.cond (.tmp t) _ _=>some t
 |.seq a _=>Jt a
 |_=>none
def extra(m:Nat)(env:Env):Option Nat->Tl
 |some t=>match qm m t,env.getD t none with
  |true,none=>[(t,.bool false)]
  |_,_=>[]
 |none=>[]
theorem Wc{m:Nat}{env:Env}{o:Option Nat}:∀x∈extra m env o,m.testBit x.1=true:=by
 intro x a;unfold extra at a
 grind
def YN(d:Nat):List Oper->Bool
 |[]=>false
 |o::a=>(match o.dst,o.guard with|some t,none=>ey t d|_,_=>false)||YN d a
def EL(d:Nat):Code->Bool
 |.region _ ops _=>YN d ops.toList
 |.seq a b=>EL d a||EL d b
 |.cond _ a b=>(ey (paths a) 0||EL d a)&&(ey (paths b) 0||EL d b)
 |_=>false
def opsOf:Code->List Oper
 |.region _ ops _=>ops.toList
 |.seq a b=>opsOf a++opsOf b
 |.cond _ a b=>opsOf a++opsOf b
 |_=>[]
def ya(d:Nat):Code->Bool
 |.region _ ops _=>Oa d ops.toList
 |.seq a b=>ya d a||ya d b
 |.cond (.tmp t) a b=>ey t d||(ya d a||ya d b)
 |.cond _ a b=>ya d a||ya d b
 |.block _ c=>ya d c
 |.loop c=>ya d c
 |_=>false
def seenIn(d:Nat):List Nat->Bool
 |[]=>false
 |t::ts=>ey t d||seenIn d ts
def Hj(C:Ctx)(m:Nat)(a b:Code)(env:Env):List Nat->List Oper->Tl
 |_,[]=>[]
 |seen,o::c=>match o.dst with
  |some d=>match qm m d,env.getD d none,seenIn d seen,pK (abE C o)with
   |true,none,false,true=>match EL d a&&ya d b with
    |true=>(d,abE C o)::Hj C m a b env (d::seen) c
    |false=>Hj C m a b env (d::seen) c
   |_,_,_,_=>Hj C m a b env seen c
  |none=>Hj C m a b env seen c
theorem vR{C:Ctx}{m:Nat}{a b:Code}{env:Env}:∀(q:List Oper)(seen:List Nat),∀x∈Hj C m a b env seen q,m.testBit x.1=true
 |[],_,x,c=>by cases c
 |o::q,seen,x,c=>by
  unfold Hj at c;split at c
  ·split at c
   ·rename_i d _ _ _;split at c
    ·rcases l8.1 c with rfl|c
     ·exact d
     ·exact vR q _ x c
    ·exact vR q _ x c
   ·exact vR q _ x c
  ·exact vR q _ x c
def Cx(C:Ctx)(a b:Code)(env:Env):Tl:=match Jt b with
 |some t=>Hj C (bI a) a b env [t] (opsOf a)
 |none=>Hj C (bI a) a b env [] (opsOf a)
def Oc(C:Ctx)(a b:Code)(env:Env):Tl:=match a with
 |.region id ops true=>match DK C ops.toList with
  |true=>[]
  |false=>Cx C (.region id ops true) b env
 |_=>Cx C a b env
theorem LH{C:Ctx}{a b:Code}{env:Env}:∀x∈Cx C a b env,(bI a).testBit x.1=true:=by
 intro x c
 grind [Cx,vR]
theorem Qk{C:Ctx}{a b:Code}{env:Env}:∀x∈Oc C a b env,(bI a).testBit x.1=true:=by
 intro x c;unfold Oc at c
 grind [LH]
def F0(C:Ctx)(a b:Code)(env:Env):Tl:=carried (bI a) 0 env++(extra (bI a) env (Jt b)++(made C a b env++Oc C a b env))
def bM{σ:Type}(q:σ->af->Prop)(A:(σ->af->Prop)->Prop):Prop:=∀a:σ->af->Prop,(∀s h,q s h->a s h)->A a
def Loop{σ:Type}(q:σ)(A:af)(round:σ->af->(σ->af->Prop)->Prop):Prop:=
 ∃(a:σ->af->Prop)(b:σ->af->Nat),a q A/\∀s h,a s h->round s h λc d=>a c d/\b c d<b s h
def back(T:Tl)(K:T.S->af->Prop)(env:Env)(h:af):Prop:=
 match T.proj env with
 |some s=>K s h
 |none=>False
def vc(C:Ctx):Code->(Exit->Env->af->Prop)->Env->af->Prop
 |.skip,Q,env,h=>Q .normal env h
 |.region _ ops d,Q,env,h=>match d with
  |false=>Qc C ops.toList ops.toList 0 env h (Q .normal)
  |true=>match N5 ops.toList,abb ops.toList.toArray with
   |true,true=>Jo C ops.toList h λB=>uM C ops.toList B ops.toList.length false (Mo ops.toList) env h (Q .normal)
   |_,_=>False
 |.seq a b,Q,env,h=>match aeZ C a b with
  |false=>vc C a (Jr (λe q=>vc C b Q e q) Q) env h
  |true=>bM (σ:=(F0 C a b env).S) (λs q=>vc C b Q (nT env (bI a) (F0 C a b env) s) q) λf=>vc C a (Jr (back (F0 C a b env) f) Q) env h
 |.cond c a b,Q,env,h=>match env.ev c with
  |some (.bool x)=>If x (vc C a Q env h) (vc C b Q env h)
  |_=>False
 |.block id c,Q,env,h=>vc C c (YK id Q) env h
 |.loop c,Q,env,h=>Loop (σ:=(carried (bI c) 0 env).S) (Tl.dat _) h λs q K=>vc C c (Jr (back (carried (bI c) 0 env) K) Q) (nT env (bI c) (carried (bI c) 0 env) s) q
 |.exit id,Q,env,h=>Q (.exit id) env h
 |.ret,Q,env,h=>Q .ret env h
 |.label _,Q,env,h=>Q .normal env h
 |_,_,_,_=>False
end Go.Vc
namespace Go
abbrev Vc.TV.i(n:Int):Vc.TV:=.int .i64 n
abbrev Value.i(n:Int):Value:=.int .i64 n
abbrev OL:=Option Vc.Loc
abbrev LU:=List UInt8
abbrev PT(b:Nat):OL:=some ⟨b,0⟩
abbrev Rq:=Value->Vc.af->Prop
theorem ID{c p q:Prop}[Decidable c](f:c->p)(g:¬c->q):Vc.If (decide c) p q:=Vc.If.dec.2 ⟨f,g⟩
end Go
namespace Go.Vc
open Go
section
variable{P:Program}{C:Ctx}
def abF(s:Bool)(m:Nat)(env:Env)(w:World)(Q:Exit->Env->af->Prop):Exit->Act->World->Prop:=
 λe c b=>fS s w b/\∃a,dZ a c/\kL m env a/\Q e a b.heap
theorem Ju(p:Nat->Prop)(h:∃n,p n):∃n,p n/\∀m,m<n->¬p m:=by
 obtain⟨n,a⟩:=h
 induction n using Nat.strongRecOn with
 |_ n b=>
  grind
open Classical in
theorem Od{c:Code}{Q:Exit->Act->World->Prop}(S:Nat->Act->World->Prop)
 (round:∀n a w,S n a w->c.wp P (Exit.then (λd f=>∃m,m<n/\S m d f) Q) a w){n:Nat}{a:Act}{w:World}(h:S n a w):(Code.loop c).wp P Q a w:=by
 refine wp_loop (λa w=>∃n,S n a w) (λa w=>if h:∃n,S n a w then Classical.choose (Ju _ h)else 0) ⟨n,h⟩ ?_;intro a w i;have j:=Classical.choose_spec (Ju _ i);refine mg (λe d f b=>?_) (round _ a w j.1);cases e with
 |normal=>
  obtain⟨m,k,g⟩:=b;refine⟨⟨m,g⟩,?_⟩;have l:∃n,S n d f:=⟨m,g⟩
  grind
 |exit _=>exact b
 |goto _=>exact b
 |ret=>exact b
 |panic _=>exact b
 |outgrown=>exact b
theorem SV{C:Ctx}{a b:Code}{env:Env}:∀x∈F0 C a b env,(bI a).testBit x.1=true:=by
 intro x c;unfold F0 at c;rcases vg.1 c with c|c
 ·exact pL _ _ _ x c
 ·rcases vg.1 c with c|c
  ·exact Wc x c
  ·rcases vg.1 c with c|c
   ·exact YM x c
   ·exact Qk x c
theorem TV.Ql(t:TV)(h:pK t=true):t.proj t=some t.dat:=by
 cases t<;>simp_all [TV.proj,TV.dat,pK]
theorem Hl(m:Nat):∀(env:Env)(k:Nat)(x:Nat×TV),x∈carried m k env->k<=x.1/\env.getD (x.1-k) none=some x.2/\pK x.2=true
 |[],k,x,h=>by simp[carried]at h
 |y::a,k,x,h=>by
  have step:x∈carried m (k+1) a->k<=x.1/\(y::a).getD (x.1-k) none=some x.2/\pK x.2=true:=λh=>by
   obtain⟨b,c,d⟩:=Hl m a (k+1) x h
   grind
  unfold carried at h
  grind
theorem EM(env:Env):∀T:Tl,(∀x∈T,env.getD x.1 none=some x.2/\pK x.2=true)->T.proj env=some (Tl.dat T)
 |[],_=>rfl
 |[x],h=>by
  obtain⟨q,A⟩:=h x (by simp);simp only[Tl.proj,q];exact TV.Ql _ A
 |x::y::a,h=>by
  obtain⟨q,A⟩:=h x (by simp);have b:=EM env (y::a) (λz c=>h z (by grind));simp_all [Tl.proj,Tl.dat,TV.Ql,Jq]
theorem YO(env:Env)(m:Nat):(carried m 0 env).proj env=some (Tl.dat _):=
 EM env _ (λx a=>by
  obtain⟨_,b,c⟩:=Hl m env 0 x a;simp_all)
theorem Mp{T:Tl}{K:T.S->af->Prop}{env:Env}{h:af}(q:back T K env h):∃s,T.proj env=some s/\K s h:=by
 grind [back]
theorem mH(E:C.Ok):∀(c:Code)(Q:Exit->Env->af->Prop)(env:Env)(a:Act)(w:World),vc C c Q env w.heap->dZ env a->c.wp C.P (abF C.strict (bI c) env w Q) a w
 |.skip,Q,env,a,w,q,A=>wp_skip ⟨fS.refl w,env,A,kL.refl _ _,q⟩
 |.label _,Q,env,a,w,q,A=>wp_label ⟨fS.refl w,env,A,kL.refl _ _,q⟩
 |.exit id,Q,env,a,w,q,A=>wp_exit ⟨fS.refl w,env,A,kL.refl _ _,q⟩
 |.ret,Q,env,a,w,q,A=>wp_ret ⟨fS.refl w,env,A,kL.refl _ _,q⟩
 |.region id ops V,Q,env,a,w,q,A=>by
  cases V with
  |false=>
   have d:=Bb E (QQ:=abF C.strict (bI (.region id ops false)) env w Q)
    (λg o l I D p J=>⟨D,g,I,p,J⟩) ops.toList 0 env a w q A (fS.refl w) (kL.refl _ _) (λj L=>L)
   have f:wpList C.P ops (abF C.strict (bI (.region id ops false)) env w Q) ops.toList a w:=by
    have:ops.toList.toArray=ops:=by simp
    rw[this]at d;exact d
   exact wp_region_list f
  |true=>
   simp only[vc]at q;split at q
   ·rename_i W X;obtain⟨B,Y,q⟩:=N8 q
    let QQ:Exit->Act->World->Prop:=λe o l=>match e with
     |.normal=>abF C.strict (bI (.region id ops true)) env w Q .normal o l
     |_=>False
    have ho:ops.toList.toArray=ops:=by simp
    have Z:(Mo ops.toList).toArray=Array.replicate ops.size false:=by
     apply eR.1;unfold Mo;rw[List.map_const'];simp
    have d:=mF E W X (QQ:=QQ) (λj L=>L) (λc a w h=>h)
     (λg o l I D p J=>⟨D,g,I,p,J⟩) ops.toList.length false (Mo ops.toList) env a {w with drawn:=w.drawn+1} q (λ_=>Y) A ⟨rfl,rfl,rfl,λ_=>G6 _⟩ (kL.refl _ _) (Qg _)
    rw[Z]at d
    have f:=wp_region_any (id:=id) (ops:=ops) (Q:=QQ) (a:=a) (w:=w) E.mixed (by
     have:=He _ _ _ _ d;simpa using this)
    refine mg (λe o l m=>?_) f;cases e with
    |normal=>exact m
    |exit _=>exact m.elim
    |goto _=>exact m.elim
    |ret=>exact m.elim
    |panic _=>exact m.elim
    |outgrown=>exact m.elim
   ·exact q.elim
 |.cond c x y,Q,env,a,w,q,A=>by
  simp only[vc]at q;split at q
  ·rename_i b z;have O:a.eval c=.bool b:=A.known z;cases b with
   |true=>exact wp_cond_true O (mg (λe o l⟨d,g,f,k,i⟩=>⟨d,g,f,k.mono gu,i⟩) (mH E x Q env a w q A))
   |false=>exact wp_cond_false O (mg (λe o l⟨d,g,f,k,i⟩=>⟨d,g,f,k.mono vP,i⟩) (mH E y Q env a w q A))
  ·exact q.elim
 |.block id c,Q,env,a,w,q,A=>by
  refine wp_block (mg (λe o l m=>?_) (mH E c (YK id Q) env a w q A));obtain⟨d,g,f,k,i⟩:=m;cases e with
  |exit ab=>
   simp only[YK]at i;simp only[Exit.inBlock];cases z:ey ab id with
   |true=>
    rw[z]at i;rw[if_pos (by simpa using z)];exact⟨d,g,f,k,i⟩
   |false=>
    rw[z]at i;rw[if_neg (by intro M;subst M;simp at z)];exact⟨d,g,f,k,i⟩
  |normal=>exact⟨d,g,f,k,i⟩
  |goto _=>exact⟨d,g,f,k,i⟩
  |ret=>exact⟨d,g,f,k,i⟩
  |panic _=>exact⟨d,g,f,k,i⟩
  |outgrown=>exact⟨d,g,f,k,i⟩
 |.seq x y,Q,env,a,w,q,A=>by
  simp only[vc]at q;split at q
  ·refine wp_seq (mg (λe o l m=>?_) (mH E x _ env a w q A));obtain⟨d,g,f,k,i⟩:=m;cases e with
   |normal=>
    refine mg (λe P R m=>?_) (mH E y Q g o l i f);obtain⟨r,v,t,F,u⟩:=m;exact⟨d.trans r,v,t,(k.mono gu).trans (F.mono vP),u⟩
   |exit _=>exact⟨d,g,f,k.mono gu,i⟩
   |goto _=>exact⟨d,g,f,k.mono gu,i⟩
   |ret=>exact⟨d,g,f,k.mono gu,i⟩
   |panic _=>exact⟨d,g,f,k.mono gu,i⟩
   |outgrown=>exact⟨d,g,f,k.mono gu,i⟩
  ·have q:=q _ (λs h hh=>hh);refine wp_seq (mg (λe o l m=>?_) (mH E x _ env a w q A));obtain⟨d,g,f,k,i⟩:=m;cases e with
   |normal=>
    obtain⟨s,hs,h5⟩:=Mp i;have hu:=SU f k hs;have N:kL (bI x) env (nT env (bI x) (F0 C x y env) s):=Qi SV;refine mg (λe P R m=>?_) (mH E y Q _ o l h5 hu);obtain⟨r,v,t,F,u⟩:=m;exact⟨d.trans r,v,t,(N.mono gu).trans (F.mono vP),u⟩
   |exit _=>exact⟨d,g,f,k.mono gu,i⟩
   |goto _=>exact⟨d,g,f,k.mono gu,i⟩
   |ret=>exact⟨d,g,f,k.mono gu,i⟩
   |panic _=>exact⟨d,g,f,k.mono gu,i⟩
   |outgrown=>exact⟨d,g,f,k.mono gu,i⟩
 |.loop c,Q,env,a,w,q,A=>by
  simp only[vc]at q;obtain⟨S,G,h0,ac⟩:=q;have hT:∀x∈carried (bI c) 0 env,(bI c).testBit x.1=true:=λx M=>pL _ _ _ x M
  let T:=carried (bI c) 0 env;refine Od (n:=G (Tl.dat T) w.heap) (λn o l=>fS C.strict w l/\∃s:T.S,dZ (nT env (bI c) T s) o/\S s l.heap/\n=G s l.heap) ?_ ?_
  ·rintro n o l ⟨d,s,f,k,rfl⟩;have hr:=ac s l.heap k;refine mg (λe P R m=>?_) (mH E c _ _ o l hr f);obtain⟨r,v,t,F,u⟩:=m;have N:kL (bI c) env (nT env (bI c) T s):=Qi hT;have p:=N.trans F;cases e with
   |normal=>
    obtain⟨H,D,g5,g6⟩:=Mp (T:=T) (K:=λH U=>S H U/\G H U<G s l.heap) u;exact⟨_,g6,d.trans r,H,SU t p D,g5,rfl⟩
   |exit _=>exact⟨d.trans r,v,t,p,u⟩
   |goto _=>exact⟨d.trans r,v,t,p,u⟩
   |ret=>exact⟨d.trans r,v,t,p,u⟩
   |panic _=>exact⟨d.trans r,v,t,p,u⟩
   |outgrown=>exact⟨d.trans r,v,t,p,u⟩
  ·refine⟨fS.refl w,Tl.dat T,?_,h0,rfl⟩;exact SU A (kL.refl _ _) (YO env (bI c))
 |.rangeFunc _ _ _ _,Q,env,a,w,q,A=>q.elim
 |.scope _,Q,env,a,w,q,A=>q.elim
 |.goto _,Q,env,a,w,q,A=>q.elim
 |.refuse _,Q,env,a,w,q,A=>q.elim
def Ho(C:Ctx):List ResultVar->Env->af->(List TV->Prop)->Prop
 |[],_,_,K=>K []
 |.tmp t::b,env,h,K=>match env.getD t none with
  |some tv=>Ho C b env h λts=>K (tv::ts)
  |none=>False
 |.cell a t::b,env,h,K=>match env.getD a none with
  |some (.ptr p)=>Nn p λl=>I7 C t l h λr=>match r with
   |some tv=>Ho C b env h λts=>K (tv::ts)
   |none=>False
  |_=>False
def Oe:List TV->Value
 |[t]=>t.val
 |ts=>(TV.bg ts).val
def abG(C:Ctx)(q:List ResultVar)(R:Value->af->Prop):Exit->Env->af->Prop
 |.normal,env,h=>Ho C q env h λts=>R (Oe ts) h
 |.ret,env,h=>Ho C q env h λts=>R (Oe ts) h
 |_,_,_=>False
def IG(args:List TV)(n:Nat):Env:=args.map some++ec (n-args.length) none
def Qm(C:Ctx)(fn:Func)(args:List TV)(h:af)(R:Value->af->Prop):Prop:=
 match fn.body with
 |some c=>vc C c (abG C fn.results.toList R) (IG args fn.ntmps) h
 |none=>False
theorem Bd:∀ts:List TV,(acU ts).length=ts.length
 |[]=>rfl
 |t::ts=>by simp[acU,Bd ts]
theorem DL(args:List TV)(n:Nat):dZ (IG args n) {tmps:=(acU args).toArray++Array.replicate (n-(acU args).toArray.size) undef,defers:=[]}:=by
 refine⟨rfl,by simp[IG,Bd],λi tv a=>?_⟩;simp only[IG]at a;by_cases c:i<args.length
 ·rw[oe (by simpa using c),Jx]at a;rw[Array.getElem?_append_left (by simp[Bd];exact c)];cases b:args[i]? with
  |none=>rw[b]at a;cases a
  |some u=>
   rw[b]at a;simp only[oo,Option.some.injEq]at a;subst a;simpa using Jf args i u b
 grind
def Jv(tmps:Array Value):ResultVar->Sem Value
 |.tmp t=>pure (tmps.getD t undef)
 |.cell x t=>do loadVar t (<-asAddr (tmps.getD x undef))
theorem SX(fn:Func)(tmps:Array Value):results fn tmps=(do
 let vs<-fn.results.mapM (Jv tmps)
 pure (if h:vs.size=1 then vs[0]else .tuple vs)):=by
 rfl
theorem Be(B:C.Ok){env:Env}{a:Act}(A:dZ env a)(w:World):∀(q:List ResultVar)(K:List TV->Prop),Ho C q env w.heap K->
 ∃ts,K ts/\(q.mapM (Jv a.tmps)).run C.P w=.ok (acU ts) w
 |[],K,h=>⟨[],h,by rfl⟩
 |.tmp t::q,K,h=>by
  simp only[Ho]at h;split at h
  ·rename_i tv e;obtain⟨ts,E,H⟩:=Be B A w q _ h;refine⟨tv::ts,E,?_⟩;have b:=A.known (x:=.tmp t) e;have c:a.tmps.getD t undef=tv.val:=b;simp only[List.mapM_cons,Jv,c9,ek,di,c];rw[H];rfl
  simp_all
 |.cell x t::q,K,h=>by
  simp only[Ho]at h;split at h
  ·rename_i p f;obtain⟨l,rfl,g⟩:=elim_some h;obtain⟨r,v,E,H,i⟩:=Ew B g;cases r with
   |none=>simp_all
   |some tv=>
    obtain rfl:=H _ rfl;obtain⟨ts,j,k⟩:=Be B A w q _ E;refine⟨tv::ts,j,?_⟩;have b:=A.known (x:=.tmp x) f;have c:a.tmps.getD x undef=.pointer (some l.addr):=b;have d:=i w rfl;unfold A1 at d;simp only[sg,c9,ek,di]at d;simp only[List.mapM_cons,Jv,c9,ek,di,c,asAddr];rw[d];simp only[di];rw[k];rfl
  simp_all
theorem DM(A:C.Ok){f:FuncId}{fn:Func}(B:C.P.funcs[f]? =some fn){args:List TV}{h:af}{R:Value->af->Prop}(q:Qm C fn args h R):qA C.strict C.P f (acU args) h R:=by
 intro w j;subst j;unfold Qm at q;split at q
 ·rename_i c k;refine calls_of_wp B k (mg (λe d a l=>?_) (mH A c _ _ _ w q (DL args fn.ntmps)));obtain⟨m,n,g,s,b⟩:=l
  have key:Ho C fn.results.toList n a.heap (λts=>R (Oe ts) a.heap)->d.defers=[]/\∃v,(results fn d.tmps).run C.P a=.ok v a/\(fS C.strict w a/\∃i,Ending.returned v=.returned i/\R i a.heap):=by
   intro o;obtain⟨ts,p,x⟩:=Be A g a _ _ o;refine⟨g.defers,Oe ts,?_,m,_,rfl,p⟩;rw[SX]
   have r:(fn.results.mapM (Jv d.tmps)).run C.P a=.ok (acU ts).toArray a:=by
    simp_all [Array.mapM_eq_mapM_toList]
   rw[c9,r];simp only[di]
   match ts with
   |[]=>rfl
   |[t]=>rfl
   |t::u::ts=>rfl
  cases e with
  |normal=>exact key b
  |ret=>exact key b
  |exit _=>exact b.elim
  |goto _=>exact b.elim
  |panic _=>exact b.elim
  |outgrown=>exact b.elim
 ·exact q.elim
end
end Go.Vc
namespace Go.Vc
open Go
def ae0(P:Program)(f:FuncId):Bool:=
 match P.funcs[f]? with
 |some fn=>fn.body.isSome
 |none=>false
def YP(P:Program)(f:FuncId):Bool:=
 match P.funcs[f]? with
 |some fn=>!(fn.name== "runtime.NumGoroutine")
 |none=>true
def Ctx.of(P:Program)(n q:Nat):Ctx:={P,gH:=(lp n).map (TI.of P),Yo:=(lp q).map (ae0 P)}
def YQ(P:Program)(t:TypeId):Bool:=
 ny (P.underlying t)||(ey (ru P 20 t).size (P.cellsOf t)&&ey (SD P 20 t).size (P.cellsOf t))
theorem Ctx.Jw{P:Program}{n q:Nat}(A:(lp n).map (λt=>(P.info? t).bind (·.zero))=(lp n).map (λt=>some (SD P 20 t).val))
 (B:(lp n).all (YQ P)=true)(E:P.follows .mixedOrders=true)(H:(lp q).all (YP P)=true):(Ctx.of P n q).Ok:=by
 have g:∀t,t<n->(Ctx.of P n q).ti t=TI.of P t:=λt a=>by
  simp[Ctx.ti,Ctx.of,a]
 refine⟨λt a=>g t (by simp_all [Ctx.of]),λt a o=>?_,λt a=>?_,λf c=>?_,E⟩
 ·have d:=by simpa[Ctx.of]using a
  have h:=congrArg (λl=>l[t]?) A;simp only[Jx,List.getElem?_range d,oo,Option.some.injEq]at h;cases k:P.info? t with
  |none=>simp_all
  |some i=>
   rw[k]at h;refine⟨i,k,.inr ?_⟩;rw[g t d];exact h
 ·have d:=by simpa[Ctx.of]using a
  have:=um.1 B t (K_.2 d);rw[g t d];unfold YQ at this;simp only[Bool.or_eq_true,eN]at this;rcases this with e|e
  ·exact .inl e
  ·exact .inr ⟨Yd e.1,Yd e.2⟩
 ·have b:f<q:=by
   rcases Nat.lt_or_ge f q with b|b
   ·exact b
   ·simp only[Ctx.of,List.getD_eq_getElem?_getD]at c;rw[List.getElem?_eq_none (by simpa using b)]at c;simp at c
  have:=by
   simp only[Ctx.of,List.getD_eq_getElem?_getD,Jx]at c;simpa[b]using c
  have j:=um.1 H f (K_.2 b);unfold ae0 at this;unfold YP at j;split at this
  ·rename_i fn m;rw[m]at j;exact⟨fn,m,this,by simpa using j⟩
  ·cases this
end Go.Vc
namespace Go.Proofs.YtennbinbffdimaaGreat
open Go Go.Vc
section
noncomputable def ctx:Ctx:=Ctx.of Tryz.prog 436 378
theorem bP:ctx.Ok:=Ctx.Jw κ κ κ κ
noncomputable def vS:Ctx:={ctx with loose:=true}
theorem abH:vS.Ok:=⟨bP.gH,bP.zero,bP.size,bP.Yo,bP.mixed⟩
noncomputable def ae1:Ctx:={ctx with strict:=true}
theorem abI:ae1.Ok:=⟨bP.gH,bP.zero,bP.size,bP.Yo,bP.mixed⟩
theorem via{C:Ctx}{f:FuncId}{fn:Func}{args:List TV}{h:af}{R:Value->af->Prop}{P:Prop}(q:C.Ok)(A:C.P.funcs[f]? =some fn)(e:P=Qm C fn args h R)(H:P):qA C.strict C.P f (acU args) h R:=
 DM (C:=C) q (fn:=fn) A (e▸H)
end
section
open Go
end
end Go.Proofs.YtennbinbffdimaaGreat
namespace Go.Vc
open Go
theorem If.yes{p q:Prop}(A:p):If true p q:=A
theorem If.no{p q:Prop}(A:q):If false p q:=A
theorem jS{h:af}{b o:Nat}{k:IntKind}{n0:Int}(q:ah h b o (.int k n0)){P:Int->Prop}(A:P n0):∃n,ah h b o (.int k n)/\P n:=⟨n0,q,A⟩
theorem mI{h q:af}(e:Ext h q){b o:Nat}{v:Value}(A:ah h b o v):ah q b o v:=by
 unfold ah at*;rw[e.ng (xY A),A]
theorem Qn{h q:af}(e:Ext h q){b o n:Nat}{x:Bs n}(A:av h b o n x):av q b o n x:=λj a=>by
 rw[e.ng (xY (A j a)),A j a]
theorem yb{h:af}{b o:Nat}{vs:List Value}{T:TypeId}{v:Value}(q:h[b]? =some (row vs T))(A:vs[o]? =some v):ah h b o v:=by
 simp_all [row,ah,ng]
theorem iH{h:af}{b o n:Nat}{vs:List Value}{T:TypeId}(q:h[b]? =some (row vs T))(A:o+n<=vs.length):gT h b o n:=λj a=>by
 grind [row,ng,frz]
theorem kO{h:af}{b:Nat}{x:Obj}(q:h[b]? =some x):b<h.size:=(X8.1 q).1
structure ag(S:Nat->Prop)(h h':af):Prop where
 size:h.size<=h'.size
 same:∀b,b<h.size->¬S b->h'[b]? =h[b]?
theorem ag.refl(S:Nat->Prop)(h:af):ag S h h:=⟨eo _,λ_ _ _=>rfl⟩
theorem ag.an{S:Nat->Prop}{h q:af}(e:Ext h q):ag S h q:=⟨e.size,λb a _=>e.same b a⟩
theorem ag.trans{S:Nat->Prop}{a b c:af}(h:ag S a b)(k:ag S b c):ag S a c:=⟨G0 h.size k.size,λi d e=>(k.same i (X5 d h.size) e).trans (h.same i d e)⟩
theorem ag.mono{S S':Nat->Prop}{a b:af}(h:ag S a b)(q:∀i,S i->S' i):ag S' a b:=⟨h.size,λi c d=>h.same i c (λe=>d (q i e))⟩
theorem ag.ext{S:Nat->Prop}{a b:af}(h:ag S a b)(q:∀i,i<a.size->¬S i):Ext a b:=⟨h.size,λi c=>h.same i c (q i c)⟩
theorem ag.cut{S:Nat->Prop}{a b c:af}(e:Ext a b)(h:ag S b c)(q:∀i,S i->a.size<=i):Ext a c:=
 ⟨G0 e.size h.size,λi d=>(h.same i (X5 d e.size) (λf=>by grind)).trans (e.same i d)⟩
theorem vT(h:af)(t:TV)(T:TypeId):(iW h t T)[h.size]? =some (row t.cells T):=by simp[iW]
theorem vU(h:af)(t:TV)(T:TypeId):Ext h (iW h t T):=Ext.push h _
theorem sy(h:af)(t:TV)(T:TypeId):(iW h t T).size=h.size+1:=by simp[iW]
theorem cO(h:af)(x:Obj):(h.push x)[h.size]? =some x:=by simp
theorem jo:∀(vs:List Value)(h:af)(b o:Nat)(us:List Value)(T:TypeId),h[b]? =some (row us T)->o+vs.length<=us.length->
 (tI h b o vs)[b]? =some (row (us.take o++vs++us.drop (o+vs.length)) T)/\(tI h b o vs).size=h.size/\∀q,q≠b->(tI h b o vs)[q]? =h[q]?
 |[],h,b,o,us,T,A,c=>by simp[tI,A]
 |v::vs,h,b,o,us,T,A,c=>by
  simp only[List.length_cons]at c
  have d:(FQ h b o v)[b]? =some (row (us.set o v) T):=by
   unfold FQ row at*
   grind
  have e:(FQ h b o v).size=h.size:=by simp[FQ]
  have f:∀q,q≠b->(FQ h b o v)[q]? =h[q]?:=λq a=>by
   unfold FQ;rw[Array.getElem?_modify,if_neg (Ne.symm a)]
  obtain⟨g,i,j⟩:=jo vs (FQ h b o v) b (o+1) (us.set o v) T d (by grind);refine⟨?_,by simp only[tI];rw[i,e],λq a=>by simp only[tI];rw[j q a,f q a]⟩;simp only[tI];rw[g];congr 2;have k:o<us.length:=ω
  have l:(us.set o v).take (o+1)=us.take o++[v]:=by
   rw[List.take_add_one,List.take_set_of_le (eo _),xW,if_pos rfl,if_pos k];rfl
  have m:(us.set o v).drop (o+1+vs.length)=us.drop (o+(vs.length+1)):=by
   rw[List.drop_set,if_pos ω]
   grind
  simp_all
theorem jJ{h:af}{b o:Nat}{us:List Value}{T:TypeId}{t:TV}(q:h[b]? =some (row us T))(A:o+t.size<=us.length):
 (t.put h b o)[b]? =some (row (us.take o++t.cells++us.drop (o+t.size)) T):=by
 have:=(jo t.cells h b o us T q (by simp_all [ac0])).1;rw[ac0]at this;exact this
theorem gV{h:af}{b o:Nat}{us:List Value}{T:TypeId}{t:TV}(q:h[b]? =some (row us T))(A:o+t.size<=us.length):ag (·=b) h (t.put h b o):=by
 have:=jo t.cells h b o us T q (by rw[ac0];exact A);exact⟨by rw[TV.put,this.2.1];exact eo _,λa _ c=>this.2.2 a c⟩
theorem gW{h:af}{b o:Nat}{us:List Value}{T:TypeId}{t:TV}(q:h[b]? =some (row us T))(A:o+t.size<=us.length):(t.put h b o).size=h.size:=
 (jo t.cells h b o us T q (by simp_all [ac0])).2.1
theorem wrap_i64{n:Int}(q:-9223372036854775808<=n)(A:n<=9223372036854775807):IntKind.wrap .i64 n=n:=Su n ⟨q,A⟩
theorem Mq(a b:Int):mn a b=min a b:=by unfold mn;omega
theorem adm(a b:Int):mx a b=max a b:=by unfold mx;omega
structure Ints(k:IntKind)(h:af)(s:Sl)(zs:List Int):Prop where
 len:zs.length=s.len
 nil:s.a=none->zs=[]
 get:∀l,s.a=some l->∀i(hi:i<zs.length),ah h l.b (l.o+i) (.int k zs[i])
 fit:∀n∈zs,(Lit.int k n).wf=true
 low:∀l,s.a=some l->zs≠[]->l.b<h.size
theorem Ints.ext{k:IntKind}{h A:af}{s:Sl}{B:List Int}(q:Ints k h s B)(e:Ext h A):Ints k A s B:=
 ⟨q.len,q.nil,λl a i b=>mI e (q.get l a i b),q.fit,λl a c=>X5 (q.low l a c) e.size⟩
theorem YR{s:Bool}{w q:World}(A:fS s w q)(e:Ext w.heap q.heap):Go.RowKit.Below w.heap.size w q:=⟨A.os,A.tape,A.output,e.size,e.same⟩
theorem bC.fin{P:Program}{f:FuncId}{args:List Value}{w:World}(q:bC P f args w.heap (λv a=>v=.bool true/\Ext w.heap a)):
 Calls P f args.toArray w λe b=>e=.returned (.bool true)/\Go.RowKit.Below w.heap.size w b:=
 (q w rfl).mono λ_ _⟨c,_,d,g,ex⟩=>⟨by grind,YR c ex⟩
theorem Qo{w:World}{x:Addr}{v:Value}(q:x.spot=none){i:Nat}(h:w.cell? (x.add i)=some v):ng w.heap x.block (x.off+i)=some v:=by
 grind [World.cell?,ng,Addr.add]
end Go.Vc
namespace Go.Vc
open Go
theorem ak.fT:∀a b:List TV,acT (a++b)=acT a++acT b
 |[],b=>rfl
 |x::a,b=>by simp only[xd,acT,ak.fT a b,lP]
theorem ak.bG{sz:Nat}:∀ts:List TV,(∀t∈ts,t.size=sz)->(acT ts).length=ts.length*sz
 |[],_=>by simp[acT]
 |x::a,h=>by
  simp only[acT,gx,List.length_cons,ac0,h x (eS ..),ak.bG a (λt b=>h t (i7 _ b)),od];omega
theorem ak.rU{sz:Nat}:∀(ts:List TV)(i j:Nat)(t:TV),(∀t∈ts,t.size=sz)->ts[i]? =some t->j<sz->(acT ts)[i*sz+j]? =t.cells[j]?
 |[],i,j,t,_,b,_=>by simp at b
 |x::a,0,j,t,h,b,c=>by
  simp only[nO,Option.some.injEq]at b;subst b;have:=h x (eS ..);simp only[acT,Nat.zero_mul,eL];rw[oe (by rw[ac0];omega)]
 |x::a,i+1,j,t,h,b,c=>by
  simp only[abv]at b;have d:=h x (eS ..);simp only[acT];rw[qb (by rw[ac0,d,od];omega),ac0,d];have:(i+1)*sz+j-sz=i*sz+j:=by rw[od];omega
  rw[this];exact ak.rU a i j t (λt b=>h t (i7 _ b)) b c
structure aj(sz:Nat)(h:af)(s:Sl)(ts:List TV):Prop where
 len:ts.length=s.len
 nil:s.a=none->ts=[]
 get:∀l,s.a=some l->∀(i:Nat)(t:TV),ts[i]? =some t->t.at h l.b (l.o+i*sz)
theorem aj.ext{sz:Nat}{h A:af}{s:Sl}{ts:List TV}(q:aj sz h s ts)(e:Ext h A):aj sz A s ts:=
 ⟨q.len,q.nil,λl a i t b=>TV.adU e (q.get l a i t b)⟩
theorem TV.UU{S:Nat->Prop}{h q:af}(e:ag S h q){b o:Nat}{t:TV}(B:¬S b)(A:t.at h b o):t.at q b o:=by
 rw[ac2]at A⊢;intro j c;have a:=A j c;have d:j<t.cells.length:=by rw[ac0];exact c
 rw[u0 d]at a⊢;have:=e.same b (xY a) B;unfold ng at a⊢;rw[this];exact a
theorem aj.only{sz:Nat}{S:Nat->Prop}{h A:af}{s:Sl}{ts:List TV}(q:aj sz h s ts)(e:ag S h A)(B:∀l,s.a=some l->¬S l.b):aj sz A s ts:=
 ⟨q.len,q.nil,λl a i t b=>TV.UU e (B l a) (q.get l a i t b)⟩
theorem aj.read{sz:Nat}{h:af}{s:Sl}{ts:List TV}(q:aj sz h s ts){i:Int}(A:0<=i)(B:i<s.len){K:Loc->Prop}
 (E:∀l t,s.a=some l->ts[i.toNat]? =some t->t.at h l.b (l.o+i.toNat*sz)->K l):0<=i/\i<s.len/\Nn s.a K:=by
 refine⟨A,B,?_⟩;have c:=q.len;have a:i.toNat<ts.length:=ω;cases b:s.a with
 |none=>have:=q.nil b;subst this;simp at a
 |some l=>exact E l ts[i.toNat] b (by simp[a]) (q.get l b _ _ (by simp[a]))
theorem aj.Bf(sz:Nat)(h:af):aj sz h acn []:=⟨rfl,λ_=>rfl,λl a=>by cases a⟩
structure Own(T:TypeId)(sz:Nat)(h:af)(s:Sl)(ts:List TV):Prop where
 size:∀t∈ts,t.size=sz
 len:ts.length=s.len
 cap:s.len<=s.cap
 row:(s=acn)\/∃b rest,s.a=some ⟨b,0⟩/\h[b]? =some (Go.Vc.row (acT ts++rest) T)/\rest.length=(s.cap-s.len)*sz
theorem Own.nil(T:TypeId)(sz:Nat)(h:af):Own T sz h acn []:=⟨(λt a=>by cases a),rfl,eo _,.inl rfl⟩
theorem Own.lt{T:TypeId}{sz:Nat}{h:af}{s:Sl}{ts:List TV}(o:Own T sz h s ts):∀l,s.a=some l->l.b<h.size:=λl a=>by
 rcases o.row with rfl|⟨b,e,c,d,_⟩
 ·cases a
 ·rw[c]at a;cases a;exact kO d
theorem Own.elems{T:TypeId}{sz:Nat}{h:af}{s:Sl}{ts:List TV}(o:Own T sz h s ts):aj sz h s ts:=by
 refine⟨o.len,λe=>?_,λl a i t c=>?_⟩
 ·rcases o.row with rfl|⟨b,f,d,_⟩
  ·exact n_ o.len
  ·rw[d]at e;cases e
 ·rcases o.row with rfl|⟨b,f,d,g,_⟩
  ·cases a
  ·rw[d]at a;cases a;rw[ac2];intro j q;have r:=o.size t (abp c);have k:=ak.rU ts i j t o.size c ω;have m:=ak.bG ts o.size;have n:i<ts.length:=(lu.1 c).1
   have p:i*sz+j<(acT ts).length:=by
    rw[m];have:(i+1)*sz<=ts.length*sz:=xg _ n;rw[od]at this;omega
   unfold ng;rw[g];simp only[Go.Vc.row,eL];rw[xy,oe p,k]
theorem Own.only{T:TypeId}{sz:Nat}{S:Nat->Prop}{h q:af}{s:Sl}{ts:List TV}(o:Own T sz h s ts)(e:ag S h q)(A:∀l,s.a=some l->¬S l.b):Own T sz q s ts:=by
 refine⟨o.size,o.len,o.cap,?_⟩;rcases o.row with d|⟨b,f,a,c,g⟩
 ·exact .inl d
 ·exact .inr ⟨b,f,a,by rw[e.same b (kO c) (A _ a),c],g⟩
theorem Own.ext{T:TypeId}{sz:Nat}{h q:af}{s:Sl}{ts:List TV}(o:Own T sz h s ts)(e:Ext h q):Own T sz q s ts:=
 o.only (S:=λ_=>False) (ag.an e) (λ_ _ h=>h)
theorem Own.new{T:TypeId}{sz:Nat}(h:af)(ts:List TV)(q:∀t∈ts,t.size=sz):Own T sz (h.push (Go.Vc.row (acT ts) T)) ⟨some ⟨h.size,0⟩,ts.length,ts.length⟩ ts:=
 ⟨q,rfl,eo _,.inr ⟨h.size,[],rfl,by simp,by simp⟩⟩
theorem je{z:TV}{n:Nat}:(cq z n).length=n*z.size:=by
 induction n with
 |zero=>simp[cq]
 |succ n a=>simp only[cq,gx,ac0,a,od];omega
theorem cD{C:Ctx}{T:TypeId}{sz:Nat}{h:af}{s:Sl}{ts:List TV}{x:TV}{K:Sl->af->Prop}(A:(C.ti T).size=sz)(J:(C.ti T).z.size=sz)(M:0<(C.ti T).bytes)
 (O:(s.len+1)*(C.ti T).bytes<=70368744177664)(o:Own T sz h s ts)(q:x.size=sz)(U:x.plain=true)
 (B:∀p r,Own T sz r p (ts++[x])->ag (λb=>∃l,s.a=some l/\l.b=b) h r->(∀l,p.a=some l->(∃y,s.a=some y/\y.b=l.b)\/h.size<=l.b)->K p r):
 ∃new,cn (h.push (row (acT [x]) T)) (acg (some (Loc.mk h.size 0)) 1 1) sz new/\(∀v∈new,bU v=true)/\au C T s 1 new (h.push (row (acT [x]) T)) K:=by
 have D:acT [x]=x.cells:=by simp[acT]
 have u:x.cells.length=sz:=by rw[ac0,q]
 refine⟨x.cells,⟨by simp[u],.inr ⟨_,rfl,λj E=>?_⟩⟩,TV.gU x U,?_⟩
 ·unfold ng;simp[row,D]
 have e:Ext h (h.push (row (acT [x]) T)):=Ext.push h _;have w:=o.ext e
 have F:∀t∈ts++[x],t.size=sz:=λt L=>by
  rcases vg.1 L with f|f
  ·exact o.size t f
  ·simp only[G1]at f;rw[f];exact q
 have g:=ak.bG ts o.size;have G:acT (ts++[x])=acT ts++x.cells:=by rw[ak.fT,D]
 refine⟨acT ts,?_,O,M,?_,?_,?_⟩
 ·rw[A];refine⟨by rw[g,o.len],?_⟩;rcases w.row with rfl|⟨b,i,a,k,_⟩
  ·exact .inl ⟨rfl,rfl⟩
  ·refine .inr ⟨_,a,λj E=>?_⟩;unfold ng;rw[k];simp only[row,eL];rw[xy,oe E]
 ·intro m;rcases w.row with rfl|⟨b,i,a,k,H⟩
  ·simp[acn]at m
  ·refine⟨.inr (by rw[a];rfl),λl d=>?_⟩;rw[a]at d;cases d;rw[A];simp only[eL]
   have V:x.cells.length<=i.length:=by
    rw[u,H];exact Nat.le_mul_of_pos_left _ ω
   refine⟨iH k (by simp only[gx,g,<-o.len];omega),?_⟩;obtain⟨N,P,Q⟩:=jo x.cells (h.push (row (acT [x]) T)) b (s.len*sz) _ T k (by simp only[gx,g,<-o.len];omega);refine B _ _ ⟨F,by simp[o.len],by simp only;omega,.inr ⟨b,i.drop sz,rfl,?_,by simp only[List.length_drop,H];rw[<-Nat.sub_sub,Nat.sub_mul (s.cap-s.len),Nat.one_mul]⟩⟩ ?_ ?_
   ·rw[N,G,<-o.len];congr 1;congr 1;rw[<-g];simp[u]
   ·refine⟨by rw[P];exact e.size,λI R n=>?_⟩;rw[Q I (λq=>n ⟨_,a,q.symm⟩),e.same I R]
   ·intro l d;cases d;exact .inl ⟨_,a,rfl⟩
 ·intro m n;rcases w.row with rfl|⟨b,i,a,_⟩
  ·simp[acn]at m
  ·rw[a]at n;cases n
 ·intro m c S;have W:(h.push (row (acT [x]) T)).size=h.size+1:=by simp
  refine B _ _ ⟨F,by simp[o.len],S,.inr ⟨_,cq (C.ti T).z (c-(s.len+1)),rfl,?_,?_⟩⟩ ?_ ?_
  ·rw[cO,G]
  ·rw[je,J]
  ·refine ag.an (e.trans (Ext.push _ _))
  ·intro l d;cases d;right;simp only;omega
end Go.Vc
namespace Go.Vc
open Go
def Var(T:TypeId)(h:af)(b:Nat)(t:TV):Prop:=h[b]? =some (row t.cells T)
theorem Var.lt{T:TypeId}{h:af}{b:Nat}{t:TV}(v:Var T h b t):b<h.size:=kO v
theorem Var.only{T:TypeId}{S:Nat->Prop}{h q:af}{b:Nat}{t:TV}(v:Var T h b t)(o:ag S h q)(A:¬S b):Var T q b t:=(o.same b v.lt A).trans v
theorem Var.ext{T:TypeId}{h q:af}{b:Nat}{t:TV}(v:Var T h b t)(e:Ext h q):Var T q b t:=(e.same b v.lt).trans v
theorem Var.at{T:TypeId}{h:af}{b:Nat}{t:TV}(v:Var T h b t):t.at h b 0:=by
 rw[ac2];intro j a;unfold ng;rw[v];simp[row]
theorem Var.ah{T:TypeId}{h:af}{b o:Nat}{t:TV}{x:Value}(v:Var T h b t)(q:t.cells[o]? =some x):Go.Vc.ah h b o x:=yb v q
theorem Var.bytes{T:TypeId}{h:af}{b n:Nat}{x:Bs n}(v:Var T h b (.bytes n x)):av h b 0 n x:=v.at
theorem Var.gT{T:TypeId}{h:af}{b o n:Nat}{t:TV}(v:Var T h b t)(q:o+n<=t.size):Go.Vc.gT h b o n:=iH v (by rw[ac0];exact q)
theorem DN(h:af)(t:TV)(T:TypeId):∃a,iW h t T=a/\Var T a h.size t/\Ext h a/\a.size=h.size+1:=
 ⟨_,rfl,vT h t T,vU h t T,sy h t T⟩
theorem pN{T:TypeId}{h:af}{b:Nat}{t0:TV}(v:Var T h b t0)(t:TV)(q:t.size=t0.size):∃a,t.put h b 0=a/\Var T a b t/\ag (·=b) h a/\a.size=h.size:=by
 have c:0+t.size<=t0.cells.length:=by rw[ac0,q];omega
 refine⟨_,rfl,?_,gV v c,gW v c⟩;have:=jJ (t:=t) v c;unfold Var;rw[this];congr 1;congr 1;rw[Ls,xe,eL,List.drop_eq_nil_of_le (by rw[ac0,q];exact eo _),wk]
end Go.Vc
namespace Go.Vc
open Go
open Classical in
noncomputable def keeps(S:Nat->Prop)(h:af):af:=h.mapIdx λi o=>if S i then o else hole
theorem Qp{S:Nat->Prop}{h:af}{b:Nat}(s:S b):(keeps S h)[b]? =h[b]?:=by
 unfold keeps;rw[Array.getElem?_mapIdx];cases h[b]? with
 |none=>rfl
 |some o=>simp[s]
theorem Wd{S:Nat->Prop}{h:af}{b:Nat}{o:Obj}(s:¬S b)(q:(keeps S h)[b]? =some o):o=hole:=by
 unfold keeps at q;rw[Array.getElem?_mapIdx]at q;cases a:h[b]? with
 |none=>rw[a]at q;cases q
 |some x=>rw[a]at q;simp[s]at q;exact q.symm
theorem Mr{S:Nat->Prop}{h q:af}(e:∀b,S b->b<h.size->q[b]? =h[b]?):Sub (keeps S h) q:=⟨λb o a c=>by
 by_cases s:S b
 ·rw[Qp s]at a;rw[e b s (X8.1 a).1,a]
 ·exact absurd (Wd s a) c⟩
theorem vV{S Q:Nat->Prop}{h A:af}(o:ag Q h A)(q:∀i,S i->¬Q i):Sub (keeps S h) A:=Mr λb s a=>o.same b a (q b s)
theorem jT{S:Nat->Prop}{h:af}:Sub (keeps S h) h:=Mr λ_ _ _=>rfl
theorem Var.keeps{T:TypeId}{S:Nat->Prop}{h:af}{b:Nat}{t:TV}(v:Var T h b t)(s:S b):Var T (keeps S h) b t:=(Qp s).trans v
end Go.Vc
namespace Go.Vc
open Go
theorem aj.cells{sz:Nat}{h:af}{s:Sl}{us:List TV}(e:aj sz h s us)(q:∀u∈us,u.size=sz)(A:0<sz):cn h s sz (acT us):=by
 have a:=ak.bG us q;refine⟨by rw[a,e.len],?_⟩;cases b:s.a with
 |none=>
  left;have:=e.nil b;have c:=e.len;rw[this]at c;exact⟨c.symm,rfl⟩
 |some l=>
  right;refine⟨l,rfl,λj d=>?_⟩;rw[a]at d;have f:j/sz<us.length:=by rw[Nat.div_lt_iff_lt_mul A];exact d
  have cm:us[j/sz]? =some us[j/sz]:=u0 f;have g:j%sz<sz:=Nat.mod_lt _ A;have i:j/sz*sz+j%sz=j:=by rw[Nat.mul_comm];exact Nat.div_add_mod j sz
  have k:=e.get l b (j/sz) _ cm;rw[ac2]at k;have n:=k (j%sz) (by rw[q _ (List.getElem_mem f)];exact g);have m:=ak.rU us (j/sz) (j%sz) _ q cm g;rw[i]at m;rw[m,<-n,Nat.add_assoc,i]
theorem ak.mJ{us:List TV}(q:∀u∈us,u.plain=true):∀v∈acT us,bU v=true:=by
 induction us with
 |nil=>intro v a;cases a
 |cons x e c=>
  intro v a;simp only[acT,vg]at a;rcases a with b|b
  ·exact TV.gU x (q x (eS ..)) v b
  ·exact c (λu d=>q u (i7 _ d)) v b
theorem oW{C:Ctx}{T:TypeId}{sz:Nat}{h:af}{t s:Sl}{ts us:List TV}{K:Sl->af->Prop}(E:(C.ti T).size=sz)(U:(C.ti T).z.size=sz)(W:0<(C.ti T).bytes)(H:0<sz)
 (Z:(t.len+s.len)*(C.ti T).bytes<=70368744177664)(o:Own T sz h t ts)(e:aj sz h s us)(q:∀u∈us,u.size=sz)(hp:∀u∈us,u.plain=true)
 (A:∀t' g,Own T sz g t' (ts++us)->(t.len=t.cap->Ext h g)->ag (λb=>∃l,t.a=some l/\l.b=b) h g->(∀l,t'.a=some l->(∃D,t.a=some D/\D.b=l.b)\/h.size<=l.b)->K t' g):
 ∃new,cn h s sz new/\(∀v∈new,bU v=true)/\au C T t s.len new h K:=by
 have F:=ak.bG us q;refine⟨acT us,e.cells q H,ak.mJ hp,?_⟩
 have G:∀x∈ts++us,x.size=sz:=λx n=>by
  rcases vg.1 n with p|p
  ·exact o.size x p
  ·exact q x p
 have I:=ak.bG ts o.size;have i:=e.len;have r:=o.len;have ab:=o.cap;refine⟨acT ts,?_,Z,W,?_,?_,?_⟩
 ·rw[E];exact o.elems.cells o.size H
 ·intro j;rcases o.row with rfl|⟨b,d,f,w,J⟩
  ·simp only[acn]at j⊢;exact⟨.inl ω,λl a=>by cases a⟩
  ·refine⟨.inr (by rw[f];rfl),λl a=>?_⟩;rw[f]at a;cases a;rw[E];simp only[eL]
   have ac:s.len*sz<=d.length:=by
    rw[J];exact xg _ ω
   have L:t.len*sz+(acT us).length<=(acT ts++d).length:=by
    simp only[gx,I,<-o.len,F,i];omega
   refine⟨iH w L,?_⟩;obtain⟨Q,M,N⟩:=jo (acT us) h b (t.len*sz) _ T w L;have R:acT (ts++us)=acT ts++acT us:=ak.fT _ _
   have O:(tI h b (t.len*sz) (acT us))[b]? =some (Go.Vc.row (acT (ts++us)++d.drop (s.len*sz)) T):=by
    rw[Q,R,<-o.len,<-I];congr 2;simp[F,i]
   have S:(d.drop (s.len*sz)).length=(t.cap-(t.len+s.len))*sz:=by
    simp only[List.length_drop,J];rw[<-Nat.sub_sub,Nat.sub_mul (t.cap-t.len)]
   refine A _ _ ⟨G,by simp[r,i],by simp only;omega,.inr ⟨b,d.drop (s.len*sz),rfl,O,S⟩⟩ ?_ ?_ ?_
   ·intro ad;have y:s.len=0:=ω;refine⟨by rw[M];exact eo _,λk V=>?_⟩;by_cases P:k=b
    ·subst P;have B:us=[]:=n_ ω;rw[O,w,B,y];simp
    ·exact N k P
   ·refine⟨by rw[M];exact eo _,λk V m=>?_⟩;exact N k (λn=>m ⟨_,f,n.symm⟩)
   ·intro l a;cases a;exact .inl ⟨_,f,rfl⟩
 ·intro j m;rcases o.row with rfl|⟨b,d,f,_⟩
  ·simp only[acn]at j;have y:s.len=0:=ω;have B:us=[]:=n_ ω;have X:ts=[]:=n_ (by simpa[acn]using r);rw[y];refine A _ _ ?_ (λ_=>Ext.refl _) (ag.refl _ _) (λl a=>by cases a);rw[B,X];exact Own.nil T sz h
  ·rw[f]at m;cases m
 ·intro j c Y;refine A _ _ ⟨G,by simp[r,i],Y,.inr ⟨_,cq (C.ti T).z (c-(t.len+s.len)),rfl,?_,?_⟩⟩ ?_ ?_ ?_
  ·rw[cO,ak.fT]
  ·rw[je,U]
  ·intro _;exact Ext.push _ _
  ·exact ag.an (Ext.push _ _)
  ·intro l a;cases a;right;exact eo _
end Go.Vc
namespace Go.Vc
open Go
theorem DO:∀(ts:List TV)(i:Nat)(t:TV),(∀t∈ts,t.size=1)->t.size=1->i<ts.length->(acT ts).take i++t.cells++(acT ts).drop (i+1)=acT (ts.set i t)
 |[],i,t,_,_,b=>by simp at b
 |x::d,0,t,h,a,_=>by
  have c:x.cells.length=1:=by rw[ac0];exact h x (eS ..)
  simp only[acT,List.set_cons_zero,Ls,xe,eL];rw[<-c,List.drop_left]
 |x::d,i+1,t,h,a,b=>by
  have c:x.cells.length=1:=by rw[ac0];exact h x (eS ..)
  obtain⟨v,e⟩:=List.length_eq_one_iff.1 c;have f:=DO d i t (λt a=>h t (i7 _ a)) a (by simpa using b);simp only[acT,List.set_cons_succ,e,xd,xe,ox,List.drop_succ_cons];rw[<-f]
theorem Cy{T:TypeId}{h:af}{b i:Nat}{ts:List TV}(v:Var T h b (.agg ts))(q:∀t∈ts,t.size=1)(B:i<ts.length){t:TV}(A:t.size=1):
 gT h b i 1/\∃q,t.put h b i=q/\Var T q b (.agg (ts.set i t))/\ag (·=b) h q/\q.size=h.size:=by
 have c:(acT ts).length=ts.length:=by rw[ak.bG (sz:=1) ts q,rq]
 have a:i+t.size<=(ac6 ts).cells.length:=by simp only[acS,c,A];omega
 refine⟨iH v (by rw[<-A];exact a),_,rfl,?_,gV v a,gW v a⟩;have:=jJ (t:=t) v a;unfold Var;rw[this];simp only[acS,A];rw[DO ts i t q A B]
def In(A:Sl)(i:Nat):Prop:=∃l,A.a=some l/\l.b=i
theorem Own.set{T:TypeId}{h:af}{s:Sl}{ts:List TV}(o:Own T 1 h s ts){i:Nat}{t:TV}(A:i<ts.length)(q:t.size=1):
 ∃l,s.a=some l/\gT h l.b (l.o+i*1) 1/\∃a,t.put h l.b (l.o+i*1)=a/\Own T 1 a s (ts.set i t)/\ag (In s) h a/\a.size=h.size:=by
 have g:(acT ts).length=ts.length:=by rw[ak.bG (sz:=1) ts o.size,rq]
 rcases o.row with rfl|⟨b,f,e,c,k⟩
 ·have:=o.len;simp[acn]at this;rw[this]at A;simp at A
 ·have d:i+t.size<=(acT ts++f).length:=by rw[gx,g,q];omega
  refine⟨⟨b,0⟩,e,?_,_,rfl,?_,?_,?_⟩
  ·simp only[eL,rq];exact iH c (by rw[<-q];exact d)
  ·simp only[eL,rq];have:=jJ (t:=t) c d;refine⟨λu m=>?_,by rw[List.length_set];exact o.len,o.cap,.inr ⟨b,f,e,?_,k⟩⟩
   ·rcases List.mem_or_eq_of_mem_set m with a|rfl
    ·exact o.size u a
    ·exact q
   ·rw[this,q,<-DO ts i t o.size q A];congr 2;rw[List.take_append_of_le_length ω,List.drop_append_of_le_length ω];simp
  ·simp only[eL,rq];exact(gV c d).mono λj n=>⟨⟨b,0⟩,e,n.symm⟩
  ·simp only[eL,rq];exact gW c d
end Go.Vc
namespace Go.Vc
open Go
theorem Ctx.Ok.LI{C:Ctx}(q:C.Ok){f:FuncId}(h:C.Yo.getD f false=true):NZ C.P f:=by
 obtain⟨fn,b,a,c⟩:=q.Yo f h;intro args w;have d:¬fn.name= "runtime.NumGoroutine" :=by simpa using c
 have e:¬fn.body=none:=by intro g;rw[g]at a;cases a
 simp[callFunc,b,d,e]
theorem Of{P:Program}{h:af}{t e:TypeId}{i:TypeInfo}{m:Go.Method}{name:String}{f:FuncId}{l:Loc}(q:P.info? t=some i)(A:i.methods.find? (·.name==name)=some m)
 (B:m.path=#[])(E:m.func=some (f,true))(H:P.underlying t=some (.pointer e))(J:0<P.types.size)(I:NZ P f):gq P h t (ac8 (some l)).val name f (ac8 (some l)).val:=by
 refine⟨I,λw _=>?_⟩;obtain⟨n,a⟩:∃n,P.types.size+Made.depth=n+1:=⟨P.types.size+Made.depth-1,ω⟩;rw[a];unfold method;simp only[c9,run_typeInfo w q,di,A,B,follow,ek,E,receiverAt,run_underlying H,Place.get]
theorem adY(ts:Array TypeId)(ty:TypeId)(a:Addr)(s m:ByteArray):Builtin.ssaWrapNilChk_ ts ty #[.pointer (some a),.string s,.string m]=pure (.pointer (some a)):=rfl
theorem Og{C:Ctx}(q:C.Ok){h:af}{t e:TypeId}{i:TypeInfo}{m:Go.Method}{name:String}{f:FuncId}{l:Loc}{tv:TV}(A:C.P.info? t=some i)(B:i.methods.find? (·.name==name)=some m)
 (E:m.path=#[])(H:m.func=some (f,false))(I:C.P.underlying t=some (.pointer e))(W:0<C.P.types.size)(J:NZ C.P f)
 (M:fM (C.ti e).d=true)(O:tv.has (C.ti e).sh=true)(U:tv.at h l.b l.o):gq C.P h t (ac8 (some l)).val name f tv.val:=by
 refine⟨J,λw b=>?_⟩;obtain⟨n,c⟩:∃n,C.P.types.size+Made.depth=n+1:=⟨C.P.types.size+Made.depth-1,ω⟩;rw[c];have a:=Jb q M O (w:=w) (l:=l) (by rw[b];exact U);unfold A1 at a;simp only[sg,c9,ek,di]at a;unfold method;simp only[c9,run_typeInfo w A,di,B,E,follow,ek,H,receiverAt,run_underlying I,Place.get,acV,oo,strVal,adY,asAddr];rw[if_pos (by rfl:(#[]:Array FieldStep).isEmpty=true)];simp only[c9,ek,di,a]
def UX(P:Program)(t:TypeId)(name:String):Option (FuncId×Bool):=match P.info? t with
 |some i=>match i.methods.find? (·.name==name)with
  |some m=>match m.path.isEmpty with
   |true=>m.func
   |false=>none
  |none=>none
 |none=>none
theorem Mt{P:Program}{t:TypeId}{name:String}{r:FuncId×Bool}(h:UX P t name=some r):∃i m,P.info? t=some i/\i.methods.find? (·.name==name)=some m/\m.path=#[]/\m.func=some r:=by
 unfold UX at h;split at h
 ·rename_i i a;split at h
  ·rename_i m b;split at h
   ·rename_i c;exact⟨i,m,a,b,Array.isEmpty_iff.1 c,h⟩
   ·cases h
  ·cases h
 ·cases h
theorem Bi{C:Ctx}(q:C.Ok){h:af}{t e:TypeId}{name:String}{f:FuncId}{l:Loc}(A:UX C.P t name=some (f,true))(B:(C.ti t).d=some (.pointer e))(E:0<C.P.types.size)(H:C.Yo.getD f false=true):
 gq C.P h t (ac8 (some l)).val name f (ac8 (some l)).val:=by
 obtain⟨i,m,a,b,c,g⟩:=Mt A;exact Of a b c g (q.d B) E (q.LI H)
theorem JA{C:Ctx}(q:C.Ok){h:af}{t e:TypeId}{name:String}{f:FuncId}{l:Loc}{tv:TV}(A:UX C.P t name=some (f,false))(B:(C.ti t).d=some (.pointer e))(E:0<C.P.types.size)(H:C.Yo.getD f false=true)
 (I:fM (C.ti e).d=true)(J:tv.has (C.ti e).sh=true)(M:tv.at h l.b l.o):gq C.P h t (ac8 (some l)).val name f tv.val:=by
 obtain⟨i,m,a,b,c,g⟩:=Mt A;exact Og q a b c g (q.d B) E (q.LI H) I J M
theorem aa{h:af}{t:TV}{T:TypeId}{K:af->Prop}(q:∀a,Var T a h.size t->Ext h a->a.size=h.size+1->K a):Bind (iW h t T) K:=by
 obtain⟨a,b,v1,c,d⟩:=DN h t T;rw[b];exact q a v1 c d
theorem aH{T:TypeId}{h:af}{b:Nat}{t0 t:TV}{K:af->Prop}(v:Var T h b t0)(q:t.size=t0.size)(A:∀a,Var T a b t->ag (·=b) h a->a.size=h.size->K a):gT h b 0 t0.size/\Bind (t.put h b 0) K:=by
 obtain⟨a,c,v1,d,e⟩:=pN v t q;refine⟨v.gT ω,?_⟩;rw[c];exact A a v1 d e
theorem jU:∀(ts:List TV)(i o:Nat)(t t0:TV),ts[i]? =some t0->t.size=t0.size->acX (ts.take i)=o->(acT ts).take o++t.cells++(acT ts).drop (o+t.size)=acT (ts.set i t)
 |[],i,o,t,t0,h,_,_=>by simp at h
 |x::a,0,o,t,t0,h,q,b=>by
  simp only[nO,Option.some.injEq]at h;subst h;simp only[Ls,acX]at b;subst b;simp only[acT,List.set_cons_zero,Ls,xe,eL];rw[q,<-ac0 x,List.drop_left]
 |x::a,i+1,o,t,t0,h,q,b=>by
  simp only[abv]at h;simp only[ox,acX]at b;have d:=jU a i (o-x.size) t t0 h q ω;have c:=ac0 x;simp only[acT,List.set_cons_succ];rw[<-d]
  have e:(x.cells++acT a).take o=x.cells++(acT a).take (o-x.size):=by
   rw[List.take_append,List.take_of_length_le ω,c]
  have f:(x.cells++acT a).drop (o+t.size)=(acT a).drop (o-x.size+t.size):=by
   rw[List.drop_append,Ma ω,c,xe];congr 1;omega
  rw[e,f];simp only[lP]
theorem ak.ry:∀(ts:List TV)(i:Nat)(t0:TV),ts[i]? =some t0->acX (ts.take i)+t0.size<=acX ts
 |[],i,t0,h=>by simp at h
 |x::a,0,t0,h=>by
  simp only[nO,Option.some.injEq]at h;subst h;simp only[Ls,acX];omega
 |x::a,i+1,t0,h=>by
  simp only[abv]at h;have:=ak.ry a i t0 h;simp only[ox,acX];omega
theorem aI{T:TypeId}{h:af}{b i o n:Nat}{ts:List TV}{t t0:TV}{K:af->Prop}(v:Var T h b (.agg ts))(q:ts[i]? =some t0)(A:t.size=t0.size)(B:n=t0.size)(E:acX (ts.take i)=o)
 (H:∀a,Var T a b (.agg (ts.set i t))->ag (·=b) h a->a.size=h.size->K a):gT h b o n/\Bind (t.put h b o) K:=by
 have d:=ak.ry ts i t0 q;have c:o+t.size<=(ac6 ts).cells.length:=by rw[ac0];simp only[acW];omega
 refine⟨iH v (by rw[B,<-A];exact c),?_⟩;refine H _ ?_ (gV v c) (gW v c);have:=jJ (t:=t) v c;unfold Var;rw[this];simp only[acS];rw[jU ts i o t t0 q A E]
theorem DP{sz:Nat}(ts:List TV)(i:Nat)(t:TV)(h:∀t∈ts,t.size=sz)(q:t.size=sz)(A:i<ts.length):(acT ts).take (i*sz)++t.cells++(acT ts).drop (i*sz+t.size)=acT (ts.set i t):=by
 refine jU ts i (i*sz) t ts[i] (by simp[A]) (by rw[q,h _ (List.getElem_mem _)]) ?_
 have:∀(l:List TV),(∀t∈l,t.size=sz)->acX l=l.length*sz:=by
  intro l a;rw[<-ak.ai,ak.bG l a]
 rw[this _ (λt q=>h t (List.mem_of_mem_take q)),fo,L1 ω]
theorem Own.aH{T:TypeId}{sz n:Nat}{h:af}{s:Sl}{ts:List TV}{K:af->Prop}{t:TV}{i:Int}(o:Own T sz h s ts)(B:0<=i)(A:i<ts.length)(q:t.size=sz)(E:n=sz)
 (H:∀a,Own T sz a s (ts.set i.toNat t)->ag (In s) h a->a.size=h.size->K a):
 0<=i/\i<(s.len:Int)/\Nn s.a λl=>gT h l.b (l.o+i.toNat*sz) n/\Bind (t.put h l.b (l.o+i.toNat*sz)) K:=by
 have f:=o.len;have k:=ak.bG ts o.size;refine⟨B,ω,?_⟩;rcases o.row with rfl|⟨b,g,e,d,m⟩
 ·simp[acn]at f;rw[f]at A;simp at A;omega
 ·have v:i.toNat*sz+sz<=ts.length*sz:=by
   have:=xg sz (show i.toNat+1<=ts.length by omega)
   rwa [od]at this
  have c:i.toNat*sz+t.size<=(acT ts++g).length:=by rw[gx,k,q];omega
  rw[e];show gT h b (0+i.toNat*sz) n/\Bind (t.put h b (0+i.toNat*sz)) K;rw[eL];refine⟨iH d (by rw[E];rw[q]at c;exact c),H _ ?_ ((gV d c).mono λj p=>⟨⟨b,0⟩,e,p.symm⟩) (gW d c)⟩;have:=jJ (t:=t) d c;refine⟨λu r=>?_,by rw[List.length_set];exact o.len,o.cap,.inr ⟨b,g,e,?_,m⟩⟩
  ·rcases List.mem_or_eq_of_mem_set r with a|rfl
   ·exact o.size u a
   ·exact q
  ·rw[this,<-DP ts i.toNat t o.size q ω];congr 2;rw[List.take_append_of_le_length ω,List.drop_append_of_le_length ω];simp
end Go.Vc
namespace Go.Vc
open Go
theorem JB{α:Type}(P C Q q A:List α)(d n:Nat)(B:d+n<=C.length):
 (P++(C++Q)++q).take (P.length+d)++A++(P++(C++Q)++q).drop (P.length+d+n)=P++(C.take d++A++C.drop (d+n))++Q++q:=by
 rw[Nat.add_assoc P.length d n,lP P,List.take_length_add_append,List.drop_length_add_append,lP C,List.take_append_of_le_length ω,List.drop_append_of_le_length ω];simp only[lP]
theorem Own.aI{T:TypeId}{sz n d:Nat}{h:af}{s:Sl}{ts:List TV}{K:af->Prop}{u t t0:TV}{i:Int}(o:Own T sz h s ts)(E:0<=i)(A:ts[i.toNat]? =some t0)(q:u.size=n)
 (H:d+n<=sz)(B:t0.cells.take d++u.cells++t0.cells.drop (d+n)=t.cells)
 (I:∀a,Own T sz a s (ts.set i.toNat t)->ag (In s) h a->a.size=h.size->K a):
 0<=i/\i<(s.len:Int)/\Nn s.a λl=>gT h l.b (l.o+i.toNat*sz+d) n/\Bind (u.put h l.b (l.o+i.toNat*sz+d)) K:=by
 have r:i.toNat<ts.length:=(lu.1 A).1;have y:=o.len;have w:=ak.bG ts o.size;have c:t0.size=sz:=o.size _ (abp A)
 have k:t.size=sz:=by
  rw[<-ac0,<-B,gx,gx,fo,List.length_drop,ac0,ac0,c,q];omega
 refine⟨E,ω,?_⟩;rcases o.row with rfl|⟨b,m,p,e,z⟩
 ·simp only[acn]at y;omega
 ·have N:i.toNat*sz+sz<=ts.length*sz:=by
   have:=xg sz (show i.toNat+1<=ts.length by omega)
   rwa [od]at this
  have f:i.toNat*sz+d+u.size<=(acT ts++m).length:=by rw[gx,w,q];omega
  rw[p];show gT h b (0+i.toNat*sz+d) n/\Bind (u.put h b (0+i.toNat*sz+d)) K;rw[eL];refine⟨iH e (by rw[<-q];exact f),I _ ?_ ((gV e f).mono λj C=>⟨⟨b,0⟩,p,C.symm⟩) (gW e f)⟩;have D:=jJ (t:=u) e f;refine⟨λv F=>?_,by rw[List.length_set];exact o.len,o.cap,.inr ⟨b,m,p,?_,z⟩⟩
  ·rcases List.mem_or_eq_of_mem_set F with a|rfl
   ·exact o.size v a
   ·exact k
  ·have g:=DP ts i.toNat t0 o.size c r
   have G:ts.set i.toNat t0=ts:=by
    obtain⟨a,J⟩:=lu.1 A;rw[<-J,List.set_getElem_self]
   rw[G]at g;rw[D,<-DP ts i.toNat t o.size k r,k,<-B,<-q];rw[c]at g;obtain⟨P,x⟩:∃P,P=(acT ts).take (i.toNat*sz):=⟨_,rfl⟩;obtain⟨Q,L⟩:∃Q,Q=(acT ts).drop (i.toNat*sz+sz):=⟨_,rfl⟩;rw[<-x,<-L]at g⊢;have M:P.length=i.toNat*sz:=by rw[x,fo,w];omega
   have:=JB P t0.cells Q m u.cells d u.size (by rw[ac0,c,q];exact H);rw[M]at this;rw[<-g,lP P,this]
theorem wf_u8{n:Int}(h:(Lit.int .u8 n).wf=true):0<=n/\n<256:=by
 simp only[Lit.wf,eN,decide_eq_true_eq]at h;have a:IntKind.u8.min<=n:=h.1;have b:n<=IntKind.u8.max:=h.2;have c:IntKind.u8.min=0:=rfl;have d:IntKind.u8.max=255:=rfl;omega
theorem wf_u64{n:Int}(h:(Lit.int .u64 n).wf=true):0<=n/\n<18446744073709551616:=by
 simp only[Lit.wf,eN,decide_eq_true_eq]at h;have a:IntKind.u64.min<=n:=h.1;have b:n<=IntKind.u64.max:=h.2;have c:IntKind.u64.min=0:=rfl;have d:IntKind.u64.max=18446744073709551615:=rfl;omega
def fU(n:Nat)(l:List UInt8):Bs n:=⟨(l++ec n 0).take n,by simp⟩
theorem JC{T:TypeId}{h:af}{b i o n:Nat}{ts:List TV}{s:List UInt8}{K:af->Prop}(v:Var T h b (.agg ts))(q:ts[i]? =some (.bytes n (acz n)))(A:acX (ts.take i)=o)(B:s.length<=n)
 (E:∀a,Var T a b (.agg (ts.set i (.bytes n (fU n s))))->ag (·=b) h a->a.size=h.size->K a):
 gT h b o (ff s.length n)/\Bind (tI h b o ((s.take (ff s.length n)).map λ(c:UInt8)=>dr .u8 (c.toNat:Int))) K:=by
 have p:ff s.length n=s.length:=L1 B;rw[p,List.take_length];have r:=ak.ry ts i _ q;have k:(ac5 n (acz n)).size=n:=by simp only[acW]
 rw[k]at r;have f:o+(s.map λ(c:UInt8)=>dr .u8 (c.toNat:Int)).length<=(ac6 ts).cells.length:=by rw[ac0,v_];simp only[acW];omega
 have e:=jo (s.map λ(c:UInt8)=>dr .u8 (c.toNat:Int)) h b o _ T v f;refine⟨iH v (by rw[v_]at f;exact f),E _ ?_ ⟨by rw[e.2.1];exact eo _,λt _ u=>e.2.2 t u⟩ e.2.1⟩;unfold Var;rw[e.1];congr 2;have m:(ac6 ts).cells=acT ts:=by simp only[acS]
 have w:(ac6 (ts.set i (.bytes n (fU n s)))).cells=acT (ts.set i (.bytes n (fU n s))):=by simp only[acS]
 rw[m,w];have d:=jU ts i o (.bytes n (acz n)) (.bytes n (acz n)) q rfl A
 have x:ts.set i (.bytes n (acz n))=ts:=by
  obtain⟨a,y⟩:=lu.1 q;rw[<-y,List.set_getElem_self]
 rw[x]at d;have a:=jU ts i o (.bytes n (fU n s)) (.bytes n (acz n)) q (by simp only[acW]) A;rw[<-a];obtain⟨P,g⟩:∃P,P=(acT ts).take o:=⟨_,rfl⟩;have z:(ac5 n (fU n s)).size=n:=by simp only[acW]
 rw[k]at d;rw[z];obtain⟨Q,C⟩:∃Q,Q=(acT ts).drop (o+n):=⟨_,rfl⟩;rw[<-g,<-C]at d⊢
 have D:P.length=o:=by
  rw[g,fo,<-m,ac0];simp only[acW];omega
 have F:(ac5 n (acz n)).cells=ec n (.int .u8 0):=by simp[acS,acz]
 rw[F]at d;have j:=JB P (ec n (.int .u8 0)) Q [] (s.map λ(c:UInt8)=>dr .u8 (c.toNat:Int)) 0 s.length (by rw[List.length_replicate];omega);rw[D,wk,wk,Nat.add_zero,<-lP P,d]at j;rw[<-g]at j;rw[v_,j];congr 2;have G:(ac5 n (fU n s)).cells=(fU n s).l.map λc=>dr .u8 (c.toNat:Int):=by simp only[acS]
 rw[G];unfold fU;simp only;rw[List.take_append,List.take_of_length_le B,List.map_append];simp[List.take_replicate,List.drop_replicate]
theorem JD{T:TypeId}{h:af}{b i o p n k:Nat}{ts:List TV}{x:Bs n}{c:Int}{K:af->Prop}(v:Var T h b (.agg ts))(A:ts[i]? =some (.bytes n x))(B:acX (ts.take i)=o)(E:k<n)(H:p=o+k)(J:0<=c)(q:c<256)
 (I:∀q,Var T q b (.agg (ts.set i (.bytes n (x.set k (UInt8.ofNat c.toNat)))))->ag (·=b) h q->q.size=h.size->K q):
 gT h b p 1/\Bind ((ac7 .u8 c).put h b p) K:=by
 subst H;have r:=ak.ry ts i _ A;have a:∀y:Bs n,(ac5 n y).size=n:=λy=>by simp only[acW]
 rw[a]at r;have f:∀us:List TV,(ac6 us).cells=acT us:=λus=>by simp only[acS]
 have d:o+k+(ac7 .u8 c).size<=(ac6 ts).cells.length:=by rw[ac0];simp only[acW];omega
 refine⟨iH v d,I _ ?_ (gV v d) (gW v d)⟩;have s:=jJ (t:=.int .u8 c) v d;unfold Var;rw[s,f,f];congr 2;have j:∀y:Bs n,(ac5 n y).cells=y.l.map λc=>dr .u8 (c.toNat:Int):=λy=>by simp only[acS]
 have u:=jU ts i o (.bytes n (x.set k (UInt8.ofNat c.toNat))) (.bytes n x) A (by rw[a,a]) B;have g:=jU ts i o (.bytes n x) (.bytes n x) A rfl B
 have w:ts.set i (.bytes n x)=ts:=by
  obtain⟨G,z⟩:=lu.1 A;rw[<-z,List.set_getElem_self]
 rw[w,a,j]at g;rw[<-u,a,j];obtain⟨P,l⟩:∃P,P=(acT ts).take o:=⟨_,rfl⟩;obtain⟨Q,C⟩:∃Q,Q=(acT ts).drop (o+n):=⟨_,rfl⟩;rw[<-l,<-C]at g⊢
 have D:P.length=o:=by
  rw[l,fo,<-f,ac0];simp only[acW];omega
 have m:=JB P (x.l.map λc=>dr .u8 (c.toNat:Int)) Q [] [.int .u8 c] k 1 (by rw[v_,x.h];omega);rw[D,wk,wk,<-lP P,g]at m;have F:(ac7 IntKind.u8 c).cells=[.int .u8 c]:=rfl;rw[F];show tg (o+k) _++_++List.drop (o+k+1) _=_;rw[m];congr 2;simp only[Bs.set,List.map_set]
 have e:((UInt8.ofNat c.toNat).toNat:Int)=c:=by
  rw[UInt8.toNat_ofNat'];omega
 rw[e,List.set_eq_take_append_cons_drop,if_pos (by rw[v_,x.h];exact E)];simp
theorem Mu{n i:Nat}{l:List UInt8}{c:UInt8}(q:l[i]? =some c)(A:i<n):(fU n (l.take i)).set i c=fU n (l.take (i+1)):=by
 apply Bs.ext';have d:=(lu.1 q).1;show(tg n (l.take i++ec n 0)).set i c=tg n (l.take (i+1)++ec n 0);rw[List.take_add_one,q];apply List.ext_getElem?;intro j;rw[xW,fo,gx,fo,List.length_replicate,List.getElem?_take,List.getElem?_take];by_cases b:i=j
 ·subst b;rw[if_pos rfl,if_pos ω,if_pos A,lP,qb (by rw[fo];omega),fo,L1 ω,Nat.sub_self];rfl
 ·rw[if_neg b];by_cases a:j<n
  ·rw[if_pos a,if_pos a];by_cases e:j<i
   ·rw[oe (by rw[fo];omega),lP,oe (by rw[fo];omega)]
   ·rw[qb (by rw[fo];omega),fo,L1 ω,qb (by rw[gx,fo];simp;omega),gx,fo,L1 ω];simp only[Option.toList,List.length_singleton,List.getElem?_replicate];rw[if_pos ω,if_pos ω]
  ·rw[if_neg a,if_neg a]
theorem SY{sz:Nat}{h:af}{s:Sl}{ts:List TV}(e:aj sz h s ts){n:Nat}(q:n<=ts.length):aj sz h (ay s 0 n sz) (ts.take n):=by
 have c:(ay s 0 n sz).a=s.a:=by
  unfold ay;cases s.a with
  |none=>simp
  |some l=>simp
 refine⟨by rw[fo];show _=n-0;omega,λd=>?_,λl f i t b=>?_⟩
 ·rw[c]at d;rw[e.nil d];simp
 ·rw[c]at f;rw[List.getElem?_take]at b;split at b
  ·exact e.get l f i t b
  ·cases b
end Go.Vc
namespace Go.Vc
open Go
structure Made where
 b:Nat
 T:TypeId
 t:TV
structure ym(h hh:af)(l:List Made):Prop where
 ext:Ext h hh
 var:∀x∈l,Var x.T hh x.b x.t
 new:∀x∈l,h.size<=x.b
 two:l.Pairwise λx y=>x.b≠y.b
section
variable{h hh:af}{l:List Made}
theorem ym.nil(h:af):ym h h []:=⟨Ext.refl _,(λ_ a=>by cases a),(λ_ a=>by cases a),List.Pairwise.nil⟩
theorem ym.on{q:af}(B:ym h hh l)(e:Ext hh q):ym h q l:=⟨B.ext.trans e,λx a=>(B.var x a).ext e,B.new,B.two⟩
theorem ym.make{T:TypeId}{t:TV}{K:af->Prop}(B:ym h hh l)(q:∀b,Ext hh b->ym h b (⟨hh.size,T,t⟩::l)->K b):Bind (iW hh t T) K:=
 aa λb v x _=>q b x ⟨B.ext.trans x,λy a=>by
  rcases l8.1 a with rfl|a
  ·exact v
  ·exact(B.var y a).ext x,λy a=>by
  rcases l8.1 a with rfl|a
  ·exact B.ext.size
  ·exact B.new y a,List.pairwise_cons.2 ⟨λy a=>by
   have:=(B.var y a).lt;intro c;simp only at c;omega,B.two⟩⟩
theorem ym.dR{b n:Nat}{T:TypeId}{t0 t:TV}{K:af->Prop}(B:ym h hh (⟨b,T,t0⟩::l))(A:t.size=t0.size)(q:n=t0.size)(E:∀c,ym h c (⟨b,T,t⟩::l)->K c):gT hh b 0 n/\Bind (t.put hh b 0) K:=by
 subst q;have d:=List.pairwise_cons.1 B.two;have e:=B.new _ (eS ..);refine aH (B.var _ (eS ..)) A λc v o _=>E c ⟨ag.cut B.ext o λi f=>by subst f;exact e,λy a=>?_,λy a=>?_,List.pairwise_cons.2 ⟨λy a=>d.1 y a,d.2⟩⟩
 ·rcases l8.1 a with rfl|a
  ·exact v
  ·exact(B.var y (i7 _ a)).only o λq=>d.1 y a q.symm
 ·rcases l8.1 a with rfl|a
  ·exact e
  ·exact B.new y (i7 _ a)
theorem ym.perm{A:List Made}(B:ym h hh l)(q:l.Perm A):ym h hh A:=
 ⟨B.ext,λx a=>B.var x (q.mem_iff.2 a),λx a=>B.new x (q.mem_iff.2 a),q.pairwise B.two λb=>b.symm⟩
theorem ym.abV{x y:Made}(B:ym h hh (x::y::l)):ym h hh (y::x::l):=B.perm (List.Perm.swap ..)
theorem ym.Zv{x y z:Made}(B:ym h hh (x::y::z::l)):ym h hh (z::x::y::l):=B.perm (by
 refine List.Perm.trans (List.Perm.cons x (List.Perm.swap z y l)) (List.Perm.swap z x _))
theorem ym.ee{b n:Nat}{T:TypeId}{t0 t:TV}{K:af->Prop}{x:Made}(B:ym h hh (x::⟨b,T,t0⟩::l))(q:t.size=t0.size)(A:n=t0.size)(E:∀a,ym h a (x::⟨b,T,t⟩::l)->K a):gT hh b 0 n/\Bind (t.put hh b 0) K:=
 B.abV.dR q A λa B'=>E a B'.abV
theorem ym.eu{b n:Nat}{T:TypeId}{t0 t:TV}{K:af->Prop}{x y:Made}(B:ym h hh (x::y::⟨b,T,t0⟩::l))(q:t.size=t0.size)(A:n=t0.size)(E:∀a,ym h a (x::y::⟨b,T,t⟩::l)->K a):gT hh b 0 n/\Bind (t.put hh b 0) K:=
 B.Zv.dR q A λa B'=>E a (B'.perm (List.Perm.trans (List.Perm.swap ..) (List.Perm.cons _ (List.Perm.swap ..))))
theorem ym.v0{b:Nat}{T:TypeId}{t:TV}(B:ym h hh (⟨b,T,t⟩::l)):Var T hh b t:=B.var _ (eS ..)
theorem ym.v1{b:Nat}{T:TypeId}{t:TV}{x:Made}(B:ym h hh (x::⟨b,T,t⟩::l)):Var T hh b t:=B.abV.v0
theorem ym.v2{b:Nat}{T:TypeId}{t:TV}{x y:Made}(B:ym h hh (x::y::⟨b,T,t⟩::l)):Var T hh b t:=B.Zv.v0
theorem ym.n0{b:Nat}{T:TypeId}{t:TV}(B:ym h hh (⟨b,T,t⟩::l)):h.size<=b:=B.new _ (eS ..)
theorem ym.n1{b:Nat}{T:TypeId}{t:TV}{x:Made}(B:ym h hh (x::⟨b,T,t⟩::l)):h.size<=b:=B.abV.n0
theorem ym.n2{b:Nat}{T:TypeId}{t:TV}{x y:Made}(B:ym h hh (x::y::⟨b,T,t⟩::l)):h.size<=b:=B.Zv.n0
end
end Go.Vc
namespace Go.Vc
open Go Go.Proofs Go.Shelf Go.RowKit Go.Lib Go.Sort
theorem WE{v:Value}(h:bU v=true):v.oneCell'=true:=by
 cases v<;>first|rfl|(simp[bU]at h)
theorem acd{w A:World}(B:fS true w A)(e:Ext w.heap A.heap):∃q b,A=Go.Sort.grow (w.drewN q) b:=by
 refine⟨A.drawn-w.drawn,A.heap.extract w.heap.size,?_⟩;obtain⟨a,h,j,b,op⟩:=A;obtain⟨c,k,l,m,n⟩:=w;have o:b=m:=B.os;have p:h=k:=B.tape;have r:op=n:=B.output;have s:l<=j:=B.drawn rfl;subst o;subst p;subst r;simp only[Go.Sort.grow,World.drewN];congr 1
 ·apply Array.ext_getElem?;intro i;rw[Array.getElem?_append];have t:c.size<=a.size:=e.size;split
  ·rename_i d;exact e.same i d
  ·rename_i d;rw[Array.getElem?_extract];split
   ·rename_i f;congr 1;omega
   ·rename_i f
    have:a.size<=i:=by
     rcases Nat.lt_or_ge i a.size with g|g
     ·exfalso;apply f;show i-c.size<min a.size a.size-c.size;rw[Nat.min_self];omega
     ·exact g
    exact Array.getElem?_eq_none this
 ·omega
section
variable{α:Type}[Inhabited α]{tv:α->TV}{k:Nat}
omit [Inhabited α]in
theorem E6(q:∀x,(tv x).size=k)(L:List α):∀t∈L.map tv,t.size=k:=λt a=>by
 obtain⟨x,_,rfl⟩:=pn.1 a;exact q x
theorem MW(A:∀x,(tv x).size=k)(L:List α)(j:Nat)(q:j<L.length*k):(acT (L.map tv))[j]? =some ((flatK (λx=>(tv x).cells) k L.toArray)[j]!):=by
 have a:0<k:=Nat.pos_of_ne_zero (λe=>by rw[e,Nat.mul_zero]at q;omega);rw[get_flatK _ _ _ _ (by simpa using q)];have b:j/k<L.length:=(Nat.div_lt_iff_lt_mul a).2 q;have c:j%k<k:=Nat.mod_lt _ a;have:=ak.rU (L.map tv) (j/k) (j%k) (tv L[j/k]) (E6 A L) (by simp[b]) c;rw[Nat.div_add_mod' j k]at this;rw[this];have d:j%k<(tv L[j/k]).cells.length:=by rw[ac0,A];exact c
 have f:(L.toArray)[j/k]! =L[j/k]:=by simp[b]
 rw[f,u0 d];simp[d]
theorem holds_of{T:TypeId}{w:World}{L:List α}{b:Nat}{A:List Value}(B:∀x,(tv x).size=k)(q:w.heap[b]? =some (row (acT (L.map tv)++A) T)):
 HoldsK (λx=>(tv x).cells) k w b 0 L.toArray:=by
 intro j a;rw[size_flatK]at a;have d:j<L.length*k:=by simpa using a
 have c:=MW B L j d;have e:j<(acT (L.map tv)).length:=(lu.1 c).1;refine⟨?_,?_⟩
 ·rw[cell?_eq];unfold ng;rw[q];simp only[row,eL];rw[xy,oe e,c];rfl
 ·unfold World.frozen?;rw[q];simp[row]
theorem WG(A:∀x,(tv x).size=k)(L L':List α)(B:List Value)(q:L'.length=L.length):
 putCells id 0 (flatK (λx=>(tv x).cells) k L'.toArray) (acT (L.map tv)++B).toArray=(acT (L'.map tv)++B).toArray:=by
 have b:=ak.bG (L.map tv) (E6 A L);have c:=ak.bG (L'.map tv) (E6 A L');rw[v_]at b c;apply Array.ext_getElem?;intro i;unfold putCells;rw[Array.getElem?_mapIdx,xy,xy];simp only[Nat.zero_le,true_and,eL,Nat.sub_zero,size_flatK,id];have d:L'.toArray.size=L'.length:=by simp
 rw[d];by_cases a:i<L'.length*k
 ·rw[oe (by rw[b,<-q];exact a),oe (by rw[c];exact a),MW A L' i a,u0 (by rw[b,<-q];exact a)];simp[a]
 ·rw[qb (by rw[b,<-q];omega),qb (by rw[c];omega),b,c,q];have e:¬i<L.length*k:=by rw[<-q];exact a
  simp[e]
theorem Q3{P:Program}{ρ:Ren}(E:SlLaysF0.n6 P ρ){T:TypeId}(O:∀w,(isAgg (ρ.t 24)).run P w=.ok true w)(U:∀w,(Go.sizeOf (ρ.t 24)).run P w=.ok k w)
 (A:∀x,(tv x).size=k)(W:∀x,(tv x).plain=true){q:α->α->Int}(Z:SWO (ltOf q)){g:Nat}{cb:Array Value}(ab:NZ P g){h:af}
 (ac:∀c x y,jc P g ([.agg (tv x).cells.toArray,.agg (tv y).cells.toArray]++cb.toList) c λv Q=>v=.int .i64 (q x y)/\Ext c Q)
 {s:Sl}{L:List α}(o:Own T k h s (L.map tv))(ao:L.length<1000000){R:Value->af->Prop}
 (H:∀(c:af)(L':List α),L'.Perm L->L'.Pairwise (λx y=>ltOf q y x=false)->Own T k c s (L'.map tv)->ag (In s) h c->R (TV.bg []).val c):
 bC P (ρ.f 6) [(ac4 s).val,.func (.func g) #[] cb] h R:=by
 have f:=o.len;rw[v_]at f;rcases o.row with F|⟨b,r,t,u,S⟩
 ·intro w z;have V:L=[]:=n_ (by rw[f,F];rfl);subst V;have:=AnyF.slices_SortFunc_none E none 0 (.func (.func g) #[] cb) w;rw[F];refine this.mono λe G=>?_;rintro⟨rfl,rfl⟩;refine⟨fS.refl _,_,rfl,?_⟩;rw[z];exact H h [] (List.Perm.refl _) List.Pairwise.nil o (ag.refl _ _)
 ·intro w z;subst z;have X:=holds_of A u;have I:b<w.heap.size:=kO u
  have Y:CmpLays P g cb (λx=>(tv x).cells) k q b 0 L.toArray.size w:=by
   intro m d J _ x y;have l:=ac (sortWorldK (λx=>(tv x).cells) k w b 0 m J d).heap x y (sortWorldK (λx=>(tv x).cells) k w b 0 m J d) rfl;have ea:([abw (tv x).cells.toArray,abw (tv y).cells.toArray]++cb.toList).toArray=#[abw (tv x).cells.toArray,abw (tv y).cells.toArray]++cb:=by apply eR.1;simp
   rw[ea]at l;refine l.mono λe G=>?_;rintro⟨B,v,rfl,rfl,l⟩;exact⟨rfl,acd B l⟩
  have B:=AnyQ.slices_SortFunc E k O U (λx=>(tv x).cells) (λx=>by rw[ac0,A]) (λx v hv=>WE (TV.gU _ (W x) v hv)) q Z g cb b 0 s.cap L.toArray w (λargs w=>ab args w) Y X I (by simp;omega)
  have e1:(ac4 s).val=.slice (some ⟨b,0,none⟩) L.toArray.size s.cap:=by
   simp only[acV,bu,abU t,Vc.Loc.addr,qc,f]
  rw[e1];refine B.mono λe G=>?_;rintro⟨rfl,a,n,d,K,ad,rfl⟩;have p:a.size=L.length:=by have:=K.1;simpa using this
  have ae:a.toList.Perm L:=by
   have:=K.2.2;have e2:a.extract 0 L.toArray.size=a:=by rw[Array.extract_eq_self_of_le (by simp[p])]
   have e3:L.toArray.extract 0 L.toArray.size=L.toArray:=by rw[Array.extract_eq_self_of_le (eo _)]
   rw[e2,e3]at this;exact this
  have C:(sortWorldK (λx=>(tv x).cells) k w b 0 n a d).heap=(w.heap.modify b (onCells (putCells id 0 (flatK (λx=>(tv x).cells) k a))))++d:=rfl;have hd:a=a.toList.toArray:=by simp
  have al:(sortWorldK (λx=>(tv x).cells) k w b 0 n a d).heap[b]? =some (row (acT (a.toList.map tv)++r) T):=by
   rw[C,Array.getElem?_append_left (by simpa using I),Array.getElem?_modify,if_pos rfl,u];simp only[oo,onCells,row];have M:=WG (k:=k) (tv:=tv) A L a.toList r (by simp[p]);rw[<-hd]at M;rw[M]
  refine⟨⟨rfl,rfl,rfl,λ_=>Nat.le_add_right _ _⟩,_,rfl,?_⟩;refine H _ a.toList ae ?_ ⟨E6 A _,by simp[p,f],o.cap,.inr ⟨b,r,t,al,S⟩⟩ ⟨?_,λi D hn=>?_⟩
  ·rw[List.pairwise_iff_getElem];intro i j D hj am;have h1:i<a.size:=by simpa using D
   have N:j<a.size:=by simpa using hj
   have:=ad i j (Nat.zero_le _) am (by simpa[p]using N);simpa[h1,N]using this
  ·rw[C];simp
  ·rw[C,Array.getElem?_append_left (by simpa using D),Array.getElem?_modify,if_neg (λe=>hn ⟨_,t,e⟩)]
end
end Go.Vc
namespace Go.Vc
open Go
def VV:Option Nat->Fence
 |none=>Fence.wide
 |some l=>Fence.wide.inRound l
theorem Lj(ro:Option Nat)(f:FuncId):(VV ro).fn f:=by cases ro<;>trivial
theorem GU(ro:Option Nat):(VV ro).round=ro:=by cases ro<;>rfl
theorem CU(ro:Option Nat){p:Prop}:(VV ro).depth.isSome=true->p:=by cases ro<;>(intro h;cases h)
theorem Ur{ro:Option Nat}{n:Nat}{P:Program}{f:FuncId}{args:Array Value}{w:World}{R:Ending->World->Prop}(h:Calls P f args w R):CallsIn (VV ro) n P f args w R:=by
 cases ro with
 |none=>exact callsIn_wide.2 h
 |some l=>exact CallsIn.inRound l (callsIn_wide.2 h)
theorem X1{ro:Option Nat}{n:Nat}{P:Program}{row:String}{args:Array Value}{w:World}{R:Value->World->Prop}(h:Rows P row args w R):RowsIn (VV ro) n P row args w R:=by
 cases ro with
 |none=>exact λc a _=>let⟨v,b,r,s⟩:=h c a;⟨v,b,r,stepsIn_wide.2 s⟩
 |some l=>exact λc a _=>let⟨v,b,r,s⟩:=h c a;⟨v,b,r,stepsIn_wide.2 s⟩
theorem afY{ro:Option Nat}{n:Nat}{P:Program}{o:Oper}{a:Act}{w:World}{next:Act->World->Prop}{Q:Exit->Act->World->Prop}(q:∀c,o.op≠.defer c)(h:o.wp P a w next Q):o.wpIn (VV ro) n P a w next Q:=by
 refine⟨λf _=>Lj ro f,?_⟩;rw[GU,Oper.semAt_eq ro _ _ q];unfold Oper.wp at h;generalize(execOp a.eval o).run P w=r at h⊢;cases r with
 |ok x b=>
  cases x with
  |enter f args=>exact⟨CU ro,Ur h⟩
  |row row args=>exact⟨CU ro,X1 h⟩
  |_=>first|exact h|exact h.elim
 |halt x b=>
  cases x with
  |_=>first|exact h|exact h.elim
def rP(env:Env)(a:Act):Prop:=dZ env {a with defers:=[]}
theorem rP.put{env:Env}{a:Act}(q:rP env a)(o:Option Tmp){r:Option TV}{v:Value}(A:Rel r v):rP (env.put o r) (a.put o v):=by
 have:=dZ.put q o A;unfold rP;cases o<;>exact this
theorem rP.eval{env:Env}{a:Act}(q:rP env a){x:Operand}{tv:TV}(h:env.ev x=some tv):a.eval x=tv.val:=dZ.known q h
def Py(P:Program)(W:World)(ro:Option Nat)(n l:Nat)(args:List Value)(h:af)(R:Value->af->Prop):Prop:=
 ∀w:World,w.heap=h->fS false W w->YieldAt (VV ro) n P l args.toArray w λe a=>fS false w a/\∃v,e=.returned v/\R v a.heap
abbrev aa0:=Nat->List Value->af->(Value->af->Prop)->Prop
def VW(Y:aa0)(C:Ctx)(o:Oper)(ρ:Operand->Option TV)(h:af)(K:Option TV->af->Prop):Prop:=match o.op with
 |.call c=>match c.callee with
  |.value f=>match ρ f,allKnown (c.args.toList.map ρ)with
   |some (.one u),some args=>∃l,u.v=.func (.yield l) #[] #[]/\Y l (acU args) h λv a=>Ex (C.ti o.type).sh λtv=>v=tv.val/\K (some tv) a
   |_,_=>N2 C o ρ h K
  |_=>N2 C o ρ h K
 |.defer _=>False
 |_=>N2 C o ρ h K
def iT(Y:aa0)(C:Ctx)(all:List Oper):List Oper->Nat->Env->af->(Env->af->Prop)->Prop
 |[],_,env,h,Q=>Q env h
 |o::q,i,env,h,Q=>match vQ all o env with
  |some true=>VW Y C o env.ev h λr a=>DH (x_ i q) r λA=>iT Y C all q (i+1) (env.put o.dst A) a Q
  |some false=>iT Y C all q (i+1) (env.put o.dst (some (.bg []))) h Q
  |none=>False
section
variable{C:Ctx}
theorem Sc{Y:aa0}{o:Oper}{ρ:Operand->Option TV}{h:af}{K:Option TV->af->Prop}(q:VW Y C o ρ h K):
 ((∀c,o.op≠.defer c)/\N2 C o ρ h K)\/∃c f u args l,o.op=.call c/\c.callee=.value f/\ρ f=some (.one u)/\allKnown (c.args.toList.map ρ)=some args/\u.v=.func (.yield l) #[] #[]/\
   Y l (acU args) h λv e=>Ex (C.ti o.type).sh λtv=>v=tv.val/\K (some tv) e:=by
 unfold VW at q;split at q
 ·rename_i c b;have a:∀c,o.op≠.defer c:=λd a=>by rw[b]at a;cases a
  split at q
  ·rename_i f g;split at q
   ·rename_i u args i j;obtain⟨l,k,m⟩:=q;exact .inr ⟨c,f,u,args,l,b,g,i,j,k,m⟩
   ·exact .inl ⟨a,q⟩
  ·exact .inl ⟨a,q⟩
 ·exact q.elim
 ·rename_i n;exact .inl ⟨λc p=>n c p,q⟩
theorem Nw(E:C.Ok)(H:C.strict=false){W:World}{ro:Option Nat}{n:Nat}{o:Oper}{env:Env}{a:Act}{w:World}(I:fS false W w){K:Option TV->af->Prop}{next:Act->World->Prop}{Q:Exit->Act->World->Prop}
 (q:VW (Py C.P W ro (n-1)) C o env.ev w.heap K)(A:rP env a)(B:∀r v g,K r g.heap->Rel r v->fS false w g->next (a.put o.dst v) g):o.wpIn (VV ro) n C.P a w next Q:=by
 rcases Sc q with⟨b,q⟩|⟨c,f,u,args,l,h,i,j,k,m,p⟩
 ·have d:V9 C.strict C.P o {a with defers:=[]} w K:=xX E q A;rw[H]at d;have s:V9 false C.P o a w K:=d;exact afY b (s.wp B)
 ·refine⟨λf _=>Lj ro f,?_⟩;have b:∀c,o.op≠.defer c:=λd b=>by rw[h]at b;cases b
  rw[GU,Oper.semAt_eq ro _ _ b];have t:a.eval f=.func (.yield l) #[] #[]:=by rw[A.eval j];exact m
  have x:c.args.toList.map a.eval=acU args:=ga _ _ _ k (dZ.FU A c.args.toList);have y:c.args.map a.eval=(acU args).toArray:=by apply eR.1;simpa using x
  obtain⟨fn,tmps,assign,z,D,F⟩:=p w rfl I
  have G:(execOp a.eval o).run C.P w=.ok (.round l fn tmps assign z) w:=by
   simp only[execOp,h,resolve,i,t,K2,invoke,y,c9,ek,di];simpa using D
  rw[G];refine⟨CU ro,F.mono λe g⟨J,v,L,M⟩=>?_⟩;subst L;obtain⟨tv,_,N,O⟩:=sn _ _ M;exact B (some tv) v g O (.some N) J
theorem I3(A:C.Ok)(B:C.strict=false){ro:Option Nat}{n:Nat}{all:List Oper}{QQ:Exit->Act->World->Prop}{w0:World}{D:List Deferred}{Q:Env->af->Prop}
 (E:∀env a w,rP env a->a.defers=D->fS false w0 w->Q env w.heap->QQ .normal a w):
 ∀(q:List Oper)(i:Nat)(env:Env)(a:Act)(w:World),iT (Py C.P w0 ro (n-1)) C all q i env w.heap Q->rP env a->a.defers=D->fS false w0 w->wpListIn (VV ro) n C.P all.toArray QQ q a w
 |[],i,env,a,w,b,c,e,d=>E env a w c e d b
 |o::q,i,env,a,w,b,c,e,d=>by
  have h:∀v,(a.put o.dst v).defers=D:=λv=>by cases o.dst<;>exact e
  simp only[iT]at b;unfold wpListIn;split at b
  ·rename_i g;rw[if_pos (dI (a:={a with defers:=[]}) c g)];refine Nw A B d b c λr v j k l m=>?_;obtain⟨t,p,s⟩:=jd k l;exact I3 A B E q (i+1) _ _ j s (c.put o.dst p) (h v) (d.trans m)
  ·rename_i g;rw[if_neg (by rw[dI (a:={a with defers:=[]}) c g];simp)];exact⟨λf _=>Lj ro f,I3 A B E q (i+1) _ _ w b (c.put o.dst (.some rfl)) (h _) d⟩
  ·exact b.elim
theorem Lk(A:C.Ok)(B:C.strict=false){ro:Option Nat}{n:Nat}{all l2:List Oper}{QQ:Exit->Act->World->Prop}{w0:World}{D:List Deferred}{Q:Env->af->Prop}
 (E:∀env a w,rP env a->a.defers=D->fS false w0 w->Q env w.heap->wpListIn (VV ro) n C.P all.toArray QQ l2 a w):
 ∀(q:List Oper)(i:Nat)(env:Env)(a:Act)(w:World),iT (Py C.P w0 ro (n-1)) C all q i env w.heap Q->rP env a->a.defers=D->fS false w0 w->wpListIn (VV ro) n C.P all.toArray QQ (q++l2) a w
 |[],i,env,a,w,b,c,e,d=>E env a w c e d b
 |o::q,i,env,a,w,b,c,e,d=>by
  have h:∀v,(a.put o.dst v).defers=D:=λv=>by cases o.dst<;>exact e
  simp only[iT]at b;rw[xd];unfold wpListIn;split at b
  ·rename_i g;rw[if_pos (dI (a:={a with defers:=[]}) c g)];refine Nw A B d b c λr v j k l m=>?_;obtain⟨t,p,s⟩:=jd k l;exact Lk A B E q (i+1) _ _ j s (c.put o.dst p) (h v) (d.trans m)
  ·rename_i g;rw[if_neg (by rw[dI (a:={a with defers:=[]}) c g];simp)];exact⟨λf _=>Lj ro f,Lk A B E q (i+1) _ _ w b (c.put o.dst (.some rfl)) (h _) d⟩
  ·exact b.elim
theorem aeA{P:Program}{ro:Option Nat}{n l:Nat}{o:Oper}{c:Call}{f:Operand}{a:Act}{w:World}{vs:Array Value}{next:Act->World->Prop}{Q:Exit->Act->World->Prop}{R:Ending->World->Prop}(q:o.op=.call c)(A:c.callee=.value f)
 (B:a.eval f=.func (.yield l) #[] #[])(E:c.args.map a.eval=vs)(H:YieldAt (VV ro) (n-1) P l vs w R)(I:∀e b,R e b->∃v,e=.returned v/\next (a.put o.dst v) b):o.wpIn (VV ro) n P a w next Q:=by
 refine⟨λf _=>Lj ro f,?_⟩;have g:∀c,o.op≠.defer c:=λd g=>by rw[q]at g;cases g
 rw[GU,Oper.semAt_eq ro _ _ g];obtain⟨fn,tmps,assign,h,i,j⟩:=H
 have k:(execOp a.eval o).run P w=.ok (.round l fn tmps assign h) w:=by
  simp only[execOp,q,resolve,A,B,K2,invoke,E,c9,ek,di];simpa using i
 rw[k];refine⟨CU ro,j.mono λe b m=>?_⟩;obtain⟨v,rfl,p⟩:=I e b m;exact p
def fL:Code->List Oper
 |.region _ ops _=>ops.toList
 |_=>[]
def afZ:Code->Bool
 |.region _ _ a=>!a
 |_=>false
theorem iU(A:C.Ok)(B:C.strict=false){ro:Option Nat}{n:Nat}{c:Code}(q:afZ c=true){QQ:Exit->Act->World->Prop}{env:Env}{a:Act}{w:World}{Q:Env->af->Prop}(E:iT (Py C.P w ro (n-1)) C (fL c) (fL c) 0 env w.heap Q)(H:rP env a)
 (I:∀e b d,rP e b->b.defers=a.defers->fS false w d->Q e d.heap->QQ .normal b d):c.wpIn (VV ro) n C.P QQ a w:=by
 cases c with
 |region id ops g=>
  cases g with
  |false=>
   have f:=I3 A B (ro:=ro) (n:=n) (all:=ops.toList) (QQ:=QQ) (w0:=w) (D:=a.defers) (Q:=Q) I ops.toList 0 env a w E H rfl (fS.refl w);have:ops.toList.toArray=ops:=by simp
   rw[this]at f;exact wpIn_region_list f
  |true=>cases q
 |_=>cases q
def Cm:Code->Code
 |.seq a _=>a
 |c=>c
def ri:Code->Code
 |.seq _ b=>b
 |c=>c
def adJ:Code->Code
 |.cond _ a _=>a
 |c=>c
def Pz:Code->Code
 |.block _ c=>c
 |c=>c
def af0:Code->Code
 |.loop c=>c
 |c=>c
def ahc:Code->Operand
 |.rangeFunc g _ _ _=>g
 |_=>.tmp 0
def acG:Code->Code
 |.rangeFunc _ _ c _=>c
 |c=>c
def aeB:Code->Code
 |.rangeFunc _ _ _ c=>c
 |c=>c
def adK(f:Func):Code:=f.body.getD .skip
def wkE:List (Option TV)->List (Option TV)->Prop
 |[],[]=>True
 |none::a,_::b=>wkE a b
 |some x::a,some y::b=>x=y/\wkE a b
 |_,_=>False
theorem PA:∀{a b:List (Option TV)},wkE a b->a.length=b.length/\∀(i:Nat)(tv:TV),a[i]? =some (some tv)->b[i]? =some (some tv)
 |[],[],_=>⟨rfl,λi tv h=>by simp at h⟩
 |[],_::_,h=>h.elim
 |none::a,[],h=>h.elim
 |some x::a,[],h=>h.elim
 |none::a,y::b,h=>by
  obtain⟨q,A⟩:=PA (a:=a) (b:=b) h;refine⟨by simp[q],λi tv c=>?_⟩;cases i with
  |zero=>simp at c
  |succ i=>exact A i tv c
 |some x::a,none::b,h=>h.elim
 |some x::a,some y::b,h=>by
  obtain⟨rfl,h⟩:=h;obtain⟨q,A⟩:=PA (a:=a) (b:=b) h;refine⟨by simp[q],λi tv c=>?_⟩;cases i with
  |zero=>exact c
  |succ i=>exact A i tv c
theorem rP.weak{a b:Env}{s:Act}(q:rP b s)(h:wkE a b):rP a s:=by
 obtain⟨c,d⟩:=PA h;exact⟨rfl,by rw[c];exact q.size,λi tv e=>q.slot i tv (d i tv e)⟩
end
end Go.Vc

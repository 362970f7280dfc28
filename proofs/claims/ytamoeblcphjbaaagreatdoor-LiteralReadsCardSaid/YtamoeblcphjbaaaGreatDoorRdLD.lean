/- A part of the proof for LiteralReadsCardSaid. -/
import Derived.Test.YtamoeblcphjbaaaGreatDoorRdLC1
import Derived.Test.YtamoeblcphjbaaaGreatDoorCore6
import Derived.KernelRfl
import Derived.Test.YtamoeblcphjbaaaGreatDoorProg
import Derived.Test.YtamoeblcphjbaaaGreatDoorRdF
set_option maxRecDepth 100000
set_option linter.unusedVariables false
set_option linter.unusedSimpArgs false
namespace Go.Proofs.YtamoeblcphjbaaaGreatDoor
open Go Go.Ab
attribute [local irreducible] vc
theorem dI {P:Prop}(h:P:=by first | exact JP | (unfold Chk;decide +kernel) | omega | exact Na (by with_unfolding_all rfl) | (simp[bj]<;>omega) | fail):P:=h
theorem qsZ{P:Prop}(h:P:=by simp(disch:=try exact dI) only[push_cast,seval]):P:=h
end Go.Proofs.YtamoeblcphjbaaaGreatDoor
namespace Go.Proofs.YtamoeblcphjbaaaGreatDoor
open Go Go.Ab
def I64 (n:Int):Prop:=-9223372036854775808≤n∧n≤9223372036854775807
mutual
inductive Val where
 | mk (kind:Int) (num:Int) (scale:Int) (text:List UInt8) (lst:List Val) (fields:List Fld)
inductive Fld where
 | mk (name:List UInt8) (value:Val)
end
def Val.kind:Val→Int
 | .mk kind _ _ _ _ _=>kind
def Val.num:Val→Int
 | .mk _ num _ _ _ _=>num
def Val.scale:Val→Int
 | .mk _ _ scale _ _ _=>scale
def Val.text:Val→List UInt8
 | .mk _ _ _ text _ _=>text
def Val.lst:Val→List Val
 | .mk _ _ _ _ lst _=>lst
def Val.fields:Val→List Fld
 | .mk _ _ _ _ _ fields=>fields
def Fld.name:Fld→List UInt8
 | .mk name _=>name
def Fld.value:Fld→Val
 | .mk _ value=>value
mutual
def Val.pv:Val→PV
 | .mk kind num scale text lst fields=>.agg ([.int .i64 kind,.int .i64 num,.int .i64 scale,.str text,.list (lst.map Val.pv),.list (fields.map Fld.pv)])
def Fld.pv:Fld→PV
 | .mk name value=>.agg ([.str name]++value.pv.cells)
end
theorem Val.pv_mk (kind:Int)(num:Int)(scale:Int)(text:List UInt8)(lst:List Val)(fields:List Fld):(Val.mk kind num scale text lst fields).pv = .agg ([.int .i64 kind,.int .i64 num,.int .i64 scale,.str text,.list (lst.map Val.pv),.list (fields.map Fld.pv)]):=by rw[Val.pv]
theorem Fld.pv_mk (name:List UInt8)(value:Val):(Fld.mk name value).pv = .agg ([.str name]++value.pv.cells):=by rw[Fld.pv]
theorem Val.cells_len (x:Val):x.pv.cells.length=6:=by
 obtain⟨kind,num,scale,text,lst,fields⟩:=x
 rw[Val.pv_mk];simp only[bj,List.length_append,List.length_cons,List.length_nil]
theorem Val.isAgg (x:Val):x.pv.isAgg=true:=by
 obtain⟨kind,num,scale,text,lst,fields⟩:=x
 rw[Val.pv_mk];rfl
theorem Fld.cells_len (x:Fld):x.pv.cells.length=7:=by
 obtain⟨name,value⟩:=x
 rw[Fld.pv_mk];simp only[bj,List.length_append,List.length_cons,List.length_nil,Val.cells_len]
theorem Fld.isAgg (x:Fld):x.pv.isAgg=true:=by
 obtain⟨name,value⟩:=x
 rw[Fld.pv_mk];rfl
theorem Val.ones (x:Val):(x.pv.cells.all PV.one)=true:=by
 obtain⟨kind,num,scale,text,lst,fields⟩:=x
 rw[Val.pv_mk];simp only[bj,List.all_append,List.all_cons,List.all_nil,j4,j5,gw,gv,Bool.and_true,Bool.and_self]
theorem Val.row (x:Val):∃ cs,x.pv = .agg cs∧cs.length=6∧∀ p∈cs,p.one=true:=by
 have h1:=x.cells_len;have h2:=x.ones;have h3:=x.isAgg
 cases h:x.pv with
 | agg cs=>rw[h] at h1 h2;exact⟨cs,rfl,h1,fun p hp=>List.all_eq_true.1 h2 p hp⟩
 | _=>rw[h] at h3;cases h3
theorem Fld.ones (x:Fld):(x.pv.cells.all PV.one)=true:=by
 obtain⟨name,value⟩:=x
 rw[Fld.pv_mk];simp only[bj,List.all_append,List.all_cons,List.all_nil,j4,j5,gw,gv,Bool.and_true,Bool.and_self,Val.ones]
theorem Fld.row (x:Fld):∃ cs,x.pv = .agg cs∧cs.length=7∧∀ p∈cs,p.one=true:=by
 have h1:=x.cells_len;have h2:=x.ones;have h3:=x.isAgg
 cases h:x.pv with
 | agg cs=>rw[h] at h1 h2;exact⟨cs,rfl,h1,fun p hp=>List.all_eq_true.1 h2 p hp⟩
 | _=>rw[h] at h3;cases h3
mutual
def Val.ok:Val→Prop
 | .mk kind num scale text lst fields=>I64 kind∧I64 num∧I64 scale∧text.length≤140737488351232∧lst.length*88≤140737488351232∧(∀ x∈lst,x.ok)∧fields.length*104≤140737488351232∧(∀ x∈fields,x.ok)
def Fld.ok:Fld→Prop
 | .mk name value=>name.length≤140737488351232∧value.ok
end
theorem Val.ok_mk (kind:Int)(num:Int)(scale:Int)(text:List UInt8)(lst:List Val)(fields:List Fld):(Val.mk kind num scale text lst fields).ok=(I64 kind∧I64 num∧I64 scale∧text.length≤140737488351232∧lst.length*88≤140737488351232∧(∀ x∈lst,x.ok)∧fields.length*104≤140737488351232∧(∀ x∈fields,x.ok)):=by rw[Val.ok]
theorem Fld.ok_mk (name:List UInt8)(value:Val):(Fld.mk name value).ok=(name.length≤140737488351232∧value.ok):=by rw[Fld.ok]
mutual
inductive Typ where
 | mk (kind:Int) (min:Int) (max:Int) (scale:Int) (words:List (List UInt8)) (elem:List Typ) (fields:List TFd)
inductive TFd where
 | mk (number:Int) (name:List UInt8) (need:Int) (typ:Typ) (dflt:List Val)
end
def Typ.kind:Typ→Int
 | .mk kind _ _ _ _ _ _=>kind
def Typ.min:Typ→Int
 | .mk _ min _ _ _ _ _=>min
def Typ.max:Typ→Int
 | .mk _ _ max _ _ _ _=>max
def Typ.scale:Typ→Int
 | .mk _ _ _ scale _ _ _=>scale
def Typ.words:Typ→List (List UInt8)
 | .mk _ _ _ _ words _ _=>words
def Typ.elem:Typ→List Typ
 | .mk _ _ _ _ _ elem _=>elem
def Typ.fields:Typ→List TFd
 | .mk _ _ _ _ _ _ fields=>fields
def TFd.number:TFd→Int
 | .mk number _ _ _ _=>number
def TFd.name:TFd→List UInt8
 | .mk _ name _ _ _=>name
def TFd.need:TFd→Int
 | .mk _ _ need _ _=>need
def TFd.typ:TFd→Typ
 | .mk _ _ _ typ _=>typ
def TFd.dflt:TFd→List Val
 | .mk _ _ _ _ dflt=>dflt
mutual
def Typ.pv:Typ→PV
 | .mk kind min max scale words elem fields=>.agg ([.int .i64 kind,.int .i64 min,.int .i64 max,.int .i64 scale,.list (words.map PV.str),.list (elem.map Typ.pv),.list (fields.map TFd.pv)])
def TFd.pv:TFd→PV
 | .mk number name need typ dflt=>.agg ([.int .i64 number,.str name,.int .i64 need]++typ.pv.cells++[.list (dflt.map Val.pv)])
end
theorem Typ.pv_mk (kind:Int)(min:Int)(max:Int)(scale:Int)(words:List (List UInt8))(elem:List Typ)(fields:List TFd):(Typ.mk kind min max scale words elem fields).pv = .agg ([.int .i64 kind,.int .i64 min,.int .i64 max,.int .i64 scale,.list (words.map PV.str),.list (elem.map Typ.pv),.list (fields.map TFd.pv)]):=by rw[Typ.pv]
theorem TFd.pv_mk (number:Int)(name:List UInt8)(need:Int)(typ:Typ)(dflt:List Val):(TFd.mk number name need typ dflt).pv = .agg ([.int .i64 number,.str name,.int .i64 need]++typ.pv.cells++[.list (dflt.map Val.pv)]):=by rw[TFd.pv]
theorem Typ.cells_len (x:Typ):x.pv.cells.length=7:=by
 obtain⟨kind,min,max,scale,words,elem,fields⟩:=x
 rw[Typ.pv_mk];simp only[bj,List.length_append,List.length_cons,List.length_nil]
theorem Typ.isAgg (x:Typ):x.pv.isAgg=true:=by
 obtain⟨kind,min,max,scale,words,elem,fields⟩:=x
 rw[Typ.pv_mk];rfl
theorem TFd.cells_len (x:TFd):x.pv.cells.length=11:=by
 obtain⟨number,name,need,typ,dflt⟩:=x
 rw[TFd.pv_mk];simp only[bj,List.length_append,List.length_cons,List.length_nil,Typ.cells_len]
theorem TFd.isAgg (x:TFd):x.pv.isAgg=true:=by
 obtain⟨number,name,need,typ,dflt⟩:=x
 rw[TFd.pv_mk];rfl
theorem Typ.ones (x:Typ):(x.pv.cells.all PV.one)=true:=by
 obtain⟨kind,min,max,scale,words,elem,fields⟩:=x
 rw[Typ.pv_mk];simp only[bj,List.all_append,List.all_cons,List.all_nil,j4,j5,gw,gv,Bool.and_true,Bool.and_self]
theorem Typ.row (x:Typ):∃ cs,x.pv = .agg cs∧cs.length=7∧∀ p∈cs,p.one=true:=by
 have h1:=x.cells_len;have h2:=x.ones;have h3:=x.isAgg
 cases h:x.pv with
 | agg cs=>rw[h] at h1 h2;exact⟨cs,rfl,h1,fun p hp=>List.all_eq_true.1 h2 p hp⟩
 | _=>rw[h] at h3;cases h3
theorem TFd.ones (x:TFd):(x.pv.cells.all PV.one)=true:=by
 obtain⟨number,name,need,typ,dflt⟩:=x
 rw[TFd.pv_mk];simp only[bj,List.all_append,List.all_cons,List.all_nil,j4,j5,gw,gv,Bool.and_true,Bool.and_self,Typ.ones]
theorem TFd.row (x:TFd):∃ cs,x.pv = .agg cs∧cs.length=11∧∀ p∈cs,p.one=true:=by
 have h1:=x.cells_len;have h2:=x.ones;have h3:=x.isAgg
 cases h:x.pv with
 | agg cs=>rw[h] at h1 h2;exact⟨cs,rfl,h1,fun p hp=>List.all_eq_true.1 h2 p hp⟩
 | _=>rw[h] at h3;cases h3
mutual
def Typ.ok:Typ→Prop
 | .mk kind min max scale words elem fields=>I64 kind∧I64 min∧I64 max∧I64 scale∧words.length*16≤140737488351232∧(∀ x∈words,x.length≤140737488351232)∧elem.length*104≤140737488351232∧(∀ x∈elem,x.ok)∧fields.length*160≤140737488351232∧(∀ x∈fields,x.ok)
def TFd.ok:TFd→Prop
 | .mk number name need typ dflt=>I64 number∧name.length≤140737488351232∧I64 need∧typ.ok∧dflt.length*88≤140737488351232∧(∀ x∈dflt,x.ok)
end
theorem Typ.ok_mk (kind:Int)(min:Int)(max:Int)(scale:Int)(words:List (List UInt8))(elem:List Typ)(fields:List TFd):(Typ.mk kind min max scale words elem fields).ok=(I64 kind∧I64 min∧I64 max∧I64 scale∧words.length*16≤140737488351232∧(∀ x∈words,x.length≤140737488351232)∧elem.length*104≤140737488351232∧(∀ x∈elem,x.ok)∧fields.length*160≤140737488351232∧(∀ x∈fields,x.ok)):=by rw[Typ.ok]
theorem TFd.ok_mk (number:Int)(name:List UInt8)(need:Int)(typ:Typ)(dflt:List Val):(TFd.mk number name need typ dflt).ok=(I64 number∧name.length≤140737488351232∧I64 need∧typ.ok∧dflt.length*88≤140737488351232∧(∀ x∈dflt,x.ok)):=by rw[TFd.ok]
theorem Qw:bH Tryz.prog 3=false:=by kernel_rfl
theorem Qn:Tryz.prog.cellsOf 3=1:=by kernel_rfl
theorem Nw:bH Tryz.prog 9=false:=by kernel_rfl
theorem Nb:Tryz.prog.cellsOf 9=1:=by kernel_rfl
theorem NA:bH Tryz.prog 22=false:=by kernel_rfl
theorem Nf:Tryz.prog.cellsOf 22=1:=by kernel_rfl
theorem Ny:bH Tryz.prog 23=false:=by kernel_rfl
theorem Nd:Tryz.prog.cellsOf 23=1:=by kernel_rfl
theorem Nx:bH Tryz.prog 25=true:=by kernel_rfl
theorem G2:Tryz.prog.cellsOf 25=6:=by kernel_rfl
theorem Nm:Tryz.prog.bytesOf 25=88:=by kernel_rfl
theorem Nc:Tryz.prog.cellsOf 39=7:=by kernel_rfl
theorem Nl:Tryz.prog.bytesOf 39=104:=by kernel_rfl
section
variable {t:Nat}{p:PV}
theorem tl (h:HasT Tryz.prog t p)(hu:Tryz.prog.underlying t=some .string):∃ s:List UInt8,p = .str s∧s.length≤140737488351232:=by
 cases h with
 | str _ s hb hs=>exact⟨s,rfl,hs⟩
 | int _ k n hb=>rw[hu] at hb;cases hb
 | bool _ b hb=>rw[hu] at hb;cases hb
 | list _ e l hb=>rw[hu] at hb;cases hb
 | agg _ fs cs hb=>rw[hu] at hb;cases hb
 | arr _ e n cs hb=>rw[hu] at hb;cases hb
theorem Fb {k:IntKind}(h:HasT Tryz.prog t p)(hu:Tryz.prog.underlying t=some (.int k)):∃ n:Int,p = .int k n∧(Lit.int k n).wf=true:=by
 cases h with
 | int _ k' n hk hw=>rw[hu] at hk;cases hk;exact⟨n,rfl,hw⟩
 | bool _ b hb=>rw[hu] at hb;cases hb
 | str _ s hb=>rw[hu] at hb;cases hb
 | list _ e l hb=>rw[hu] at hb;cases hb
 | agg _ fs cs hb=>rw[hu] at hb;cases hb
 | arr _ e n cs hb=>rw[hu] at hb;cases hb
theorem mQ (h:HasT Tryz.prog t p)(hu:Tryz.prog.underlying t=some (.int .i64)):∃ n:Int,p = .int .i64 n∧I64 n:=by
 obtain⟨n,rfl,hw⟩:=Fb h hu
 refine⟨n,rfl,?_⟩
 simp only[Lit.wf,Bool.and_eq_true,decide_eq_true_eq] at hw
 exact hw
end
theorem nI {t e e':Nat}(h:Tryz.prog.underlying t=some (.slice e))(h':Tryz.prog.underlying t=some (.slice e')):e=e':=by
 rw[h] at h';cases h';rfl
theorem rc {β:Type}{f:β→PV}{Q:β→Prop}:∀ (l:List PV),(∀ (i:Nat) (x:PV),l[i]? = some x→∃ s,x=f s∧Q s)→∃ ss:List β,l=ss.map f∧ss.length=l.length∧∀ s∈ss,Q s
 | [],_=>⟨[],rfl,rfl,by simp⟩
 | x::r,h=>by
   obtain⟨s,rfl,hs⟩:=h 0 x rfl
   obtain⟨ss,rfl,hl,hss⟩:=rc r (fun i y hy=>h (i+1) y (by simpa using hy))
   refine⟨s::ss,rfl,by simp,fun t ht=>?_⟩
   rcases List.mem_cons.1 ht with rfl | ht
   ·exact hs
   ·exact hss t ht
theorem PX {l:List PV}(h:l.length=6):∃ c0 c1 c2 c3 c4 c5,l=[c0,c1,c2,c3,c4,c5]:=by
 match l,h with
 | [c0,c1,c2,c3,c4,c5],_=>exact⟨c0,c1,c2,c3,c4,c5,rfl⟩
theorem PW {l:List PV}(h:l.length=7):∃ c0 c1 c2 c3 c4 c5 c6,l=[c0,c1,c2,c3,c4,c5,c6]:=by
 match l,h with
 | [c0,c1,c2,c3,c4,c5,c6],_=>exact⟨c0,c1,c2,c3,c4,c5,c6,rfl⟩
theorem iY {t:Nat}{p:PV}(h:HasT Tryz.prog t p):(t=25→∃ x:Val,p=x.pv∧x.ok)∧(t=39→∃ x:Fld,p=x.pv∧x.ok)∧(t=22→∃ l:List Val,p = .list (l.map Val.pv)∧l.length*88≤140737488351232∧∀ x∈l,x.ok)∧(t=23→∃ l:List Fld,p = .list (l.map Fld.pv)∧l.length*104≤140737488351232∧∀ x∈l,x.ok):=by
 induction h with
 | bool t b hb=>refine⟨?_,?_,?_,?_⟩<;>(intro h;subst h;simp[Tryz.underlying25,Tryz.underlying39,Tryz.underlying22,Tryz.underlying23] at hb)
 | int t k n hb _=>refine⟨?_,?_,?_,?_⟩<;>(intro h;subst h;simp[Tryz.underlying25,Tryz.underlying39,Tryz.underlying22,Tryz.underlying23] at hb)
 | str t s hb _=>refine⟨?_,?_,?_,?_⟩<;>(intro h;subst h;simp[Tryz.underlying25,Tryz.underlying39,Tryz.underlying22,Tryz.underlying23] at hb)
 | arr t e n cs hb _ _ _=>refine⟨?_,?_,?_,?_⟩<;>(intro h;subst h;simp[Tryz.underlying25,Tryz.underlying39,Tryz.underlying22,Tryz.underlying23] at hb)
 | list t e l hu hl hl2 hx ih=>
   refine⟨?_,?_,?_,?_⟩
   ·intro h;subst h;simp[Tryz.underlying25] at hu
   ·intro h;subst h;simp[Tryz.underlying39] at hu
   ·intro h;subst h
    obtain rfl:=nI hu Tryz.underlying22
    obtain⟨ss,rfl,hlen,hss⟩:=rc (f:=Val.pv) (Q:=Val.ok) l (fun i x hi=>(ih i x hi).1 rfl)
    exact⟨ss,rfl,by rw[hlen,← Nm];exact hl2,hss⟩
   ·intro h;subst h
    obtain rfl:=nI hu Tryz.underlying23
    obtain⟨ss,rfl,hlen,hss⟩:=rc (f:=Fld.pv) (Q:=Fld.ok) l (fun i x hi=>(ih i x hi).2.1 rfl)
    exact⟨ss,rfl,by rw[hlen,← Nl];exact hl2,hss⟩
 | agg t fs cs hu hl hx ih=>
   refine⟨?_,?_,?_,?_⟩
   ·intro h;subst h
    rw[Tryz.underlying25] at hu;cases hu
    rw[G2] at hl
    obtain⟨c0,c1,c2,c3,c4,c5,rfl⟩:=PX hl
    have h0:=hx 0 _ rfl
    have h1:=hx 1 _ rfl
    have h2:=hx 2 _ rfl
    have h3:=hx 3 _ rfl
    have h4:=(ih 4 _ rfl).2.2.1 rfl
    have h5:=(ih 5 _ rfl).2.2.2 rfl
    simp only[rk,Qw,Qn,Nw,Nb,NA,Nf,Ny,Nd,List.drop_zero,List.drop_succ_cons,List.take_succ_cons,List.take_zero,dA,List.headD_cons] at h0 h1 h2 h3 h4 h5
    obtain⟨v0,rfl,ok_v0⟩:=mQ h0 Tryz.underlying3
    obtain⟨v1,rfl,ok_v1⟩:=mQ h1 Tryz.underlying3
    obtain⟨v2,rfl,ok_v2⟩:=mQ h2 Tryz.underlying3
    obtain⟨v3,rfl,ok_v3⟩:=tl h3 Tryz.underlying9
    obtain⟨v4,rfl,ok_v4,oks_v4⟩:=h4
    obtain⟨v5,rfl,ok_v5,oks_v5⟩:=h5
    refine⟨.mk v0 v1 v2 v3 v4 v5,?_,?_⟩
    ·rw[Val.pv_mk]
    ·rw[Val.ok_mk];exact⟨ok_v0,ok_v1,ok_v2,ok_v3,ok_v4,oks_v4,ok_v5,oks_v5⟩
   ·intro h;subst h
    rw[Tryz.underlying39] at hu;cases hu
    rw[Nc] at hl
    obtain⟨c0,c1,c2,c3,c4,c5,c6,rfl⟩:=PW hl
    have h0:=hx 0 _ rfl
    have h1:=(ih 1 _ rfl).1 rfl
    simp only[rk,Nw,Nb,Nx,G2,List.drop_zero,List.drop_succ_cons,List.take_succ_cons,List.take_zero,dA,List.headD_cons] at h0 h1
    obtain⟨v0,rfl,ok_v0⟩:=tl h0 Tryz.underlying9
    obtain⟨v1,e1,ok_v1⟩:=h1
    refine⟨.mk v0 v1,?_,?_⟩
    ·rw[Fld.pv_mk];rw[← e1];rfl
    ·rw[Fld.ok_mk];exact⟨ok_v0,ok_v1⟩
   ·intro h;subst h;simp[Tryz.underlying22] at hu
   ·intro h;subst h;simp[Tryz.underlying23] at hu
theorem Fc {p:PV}(h:HasT Tryz.prog 25 p):∃ x:Val,p=x.pv∧x.ok:=(iY h).1 rfl
end Go.Proofs.YtamoeblcphjbaaaGreatDoor
-- many steps
namespace Go.Proofs.YtamoeblcphjbaaaGreatDoor
open Go Go.Ab
attribute [local irreducible] vc
theorem MO (n lo hi:Int):aq Tryz.prog aF 154 [.int .i64 n,.int .i64 lo,.int .i64 hi] (.bool (decide (lo≤n)&&decide (n≤hi))):=by
 refine aq.intro KO (by simp[OI]) ?_
 by_cases h1:lo≤n
 ·by_cases h2:n≤hi
  ·rw[show (decide (lo≤n)&&decide (n≤hi))=true by simp[h1,h2]]
   simp(disch:=try exact dI) only[OI,push_cast,seval]
  ·rw[show (decide (lo≤n)&&decide (n≤hi))=false by simp[h2]]
   simp(disch:=try exact dI) only[OI,push_cast,seval]
 ·rw[show (decide (lo≤n)&&decide (n≤hi))=false by simp[h1]]
  simp(disch:=try exact dI) only[OI,push_cast,seval]
theorem dJ {n lo hi:Int}(h:lo≤n∧n≤hi):aq Tryz.prog aF 154 [.int .i64 n,.int .i64 lo,.int .i64 hi] (.bool true):=by
 have:=MO n lo hi
 rwa [show (decide (lo≤n)&&decide (n≤hi))=true by simp[h]] at this
theorem mJ {n lo hi:Int}(h:¬ (lo≤n∧n≤hi)):aq Tryz.prog aF 154 [.int .i64 n,.int .i64 lo,.int .i64 hi] (.bool false):=by
 have:=MO n lo hi
 rwa [show (decide (lo≤n)&&decide (n≤hi))=false by rw[← Bool.decide_and];exact decide_eq_false h] at this
theorem I7 {y:Int}(h1:1≤y)(h2:y≤9999):aq Tryz.prog aF 205 [.int .i64 y] (.bool (iq y)):=by
 have hi:=dJ (n:=y) (lo:=1) (hi:=9999) ⟨h1,h2⟩
 have e4:=iI (a:=y) (b:=4) (by omega)
 have e100:=iI (a:=y) (b:=100) (by omega)
 have e400:=iI (a:=y) (b:=400) (by omega)
 refine aq.intro Km (by simp[Ll]) ?_
 unfold iq
 by_cases a:y % 4=0
 ·by_cases b:y % 100=0
  ·by_cases c:y % 400=0
   ·simp only[a,b,c,decide_true,Bool.not_true,Bool.or_true,Bool.and_true]
    simp(disch:=try exact dI) only[Ll,e4,e100,e400,push_cast,seval]
    refine ab.pure hi rfl ?_
    simp(disch:=try exact dI) only[e4,e100,e400,a,b,c,push_cast,seval]
   ·simp only[a,b,c,decide_true,decide_false,Bool.not_true,Bool.or_false,Bool.and_false]
    simp(disch:=try exact dI) only[Ll,e4,e100,e400,push_cast,seval]
    refine ab.pure hi rfl ?_
    simp(disch:=try exact dI) only[e4,e100,e400,a,b,c,push_cast,seval]
  ·simp only[a,b,decide_true,decide_false,Bool.not_false,Bool.true_or,Bool.and_true]
   simp(disch:=try exact dI) only[Ll,e4,e100,e400,push_cast,seval]
   refine ab.pure hi rfl ?_
   simp(disch:=try exact dI) only[e4,e100,e400,a,b,push_cast,seval]
 ·simp only[a,decide_false,Bool.false_and]
  simp(disch:=try exact dI) only[Ll,e4,e100,e400,push_cast,seval]
  refine ab.pure hi rfl ?_
  simp(disch:=try exact dI) only[e4,e100,e400,a,push_cast,seval]
theorem G4 {y:Int}(h1:1≤y)(h2:y≤100000):aq Tryz.prog aF 155 [.int .i64 y] (.int .i64 (ee y)):=by
 have e4:=gh (a:=y - 1) (b:=4) (by omega)
 have e100:=gh (a:=y - 1) (b:=100) (by omega)
 have e400:=gh (a:=y - 1) (b:=400) (by omega)
 refine aq.intro KN (by simp[Q2]) ?_
 simp(disch:=try exact dI) only[Q2,ee,e4,e100,e400,push_cast,seval]
end Go.Proofs.YtamoeblcphjbaaaGreatDoor

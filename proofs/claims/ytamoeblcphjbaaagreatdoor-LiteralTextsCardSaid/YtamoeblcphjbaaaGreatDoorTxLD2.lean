/- A part of the proof for LiteralTextsCardSaid. -/
import Derived.KernelRfl
import Derived.Test.YtamoeblcphjbaaaGreatDoorProg
import Derived.Test.YtamoeblcphjbaaaGreatDoorTxLSh
import Derived.Test.YtamoeblcphjbaaaGreatDoorCore5
import Derived.Test.YtamoeblcphjbaaaGreatDoorCore6
import Derived.Test.YtamoeblcphjbaaaGreatDoorTxF
set_option maxRecDepth 100000
set_option linter.unusedVariables false
set_option linter.unusedSimpArgs false
namespace Go.Proofs.YtamoeblcphjbaaaGreatDoor
open Go Go.Ab
def I64 (n:Int):Prop:=-9223372036854775808≤n∧n≤9223372036854775807
mutual
inductive Val where
 | mk (kind:Int) (num:Int) (scale:Int) (text:List UInt8) (lst:List Val) (fields:List Fld)
inductive Fld where
 | mk (name:List UInt8) (value:Val)
end
def Val.kind:Val→Int
 | .mk kind _ _ _ _ _=>kind
def Val.num:Val→Int
 | .mk _ num _ _ _ _=>num
def Val.scale:Val→Int
 | .mk _ _ scale _ _ _=>scale
def Val.text:Val→List UInt8
 | .mk _ _ _ text _ _=>text
def Val.lst:Val→List Val
 | .mk _ _ _ _ lst _=>lst
def Val.fields:Val→List Fld
 | .mk _ _ _ _ _ fields=>fields
def Fld.name:Fld→List UInt8
 | .mk name _=>name
def Fld.value:Fld→Val
 | .mk _ value=>value
mutual
def Val.pv:Val→PV
 | .mk kind num scale text lst fields=>.agg ([.int .i64 kind,.int .i64 num,.int .i64 scale,.str text,.list (lst.map Val.pv),.list (fields.map Fld.pv)])
def Fld.pv:Fld→PV
 | .mk name value=>.agg ([.str name]++value.pv.cells)
end
theorem Val.pv_mk (kind:Int)(num:Int)(scale:Int)(text:List UInt8)(lst:List Val)(fields:List Fld):(Val.mk kind num scale text lst fields).pv = .agg ([.int .i64 kind,.int .i64 num,.int .i64 scale,.str text,.list (lst.map Val.pv),.list (fields.map Fld.pv)]):=by rw[Val.pv]
theorem Fld.pv_mk (name:List UInt8)(value:Val):(Fld.mk name value).pv = .agg ([.str name]++value.pv.cells):=by rw[Fld.pv]
theorem Val.cells_len (x:Val):x.pv.cells.length=6:=by
 obtain⟨kind,num,scale,text,lst,fields⟩:=x
 rw[Val.pv_mk];simp only[aV,List.length_append,List.length_cons,List.length_nil]
theorem Val.isAgg (x:Val):x.pv.isAgg=true:=by
 obtain⟨kind,num,scale,text,lst,fields⟩:=x
 rw[Val.pv_mk];rfl
theorem Fld.cells_len (x:Fld):x.pv.cells.length=7:=by
 obtain⟨name,value⟩:=x
 rw[Fld.pv_mk];simp only[aV,List.length_append,List.length_cons,List.length_nil,Val.cells_len]
theorem Fld.isAgg (x:Fld):x.pv.isAgg=true:=by
 obtain⟨name,value⟩:=x
 rw[Fld.pv_mk];rfl
theorem Val.ones (x:Val):(x.pv.cells.all PV.one)=true:=by
 obtain⟨kind,num,scale,text,lst,fields⟩:=x
 rw[Val.pv_mk];simp only[aV,List.all_append,List.all_cons,List.all_nil,fW,fX,ek,eh,Bool.and_true,Bool.and_self]
theorem Val.row (x:Val):∃ cs,x.pv = .agg cs∧cs.length=6∧∀ p∈cs,p.one=true:=by
 have h1:=x.cells_len;have h2:=x.ones;have h3:=x.isAgg
 cases h:x.pv with
 | agg cs=>rw[h] at h1 h2;exact⟨cs,rfl,h1,fun p hp=>List.all_eq_true.1 h2 p hp⟩
 | _=>rw[h] at h3;cases h3
theorem Fld.ones (x:Fld):(x.pv.cells.all PV.one)=true:=by
 obtain⟨name,value⟩:=x
 rw[Fld.pv_mk];simp only[aV,List.all_append,List.all_cons,List.all_nil,fW,fX,ek,eh,Bool.and_true,Bool.and_self,Val.ones]
theorem Fld.row (x:Fld):∃ cs,x.pv = .agg cs∧cs.length=7∧∀ p∈cs,p.one=true:=by
 have h1:=x.cells_len;have h2:=x.ones;have h3:=x.isAgg
 cases h:x.pv with
 | agg cs=>rw[h] at h1 h2;exact⟨cs,rfl,h1,fun p hp=>List.all_eq_true.1 h2 p hp⟩
 | _=>rw[h] at h3;cases h3
mutual
def Val.ok:Val→Prop
 | .mk kind num scale text lst fields=>I64 kind∧I64 num∧I64 scale∧text.length≤140737488351232∧lst.length*88≤140737488351232∧(∀ x∈lst,x.ok)∧fields.length*104≤140737488351232∧(∀ x∈fields,x.ok)
def Fld.ok:Fld→Prop
 | .mk name value=>name.length≤140737488351232∧value.ok
end
theorem Val.ok_mk (kind:Int)(num:Int)(scale:Int)(text:List UInt8)(lst:List Val)(fields:List Fld):(Val.mk kind num scale text lst fields).ok=(I64 kind∧I64 num∧I64 scale∧text.length≤140737488351232∧lst.length*88≤140737488351232∧(∀ x∈lst,x.ok)∧fields.length*104≤140737488351232∧(∀ x∈fields,x.ok)):=by rw[Val.ok]
theorem Fld.ok_mk (name:List UInt8)(value:Val):(Fld.mk name value).ok=(name.length≤140737488351232∧value.ok):=by rw[Fld.ok]
mutual
inductive Typ where
 | mk (kind:Int) (min:Int) (max:Int) (scale:Int) (words:List (List UInt8)) (elem:List Typ) (fields:List TFd)
inductive TFd where
 | mk (number:Int) (name:List UInt8) (need:Int) (typ:Typ) (dflt:List Val)
end
def Typ.kind:Typ→Int
 | .mk kind _ _ _ _ _ _=>kind
def Typ.min:Typ→Int
 | .mk _ min _ _ _ _ _=>min
def Typ.max:Typ→Int
 | .mk _ _ max _ _ _ _=>max
def Typ.scale:Typ→Int
 | .mk _ _ _ scale _ _ _=>scale
def Typ.words:Typ→List (List UInt8)
 | .mk _ _ _ _ words _ _=>words
def Typ.elem:Typ→List Typ
 | .mk _ _ _ _ _ elem _=>elem
def Typ.fields:Typ→List TFd
 | .mk _ _ _ _ _ _ fields=>fields
def TFd.number:TFd→Int
 | .mk number _ _ _ _=>number
def TFd.name:TFd→List UInt8
 | .mk _ name _ _ _=>name
def TFd.need:TFd→Int
 | .mk _ _ need _ _=>need
def TFd.typ:TFd→Typ
 | .mk _ _ _ typ _=>typ
def TFd.dflt:TFd→List Val
 | .mk _ _ _ _ dflt=>dflt
mutual
def Typ.pv:Typ→PV
 | .mk kind min max scale words elem fields=>.agg ([.int .i64 kind,.int .i64 min,.int .i64 max,.int .i64 scale,.list (words.map PV.str),.list (elem.map Typ.pv),.list (fields.map TFd.pv)])
def TFd.pv:TFd→PV
 | .mk number name need typ dflt=>.agg ([.int .i64 number,.str name,.int .i64 need]++typ.pv.cells++[.list (dflt.map Val.pv)])
end
theorem Typ.pv_mk (kind:Int)(min:Int)(max:Int)(scale:Int)(words:List (List UInt8))(elem:List Typ)(fields:List TFd):(Typ.mk kind min max scale words elem fields).pv = .agg ([.int .i64 kind,.int .i64 min,.int .i64 max,.int .i64 scale,.list (words.map PV.str),.list (elem.map Typ.pv),.list (fields.map TFd.pv)]):=by rw[Typ.pv]
theorem TFd.pv_mk (number:Int)(name:List UInt8)(need:Int)(typ:Typ)(dflt:List Val):(TFd.mk number name need typ dflt).pv = .agg ([.int .i64 number,.str name,.int .i64 need]++typ.pv.cells++[.list (dflt.map Val.pv)]):=by rw[TFd.pv]
theorem Typ.cells_len (x:Typ):x.pv.cells.length=7:=by
 obtain⟨kind,min,max,scale,words,elem,fields⟩:=x
 rw[Typ.pv_mk];simp only[aV,List.length_append,List.length_cons,List.length_nil]
theorem Typ.isAgg (x:Typ):x.pv.isAgg=true:=by
 obtain⟨kind,min,max,scale,words,elem,fields⟩:=x
 rw[Typ.pv_mk];rfl
theorem TFd.cells_len (x:TFd):x.pv.cells.length=11:=by
 obtain⟨number,name,need,typ,dflt⟩:=x
 rw[TFd.pv_mk];simp only[aV,List.length_append,List.length_cons,List.length_nil,Typ.cells_len]
theorem TFd.isAgg (x:TFd):x.pv.isAgg=true:=by
 obtain⟨number,name,need,typ,dflt⟩:=x
 rw[TFd.pv_mk];rfl
theorem Typ.ones (x:Typ):(x.pv.cells.all PV.one)=true:=by
 obtain⟨kind,min,max,scale,words,elem,fields⟩:=x
 rw[Typ.pv_mk];simp only[aV,List.all_append,List.all_cons,List.all_nil,fW,fX,ek,eh,Bool.and_true,Bool.and_self]
theorem Typ.row (x:Typ):∃ cs,x.pv = .agg cs∧cs.length=7∧∀ p∈cs,p.one=true:=by
 have h1:=x.cells_len;have h2:=x.ones;have h3:=x.isAgg
 cases h:x.pv with
 | agg cs=>rw[h] at h1 h2;exact⟨cs,rfl,h1,fun p hp=>List.all_eq_true.1 h2 p hp⟩
 | _=>rw[h] at h3;cases h3
theorem TFd.ones (x:TFd):(x.pv.cells.all PV.one)=true:=by
 obtain⟨number,name,need,typ,dflt⟩:=x
 rw[TFd.pv_mk];simp only[aV,List.all_append,List.all_cons,List.all_nil,fW,fX,ek,eh,Bool.and_true,Bool.and_self,Typ.ones]
theorem TFd.row (x:TFd):∃ cs,x.pv = .agg cs∧cs.length=11∧∀ p∈cs,p.one=true:=by
 have h1:=x.cells_len;have h2:=x.ones;have h3:=x.isAgg
 cases h:x.pv with
 | agg cs=>rw[h] at h1 h2;exact⟨cs,rfl,h1,fun p hp=>List.all_eq_true.1 h2 p hp⟩
 | _=>rw[h] at h3;cases h3
mutual
def Typ.ok:Typ→Prop
 | .mk kind min max scale words elem fields=>I64 kind∧I64 min∧I64 max∧I64 scale∧words.length*16≤140737488351232∧(∀ x∈words,x.length≤140737488351232)∧elem.length*104≤140737488351232∧(∀ x∈elem,x.ok)∧fields.length*160≤140737488351232∧(∀ x∈fields,x.ok)
def TFd.ok:TFd→Prop
 | .mk number name need typ dflt=>I64 number∧name.length≤140737488351232∧I64 need∧typ.ok∧dflt.length*88≤140737488351232∧(∀ x∈dflt,x.ok)
end
theorem Typ.ok_mk (kind:Int)(min:Int)(max:Int)(scale:Int)(words:List (List UInt8))(elem:List Typ)(fields:List TFd):(Typ.mk kind min max scale words elem fields).ok=(I64 kind∧I64 min∧I64 max∧I64 scale∧words.length*16≤140737488351232∧(∀ x∈words,x.length≤140737488351232)∧elem.length*104≤140737488351232∧(∀ x∈elem,x.ok)∧fields.length*160≤140737488351232∧(∀ x∈fields,x.ok)):=by rw[Typ.ok]
theorem TFd.ok_mk (number:Int)(name:List UInt8)(need:Int)(typ:Typ)(dflt:List Val):(TFd.mk number name need typ dflt).ok=(I64 number∧name.length≤140737488351232∧I64 need∧typ.ok∧dflt.length*88≤140737488351232∧(∀ x∈dflt,x.ok)):=by rw[TFd.ok]
theorem IU:ba Tryz.prog 3=false:=by kernel_rfl
theorem IK:Tryz.prog.cellsOf 3=1:=by kernel_rfl
theorem GW:ba Tryz.prog 9=false:=by kernel_rfl
theorem Gy:Tryz.prog.cellsOf 9=1:=by kernel_rfl
theorem GZ:ba Tryz.prog 22=false:=by kernel_rfl
theorem GB:Tryz.prog.cellsOf 22=1:=by kernel_rfl
theorem GY:ba Tryz.prog 23=false:=by kernel_rfl
theorem GA:Tryz.prog.cellsOf 23=1:=by kernel_rfl
theorem GX:ba Tryz.prog 25=true:=by kernel_rfl
theorem BZ:Tryz.prog.cellsOf 25=6:=by kernel_rfl
theorem GH:Tryz.prog.bytesOf 25=88:=by kernel_rfl
theorem Gz:Tryz.prog.cellsOf 39=7:=by kernel_rfl
theorem GG:Tryz.prog.bytesOf 39=104:=by kernel_rfl
section
variable {t:Nat}{p:PV}
theorem nQ (h:HasT Tryz.prog t p)(hu:Tryz.prog.underlying t=some .string):∃ s:List UInt8,p = .str s∧s.length≤140737488351232:=by
 cases h with
 | str _ s hb hs=>exact⟨s,rfl,hs⟩
 | int _ k n hb=>rw[hu] at hb;cases hb
 | bool _ b hb=>rw[hu] at hb;cases hb
 | list _ e l hb=>rw[hu] at hb;cases hb
 | agg _ fs cs hb=>rw[hu] at hb;cases hb
 | arr _ e n cs hb=>rw[hu] at hb;cases hb
theorem Ah {k:IntKind}(h:HasT Tryz.prog t p)(hu:Tryz.prog.underlying t=some (.int k)):∃ n:Int,p = .int k n∧(Lit.int k n).wf=true:=by
 cases h with
 | int _ k' n hk hw=>rw[hu] at hk;cases hk;exact⟨n,rfl,hw⟩
 | bool _ b hb=>rw[hu] at hb;cases hb
 | str _ s hb=>rw[hu] at hb;cases hb
 | list _ e l hb=>rw[hu] at hb;cases hb
 | agg _ fs cs hb=>rw[hu] at hb;cases hb
 | arr _ e n cs hb=>rw[hu] at hb;cases hb
theorem iR (h:HasT Tryz.prog t p)(hu:Tryz.prog.underlying t=some (.int .i64)):∃ n:Int,p = .int .i64 n∧I64 n:=by
 obtain⟨n,rfl,hw⟩:=Ah h hu
 refine⟨n,rfl,?_⟩
 simp only[Lit.wf,Bool.and_eq_true,decide_eq_true_eq] at hw
 exact hw
end
theorem ju {t e e':Nat}(h:Tryz.prog.underlying t=some (.slice e))(h':Tryz.prog.underlying t=some (.slice e')):e=e':=by
 rw[h] at h';cases h';rfl
theorem mE {β:Type}{f:β→PV}{Q:β→Prop}:∀ (l:List PV),(∀ (i:Nat) (x:PV),l[i]? = some x→∃ s,x=f s∧Q s)→∃ ss:List β,l=ss.map f∧ss.length=l.length∧∀ s∈ss,Q s
 | [],_=>⟨[],rfl,rfl,by simp⟩
 | x::r,h=>by
   obtain⟨s,rfl,hs⟩:=h 0 x rfl
   obtain⟨ss,rfl,hl,hss⟩:=mE r (fun i y hy=>h (i+1) y (by simpa using hy))
   refine⟨s::ss,rfl,by simp,fun t ht=>?_⟩
   rcases List.mem_cons.1 ht with rfl | ht
   ·exact hs
   ·exact hss t ht
theorem Ip {l:List PV}(h:l.length=6):∃ c0 c1 c2 c3 c4 c5,l=[c0,c1,c2,c3,c4,c5]:=by
 match l,h with
 | [c0,c1,c2,c3,c4,c5],_=>exact⟨c0,c1,c2,c3,c4,c5,rfl⟩
theorem Io {l:List PV}(h:l.length=7):∃ c0 c1 c2 c3 c4 c5 c6,l=[c0,c1,c2,c3,c4,c5,c6]:=by
 match l,h with
 | [c0,c1,c2,c3,c4,c5,c6],_=>exact⟨c0,c1,c2,c3,c4,c5,c6,rfl⟩
theorem fj {t:Nat}{p:PV}(h:HasT Tryz.prog t p):(t=25→∃ x:Val,p=x.pv∧x.ok)∧(t=39→∃ x:Fld,p=x.pv∧x.ok)∧(t=22→∃ l:List Val,p = .list (l.map Val.pv)∧l.length*88≤140737488351232∧∀ x∈l,x.ok)∧(t=23→∃ l:List Fld,p = .list (l.map Fld.pv)∧l.length*104≤140737488351232∧∀ x∈l,x.ok):=by
 induction h with
 | bool t b hb=>refine⟨?_,?_,?_,?_⟩<;>(intro h;subst h;simp[Tryz.underlying25,Tryz.underlying39,Tryz.underlying22,Tryz.underlying23] at hb)
 | int t k n hb _=>refine⟨?_,?_,?_,?_⟩<;>(intro h;subst h;simp[Tryz.underlying25,Tryz.underlying39,Tryz.underlying22,Tryz.underlying23] at hb)
 | str t s hb _=>refine⟨?_,?_,?_,?_⟩<;>(intro h;subst h;simp[Tryz.underlying25,Tryz.underlying39,Tryz.underlying22,Tryz.underlying23] at hb)
 | arr t e n cs hb _ _ _=>refine⟨?_,?_,?_,?_⟩<;>(intro h;subst h;simp[Tryz.underlying25,Tryz.underlying39,Tryz.underlying22,Tryz.underlying23] at hb)
 | list t e l hu hl hl2 hx ih=>
   refine⟨?_,?_,?_,?_⟩
   ·intro h;subst h;simp[Tryz.underlying25] at hu
   ·intro h;subst h;simp[Tryz.underlying39] at hu
   ·intro h;subst h
    obtain rfl:=ju hu Tryz.underlying22
    obtain⟨ss,rfl,hlen,hss⟩:=mE (f:=Val.pv) (Q:=Val.ok) l (fun i x hi=>(ih i x hi).1 rfl)
    exact⟨ss,rfl,by rw[hlen,← GH];exact hl2,hss⟩
   ·intro h;subst h
    obtain rfl:=ju hu Tryz.underlying23
    obtain⟨ss,rfl,hlen,hss⟩:=mE (f:=Fld.pv) (Q:=Fld.ok) l (fun i x hi=>(ih i x hi).2.1 rfl)
    exact⟨ss,rfl,by rw[hlen,← GG];exact hl2,hss⟩
 | agg t fs cs hu hl hx ih=>
   refine⟨?_,?_,?_,?_⟩
   ·intro h;subst h
    rw[Tryz.underlying25] at hu;cases hu
    rw[BZ] at hl
    obtain⟨c0,c1,c2,c3,c4,c5,rfl⟩:=Ip hl
    have h0:=hx 0 _ rfl
    have h1:=hx 1 _ rfl
    have h2:=hx 2 _ rfl
    have h3:=hx 3 _ rfl
    have h4:=(ih 4 _ rfl).2.2.1 rfl
    have h5:=(ih 5 _ rfl).2.2.2 rfl
    simp only[mK,IU,IK,GW,Gy,GZ,GB,GY,GA,List.drop_zero,List.drop_succ_cons,List.take_succ_cons,List.take_zero,ca,List.headD_cons] at h0 h1 h2 h3 h4 h5
    obtain⟨v0,rfl,ok_v0⟩:=iR h0 Tryz.underlying3
    obtain⟨v1,rfl,ok_v1⟩:=iR h1 Tryz.underlying3
    obtain⟨v2,rfl,ok_v2⟩:=iR h2 Tryz.underlying3
    obtain⟨v3,rfl,ok_v3⟩:=nQ h3 Tryz.underlying9
    obtain⟨v4,rfl,ok_v4,oks_v4⟩:=h4
    obtain⟨v5,rfl,ok_v5,oks_v5⟩:=h5
    refine⟨.mk v0 v1 v2 v3 v4 v5,?_,?_⟩
    ·rw[Val.pv_mk]
    ·rw[Val.ok_mk];exact⟨ok_v0,ok_v1,ok_v2,ok_v3,ok_v4,oks_v4,ok_v5,oks_v5⟩
   ·intro h;subst h
    rw[Tryz.underlying39] at hu;cases hu
    rw[Gz] at hl
    obtain⟨c0,c1,c2,c3,c4,c5,c6,rfl⟩:=Io hl
    have h0:=hx 0 _ rfl
    have h1:=(ih 1 _ rfl).1 rfl
    simp only[mK,GW,Gy,GX,BZ,List.drop_zero,List.drop_succ_cons,List.take_succ_cons,List.take_zero,ca,List.headD_cons] at h0 h1
    obtain⟨v0,rfl,ok_v0⟩:=nQ h0 Tryz.underlying9
    obtain⟨v1,e1,ok_v1⟩:=h1
    refine⟨.mk v0 v1,?_,?_⟩
    ·rw[Fld.pv_mk];rw[← e1];rfl
    ·rw[Fld.ok_mk];exact⟨ok_v0,ok_v1⟩
   ·intro h;subst h;simp[Tryz.underlying22] at hu
   ·intro h;subst h;simp[Tryz.underlying23] at hu
theorem Ai {p:PV}(h:HasT Tryz.prog 25 p):∃ x:Val,p=x.pv∧x.ok:=(fj h).1 rfl
end Go.Proofs.YtamoeblcphjbaaaGreatDoor
set_option maxRecDepth 100000
set_option linter.unusedVariables false
set_option linter.unusedSimpArgs false
namespace Go.Proofs.YtamoeblcphjbaaaGreatDoor
open Go Go.Ab
attribute [local irreducible] vc
def aB:Bool→AV
 | true=>.ptr 0 0
 | false=>.pv .nilp
def bB (t:Bool):List UInt8→List Blk
 | []=>[.cells 83 true [aB t,.pv .nils]]
 | b::r=>[.cells 83 true [aB t,.row 1 1 0 (r.length+1)],.cells 5 false ((ap (b::r)).map .pv)]
theorem copyB (t:Bool)(l:List UInt8):jh Tryz.prog aD 1 107 [.ptr 0 0] (bB t l) (.pv (.tup [])) (bB true l):=by
 refine jh.intro EM (by simp[EY]) ?_
 cases l with
 | nil=>
   cases t with
   | true=>
     simp(disch:=first|exact dI|fail) only[EY,bB,aB,push_cast,seval]
     exact dh [] (by simp(disch:=first|exact dI|fail) only[push_cast,seval])
   | false=>
     simp(disch:=first|exact dI|fail) only[EY,bB,aB,push_cast,seval]
     exact dh [] (by simp(disch:=first|exact dI|fail) only[push_cast,seval])
 | cons b r=>
   cases t with
   | true=>
     simp(disch:=first|exact dI|fail) only[EY,bB,aB,push_cast,seval]
     exact dh [] (by simp(disch:=first|exact dI|fail) only[push_cast,seval])
   | false=>
     simp(disch:=first|exact dI|fail) only[EY,bB,aB,push_cast,seval]
     exact dh [] (by simp(disch:=first|exact dI|fail) only[push_cast,seval])
theorem Bh (t:Bool)(l:List UInt8)(c:UInt8)(hl:l.length≤100000000):jh Tryz.prog aD 1 49 [.ptr 0 0,.pv (.int .u8 (c.toNat:Int))] (bB t l) (.pv .nili) (bB true (l++[c])):=by
 have hC:=copyB t l
 refine jh.intro Hs (by simp[F49]) ?_
 cases l with
 | nil=>
   cases t<;>(
   try simp only[bB,aB] at hC
   simp(disch:=first|exact dI|fail) only[F49,bB,aB,push_cast,seval]
   refine ae.lentK hC [0] rfl (by simp(disch:=first|exact dI|fail) only[push_cast,seval]) (by simp(disch:=first|exact dI|fail) only[push_cast,seval]) ?_
   simp(disch:=first|exact dI|fail) only[bB,aB,push_cast,seval]
   exact dh [] (by simp(disch:=first|exact dI|fail) only[ap,push_cast,seval]))
 | cons b r=>
   have hA:=fun new q=>rc (t:=5) (q:=q) (new:=new) (f:=false) (l:=b::r) (c:=c) (len:=r.length+1) rfl (by simp at hl ⊢;omega)
   cases t<;>(
   try simp only[bB,aB] at hC
   simp(disch:=first|exact dI|fail) only[F49,bB,aB,push_cast,seval]
   refine ae.lentK hC [0,1] rfl (by simp(disch:=first|exact dI|fail) only[push_cast,seval]) (by simp(disch:=first|exact dI|fail) only[push_cast,seval]) ?_
   simp(disch:=first|exact dI|fail) only[bB,aB,hA,push_cast,seval]
   exact dh [] (by simp(disch:=first|exact dI|fail) only[ap,List.length_append,push_cast,seval]))
theorem rG (t:Bool)(l k:List UInt8)(hl:l.length≤100000000)(hk:k.length≤100000000):jh Tryz.prog aD 1 50 [.ptr 0 0,.pv (.str k)] (bB t l) (.pv (.tup [.int .i64 (k.length:Int),.nili])) (bB true (l++k)):=by
 have hC:=copyB t l
 refine jh.intro Hr (by simp[F50]) ?_
 cases l with
 | nil=>
   cases k with
   | nil=>
     cases t<;>(
     try simp only[bB,aB] at hC
     simp(disch:=first|exact dI|fail) only[F50,bB,aB,push_cast,seval]
     refine ae.lentK hC [0] rfl (by simp(disch:=first|exact dI|fail) only[push_cast,seval]) (by simp(disch:=first|exact dI|fail) only[push_cast,seval]) ?_
     simp(disch:=first|exact dI|fail) only[bB,aB,push_cast,seval]
     exact dh [] (by simp(disch:=first|exact dI|fail) only[push_cast,seval]))
   | cons c k=>
     simp only[List.length_cons] at hk
     cases t<;>(
     try simp only[bB,aB] at hC
     simp(disch:=first|exact dI|fail) only[F50,bB,aB,push_cast,seval]
     refine ae.lentK hC [0] rfl (by simp(disch:=first|exact dI|fail) only[push_cast,seval]) (by simp(disch:=first|exact dI|fail) only[push_cast,seval]) ?_
     simp(disch:=first|exact dI|fail) only[bB,aB,push_cast,seval]
     exact dh [] (by simp(disch:=first|exact dI|fail) only[push_cast,seval]))
 | cons b r=>
   have e2:(r++k).length+1=r.length+1+k.length:=by simp;omega
   have hA:=fun new q=>AS (t:=5) (q:=q) (new:=new) (f:=false) (l:=b::r) (k:=k) (len:=r.length+1) rfl (by simp at hl ⊢;omega)
   cases t<;>(
   try simp only[bB,aB] at hC
   simp(disch:=first|exact dI|fail) only[F50,bB,aB,push_cast,seval]
   refine ae.lentK hC [0,1] rfl (by simp(disch:=first|exact dI|fail) only[push_cast,seval]) (by simp(disch:=first|exact dI|fail) only[push_cast,seval]) ?_
   simp(disch:=first|exact dI|fail) only[bB,aB,hA,push_cast,seval]
   exact dh [] (by simp(disch:=first|exact dI|fail) only[e2,push_cast,seval]))
def stB:List UInt8→List Blk
 | []=>[.none]
 | _::_=>[.none,.none]
theorem lu (t:Bool)(l:List UInt8)(hl:l.length≤100000000):jh Tryz.prog aD 1 52 [.ptr 0 0] (bB t l) (.pv (.str l)) (stB l):=by
 refine jh.intro Hq (by simp[F52]) ?_
 cases l with
 | nil=>
   cases t<;>(
   try simp only[bB,aB] at hC
   simp(disch:=first|exact dI|fail) only[F52,bB,aB,push_cast,seval]
   exact dh [] (by simp(disch:=first|exact dI|fail) only[stB,push_cast,seval]))
 | cons b r=>
   have hA:=fun (k:Int) (q:Nat) (hk:k=((b::r).length:Int))=>xj (t:=5) (r:=q) (f:=false) (l:=b::r) hk (by simp) (by simp at hl ⊢;omega)
   cases t<;>(
   try simp only[bB,aB] at hC
   simp(disch:=first|exact dI|fail) only[F52,bB,aB,hA,push_cast,seval]
   exact dh [] (by simp(disch:=first|exact dI|fail) only[stB,push_cast,seval]))
end Go.Proofs.YtamoeblcphjbaaaGreatDoor

/- A part of the proof. -/
import Derived.KernelRfl
import Derived.Test.YtbojpfpliibfbaaGreatDoorProg
import Derived.Test.YtbojpfpliibfbaaGreatDoorDeRC1
import Derived.Test.YtbojpfpliibfbaaGreatDoorDeF
set_option maxRecDepth 100000
set_option linter.unusedVariables false
set_option linter.unusedSimpArgs false
namespace Go.Proofs.YtbojpfpliibfbaaGreatDoor
open Go Go.Ab
def I64 (n:Int):Prop:=-9223372036854775808<=n/\n<=9223372036854775807
mutual
inductive Val where
 | mk (kind:Int) (num:Int) (scale:Int) (text:List UInt8) (lst:List Val) (fields:List Fld)
inductive Fld where
 | mk (name:List UInt8) (value:Val)
end
def Val.kind:Val->Int
 | .mk kind _ _ _ _ _=>kind
def Val.num:Val->Int
 | .mk _ num _ _ _ _=>num
def Val.scale:Val->Int
 | .mk _ _ scale _ _ _=>scale
def Val.text:Val->List UInt8
 | .mk _ _ _ text _ _=>text
def Val.lst:Val->List Val
 | .mk _ _ _ _ lst _=>lst
def Val.fields:Val->List Fld
 | .mk _ _ _ _ _ fields=>fields
def Fld.name:Fld->List UInt8
 | .mk name _=>name
def Fld.value:Fld->Val
 | .mk _ value=>value
mutual
def Val.pv:Val->PV
 | .mk kind num scale text lst fields=>.agg ([.int .i64 kind,.int .i64 num,.int .i64 scale,.str text,.list (lst.map Val.pv),.list (fields.map Fld.pv)])
def Fld.pv:Fld->PV
 | .mk name value=>.agg ([.str name]++value.pv.cells)
end
theorem Val.pv_mk (kind:Int)(num:Int)(scale:Int)(text:List UInt8)(lst:List Val)(fields:List Fld):(Val.mk kind num scale text lst fields).pv = .agg ([.int .i64 kind,.int .i64 num,.int .i64 scale,.str text,.list (lst.map Val.pv),.list (fields.map Fld.pv)]):=by rw[Val.pv]
theorem Fld.pv_mk (name:List UInt8)(value:Val):(Fld.mk name value).pv = .agg ([.str name]++value.pv.cells):=by rw[Fld.pv]
theorem Val.cells_len (x:Val):x.pv.cells.length=6:=by
 obtain⟨kind,num,scale,text,lst,fields⟩:=x
 rw[Val.pv_mk];simp only[ag,List.length_append,List.length_cons,List.length_nil]
theorem Val.isAgg (x:Val):x.pv.isAgg=true:=by
 obtain⟨kind,num,scale,text,lst,fields⟩:=x
 rw[Val.pv_mk];rfl
theorem Fld.cells_len (x:Fld):x.pv.cells.length=7:=by
 obtain⟨name,value⟩:=x
 rw[Fld.pv_mk];simp only[ag,List.length_append,List.length_cons,List.length_nil,Val.cells_len]
theorem Fld.isAgg (x:Fld):x.pv.isAgg=true:=by
 obtain⟨name,value⟩:=x
 rw[Fld.pv_mk];rfl
theorem Val.ones (x:Val):(x.pv.cells.all PV.one)=true:=by
 obtain⟨kind,num,scale,text,lst,fields⟩:=x
 rw[Val.pv_mk];simp only[ag,List.all_append,List.all_cons,List.all_nil,AJ,AL,tw,tv,Bool.and_true,Bool.and_self]
theorem Val.row (x:Val):∃ cs,x.pv = .agg cs/\cs.length=6/\∀ p∈cs,p.one=true:=by
 have h1:=x.cells_len;have h2:=x.ones;have h3:=x.isAgg
 cases h:x.pv with
 | agg cs=>rw[h] at h1 h2;exact⟨cs,rfl,h1,fun p hp=>List.all_eq_true.1 h2 p hp⟩
 | _=>rw[h] at h3;cases h3
mutual
def Val.ok:Val->Prop
 | .mk kind num scale text lst fields=>I64 kind/\I64 num/\I64 scale/\text.length<=140737488351232/\lst.length*88<=140737488351232/\(∀ x∈lst,x.ok)/\fields.length*104<=140737488351232/\(∀ x∈fields,x.ok)
def Fld.ok:Fld->Prop
 | .mk name value=>name.length<=140737488351232/\value.ok
end
theorem Val.ok_mk (kind:Int)(num:Int)(scale:Int)(text:List UInt8)(lst:List Val)(fields:List Fld):(Val.mk kind num scale text lst fields).ok=(I64 kind/\I64 num/\I64 scale/\text.length<=140737488351232/\lst.length*88<=140737488351232/\(∀ x∈lst,x.ok)/\fields.length*104<=140737488351232/\(∀ x∈fields,x.ok)):=by rw[Val.ok]
theorem Fld.ok_mk (name:List UInt8)(value:Val):(Fld.mk name value).ok=(name.length<=140737488351232/\value.ok):=by rw[Fld.ok]
mutual
inductive Typ where
 | mk (kind:Int) (min:Int) (max:Int) (scale:Int) (words:List (List UInt8)) (elem:List Typ) (fields:List TFd)
inductive TFd where
 | mk (number:Int) (name:List UInt8) (need:Int) (typ:Typ) (dflt:List Val)
end
def Typ.kind:Typ->Int
 | .mk kind _ _ _ _ _ _=>kind
def Typ.min:Typ->Int
 | .mk _ min _ _ _ _ _=>min
def Typ.max:Typ->Int
 | .mk _ _ max _ _ _ _=>max
def Typ.scale:Typ->Int
 | .mk _ _ _ scale _ _ _=>scale
def Typ.words:Typ->List (List UInt8)
 | .mk _ _ _ _ words _ _=>words
def Typ.elem:Typ->List Typ
 | .mk _ _ _ _ _ elem _=>elem
def Typ.fields:Typ->List TFd
 | .mk _ _ _ _ _ _ fields=>fields
def TFd.number:TFd->Int
 | .mk number _ _ _ _=>number
def TFd.name:TFd->List UInt8
 | .mk _ name _ _ _=>name
def TFd.need:TFd->Int
 | .mk _ _ need _ _=>need
def TFd.typ:TFd->Typ
 | .mk _ _ _ typ _=>typ
def TFd.dflt:TFd->List Val
 | .mk _ _ _ _ dflt=>dflt
mutual
def Typ.pv:Typ->PV
 | .mk kind min max scale words elem fields=>.agg ([.int .i64 kind,.int .i64 min,.int .i64 max,.int .i64 scale,.list (words.map PV.str),.list (elem.map Typ.pv),.list (fields.map TFd.pv)])
def TFd.pv:TFd->PV
 | .mk number name need typ dflt=>.agg ([.int .i64 number,.str name,.int .i64 need]++typ.pv.cells++[.list (dflt.map Val.pv)])
end
theorem Typ.pv_mk (kind:Int)(min:Int)(max:Int)(scale:Int)(words:List (List UInt8))(elem:List Typ)(fields:List TFd):(Typ.mk kind min max scale words elem fields).pv = .agg ([.int .i64 kind,.int .i64 min,.int .i64 max,.int .i64 scale,.list (words.map PV.str),.list (elem.map Typ.pv),.list (fields.map TFd.pv)]):=by rw[Typ.pv]
theorem TFd.pv_mk (number:Int)(name:List UInt8)(need:Int)(typ:Typ)(dflt:List Val):(TFd.mk number name need typ dflt).pv = .agg ([.int .i64 number,.str name,.int .i64 need]++typ.pv.cells++[.list (dflt.map Val.pv)]):=by rw[TFd.pv]
theorem Typ.cells_len (x:Typ):x.pv.cells.length=7:=by
 obtain⟨kind,min,max,scale,words,elem,fields⟩:=x
 rw[Typ.pv_mk];simp only[ag,List.length_append,List.length_cons,List.length_nil]
theorem TFd.cells_len (x:TFd):x.pv.cells.length=11:=by
 obtain⟨number,name,need,typ,dflt⟩:=x
 rw[TFd.pv_mk];simp only[ag,List.length_append,List.length_cons,List.length_nil,Typ.cells_len]
theorem TFd.isAgg (x:TFd):x.pv.isAgg=true:=by
 obtain⟨number,name,need,typ,dflt⟩:=x
 rw[TFd.pv_mk];rfl
mutual
def Typ.ok:Typ->Prop
 | .mk kind min max scale words elem fields=>I64 kind/\I64 min/\I64 max/\I64 scale/\words.length*16<=140737488351232/\(∀ x∈words,x.length<=140737488351232)/\elem.length*104<=140737488351232/\(∀ x∈elem,x.ok)/\fields.length*160<=140737488351232/\(∀ x∈fields,x.ok)
def TFd.ok:TFd->Prop
 | .mk number name need typ dflt=>I64 number/\name.length<=140737488351232/\I64 need/\typ.ok/\dflt.length*88<=140737488351232/\(∀ x∈dflt,x.ok)
end
theorem Typ.ok_mk (kind:Int)(min:Int)(max:Int)(scale:Int)(words:List (List UInt8))(elem:List Typ)(fields:List TFd):(Typ.mk kind min max scale words elem fields).ok=(I64 kind/\I64 min/\I64 max/\I64 scale/\words.length*16<=140737488351232/\(∀ x∈words,x.length<=140737488351232)/\elem.length*104<=140737488351232/\(∀ x∈elem,x.ok)/\fields.length*160<=140737488351232/\(∀ x∈fields,x.ok)):=by rw[Typ.ok]
theorem TFd.ok_mk (number:Int)(name:List UInt8)(need:Int)(typ:Typ)(dflt:List Val):(TFd.mk number name need typ dflt).ok=(I64 number/\name.length<=140737488351232/\I64 need/\typ.ok/\dflt.length*88<=140737488351232/\(∀ x∈dflt,x.ok)):=by rw[TFd.ok]
theorem Lq:bh Tryz.prog 3=false:=by kernel_rfl
theorem Lb:Tryz.prog.cellsOf 3=1:=by kernel_rfl
theorem Rm:Tryz.prog.bytesOf 3=8:=by kernel_rfl
theorem Lp:bh Tryz.prog 9=false:=by kernel_rfl
theorem La:Tryz.prog.cellsOf 9=1:=by kernel_rfl
theorem Rl:Tryz.prog.bytesOf 9=16:=by kernel_rfl
theorem Pg:bh Tryz.prog 22=false:=by kernel_rfl
theorem OF:Tryz.prog.cellsOf 22=1:=by kernel_rfl
theorem Pf:bh Tryz.prog 23=false:=by kernel_rfl
theorem OE:Tryz.prog.cellsOf 23=1:=by kernel_rfl
theorem Pe:bh Tryz.prog 24=false:=by kernel_rfl
theorem OD:Tryz.prog.cellsOf 24=1:=by kernel_rfl
theorem Pd:bh Tryz.prog 26=true:=by kernel_rfl
theorem Ip:Tryz.prog.cellsOf 26=7:=by kernel_rfl
theorem OP:Tryz.prog.bytesOf 26=104:=by kernel_rfl
theorem It:bh Tryz.prog 33=false:=by kernel_rfl
theorem Io:Tryz.prog.cellsOf 33=1:=by kernel_rfl
theorem Pc:bh Tryz.prog 34=false:=by kernel_rfl
theorem OC:Tryz.prog.cellsOf 34=1:=by kernel_rfl
theorem Pb:bh Tryz.prog 36=true:=by kernel_rfl
theorem In:Tryz.prog.cellsOf 36=6:=by kernel_rfl
theorem Ir:Tryz.prog.bytesOf 36=88:=by kernel_rfl
theorem OB:Tryz.prog.cellsOf 54=11:=by kernel_rfl
theorem OO:Tryz.prog.bytesOf 54=160:=by kernel_rfl
theorem OA:Tryz.prog.cellsOf 60=7:=by kernel_rfl
theorem ON:Tryz.prog.bytesOf 60=104:=by kernel_rfl
section
variable {t:Nat}{p:PV}
theorem gO (h:HasT Tryz.prog t p)(hu:Tryz.prog.underlying t=some .string):∃ s:List UInt8,p = .str s/\s.length<=140737488351232:=by
 cases h with
 | str _ s hb hs=>exact⟨s,rfl,hs⟩
 | int _ k n hb=>rw[hu] at hb;cases hb
 | bool _ b hb=>rw[hu] at hb;cases hb
 | list _ e l hb=>rw[hu] at hb;cases hb
 | agg _ fs cs hb=>rw[hu] at hb;cases hb
 | arr _ e n cs hb=>rw[hu] at hb;cases hb
theorem cy (h:HasT Tryz.prog t p)(hu:Tryz.prog.underlying t=some (.int .i64)):∃ n:Int,p = .int .i64 n/\I64 n:=by
 obtain⟨n,rfl,hw⟩:=Gi h hu
 refine⟨n,rfl,?_⟩
 simp only[Lit.wf,Bool.and_eq_true,decide_eq_true_eq] at hw
 exact hw
theorem BN {e:Nat}(h:HasT Tryz.prog t p)(hu:Tryz.prog.underlying t=some (.slice e)):∃ l:List PV,p = .list l/\l.length<=maxLen/\l.length*Tryz.prog.bytesOf e<=140737488351232/\∀ (i:Nat) (x:PV),l[i]? = some x->HasT Tryz.prog e x:=by
 cases h with
 | list _ e' l hb hl hl2 hx=>rw[hu] at hb;cases hb;exact⟨l,rfl,hl,hl2,hx⟩
 | int _ k n hb=>rw[hu] at hb;cases hb
 | bool _ b hb=>rw[hu] at hb;cases hb
 | str _ s hb=>rw[hu] at hb;cases hb
 | agg _ fs cs hb=>rw[hu] at hb;cases hb
 | arr _ e n cs hb=>rw[hu] at hb;cases hb
end
theorem gx {t e e':Nat}(h:Tryz.prog.underlying t=some (.slice e))(h':Tryz.prog.underlying t=some (.slice e')):e=e':=by
 rw[h] at h';cases h';rfl
theorem iC {β:Type}{f:β->PV}{Q:β->Prop}:∀ (l:List PV),(∀ (i:Nat) (x:PV),l[i]? = some x->∃ s,x=f s/\Q s)->∃ ss:List β,l=ss.map f/\ss.length=l.length/\∀ s∈ss,Q s
 | [],_=>⟨[],rfl,rfl,by simp⟩
 | x::r,h=>by
   obtain⟨s,rfl,hs⟩:=h 0 x rfl
   obtain⟨ss,rfl,hl,hss⟩:=iC r (fun i y hy=>h (i+1) y (by simpa using hy))
   refine⟨s::ss,rfl,by simp,fun t ht=>?_⟩
   rcases List.mem_cons.1 ht with rfl | ht
   ·exact hs
   ·exact hss t ht
theorem nx {β:Type}{f:β->PV}{Q:β->Prop}{t e b:Nat}{p:PV}(h:HasT Tryz.prog t p)(hu:Tryz.prog.underlying t=some (.slice e))(hb:Tryz.prog.bytesOf e=b)(hq:∀ x,HasT Tryz.prog e x->∃ s,x=f s/\Q s):∃ ss:List β,p = .list (ss.map f)/\ss.length*b<=140737488351232/\∀ s∈ss,Q s:=by
 obtain⟨l,rfl,_,hl,hx⟩:=BN h hu
 obtain⟨ss,rfl,h1,h2⟩:=iC (f:=f) (Q:=Q) l fun i x hi=>hq x (hx i x hi)
 exact⟨ss,rfl,by rw[h1,<- hb];exact hl,h2⟩
theorem QG {l:List PV}(h:l.length=6):∃ c0 c1 c2 c3 c4 c5,l=[c0,c1,c2,c3,c4,c5]:=by
 match l,h with
 | [c0,c1,c2,c3,c4,c5],_=>exact⟨c0,c1,c2,c3,c4,c5,rfl⟩
theorem NK {l:List PV}(h:l.length=7):∃ c0 c1 c2 c3 c4 c5 c6,l=[c0,c1,c2,c3,c4,c5,c6]:=by
 match l,h with
 | [c0,c1,c2,c3,c4,c5,c6],_=>exact⟨c0,c1,c2,c3,c4,c5,c6,rfl⟩
theorem NL {l:List PV}(h:l.length=11):∃ c0 c1 c2 c3 c4 c5 c6 c7 c8 c9 c10,l=[c0,c1,c2,c3,c4,c5,c6,c7,c8,c9,c10]:=by
 match l,h with
 | [c0,c1,c2,c3,c4,c5,c6,c7,c8,c9,c10],_=>exact⟨c0,c1,c2,c3,c4,c5,c6,c7,c8,c9,c10,rfl⟩
theorem jj {t:Nat}{p:PV}(h:HasT Tryz.prog t p):(t=36->∃ x:Val,p=x.pv/\x.ok)/\(t=60->∃ x:Fld,p=x.pv/\x.ok)/\(t=33->∃ l:List Val,p = .list (l.map Val.pv)/\l.length*88<=140737488351232/\∀ x∈l,x.ok)/\(t=34->∃ l:List Fld,p = .list (l.map Fld.pv)/\l.length*104<=140737488351232/\∀ x∈l,x.ok):=by
 induction h with
 | bool t b hb=>refine⟨?_,?_,?_,?_⟩<;>(intro h;subst h;simp[Tryz.underlying36,Tryz.underlying60,Tryz.underlying33,Tryz.underlying34] at hb)
 | int t k n hb _=>refine⟨?_,?_,?_,?_⟩<;>(intro h;subst h;simp[Tryz.underlying36,Tryz.underlying60,Tryz.underlying33,Tryz.underlying34] at hb)
 | str t s hb _=>refine⟨?_,?_,?_,?_⟩<;>(intro h;subst h;simp[Tryz.underlying36,Tryz.underlying60,Tryz.underlying33,Tryz.underlying34] at hb)
 | arr t e n cs hb _ _ _=>refine⟨?_,?_,?_,?_⟩<;>(intro h;subst h;simp[Tryz.underlying36,Tryz.underlying60,Tryz.underlying33,Tryz.underlying34] at hb)
 | list t e l hu hl hl2 hx ih=>
   refine⟨?_,?_,?_,?_⟩
   ·intro h;subst h;simp[Tryz.underlying36] at hu
   ·intro h;subst h;simp[Tryz.underlying60] at hu
   ·intro h;subst h
    obtain rfl:=gx hu Tryz.underlying33
    obtain⟨ss,rfl,hlen,hss⟩:=iC (f:=Val.pv) (Q:=Val.ok) l (fun i x hi=>(ih i x hi).1 rfl)
    exact⟨ss,rfl,by rw[hlen,<- Ir];exact hl2,hss⟩
   ·intro h;subst h
    obtain rfl:=gx hu Tryz.underlying34
    obtain⟨ss,rfl,hlen,hss⟩:=iC (f:=Fld.pv) (Q:=Fld.ok) l (fun i x hi=>(ih i x hi).2.1 rfl)
    exact⟨ss,rfl,by rw[hlen,<- ON];exact hl2,hss⟩
 | agg t fs cs hu hl hx ih=>
   refine⟨?_,?_,?_,?_⟩
   ·intro h;subst h
    rw[Tryz.underlying36] at hu;cases hu
    rw[In] at hl
    obtain⟨c0,c1,c2,c3,c4,c5,rfl⟩:=QG hl
    have h0:=hx 0 _ rfl
    have h1:=hx 1 _ rfl
    have h2:=hx 2 _ rfl
    have h3:=hx 3 _ rfl
    have h4:=(ih 4 _ rfl).2.2.1 rfl
    have h5:=(ih 5 _ rfl).2.2.2 rfl
    simp only[kV,Lq,Lb,Lp,La,It,Io,Pc,OC,List.drop_zero,List.drop_succ_cons,List.take_succ_cons,List.take_zero,cQ,List.headD_cons] at h0 h1 h2 h3 h4 h5
    obtain⟨v0,rfl,ok_v0⟩:=cy h0 Tryz.underlying3
    obtain⟨v1,rfl,ok_v1⟩:=cy h1 Tryz.underlying3
    obtain⟨v2,rfl,ok_v2⟩:=cy h2 Tryz.underlying3
    obtain⟨v3,rfl,ok_v3⟩:=gO h3 Tryz.underlying9
    obtain⟨v4,rfl,ok_v4,oks_v4⟩:=h4
    obtain⟨v5,rfl,ok_v5,oks_v5⟩:=h5
    refine⟨.mk v0 v1 v2 v3 v4 v5,?_,?_⟩
    ·rw[Val.pv_mk]
    ·rw[Val.ok_mk];exact⟨ok_v0,ok_v1,ok_v2,ok_v3,ok_v4,oks_v4,ok_v5,oks_v5⟩
   ·intro h;subst h
    rw[Tryz.underlying60] at hu;cases hu
    rw[OA] at hl
    obtain⟨c0,c1,c2,c3,c4,c5,c6,rfl⟩:=NK hl
    have h0:=hx 0 _ rfl
    have h1:=(ih 1 _ rfl).1 rfl
    simp only[kV,Lp,La,Pb,In,List.drop_zero,List.drop_succ_cons,List.take_succ_cons,List.take_zero,cQ,List.headD_cons] at h0 h1
    obtain⟨v0,rfl,ok_v0⟩:=gO h0 Tryz.underlying9
    obtain⟨v1,e1,ok_v1⟩:=h1
    refine⟨.mk v0 v1,?_,?_⟩
    ·rw[Fld.pv_mk];rw[<- e1];rfl
    ·rw[Fld.ok_mk];exact⟨ok_v0,ok_v1⟩
   ·intro h;subst h;simp[Tryz.underlying33] at hu
   ·intro h;subst h;simp[Tryz.underlying34] at hu
theorem Gj {p:PV}(h:HasT Tryz.prog 36 p):∃ x:Val,p=x.pv/\x.ok:=(jj h).1 rfl
theorem jk {t:Nat}{p:PV}(h:HasT Tryz.prog t p):(t=26->∃ x:Typ,p=x.pv/\x.ok)/\(t=54->∃ x:TFd,p=x.pv/\x.ok)/\(t=23->∃ l:List Typ,p = .list (l.map Typ.pv)/\l.length*104<=140737488351232/\∀ x∈l,x.ok)/\(t=24->∃ l:List TFd,p = .list (l.map TFd.pv)/\l.length*160<=140737488351232/\∀ x∈l,x.ok):=by
 induction h with
 | bool t b hb=>refine⟨?_,?_,?_,?_⟩<;>(intro h;subst h;simp[Tryz.underlying26,Tryz.underlying54,Tryz.underlying23,Tryz.underlying24] at hb)
 | int t k n hb _=>refine⟨?_,?_,?_,?_⟩<;>(intro h;subst h;simp[Tryz.underlying26,Tryz.underlying54,Tryz.underlying23,Tryz.underlying24] at hb)
 | str t s hb _=>refine⟨?_,?_,?_,?_⟩<;>(intro h;subst h;simp[Tryz.underlying26,Tryz.underlying54,Tryz.underlying23,Tryz.underlying24] at hb)
 | arr t e n cs hb _ _ _=>refine⟨?_,?_,?_,?_⟩<;>(intro h;subst h;simp[Tryz.underlying26,Tryz.underlying54,Tryz.underlying23,Tryz.underlying24] at hb)
 | list t e l hu hl hl2 hx ih=>
   refine⟨?_,?_,?_,?_⟩
   ·intro h;subst h;simp[Tryz.underlying26] at hu
   ·intro h;subst h;simp[Tryz.underlying54] at hu
   ·intro h;subst h
    obtain rfl:=gx hu Tryz.underlying23
    obtain⟨ss,rfl,hlen,hss⟩:=iC (f:=Typ.pv) (Q:=Typ.ok) l (fun i x hi=>(ih i x hi).1 rfl)
    exact⟨ss,rfl,by rw[hlen,<- OP];exact hl2,hss⟩
   ·intro h;subst h
    obtain rfl:=gx hu Tryz.underlying24
    obtain⟨ss,rfl,hlen,hss⟩:=iC (f:=TFd.pv) (Q:=TFd.ok) l (fun i x hi=>(ih i x hi).2.1 rfl)
    exact⟨ss,rfl,by rw[hlen,<- OO];exact hl2,hss⟩
 | agg t fs cs hu hl hx ih=>
   refine⟨?_,?_,?_,?_⟩
   ·intro h;subst h
    rw[Tryz.underlying26] at hu;cases hu
    rw[Ip] at hl
    obtain⟨c0,c1,c2,c3,c4,c5,c6,rfl⟩:=NK hl
    have h0:=hx 0 _ rfl
    have h1:=hx 1 _ rfl
    have h2:=hx 2 _ rfl
    have h3:=hx 3 _ rfl
    have h4:=hx 4 _ rfl
    have h5:=(ih 5 _ rfl).2.2.1 rfl
    have h6:=(ih 6 _ rfl).2.2.2 rfl
    simp only[kV,Lq,Lb,Pg,OF,Pf,OE,Pe,OD,List.drop_zero,List.drop_succ_cons,List.take_succ_cons,List.take_zero,cQ,List.headD_cons] at h0 h1 h2 h3 h4 h5 h6
    obtain⟨v0,rfl,ok_v0⟩:=cy h0 Tryz.underlying3
    obtain⟨v1,rfl,ok_v1⟩:=cy h1 Tryz.underlying3
    obtain⟨v2,rfl,ok_v2⟩:=cy h2 Tryz.underlying3
    obtain⟨v3,rfl,ok_v3⟩:=cy h3 Tryz.underlying3
    obtain⟨v4,rfl,ok_v4,oks_v4⟩:=nx (f:=PV.str) (Q:=(fun x:List UInt8=>x.length<=140737488351232)) h4 Tryz.underlying22 Rl (fun x hx=>gO hx Tryz.underlying9)
    obtain⟨v5,rfl,ok_v5,oks_v5⟩:=h5
    obtain⟨v6,rfl,ok_v6,oks_v6⟩:=h6
    refine⟨.mk v0 v1 v2 v3 v4 v5 v6,?_,?_⟩
    ·rw[Typ.pv_mk]
    ·rw[Typ.ok_mk];exact⟨ok_v0,ok_v1,ok_v2,ok_v3,ok_v4,oks_v4,ok_v5,oks_v5,ok_v6,oks_v6⟩
   ·intro h;subst h
    rw[Tryz.underlying54] at hu;cases hu
    rw[OB] at hl
    obtain⟨c0,c1,c2,c3,c4,c5,c6,c7,c8,c9,c10,rfl⟩:=NL hl
    have h0:=hx 0 _ rfl
    have h1:=hx 1 _ rfl
    have h2:=hx 2 _ rfl
    have h3:=(ih 3 _ rfl).1 rfl
    have h4:=hx 4 _ rfl
    simp only[kV,Lq,Lb,Lp,La,Pd,Ip,It,Io,List.drop_zero,List.drop_succ_cons,List.take_succ_cons,List.take_zero,cQ,List.headD_cons] at h0 h1 h2 h3 h4
    obtain⟨v0,rfl,ok_v0⟩:=cy h0 Tryz.underlying3
    obtain⟨v1,rfl,ok_v1⟩:=gO h1 Tryz.underlying9
    obtain⟨v2,rfl,ok_v2⟩:=cy h2 Tryz.underlying3
    obtain⟨v3,e3,ok_v3⟩:=h3
    obtain⟨v4,rfl,ok_v4,oks_v4⟩:=nx (f:=Val.pv) (Q:=(fun x:Val=>x.ok)) h4 Tryz.underlying33 Ir (fun x hx=>Gj hx)
    refine⟨.mk v0 v1 v2 v3 v4,?_,?_⟩
    ·rw[TFd.pv_mk];rw[<- e3];rfl
    ·rw[TFd.ok_mk];exact⟨ok_v0,ok_v1,ok_v2,ok_v3,ok_v4,oks_v4⟩
   ·intro h;subst h;simp[Tryz.underlying23] at hu
   ·intro h;subst h;simp[Tryz.underlying24] at hu
theorem Gk {p:PV}(h:HasT Tryz.prog 26 p):∃ x:Typ,p=x.pv/\x.ok:=(jk h).1 rfl
attribute [local irreducible] vc
theorem NP (n lo hi:Int):ak Tryz.prog ap 197 [.int .i64 n,.int .i64 lo,.int .i64 hi] (.bool (decide (lo<=n)&&decide (n<=hi))):=by
 refine ak.intro Pt.2 (by simp[Pt]) ?_
 by_cases h1:lo<=n
 ·by_cases h2:n<=hi
  ·rw[show (decide (lo<=n)&&decide (n<=hi))=true by simp[h1,h2]]
   simp(disch:=try exact dI) only[Pt,push_cast,seval]
  ·rw[show (decide (lo<=n)&&decide (n<=hi))=false by simp[h2]]
   simp(disch:=try exact dI) only[Pt,push_cast,seval]
 ·rw[show (decide (lo<=n)&&decide (n<=hi))=false by simp[h1]]
  simp(disch:=try exact dI) only[Pt,push_cast,seval]
theorem eZ {n lo hi:Int}(h:lo<=n/\n<=hi):ak Tryz.prog ap 197 [.int .i64 n,.int .i64 lo,.int .i64 hi] (.bool true):=by
 have:=NP n lo hi
 rwa [show (decide (lo<=n)&&decide (n<=hi))=true by simp[h]] at this
theorem ny {n lo hi:Int}(h:¬ (lo<=n/\n<=hi)):ak Tryz.prog ap 197 [.int .i64 n,.int .i64 lo,.int .i64 hi] (.bool false):=by
 have:=NP n lo hi
 rwa [show (decide (lo<=n)&&decide (n<=hi))=false by rw[<- Bool.decide_and];exact decide_eq_false h] at this
theorem Kt {y:Int}(h1:1<=y)(h2:y<=9999):ak Tryz.prog ap 242 [.int .i64 y] (.bool (f7 y)):=by
 have hi:=eZ (n:=y) (lo:=1) (hi:=9999) ⟨h1,h2⟩
 have e4:=fI (a:=y) (b:=4) (by omega)
 have e100:=fI (a:=y) (b:=100) (by omega)
 have e400:=fI (a:=y) (b:=400) (by omega)
 refine ak.intro Md.2 (by simp[Md]) ?_
 unfold f7
 by_cases a:y % 4=0
 ·by_cases b:y % 100=0
  ·by_cases c:y % 400=0
   ·simp only[a,b,c,decide_true,Bool.not_true,Bool.or_true,Bool.and_true]
    simp(disch:=try exact dI) only[Md,e4,e100,e400,push_cast,seval]
    refine ab.pure hi rfl ?_
    simp(disch:=try exact dI) only[e4,e100,e400,a,b,c,push_cast,seval]
   ·simp only[a,b,c,decide_true,decide_false,Bool.not_true,Bool.or_false,Bool.and_false]
    simp(disch:=try exact dI) only[Md,e4,e100,e400,push_cast,seval]
    refine ab.pure hi rfl ?_
    simp(disch:=try exact dI) only[e4,e100,e400,a,b,c,push_cast,seval]
  ·simp only[a,b,decide_true,decide_false,Bool.not_false,Bool.true_or,Bool.and_true]
   simp(disch:=try exact dI) only[Md,e4,e100,e400,push_cast,seval]
   refine ab.pure hi rfl ?_
   simp(disch:=try exact dI) only[e4,e100,e400,a,b,push_cast,seval]
 ·simp only[a,decide_false,Bool.false_and]
  simp(disch:=try exact dI) only[Md,e4,e100,e400,push_cast,seval]
  refine ab.pure hi rfl ?_
  simp(disch:=try exact dI) only[e4,e100,e400,a,push_cast,seval]
theorem OZ {y:Int}(h1:1<=y)(h2:y<=100000):ak Tryz.prog ap 198 [.int .i64 y] (.int .i64 (jG y)):=by
 have e4:=gv (a:=y - 1) (b:=4) (by omega)
 have e100:=gv (a:=y - 1) (b:=100) (by omega)
 have e400:=gv (a:=y - 1) (b:=400) (by omega)
 refine ak.intro RY.2 (by simp[RY]) ?_
 simp(disch:=try exact dI) only[RY,jG,e4,e100,e400,push_cast,seval]
open Nat renaming reduceEqDiff->qa,reduceAdd->qb,reduceMul->qc,reduceLeDiff->qd,reduceLT->qe,reduceBEq->qf,reduceSub->qg
open Int renaming reduceToNat->qh,reduceNeg->qi
def IX (m:Nat):Int:=if m=2 then 28 else if m=4\/m=6\/m=9\/m=11 then 30 else 31
theorem tK (y:Int)(m:Nat)(h:¬ (m=2/\f7 y=true)):mdI y m=IX m:=by
 unfold mdI IX
 by_cases h2:m=2
 ·subst h2
  have:¬ f7 y=true:=fun hl=>h ⟨rfl,hl⟩
  simp[this]
 ·have:¬ (m:Int)=2:=by omega
  rw[if_neg this,if_neg h2]
  by_cases h4:m=4\/m=6\/m=9\/m=11
  ·rw[if_pos h4,if_pos (by omega)]
  ·rw[if_neg h4,if_neg (by omega)]
theorem QJ (m:Nat)(h1:1<=m)(h2:m<=12):dC false 12 1 (.pv (.agg [.int .i64 31,.int .i64 28,.int .i64 31,.int .i64 30,.int .i64 31,.int .i64 30,.int .i64 31,.int .i64 31,.int .i64 30,.int .i64 31,.int .i64 30,.int .i64 31])) (.pv (.int .i64 ((m:Int) - 1)))=some (.pv (.int .i64 (IX m))):=by
 have h12:m=1\/m=2\/m=3\/m=4\/m=5\/m=6\/m=7\/m=8\/m=9\/m=10\/m=11\/m=12:=by omega
 rcases h12 with rfl | rfl | rfl | rfl | rfl | rfl | rfl | rfl | rfl | rfl | rfl | rfl<;>rfl
theorem NF {y:Int}(h1:1<=y)(h2:y<=9999)(m:Nat)(h3:1<=m)(h4:m<=12):ak Tryz.prog ap 199 [.int .i64 y,.int .i64 (m:Int)] (.int .i64 (mdI y m)):=by
 have hl:=Kt h1 h2
 have hx:=QJ m h3 h4
 refine ak.intro Ps.2 (by simp[Ps]) ?_
 by_cases h:m=2
 ·subst h
  cases hb:f7 y with
  | true=>
    rw[hb] at hl
    rw[show mdI y ((2:Nat):Int)=29 by simp[mdI,hb]]
    simp(disch:=try exact dI) only[Ps,push_cast,↓reduceIte,qa,qb,qc,qd,qe,qf,qg,qh,qi]
    refine ab.pure hl rfl ?_
    simp(disch:=try exact dI) only[push_cast,↓reduceIte,qa,qb,qc,qd,qe,qf,qg,qh,qi]
  | false=>
    rw[hb] at hl
    rw[tK y 2 (by simp[hb])]
    have hx2:dC false 12 1 (.pv (.agg [.int .i64 31,.int .i64 28,.int .i64 31,.int .i64 30,.int .i64 31,.int .i64 30,.int .i64 31,.int .i64 31,.int .i64 30,.int .i64 31,.int .i64 30,.int .i64 31])) (.pv (.int .i64 (2 - 1)))=some (.pv (.int .i64 28)):=rfl
    rw[show IX 2=28 from rfl]
    simp(disch:=try exact dI) only[Ps,push_cast,↓reduceIte,qa,qb,qc,qd,qe,qf,qg,qh,qi]
    refine ab.pure hl rfl ?_
    simp(disch:=try exact dI) only[hx2,push_cast,↓reduceIte,qa,qb,qc,qd,qe,qf,qg,qh,qi]
 ·rw[tK y m (by simp[h])]
  simp(disch:=try exact dI) only[Ps,hx,push_cast,↓reduceIte,qa,qb,qc,qd,qe,qf,qg,qh,qi]
theorem kx {y:Int}(h1:1<=y)(h2:y<=9999)(m:Nat)(h3:1<=m)(h4:m<=12):ak Tryz.prog ap 251 [.int .i64 y,.int .i64 (m:Int)] (.tup [.int .i64 (mdI y m),.int .i64 0]):=by
 have hi1:=eZ (n:=y) (lo:=1) (hi:=9999) ⟨h1,h2⟩
 have hi2:=eZ (n:=(m:Int)) (lo:=1) (hi:=12) ⟨by omega,by omega⟩
 have hm:=NF h1 h2 m h3 h4
 refine ak.intro LD.2 (by simp[LD]) ?_
 simp(disch:=try exact dI) only[LD,push_cast,↓reduceIte,qa,qb,qc,qd,qe,qf,qg,qh,qi]
 refine ab.pure hi1 rfl ?_
 simp(disch:=try exact dI) only[push_cast,↓reduceIte,qa,qb,qc,qd,qe,qf,qg,qh,qi]
 refine ab.pure hi2 rfl ?_
 simp(disch:=try exact dI) only[push_cast,↓reduceIte,qa,qb,qc,qd,qe,qf,qg,qh,qi]
 refine ab.pure hm rfl ?_
 simp(disch:=try exact dI) only[push_cast,↓reduceIte,qa,qb,qc,qd,qe,qf,qg,qh,qi]
theorem rD {y m:Int}(h:¬ (1<=y/\y<=9999/\1<=m/\m<=12)):ak Tryz.prog ap 251 [.int .i64 y,.int .i64 m] (.tup [.int .i64 0,.int .i64 17]):=by
 refine ak.intro LD.2 (by simp[LD]) ?_
 by_cases hy:1<=y/\y<=9999
 ·have hi1:=eZ (n:=y) (lo:=1) (hi:=9999) hy
  have hi2:=ny (n:=m) (lo:=1) (hi:=12) (by omega)
  simp(disch:=try exact dI) only[LD,push_cast,↓reduceIte,qa,qb,qc,qd,qe,qf,qg,qh,qi]
  refine ab.pure hi1 rfl ?_
  simp(disch:=try exact dI) only[push_cast,↓reduceIte,qa,qb,qc,qd,qe,qf,qg,qh,qi]
  refine ab.pure hi2 rfl ?_
  simp(disch:=try exact dI) only[push_cast,↓reduceIte,qa,qb,qc,qd,qe,qf,qg,qh,qi]
 ·have hi1:=ny (n:=y) (lo:=1) (hi:=9999) hy
  simp(disch:=try exact dI) only[LD,push_cast,↓reduceIte,qa,qb,qc,qd,qe,qf,qg,qh,qi]
  refine ab.pure hi1 rfl ?_
  simp(disch:=try exact dI) only[push_cast,↓reduceIte,qa,qb,qc,qd,qe,qf,qg,qh,qi]
theorem Oc {y:Int}{m:Nat}{d:Int}(h:DateOk y m d):ak Tryz.prog ap 211 [.int .i64 y,.int .i64 (m:Int),.int .i64 d] (.tup [.int .i64 (up y m d - 719162),.int .i64 0]):=by
 have hm:=kx h.y1 h.y2 m h.m1 h.m2
 have hi:=eZ (n:=d) (lo:=1) (hi:=mdI y m) ⟨h.d1,h.d2⟩
 have hb:=OZ h.y1 (by have:=h.y2;omega)
 have hbb:=g9 h.y1 (by have:=h.y2;omega)
 have hmd:=eX y m
 have hd1:=h.d1
 have hd2:=h.d2
 have hdr:=gZ h
 have hdn:up y m d=jG y+fU y (m - 1)+d - 1:=rfl
 refine ak.intro LE.2 (by simp[LE]) ?_
 simp(disch:=try exact dI) only[LE,push_cast,↓reduceIte,qa,qb,qc,qd,qe,qf,qg,qh,qi]
 refine ab.pure hm rfl ?_
 simp(disch:=try exact dI) only[push_cast,↓reduceIte,qa,qb,qc,qd,qe,qf,qg,qh,qi]
 refine ab.pure hi rfl ?_
 simp(disch:=try exact dI) only[push_cast,↓reduceIte,qa,qb,qc,qd,qe,qf,qg,qh,qi]
 refine ab.pure hb rfl ?_
 simp(disch:=try exact dI) only[push_cast,↓reduceIte,qa,qb,qc,qd,qe,qf,qg,qh,qi]
 have e0:((0:Nat):Int)+1=1:=rfl
 have e1:-719162+jG y+d - 1+fU y 0 = -719162+jG y+d - 1:=by
  have z:fU y 0=0:=rfl
  omega
 refine am ([]) (fun k:Nat=>[(10,.pv (.int .i64 (-719162+jG y+d - 1+fU y k))),(11,.pv (.int .i64 ((k:Int)+1)))]) (fun _=>[]) (fun k=>k<=m - 1) (fun k=>m - 1 - k) (0) ?_;intro e0 σ0 n0 h0;simp(disch:=try exact dI) only[push_cast,↓reduceIte,qa,qb,qc,qd,qe,qf,qg,qh,qi] at h0;obtain⟨rfl,rfl,rfl⟩:=h0;refine⟨?_,?_,?_⟩
 ·simp(disch:=try exact dI) only[e1,Int.zero_add,push_cast,↓reduceIte,qa,qb,qc,qd,qe,qf,qg,qh,qi]
 ·omega
 intro k hk
 have hs0:=d9 y k 0
 have z:fU y 0=0:=rfl
 simp only[Nat.zero_add] at hs0
 have hsm:=d9 y (m - 1 - k) k
 rw[show k+(m - 1 - k)=m - 1 by omega] at hsm
 by_cases hlt:k<m - 1
 ·have hmk:=NF h.y1 h.y2 (k+1) (by omega) (by have:=h.m2;omega)
  have hmdk:=eX y ((k+1:Nat):Int)
  have hsk:fU y (k+1)=fU y k+mdI y ((k+1:Nat):Int):=rfl
  rw[show ((k+1:Nat):Int)=(k:Int)+1 by omega] at hmk hmdk hsk
  have hs2:-719162+jG y+d - 1+fU y (k+1) = -719162+jG y+d - 1+fU y k+mdI y ((k:Int)+1):=by omega
  simp(disch:=try exact dI) only[push_cast,↓reduceIte,qa,qb,qc,qd,qe,qf,qg,qh,qi]
  refine ab.pure hmk rfl ?_
  simp(disch:=try exact dI) only[push_cast,↓reduceIte,qa,qb,qc,qd,qe,qf,qg,qh,qi]
  exact⟨k+1,aI (by simp(disch:=try exact dI) only[hs2,push_cast,↓reduceIte,qa,qb,qc,qd,qe,qf,qg,qh,qi]),by omega,by omega⟩
 ·have:k=m - 1:=by omega
  subst this
  have hfin:-719162+jG y+d - 1+fU y (m - 1)=up y m d - 719162:=by omega
  simp(disch:=try exact dI) only[hfin,push_cast,↓reduceIte,qa,qb,qc,qd,qe,qf,qg,qh,qi]
theorem Od {y m d:Int}(h:∀ k:Nat,m=k->¬ DateOk y k d):ak Tryz.prog ap 211 [.int .i64 y,.int .i64 m,.int .i64 d] (.tup [.int .i64 0,.int .i64 17]):=by
 refine ak.intro LE.2 (by simp[LE]) ?_
 by_cases hm:1<=y/\y<=9999/\1<=m/\m<=12
 ·obtain⟨k,rfl⟩:∃ k:Nat,m=k:=⟨m.toNat,by omega⟩
  have hmt:=kx hm.1 hm.2.1 k (by omega) (by omega)
  have hi:=ny (n:=d) (lo:=1) (hi:=mdI y k) (fun hd=>h k rfl ⟨hm.1,hm.2.1,by omega,by omega,hd.1,hd.2⟩)
  simp(disch:=try exact dI) only[LE,push_cast,↓reduceIte,qa,qb,qc,qd,qe,qf,qg,qh,qi]
  refine ab.pure hmt rfl ?_
  simp(disch:=try exact dI) only[push_cast,↓reduceIte,qa,qb,qc,qd,qe,qf,qg,qh,qi]
  refine ab.pure hi rfl ?_
  simp(disch:=try exact dI) only[push_cast,↓reduceIte,qa,qb,qc,qd,qe,qf,qg,qh,qi]
 ·have hmf:=rD hm
  simp(disch:=try exact dI) only[LE,push_cast,↓reduceIte,qa,qb,qc,qd,qe,qf,qg,qh,qi]
  refine ab.pure hmf rfl ?_
  simp(disch:=try exact dI) only[push_cast,↓reduceIte,qa,qb,qc,qd,qe,qf,qg,qh,qi]
end Go.Proofs.YtbojpfpliibfbaaGreatDoor

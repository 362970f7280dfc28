/- A part of the proof for FixedwidthRefusesCardSaid. -/
import Derived.KernelRfl
import Derived.Test.YtedanlflegfomaaGreatDoorProg
import Derived.Test.YtedanlflegfomaaGreatDoorRefGSh
import Derived.Test.YtedanlflegfomaaGreatDoorCore5
set_option maxRecDepth 100000
set_option linter.unusedVariables false
set_option linter.unusedSimpArgs false
namespace Go.Proofs.YtedanlflegfomaaGreatDoor
open Go Go.Ab
def I64 (n:Int):Prop:=-9223372036854775808≤n∧n≤9223372036854775807
mutual
inductive Val where
 | mk (kind:Int) (num:Int) (scale:Int) (text:List UInt8) (lst:List Val) (fields:List Fld)
inductive Fld where
 | mk (name:List UInt8) (value:Val)
end
def Val.kind:Val→Int
 | .mk kind _ _ _ _ _=>kind
def Val.num:Val→Int
 | .mk _ num _ _ _ _=>num
def Val.scale:Val→Int
 | .mk _ _ scale _ _ _=>scale
def Val.text:Val→List UInt8
 | .mk _ _ _ text _ _=>text
def Val.lst:Val→List Val
 | .mk _ _ _ _ lst _=>lst
def Val.fields:Val→List Fld
 | .mk _ _ _ _ _ fields=>fields
def Fld.name:Fld→List UInt8
 | .mk name _=>name
def Fld.value:Fld→Val
 | .mk _ value=>value
mutual
def Val.pv:Val→PV
 | .mk kind num scale text lst fields=>.agg ([.int .i64 kind,.int .i64 num,.int .i64 scale,.str text,.list (lst.map Val.pv),.list (fields.map Fld.pv)])
def Fld.pv:Fld→PV
 | .mk name value=>.agg ([.str name]++value.pv.cells)
end
theorem Val.pv_mk (kind:Int)(num:Int)(scale:Int)(text:List UInt8)(lst:List Val)(fields:List Fld):(Val.mk kind num scale text lst fields).pv = .agg ([.int .i64 kind,.int .i64 num,.int .i64 scale,.str text,.list (lst.map Val.pv),.list (fields.map Fld.pv)]):=by rw[Val.pv]
theorem Fld.pv_mk (name:List UInt8)(value:Val):(Fld.mk name value).pv = .agg ([.str name]++value.pv.cells):=by rw[Fld.pv]
theorem Val.cells_len (x:Val):x.pv.cells.length=6:=by
 obtain⟨kind,num,scale,text,lst,fields⟩:=x
 rw[Val.pv_mk];simp only[aV,List.length_append,List.length_cons,List.length_nil]
theorem Val.isAgg (x:Val):x.pv.isAgg=true:=by
 obtain⟨kind,num,scale,text,lst,fields⟩:=x
 rw[Val.pv_mk];rfl
theorem Fld.cells_len (x:Fld):x.pv.cells.length=7:=by
 obtain⟨name,value⟩:=x
 rw[Fld.pv_mk];simp only[aV,List.length_append,List.length_cons,List.length_nil,Val.cells_len]
theorem Fld.isAgg (x:Fld):x.pv.isAgg=true:=by
 obtain⟨name,value⟩:=x
 rw[Fld.pv_mk];rfl
theorem Val.ones (x:Val):(x.pv.cells.all PV.one)=true:=by
 obtain⟨kind,num,scale,text,lst,fields⟩:=x
 rw[Val.pv_mk];simp only[aV,List.all_append,List.all_cons,List.all_nil,ed,ee,cU,cS,Bool.and_true,Bool.and_self]
theorem Val.row (x:Val):∃ cs,x.pv = .agg cs∧cs.length=6∧∀ p∈cs,p.one=true:=by
 have h1:=x.cells_len;have h2:=x.ones;have h3:=x.isAgg
 cases h:x.pv with
 | agg cs=>rw[h] at h1 h2;exact⟨cs,rfl,h1,fun p hp=>List.all_eq_true.1 h2 p hp⟩
 | _=>rw[h] at h3;cases h3
theorem Fld.ones (x:Fld):(x.pv.cells.all PV.one)=true:=by
 obtain⟨name,value⟩:=x
 rw[Fld.pv_mk];simp only[aV,List.all_append,List.all_cons,List.all_nil,ed,ee,cU,cS,Bool.and_true,Bool.and_self,Val.ones]
theorem Fld.row (x:Fld):∃ cs,x.pv = .agg cs∧cs.length=7∧∀ p∈cs,p.one=true:=by
 have h1:=x.cells_len;have h2:=x.ones;have h3:=x.isAgg
 cases h:x.pv with
 | agg cs=>rw[h] at h1 h2;exact⟨cs,rfl,h1,fun p hp=>List.all_eq_true.1 h2 p hp⟩
 | _=>rw[h] at h3;cases h3
mutual
def Val.ok:Val→Prop
 | .mk kind num scale text lst fields=>I64 kind∧I64 num∧I64 scale∧text.length≤140737488351232∧lst.length*88≤140737488351232∧(∀ x∈lst,x.ok)∧fields.length*104≤140737488351232∧(∀ x∈fields,x.ok)
def Fld.ok:Fld→Prop
 | .mk name value=>name.length≤140737488351232∧value.ok
end
theorem Val.ok_mk (kind:Int)(num:Int)(scale:Int)(text:List UInt8)(lst:List Val)(fields:List Fld):(Val.mk kind num scale text lst fields).ok=(I64 kind∧I64 num∧I64 scale∧text.length≤140737488351232∧lst.length*88≤140737488351232∧(∀ x∈lst,x.ok)∧fields.length*104≤140737488351232∧(∀ x∈fields,x.ok)):=by rw[Val.ok]
theorem Fld.ok_mk (name:List UInt8)(value:Val):(Fld.mk name value).ok=(name.length≤140737488351232∧value.ok):=by rw[Fld.ok]
mutual
inductive Typ where
 | mk (kind:Int) (min:Int) (max:Int) (scale:Int) (words:List (List UInt8)) (elem:List Typ) (fields:List TFd)
inductive TFd where
 | mk (number:Int) (name:List UInt8) (need:Int) (typ:Typ) (dflt:List Val)
end
def Typ.kind:Typ→Int
 | .mk kind _ _ _ _ _ _=>kind
def Typ.min:Typ→Int
 | .mk _ min _ _ _ _ _=>min
def Typ.max:Typ→Int
 | .mk _ _ max _ _ _ _=>max
def Typ.scale:Typ→Int
 | .mk _ _ _ scale _ _ _=>scale
def Typ.words:Typ→List (List UInt8)
 | .mk _ _ _ _ words _ _=>words
def Typ.elem:Typ→List Typ
 | .mk _ _ _ _ _ elem _=>elem
def Typ.fields:Typ→List TFd
 | .mk _ _ _ _ _ _ fields=>fields
def TFd.number:TFd→Int
 | .mk number _ _ _ _=>number
def TFd.name:TFd→List UInt8
 | .mk _ name _ _ _=>name
def TFd.need:TFd→Int
 | .mk _ _ need _ _=>need
def TFd.typ:TFd→Typ
 | .mk _ _ _ typ _=>typ
def TFd.dflt:TFd→List Val
 | .mk _ _ _ _ dflt=>dflt
mutual
def Typ.pv:Typ→PV
 | .mk kind min max scale words elem fields=>.agg ([.int .i64 kind,.int .i64 min,.int .i64 max,.int .i64 scale,.list (words.map PV.str),.list (elem.map Typ.pv),.list (fields.map TFd.pv)])
def TFd.pv:TFd→PV
 | .mk number name need typ dflt=>.agg ([.int .i64 number,.str name,.int .i64 need]++typ.pv.cells++[.list (dflt.map Val.pv)])
end
theorem Typ.pv_mk (kind:Int)(min:Int)(max:Int)(scale:Int)(words:List (List UInt8))(elem:List Typ)(fields:List TFd):(Typ.mk kind min max scale words elem fields).pv = .agg ([.int .i64 kind,.int .i64 min,.int .i64 max,.int .i64 scale,.list (words.map PV.str),.list (elem.map Typ.pv),.list (fields.map TFd.pv)]):=by rw[Typ.pv]
theorem TFd.pv_mk (number:Int)(name:List UInt8)(need:Int)(typ:Typ)(dflt:List Val):(TFd.mk number name need typ dflt).pv = .agg ([.int .i64 number,.str name,.int .i64 need]++typ.pv.cells++[.list (dflt.map Val.pv)]):=by rw[TFd.pv]
theorem Typ.cells_len (x:Typ):x.pv.cells.length=7:=by
 obtain⟨kind,min,max,scale,words,elem,fields⟩:=x
 rw[Typ.pv_mk];simp only[aV,List.length_append,List.length_cons,List.length_nil]
theorem Typ.isAgg (x:Typ):x.pv.isAgg=true:=by
 obtain⟨kind,min,max,scale,words,elem,fields⟩:=x
 rw[Typ.pv_mk];rfl
theorem TFd.cells_len (x:TFd):x.pv.cells.length=11:=by
 obtain⟨number,name,need,typ,dflt⟩:=x
 rw[TFd.pv_mk];simp only[aV,List.length_append,List.length_cons,List.length_nil,Typ.cells_len]
theorem TFd.isAgg (x:TFd):x.pv.isAgg=true:=by
 obtain⟨number,name,need,typ,dflt⟩:=x
 rw[TFd.pv_mk];rfl
theorem Typ.ones (x:Typ):(x.pv.cells.all PV.one)=true:=by
 obtain⟨kind,min,max,scale,words,elem,fields⟩:=x
 rw[Typ.pv_mk];simp only[aV,List.all_append,List.all_cons,List.all_nil,ed,ee,cU,cS,Bool.and_true,Bool.and_self]
theorem Typ.row (x:Typ):∃ cs,x.pv = .agg cs∧cs.length=7∧∀ p∈cs,p.one=true:=by
 have h1:=x.cells_len;have h2:=x.ones;have h3:=x.isAgg
 cases h:x.pv with
 | agg cs=>rw[h] at h1 h2;exact⟨cs,rfl,h1,fun p hp=>List.all_eq_true.1 h2 p hp⟩
 | _=>rw[h] at h3;cases h3
theorem TFd.ones (x:TFd):(x.pv.cells.all PV.one)=true:=by
 obtain⟨number,name,need,typ,dflt⟩:=x
 rw[TFd.pv_mk];simp only[aV,List.all_append,List.all_cons,List.all_nil,ed,ee,cU,cS,Bool.and_true,Bool.and_self,Typ.ones]
theorem TFd.row (x:TFd):∃ cs,x.pv = .agg cs∧cs.length=11∧∀ p∈cs,p.one=true:=by
 have h1:=x.cells_len;have h2:=x.ones;have h3:=x.isAgg
 cases h:x.pv with
 | agg cs=>rw[h] at h1 h2;exact⟨cs,rfl,h1,fun p hp=>List.all_eq_true.1 h2 p hp⟩
 | _=>rw[h] at h3;cases h3
mutual
def Typ.ok:Typ→Prop
 | .mk kind min max scale words elem fields=>I64 kind∧I64 min∧I64 max∧I64 scale∧words.length*16≤140737488351232∧(∀ x∈words,x.length≤140737488351232)∧elem.length*104≤140737488351232∧(∀ x∈elem,x.ok)∧fields.length*160≤140737488351232∧(∀ x∈fields,x.ok)
def TFd.ok:TFd→Prop
 | .mk number name need typ dflt=>I64 number∧name.length≤140737488351232∧I64 need∧typ.ok∧dflt.length*88≤140737488351232∧(∀ x∈dflt,x.ok)
end
theorem Typ.ok_mk (kind:Int)(min:Int)(max:Int)(scale:Int)(words:List (List UInt8))(elem:List Typ)(fields:List TFd):(Typ.mk kind min max scale words elem fields).ok=(I64 kind∧I64 min∧I64 max∧I64 scale∧words.length*16≤140737488351232∧(∀ x∈words,x.length≤140737488351232)∧elem.length*104≤140737488351232∧(∀ x∈elem,x.ok)∧fields.length*160≤140737488351232∧(∀ x∈fields,x.ok)):=by rw[Typ.ok]
theorem TFd.ok_mk (number:Int)(name:List UInt8)(need:Int)(typ:Typ)(dflt:List Val):(TFd.mk number name need typ dflt).ok=(I64 number∧name.length≤140737488351232∧I64 need∧typ.ok∧dflt.length*88≤140737488351232∧(∀ x∈dflt,x.ok)):=by rw[TFd.ok]
inductive Fmt where
 | mk (kind:Int) (separator:Int) (widths:List Int)
def Fmt.kind:Fmt→Int
 | .mk kind _ _=>kind
def Fmt.separator:Fmt→Int
 | .mk _ separator _=>separator
def Fmt.widths:Fmt→List Int
 | .mk _ _ widths=>widths
def Fmt.pv:Fmt→PV
 | .mk kind separator widths=>.agg ([.int .i64 kind,.int .i64 separator,.list (widths.map (PV.int .i64))])
theorem Fmt.pv_mk (kind:Int)(separator:Int)(widths:List Int):(Fmt.mk kind separator widths).pv = .agg ([.int .i64 kind,.int .i64 separator,.list (widths.map (PV.int .i64))]):=by rw[Fmt.pv]
theorem Fmt.cells_len (x:Fmt):x.pv.cells.length=3:=by
 obtain⟨kind,separator,widths⟩:=x
 rw[Fmt.pv_mk];simp only[aV,List.length_append,List.length_cons,List.length_nil]
theorem Fmt.isAgg (x:Fmt):x.pv.isAgg=true:=by
 obtain⟨kind,separator,widths⟩:=x
 rw[Fmt.pv_mk];rfl
theorem Fmt.ones (x:Fmt):(x.pv.cells.all PV.one)=true:=by
 obtain⟨kind,separator,widths⟩:=x
 rw[Fmt.pv_mk];simp only[aV,List.all_append,List.all_cons,List.all_nil,ed,ee,cU,cS,Bool.and_true,Bool.and_self]
theorem Fmt.row (x:Fmt):∃ cs,x.pv = .agg cs∧cs.length=3∧∀ p∈cs,p.one=true:=by
 have h1:=x.cells_len;have h2:=x.ones;have h3:=x.isAgg
 cases h:x.pv with
 | agg cs=>rw[h] at h1 h2;exact⟨cs,rfl,h1,fun p hp=>List.all_eq_true.1 h2 p hp⟩
 | _=>rw[h] at h3;cases h3
def Fmt.ok:Fmt→Prop
 | .mk kind separator widths=>I64 kind∧I64 separator∧widths.length*8≤140737488351232∧(∀ x∈widths,I64 x)
theorem Fmt.ok_mk (kind:Int)(separator:Int)(widths:List Int):(Fmt.mk kind separator widths).ok=(I64 kind∧I64 separator∧widths.length*8≤140737488351232∧(∀ x∈widths,I64 x)):=by rw[Fmt.ok]
theorem I0:Tryz.prog.bytesOf 3=8:=by kernel_rfl
section
variable {t:Nat}{p:PV}
theorem nV (h:HasT Tryz.prog t p)(hu:Tryz.prog.underlying t=some .string):∃ s:List UInt8,p = .str s∧s.length≤140737488351232:=by
 cases h with
 | str _ s hb hs=>exact⟨s,rfl,hs⟩
 | int _ k n hb=>rw[hu] at hb;cases hb
 | bool _ b hb=>rw[hu] at hb;cases hb
 | list _ e l hb=>rw[hu] at hb;cases hb
 | agg _ fs cs hb=>rw[hu] at hb;cases hb
 | arr _ e n cs hb=>rw[hu] at hb;cases hb
theorem zO (h:HasT Tryz.prog t p)(hu:Tryz.prog.underlying t=some (.int .i64)):∃ n:Int,p = .int .i64 n∧I64 n:=by
 obtain⟨n,rfl,hw⟩:=zK h hu
 refine⟨n,rfl,?_⟩
 simp only[Lit.wf,Bool.and_eq_true,decide_eq_true_eq] at hw
 exact hw
theorem uO {e:Nat}(h:HasT Tryz.prog t p)(hu:Tryz.prog.underlying t=some (.slice e)):∃ l:List PV,p = .list l∧l.length≤maxLen∧l.length*Tryz.prog.bytesOf e≤140737488351232∧∀ (i:Nat) (x:PV),l[i]? = some x→HasT Tryz.prog e x:=by
 cases h with
 | list _ e' l hb hl hl2 hx=>rw[hu] at hb;cases hb;exact⟨l,rfl,hl,hl2,hx⟩
 | int _ k n hb=>rw[hu] at hb;cases hb
 | bool _ b hb=>rw[hu] at hb;cases hb
 | str _ s hb=>rw[hu] at hb;cases hb
 | agg _ fs cs hb=>rw[hu] at hb;cases hb
 | arr _ e n cs hb=>rw[hu] at hb;cases hb
end
theorem un {β:Type}{f:β→PV}{Q:β→Prop}:∀ (l:List PV),(∀ (i:Nat) (x:PV),l[i]? = some x→∃ s,x=f s∧Q s)→∃ ss:List β,l=ss.map f∧ss.length=l.length∧∀ s∈ss,Q s
 | [],_=>⟨[],rfl,rfl,by simp⟩
 | x::r,h=>by
   obtain⟨s,rfl,hs⟩:=h 0 x rfl
   obtain⟨ss,rfl,hl,hss⟩:=un r (fun i y hy=>h (i+1) y (by simpa using hy))
   refine⟨s::ss,rfl,by simp,fun t ht=>?_⟩
   rcases List.mem_cons.1 ht with rfl | ht
   ·exact hs
   ·exact hss t ht
theorem zv {β:Type}{f:β→PV}{Q:β→Prop}{t e b:Nat}{p:PV}(h:HasT Tryz.prog t p)(hu:Tryz.prog.underlying t=some (.slice e))(hb:Tryz.prog.bytesOf e=b)(hq:∀ x,HasT Tryz.prog e x→∃ s,x=f s∧Q s):∃ ss:List β,p = .list (ss.map f)∧ss.length*b≤140737488351232∧∀ s∈ss,Q s:=by
 obtain⟨l,rfl,_,hl,hx⟩:=uO h hu
 obtain⟨ss,rfl,h1,h2⟩:=un (f:=f) (Q:=Q) l fun i x hi=>hq x (hx i x hi)
 exact⟨ss,rfl,by rw[h1,← hb];exact hl,h2⟩
end Go.Proofs.YtedanlflegfomaaGreatDoor
set_option maxRecDepth 100000
set_option linter.unusedVariables false
set_option linter.unusedSimpArgs false
namespace Go.Proofs.YtedanlflegfomaaGreatDoor
open Go Go.Ab
inductive Mis where
 | mk (path:List UInt8) (code:Int)
def Mis.path:Mis→List UInt8
 | .mk path _=>path
def Mis.code:Mis→Int
 | .mk _ code=>code
def Mis.pv:Mis→PV
 | .mk path code=>.agg ([.str path,.int .i64 code])
theorem Mis.pv_mk (path:List UInt8)(code:Int):(Mis.mk path code).pv = .agg ([.str path,.int .i64 code]):=by rw[Mis.pv]
theorem Mis.cells_len (x:Mis):x.pv.cells.length=2:=by
 obtain⟨path,code⟩:=x
 rw[Mis.pv_mk];simp only[aV,List.length_append,List.length_cons,List.length_nil]
theorem Mis.isAgg (x:Mis):x.pv.isAgg=true:=by
 obtain⟨path,code⟩:=x
 rw[Mis.pv_mk];rfl
theorem Mis.ones (x:Mis):(x.pv.cells.all PV.one)=true:=by
 obtain⟨path,code⟩:=x
 rw[Mis.pv_mk];simp only[aV,List.all_append,List.all_cons,List.all_nil,ed,ee,cU,cS,Bool.and_true,Bool.and_self]
theorem Mis.row (x:Mis):∃ cs,x.pv = .agg cs∧cs.length=2∧∀ p∈cs,p.one=true:=by
 have h1:=x.cells_len;have h2:=x.ones;have h3:=x.isAgg
 cases h:x.pv with
 | agg cs=>rw[h] at h1 h2;exact⟨cs,rfl,h1,fun p hp=>List.all_eq_true.1 h2 p hp⟩
 | _=>rw[h] at h3;cases h3
def Mis.ok:Mis→Prop
 | .mk path code=>path.length≤140737488351232∧I64 code
theorem Mis.ok_mk (path:List UInt8)(code:Int):(Mis.mk path code).ok=(path.length≤140737488351232∧I64 code):=by rw[Mis.ok]
end Go.Proofs.YtedanlflegfomaaGreatDoor

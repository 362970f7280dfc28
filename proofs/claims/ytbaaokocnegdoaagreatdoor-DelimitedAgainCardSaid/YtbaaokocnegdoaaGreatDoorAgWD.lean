/- A part of the proof. -/
import Derived.KernelRfl
import Derived.Test.YtbaaokocnegdoaaGreatDoorProg
import Derived.Test.YtbaaokocnegdoaaGreatDoorAgVC23
set_option linter.unusedVariables false
set_option linter.unusedSimpArgs false
set_option maxRecDepth 100000
namespace Go.Proofs.YtbaaokocnegdoaaGreatDoor
open Go Go.Ab
def I64 (n:Int):Prop:=-9223372036854775808<=n/\n<=9223372036854775807
mutual
inductive Val where
 | mk (kind:Int) (num:Int) (scale:Int) (text:List UInt8) (lst:List Val) (fields:List Fld)
inductive Fld where
 | mk (name:List UInt8) (value:Val)
end
def Val.kind:Val->Int
 | .mk kind _ _ _ _ _=>kind
def Val.num:Val->Int
 | .mk _ num _ _ _ _=>num
def Val.scale:Val->Int
 | .mk _ _ scale _ _ _=>scale
def Val.text:Val->List UInt8
 | .mk _ _ _ text _ _=>text
def Val.lst:Val->List Val
 | .mk _ _ _ _ lst _=>lst
def Val.fields:Val->List Fld
 | .mk _ _ _ _ _ fields=>fields
def Fld.name:Fld->List UInt8
 | .mk name _=>name
def Fld.value:Fld->Val
 | .mk _ value=>value
mutual
def Val.pv:Val->PV
 | .mk kind num scale text lst fields=>.agg ([.int .i64 kind,.int .i64 num,.int .i64 scale,.str text,.list (lst.map Val.pv),.list (fields.map Fld.pv)])
def Fld.pv:Fld->PV
 | .mk name value=>.agg ([.str name]++value.pv.cells)
end
theorem Val.pv_mk (kind:Int)(num:Int)(scale:Int)(text:List UInt8)(lst:List Val)(fields:List Fld):(Val.mk kind num scale text lst fields).pv = .agg ([.int .i64 kind,.int .i64 num,.int .i64 scale,.str text,.list (lst.map Val.pv),.list (fields.map Fld.pv)]):=by rw[Val.pv]
theorem Fld.pv_mk (name:List UInt8)(value:Val):(Fld.mk name value).pv = .agg ([.str name]++value.pv.cells):=by rw[Fld.pv]
theorem Val.cells_len (x:Val):x.pv.cells.length=6:=by
 obtain⟨kind,num,scale,text,lst,fields⟩:=x
 rw[Val.pv_mk];simp only[ak,List.length_append,List.length_cons,List.length_nil]
theorem Val.isAgg (x:Val):x.pv.isAgg=true:=by
 obtain⟨kind,num,scale,text,lst,fields⟩:=x
 rw[Val.pv_mk];rfl
theorem Fld.cells_len (x:Fld):x.pv.cells.length=7:=by
 obtain⟨name,value⟩:=x
 rw[Fld.pv_mk];simp only[ak,List.length_append,List.length_cons,List.length_nil,Val.cells_len]
theorem Fld.isAgg (x:Fld):x.pv.isAgg=true:=by
 obtain⟨name,value⟩:=x
 rw[Fld.pv_mk];rfl
theorem Val.ones (x:Val):(x.pv.cells.all PV.one)=true:=by
 obtain⟨kind,num,scale,text,lst,fields⟩:=x
 rw[Val.pv_mk];simp only[ak,List.all_append,List.all_cons,List.all_nil,iI,iJ,fw,fv,Bool.and_true,Bool.and_self]
theorem Val.row (x:Val):∃ cs,x.pv = .agg cs/\cs.length=6/\∀ p∈cs,p.one=true:=by
 have h1:=x.cells_len;have h2:=x.ones;have h3:=x.isAgg
 cases h:x.pv with
 | agg cs=>rw[h] at h1 h2;exact⟨cs,rfl,h1,fun p hp=>List.all_eq_true.1 h2 p hp⟩
 | _=>rw[h] at h3;cases h3
theorem Fld.ones (x:Fld):(x.pv.cells.all PV.one)=true:=by
 obtain⟨name,value⟩:=x
 rw[Fld.pv_mk];simp only[ak,List.all_append,List.all_cons,List.all_nil,iI,iJ,fw,fv,Bool.and_true,Bool.and_self,Val.ones]
theorem Fld.row (x:Fld):∃ cs,x.pv = .agg cs/\cs.length=7/\∀ p∈cs,p.one=true:=by
 have h1:=x.cells_len;have h2:=x.ones;have h3:=x.isAgg
 cases h:x.pv with
 | agg cs=>rw[h] at h1 h2;exact⟨cs,rfl,h1,fun p hp=>List.all_eq_true.1 h2 p hp⟩
 | _=>rw[h] at h3;cases h3
mutual
def Val.ok:Val->Prop
 | .mk kind num scale text lst fields=>I64 kind/\I64 num/\I64 scale/\text.length<=140737488351232/\lst.length*88<=140737488351232/\(∀ x∈lst,x.ok)/\fields.length*104<=140737488351232/\(∀ x∈fields,x.ok)
def Fld.ok:Fld->Prop
 | .mk name value=>name.length<=140737488351232/\value.ok
end
theorem Val.ok_mk (kind:Int)(num:Int)(scale:Int)(text:List UInt8)(lst:List Val)(fields:List Fld):(Val.mk kind num scale text lst fields).ok=(I64 kind/\I64 num/\I64 scale/\text.length<=140737488351232/\lst.length*88<=140737488351232/\(∀ x∈lst,x.ok)/\fields.length*104<=140737488351232/\(∀ x∈fields,x.ok)):=by rw[Val.ok]
theorem Fld.ok_mk (name:List UInt8)(value:Val):(Fld.mk name value).ok=(name.length<=140737488351232/\value.ok):=by rw[Fld.ok]
mutual
inductive Typ where
 | mk (kind:Int) (min:Int) (max:Int) (scale:Int) (words:List (List UInt8)) (elem:List Typ) (fields:List TFd)
inductive TFd where
 | mk (number:Int) (name:List UInt8) (need:Int) (typ:Typ) (dflt:List Val)
end
def Typ.kind:Typ->Int
 | .mk kind _ _ _ _ _ _=>kind
def Typ.min:Typ->Int
 | .mk _ min _ _ _ _ _=>min
def Typ.max:Typ->Int
 | .mk _ _ max _ _ _ _=>max
def Typ.scale:Typ->Int
 | .mk _ _ _ scale _ _ _=>scale
def Typ.words:Typ->List (List UInt8)
 | .mk _ _ _ _ words _ _=>words
def Typ.elem:Typ->List Typ
 | .mk _ _ _ _ _ elem _=>elem
def Typ.fields:Typ->List TFd
 | .mk _ _ _ _ _ _ fields=>fields
def TFd.number:TFd->Int
 | .mk number _ _ _ _=>number
def TFd.name:TFd->List UInt8
 | .mk _ name _ _ _=>name
def TFd.need:TFd->Int
 | .mk _ _ need _ _=>need
def TFd.typ:TFd->Typ
 | .mk _ _ _ typ _=>typ
def TFd.dflt:TFd->List Val
 | .mk _ _ _ _ dflt=>dflt
mutual
def Typ.pv:Typ->PV
 | .mk kind min max scale words elem fields=>.agg ([.int .i64 kind,.int .i64 min,.int .i64 max,.int .i64 scale,.list (words.map PV.str),.list (elem.map Typ.pv),.list (fields.map TFd.pv)])
def TFd.pv:TFd->PV
 | .mk number name need typ dflt=>.agg ([.int .i64 number,.str name,.int .i64 need]++typ.pv.cells++[.list (dflt.map Val.pv)])
end
theorem Typ.pv_mk (kind:Int)(min:Int)(max:Int)(scale:Int)(words:List (List UInt8))(elem:List Typ)(fields:List TFd):(Typ.mk kind min max scale words elem fields).pv = .agg ([.int .i64 kind,.int .i64 min,.int .i64 max,.int .i64 scale,.list (words.map PV.str),.list (elem.map Typ.pv),.list (fields.map TFd.pv)]):=by rw[Typ.pv]
theorem TFd.pv_mk (number:Int)(name:List UInt8)(need:Int)(typ:Typ)(dflt:List Val):(TFd.mk number name need typ dflt).pv = .agg ([.int .i64 number,.str name,.int .i64 need]++typ.pv.cells++[.list (dflt.map Val.pv)]):=by rw[TFd.pv]
theorem Typ.cells_len (x:Typ):x.pv.cells.length=7:=by
 obtain⟨kind,min,max,scale,words,elem,fields⟩:=x
 rw[Typ.pv_mk];simp only[ak,List.length_append,List.length_cons,List.length_nil]
theorem Typ.isAgg (x:Typ):x.pv.isAgg=true:=by
 obtain⟨kind,min,max,scale,words,elem,fields⟩:=x
 rw[Typ.pv_mk];rfl
theorem TFd.cells_len (x:TFd):x.pv.cells.length=11:=by
 obtain⟨number,name,need,typ,dflt⟩:=x
 rw[TFd.pv_mk];simp only[ak,List.length_append,List.length_cons,List.length_nil,Typ.cells_len]
theorem TFd.isAgg (x:TFd):x.pv.isAgg=true:=by
 obtain⟨number,name,need,typ,dflt⟩:=x
 rw[TFd.pv_mk];rfl
theorem Typ.ones (x:Typ):(x.pv.cells.all PV.one)=true:=by
 obtain⟨kind,min,max,scale,words,elem,fields⟩:=x
 rw[Typ.pv_mk];simp only[ak,List.all_append,List.all_cons,List.all_nil,iI,iJ,fw,fv,Bool.and_true,Bool.and_self]
theorem Typ.row (x:Typ):∃ cs,x.pv = .agg cs/\cs.length=7/\∀ p∈cs,p.one=true:=by
 have h1:=x.cells_len;have h2:=x.ones;have h3:=x.isAgg
 cases h:x.pv with
 | agg cs=>rw[h] at h1 h2;exact⟨cs,rfl,h1,fun p hp=>List.all_eq_true.1 h2 p hp⟩
 | _=>rw[h] at h3;cases h3
theorem TFd.ones (x:TFd):(x.pv.cells.all PV.one)=true:=by
 obtain⟨number,name,need,typ,dflt⟩:=x
 rw[TFd.pv_mk];simp only[ak,List.all_append,List.all_cons,List.all_nil,iI,iJ,fw,fv,Bool.and_true,Bool.and_self,Typ.ones]
theorem TFd.row (x:TFd):∃ cs,x.pv = .agg cs/\cs.length=11/\∀ p∈cs,p.one=true:=by
 have h1:=x.cells_len;have h2:=x.ones;have h3:=x.isAgg
 cases h:x.pv with
 | agg cs=>rw[h] at h1 h2;exact⟨cs,rfl,h1,fun p hp=>List.all_eq_true.1 h2 p hp⟩
 | _=>rw[h] at h3;cases h3
mutual
def Typ.ok:Typ->Prop
 | .mk kind min max scale words elem fields=>I64 kind/\I64 min/\I64 max/\I64 scale/\words.length*16<=140737488351232/\(∀ x∈words,x.length<=140737488351232)/\elem.length*104<=140737488351232/\(∀ x∈elem,x.ok)/\fields.length*160<=140737488351232/\(∀ x∈fields,x.ok)
def TFd.ok:TFd->Prop
 | .mk number name need typ dflt=>I64 number/\name.length<=140737488351232/\I64 need/\typ.ok/\dflt.length*88<=140737488351232/\(∀ x∈dflt,x.ok)
end
theorem Typ.ok_mk (kind:Int)(min:Int)(max:Int)(scale:Int)(words:List (List UInt8))(elem:List Typ)(fields:List TFd):(Typ.mk kind min max scale words elem fields).ok=(I64 kind/\I64 min/\I64 max/\I64 scale/\words.length*16<=140737488351232/\(∀ x∈words,x.length<=140737488351232)/\elem.length*104<=140737488351232/\(∀ x∈elem,x.ok)/\fields.length*160<=140737488351232/\(∀ x∈fields,x.ok)):=by rw[Typ.ok]
theorem TFd.ok_mk (number:Int)(name:List UInt8)(need:Int)(typ:Typ)(dflt:List Val):(TFd.mk number name need typ dflt).ok=(I64 number/\name.length<=140737488351232/\I64 need/\typ.ok/\dflt.length*88<=140737488351232/\(∀ x∈dflt,x.ok)):=by rw[TFd.ok]
inductive Mis where
 | mk (path:List UInt8) (code:Int)
def Mis.path:Mis->List UInt8
 | .mk path _=>path
def Mis.code:Mis->Int
 | .mk _ code=>code
def Mis.pv:Mis->PV
 | .mk path code=>.agg ([.str path,.int .i64 code])
theorem Mis.pv_mk (path:List UInt8)(code:Int):(Mis.mk path code).pv = .agg ([.str path,.int .i64 code]):=by rw[Mis.pv]
theorem Mis.cells_len (x:Mis):x.pv.cells.length=2:=by
 obtain⟨path,code⟩:=x
 rw[Mis.pv_mk];simp only[ak,List.length_append,List.length_cons,List.length_nil]
theorem Mis.isAgg (x:Mis):x.pv.isAgg=true:=by
 obtain⟨path,code⟩:=x
 rw[Mis.pv_mk];rfl
theorem Mis.ones (x:Mis):(x.pv.cells.all PV.one)=true:=by
 obtain⟨path,code⟩:=x
 rw[Mis.pv_mk];simp only[ak,List.all_append,List.all_cons,List.all_nil,iI,iJ,fw,fv,Bool.and_true,Bool.and_self]
theorem Mis.row (x:Mis):∃ cs,x.pv = .agg cs/\cs.length=2/\∀ p∈cs,p.one=true:=by
 have h1:=x.cells_len;have h2:=x.ones;have h3:=x.isAgg
 cases h:x.pv with
 | agg cs=>rw[h] at h1 h2;exact⟨cs,rfl,h1,fun p hp=>List.all_eq_true.1 h2 p hp⟩
 | _=>rw[h] at h3;cases h3
def Mis.ok:Mis->Prop
 | .mk path code=>path.length<=140737488351232/\I64 code
theorem Mis.ok_mk (path:List UInt8)(code:Int):(Mis.mk path code).ok=(path.length<=140737488351232/\I64 code):=by rw[Mis.ok]
theorem NM:be Tryz.prog 3=false:=by kernel_rfl
theorem NA:Tryz.prog.cellsOf 3=1:=by kernel_rfl
theorem NL:be Tryz.prog 9=false:=by kernel_rfl
theorem Ny:Tryz.prog.cellsOf 9=1:=by kernel_rfl
theorem S1:Tryz.prog.bytesOf 9=16:=by kernel_rfl
theorem Q5:be Tryz.prog 22=false:=by kernel_rfl
theorem QB:Tryz.prog.cellsOf 22=1:=by kernel_rfl
theorem Q4:be Tryz.prog 23=false:=by kernel_rfl
theorem QA:Tryz.prog.cellsOf 23=1:=by kernel_rfl
theorem Q3:be Tryz.prog 24=false:=by kernel_rfl
theorem Qz:Tryz.prog.cellsOf 24=1:=by kernel_rfl
theorem Q2:be Tryz.prog 26=true:=by kernel_rfl
theorem Kz:Tryz.prog.cellsOf 26=7:=by kernel_rfl
theorem QI:Tryz.prog.bytesOf 26=104:=by kernel_rfl
theorem KE:be Tryz.prog 28=false:=by kernel_rfl
theorem Ky:Tryz.prog.cellsOf 28=1:=by kernel_rfl
theorem Q1:be Tryz.prog 29=false:=by kernel_rfl
theorem Qy:Tryz.prog.cellsOf 29=1:=by kernel_rfl
theorem Q0:be Tryz.prog 31=true:=by kernel_rfl
theorem Kx:Tryz.prog.cellsOf 31=6:=by kernel_rfl
theorem KB:Tryz.prog.bytesOf 31=88:=by kernel_rfl
theorem Qx:Tryz.prog.cellsOf 83=7:=by kernel_rfl
theorem QH:Tryz.prog.bytesOf 83=104:=by kernel_rfl
theorem Qw:Tryz.prog.cellsOf 98=11:=by kernel_rfl
theorem QG:Tryz.prog.bytesOf 98=160:=by kernel_rfl
section
variable {t:Nat}{p:PV}
theorem ln (h:HasT Tryz.prog t p)(hu:Tryz.prog.underlying t=some .string):∃ s:List UInt8,p = .str s/\s.length<=140737488351232:=by
 cases h with
 | str _ s hb hs=>exact⟨s,rfl,hs⟩
 | int _ k n hb=>rw[hu] at hb;cases hb
 | bool _ b hb=>rw[hu] at hb;cases hb
 | list _ e l hb=>rw[hu] at hb;cases hb
 | agg _ fs cs hb=>rw[hu] at hb;cases hb
 | arr _ e n cs hb=>rw[hu] at hb;cases hb
theorem MS {k:IntKind}(h:HasT Tryz.prog t p)(hu:Tryz.prog.underlying t=some (.int k)):∃ n:Int,p = .int k n/\(Lit.int k n).wf=true:=by
 cases h with
 | int _ k' n hk hw=>rw[hu] at hk;cases hk;exact⟨n,rfl,hw⟩
 | bool _ b hb=>rw[hu] at hb;cases hb
 | str _ s hb=>rw[hu] at hb;cases hb
 | list _ e l hb=>rw[hu] at hb;cases hb
 | agg _ fs cs hb=>rw[hu] at hb;cases hb
 | arr _ e n cs hb=>rw[hu] at hb;cases hb
theorem dD (h:HasT Tryz.prog t p)(hu:Tryz.prog.underlying t=some (.int .i64)):∃ n:Int,p = .int .i64 n/\I64 n:=by
 obtain⟨n,rfl,hw⟩:=MS h hu
 refine⟨n,rfl,?_⟩
 simp only[Lit.wf,Bool.and_eq_true,decide_eq_true_eq] at hw
 exact hw
theorem Ix {e:Nat}(h:HasT Tryz.prog t p)(hu:Tryz.prog.underlying t=some (.slice e)):∃ l:List PV,p = .list l/\l.length<=maxLen/\l.length*Tryz.prog.bytesOf e<=140737488351232/\∀ (i:Nat) (x:PV),l[i]? = some x->HasT Tryz.prog e x:=by
 cases h with
 | list _ e' l hb hl hl2 hx=>rw[hu] at hb;cases hb;exact⟨l,rfl,hl,hl2,hx⟩
 | int _ k n hb=>rw[hu] at hb;cases hb
 | bool _ b hb=>rw[hu] at hb;cases hb
 | str _ s hb=>rw[hu] at hb;cases hb
 | agg _ fs cs hb=>rw[hu] at hb;cases hb
 | arr _ e n cs hb=>rw[hu] at hb;cases hb
end
theorem gz {t e e':Nat}(h:Tryz.prog.underlying t=some (.slice e))(h':Tryz.prog.underlying t=some (.slice e')):e=e':=by
 rw[h] at h';cases h';rfl
theorem iO {β:Type}{f:β->PV}{Q:β->Prop}:∀ (l:List PV),(∀ (i:Nat) (x:PV),l[i]? = some x->∃ s,x=f s/\Q s)->∃ ss:List β,l=ss.map f/\ss.length=l.length/\∀ s∈ss,Q s
 | [],_=>⟨[],rfl,rfl,by simp⟩
 | x::r,h=>by
   obtain⟨s,rfl,hs⟩:=h 0 x rfl
   obtain⟨ss,rfl,hl,hss⟩:=iO r (fun i y hy=>h (i+1) y (by simpa using hy))
   refine⟨s::ss,rfl,by simp,fun t ht=>?_⟩
   rcases List.mem_cons.1 ht with rfl | ht
   ·exact hs
   ·exact hss t ht
theorem ve {β:Type}{f:β->PV}{Q:β->Prop}{t e b:Nat}{p:PV}(h:HasT Tryz.prog t p)(hu:Tryz.prog.underlying t=some (.slice e))(hb:Tryz.prog.bytesOf e=b)(hq:∀ x,HasT Tryz.prog e x->∃ s,x=f s/\Q s):∃ ss:List β,p = .list (ss.map f)/\ss.length*b<=140737488351232/\∀ s∈ss,Q s:=by
 obtain⟨l,rfl,_,hl,hx⟩:=Ix h hu
 obtain⟨ss,rfl,h1,h2⟩:=iO (f:=f) (Q:=Q) l fun i x hi=>hq x (hx i x hi)
 exact⟨ss,rfl,by rw[h1,<- hb];exact hl,h2⟩
theorem PI {l:List PV}(h:l.length=6):∃ c0 c1 c2 c3 c4 c5,l=[c0,c1,c2,c3,c4,c5]:=by
 match l,h with
 | [c0,c1,c2,c3,c4,c5],_=>exact⟨c0,c1,c2,c3,c4,c5,rfl⟩
theorem MI {l:List PV}(h:l.length=7):∃ c0 c1 c2 c3 c4 c5 c6,l=[c0,c1,c2,c3,c4,c5,c6]:=by
 match l,h with
 | [c0,c1,c2,c3,c4,c5,c6],_=>exact⟨c0,c1,c2,c3,c4,c5,c6,rfl⟩
theorem PJ {l:List PV}(h:l.length=11):∃ c0 c1 c2 c3 c4 c5 c6 c7 c8 c9 c10,l=[c0,c1,c2,c3,c4,c5,c6,c7,c8,c9,c10]:=by
 match l,h with
 | [c0,c1,c2,c3,c4,c5,c6,c7,c8,c9,c10],_=>exact⟨c0,c1,c2,c3,c4,c5,c6,c7,c8,c9,c10,rfl⟩
theorem jB {t:Nat}{p:PV}(h:HasT Tryz.prog t p):(t=31->∃ x:Val,p=x.pv/\x.ok)/\(t=83->∃ x:Fld,p=x.pv/\x.ok)/\(t=28->∃ l:List Val,p = .list (l.map Val.pv)/\l.length*88<=140737488351232/\∀ x∈l,x.ok)/\(t=29->∃ l:List Fld,p = .list (l.map Fld.pv)/\l.length*104<=140737488351232/\∀ x∈l,x.ok):=by
 induction h with
 | bool t b hb=>refine⟨?_,?_,?_,?_⟩<;>(intro h;subst h;simp[Tryz.underlying31,Tryz.underlying83,Tryz.underlying28,Tryz.underlying29] at hb)
 | int t k n hb _=>refine⟨?_,?_,?_,?_⟩<;>(intro h;subst h;simp[Tryz.underlying31,Tryz.underlying83,Tryz.underlying28,Tryz.underlying29] at hb)
 | str t s hb _=>refine⟨?_,?_,?_,?_⟩<;>(intro h;subst h;simp[Tryz.underlying31,Tryz.underlying83,Tryz.underlying28,Tryz.underlying29] at hb)
 | arr t e n cs hb _ _ _=>refine⟨?_,?_,?_,?_⟩<;>(intro h;subst h;simp[Tryz.underlying31,Tryz.underlying83,Tryz.underlying28,Tryz.underlying29] at hb)
 | list t e l hu hl hl2 hx ih=>
   refine⟨?_,?_,?_,?_⟩
   ·intro h;subst h;simp[Tryz.underlying31] at hu
   ·intro h;subst h;simp[Tryz.underlying83] at hu
   ·intro h;subst h
    obtain rfl:=gz hu Tryz.underlying28
    obtain⟨ss,rfl,hlen,hss⟩:=iO (f:=Val.pv) (Q:=Val.ok) l (fun i x hi=>(ih i x hi).1 rfl)
    exact⟨ss,rfl,by rw[hlen,<- KB];exact hl2,hss⟩
   ·intro h;subst h
    obtain rfl:=gz hu Tryz.underlying29
    obtain⟨ss,rfl,hlen,hss⟩:=iO (f:=Fld.pv) (Q:=Fld.ok) l (fun i x hi=>(ih i x hi).2.1 rfl)
    exact⟨ss,rfl,by rw[hlen,<- QH];exact hl2,hss⟩
 | agg t fs cs hu hl hx ih=>
   refine⟨?_,?_,?_,?_⟩
   ·intro h;subst h
    rw[Tryz.underlying31] at hu;cases hu
    rw[Kx] at hl
    obtain⟨c0,c1,c2,c3,c4,c5,rfl⟩:=PI hl
    have h0:=hx 0 _ rfl
    have h1:=hx 1 _ rfl
    have h2:=hx 2 _ rfl
    have h3:=hx 3 _ rfl
    have h4:=(ih 4 _ rfl).2.2.1 rfl
    have h5:=(ih 5 _ rfl).2.2.2 rfl
    simp only[lC,NM,NA,NL,Ny,KE,Ky,Q1,Qy,List.drop_zero,List.drop_succ_cons,List.take_succ_cons,List.take_zero,cz,List.headD_cons] at h0 h1 h2 h3 h4 h5
    obtain⟨v0,rfl,ok_v0⟩:=dD h0 Tryz.underlying3
    obtain⟨v1,rfl,ok_v1⟩:=dD h1 Tryz.underlying3
    obtain⟨v2,rfl,ok_v2⟩:=dD h2 Tryz.underlying3
    obtain⟨v3,rfl,ok_v3⟩:=ln h3 Tryz.underlying9
    obtain⟨v4,rfl,ok_v4,oks_v4⟩:=h4
    obtain⟨v5,rfl,ok_v5,oks_v5⟩:=h5
    refine⟨.mk v0 v1 v2 v3 v4 v5,?_,?_⟩
    ·rw[Val.pv_mk]
    ·rw[Val.ok_mk];exact⟨ok_v0,ok_v1,ok_v2,ok_v3,ok_v4,oks_v4,ok_v5,oks_v5⟩
   ·intro h;subst h
    rw[Tryz.underlying83] at hu;cases hu
    rw[Qx] at hl
    obtain⟨c0,c1,c2,c3,c4,c5,c6,rfl⟩:=MI hl
    have h0:=hx 0 _ rfl
    have h1:=(ih 1 _ rfl).1 rfl
    simp only[lC,NL,Ny,Q0,Kx,List.drop_zero,List.drop_succ_cons,List.take_succ_cons,List.take_zero,cz,List.headD_cons] at h0 h1
    obtain⟨v0,rfl,ok_v0⟩:=ln h0 Tryz.underlying9
    obtain⟨v1,e1,ok_v1⟩:=h1
    refine⟨.mk v0 v1,?_,?_⟩
    ·rw[Fld.pv_mk];rw[<- e1];rfl
    ·rw[Fld.ok_mk];exact⟨ok_v0,ok_v1⟩
   ·intro h;subst h;simp[Tryz.underlying28] at hu
   ·intro h;subst h;simp[Tryz.underlying29] at hu
theorem Iq {p:PV}(h:HasT Tryz.prog 31 p):∃ x:Val,p=x.pv/\x.ok:=(jB h).1 rfl
theorem jC {t:Nat}{p:PV}(h:HasT Tryz.prog t p):(t=26->∃ x:Typ,p=x.pv/\x.ok)/\(t=98->∃ x:TFd,p=x.pv/\x.ok)/\(t=23->∃ l:List Typ,p = .list (l.map Typ.pv)/\l.length*104<=140737488351232/\∀ x∈l,x.ok)/\(t=24->∃ l:List TFd,p = .list (l.map TFd.pv)/\l.length*160<=140737488351232/\∀ x∈l,x.ok):=by
 induction h with
 | bool t b hb=>refine⟨?_,?_,?_,?_⟩<;>(intro h;subst h;simp[Tryz.underlying26,Tryz.underlying98,Tryz.underlying23,Tryz.underlying24] at hb)
 | int t k n hb _=>refine⟨?_,?_,?_,?_⟩<;>(intro h;subst h;simp[Tryz.underlying26,Tryz.underlying98,Tryz.underlying23,Tryz.underlying24] at hb)
 | str t s hb _=>refine⟨?_,?_,?_,?_⟩<;>(intro h;subst h;simp[Tryz.underlying26,Tryz.underlying98,Tryz.underlying23,Tryz.underlying24] at hb)
 | arr t e n cs hb _ _ _=>refine⟨?_,?_,?_,?_⟩<;>(intro h;subst h;simp[Tryz.underlying26,Tryz.underlying98,Tryz.underlying23,Tryz.underlying24] at hb)
 | list t e l hu hl hl2 hx ih=>
   refine⟨?_,?_,?_,?_⟩
   ·intro h;subst h;simp[Tryz.underlying26] at hu
   ·intro h;subst h;simp[Tryz.underlying98] at hu
   ·intro h;subst h
    obtain rfl:=gz hu Tryz.underlying23
    obtain⟨ss,rfl,hlen,hss⟩:=iO (f:=Typ.pv) (Q:=Typ.ok) l (fun i x hi=>(ih i x hi).1 rfl)
    exact⟨ss,rfl,by rw[hlen,<- QI];exact hl2,hss⟩
   ·intro h;subst h
    obtain rfl:=gz hu Tryz.underlying24
    obtain⟨ss,rfl,hlen,hss⟩:=iO (f:=TFd.pv) (Q:=TFd.ok) l (fun i x hi=>(ih i x hi).2.1 rfl)
    exact⟨ss,rfl,by rw[hlen,<- QG];exact hl2,hss⟩
 | agg t fs cs hu hl hx ih=>
   refine⟨?_,?_,?_,?_⟩
   ·intro h;subst h
    rw[Tryz.underlying26] at hu;cases hu
    rw[Kz] at hl
    obtain⟨c0,c1,c2,c3,c4,c5,c6,rfl⟩:=MI hl
    have h0:=hx 0 _ rfl
    have h1:=hx 1 _ rfl
    have h2:=hx 2 _ rfl
    have h3:=hx 3 _ rfl
    have h4:=hx 4 _ rfl
    have h5:=(ih 5 _ rfl).2.2.1 rfl
    have h6:=(ih 6 _ rfl).2.2.2 rfl
    simp only[lC,NM,NA,Q5,QB,Q4,QA,Q3,Qz,List.drop_zero,List.drop_succ_cons,List.take_succ_cons,List.take_zero,cz,List.headD_cons] at h0 h1 h2 h3 h4 h5 h6
    obtain⟨v0,rfl,ok_v0⟩:=dD h0 Tryz.underlying3
    obtain⟨v1,rfl,ok_v1⟩:=dD h1 Tryz.underlying3
    obtain⟨v2,rfl,ok_v2⟩:=dD h2 Tryz.underlying3
    obtain⟨v3,rfl,ok_v3⟩:=dD h3 Tryz.underlying3
    obtain⟨v4,rfl,ok_v4,oks_v4⟩:=ve (f:=PV.str) (Q:=(fun x:List UInt8=>x.length<=140737488351232)) h4 Tryz.underlying22 S1 (fun x hx=>ln hx Tryz.underlying9)
    obtain⟨v5,rfl,ok_v5,oks_v5⟩:=h5
    obtain⟨v6,rfl,ok_v6,oks_v6⟩:=h6
    refine⟨.mk v0 v1 v2 v3 v4 v5 v6,?_,?_⟩
    ·rw[Typ.pv_mk]
    ·rw[Typ.ok_mk];exact⟨ok_v0,ok_v1,ok_v2,ok_v3,ok_v4,oks_v4,ok_v5,oks_v5,ok_v6,oks_v6⟩
   ·intro h;subst h
    rw[Tryz.underlying98] at hu;cases hu
    rw[Qw] at hl
    obtain⟨c0,c1,c2,c3,c4,c5,c6,c7,c8,c9,c10,rfl⟩:=PJ hl
    have h0:=hx 0 _ rfl
    have h1:=hx 1 _ rfl
    have h2:=hx 2 _ rfl
    have h3:=(ih 3 _ rfl).1 rfl
    have h4:=hx 4 _ rfl
    simp only[lC,NM,NA,NL,Ny,Q2,Kz,KE,Ky,List.drop_zero,List.drop_succ_cons,List.take_succ_cons,List.take_zero,cz,List.headD_cons] at h0 h1 h2 h3 h4
    obtain⟨v0,rfl,ok_v0⟩:=dD h0 Tryz.underlying3
    obtain⟨v1,rfl,ok_v1⟩:=ln h1 Tryz.underlying9
    obtain⟨v2,rfl,ok_v2⟩:=dD h2 Tryz.underlying3
    obtain⟨v3,e3,ok_v3⟩:=h3
    obtain⟨v4,rfl,ok_v4,oks_v4⟩:=ve (f:=Val.pv) (Q:=(fun x:Val=>x.ok)) h4 Tryz.underlying28 KB (fun x hx=>Iq hx)
    refine⟨.mk v0 v1 v2 v3 v4,?_,?_⟩
    ·rw[TFd.pv_mk];rw[<- e3];rfl
    ·rw[TFd.ok_mk];exact⟨ok_v0,ok_v1,ok_v2,ok_v3,ok_v4,oks_v4⟩
   ·intro h;subst h;simp[Tryz.underlying23] at hu
   ·intro h;subst h;simp[Tryz.underlying24] at hu
theorem Ir {p:PV}(h:HasT Tryz.prog 26 p):∃ x:Typ,p=x.pv/\x.ok:=(jC h).1 rfl
attribute [local irreducible] vc
def nZ (k:Int):Bool:=decide (1<=k)&&decide (k<=7)
theorem dr (k:Int):nZ k=true↔1<=k/\k<=7:=by simp[nZ]
theorem nH (t:Typ):ae Tryz.prog au 32 [t.pv] (.bool (nZ t.kind)):=by
 obtain⟨k,a,b,c,w,e,f⟩:=t
 change ae Tryz.prog au 32 [(Typ.mk k a b c w e f).pv] (.bool (nZ k))
 unfold nZ
 by_cases h1:1<=k
 ·rw[decide_eq_true h1,Bool.true_and]
  refine ae.intro Q32.2 (by simp[Q32]) ?_
  simp(disch:=try exact dI) only[Q32,Typ.pv_mk,push_cast,seval]
 ·rw[decide_eq_false h1,Bool.false_and]
  refine ae.intro Q32.2 (by simp[Q32]) ?_
  simp(disch:=try exact dI) only[Q32,Typ.pv_mk,push_cast,seval]
def gw:List UInt8:=[116,114,117,101]
def eR:List UInt8:=[102,97,108,115,101]
def vN (k a b:Int)(c:List UInt8):PV:=.agg [.int .i64 k,.int .i64 a,.int .i64 b,.str c,.nils,.nils]
def yI:List UInt8->Option (List UInt8)
 | []=>some []
 | [_]=>some []
 | a::b::r=>if nib a<0\/nib b<0 then none else (yI r).map (AF a b :: ·)
theorem gQ:∀ {s:List UInt8},s.length % 2=0->rx s=yI s
 | [],_=>rfl
 | [_],h=>by simp at h
 | a::b::r,h=>by
   rw[rx,yI,gQ (s:=r) (by simp only[List.length_cons] at h;omega)]
end Go.Proofs.YtbaaokocnegdoaaGreatDoor

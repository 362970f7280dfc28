/- A part of the proof for CodecUsualCardSaid. -/
import Derived.KernelRfl
import Derived.Test.YtfepkhlgopjaoaaGreatDoorProg
import Derived.Test.YtfepkhlgopjaoaaGreatDoorUsKSh
import Derived.Test.YtfepkhlgopjaoaaGreatDoorUsCore5
set_option linter.unusedVariables false
set_option linter.unusedSimpArgs false
set_option maxRecDepth 100000
namespace Go.Proofs.YtfepkhlgopjaoaaGreatDoor
open Go Go.Ab
def I64 (n:Int):Prop:=-9223372036854775808≤n∧n≤9223372036854775807
mutual
inductive Val where
 | mk (kind:Int) (num:Int) (scale:Int) (text:List UInt8) (lst:List Val) (fields:List Fld)
inductive Fld where
 | mk (name:List UInt8) (value:Val)
end
def Val.kind:Val→Int
 | .mk kind _ _ _ _ _=>kind
def Val.num:Val→Int
 | .mk _ num _ _ _ _=>num
def Val.scale:Val→Int
 | .mk _ _ scale _ _ _=>scale
def Val.text:Val→List UInt8
 | .mk _ _ _ text _ _=>text
def Val.lst:Val→List Val
 | .mk _ _ _ _ lst _=>lst
def Val.fields:Val→List Fld
 | .mk _ _ _ _ _ fields=>fields
def Fld.name:Fld→List UInt8
 | .mk name _=>name
def Fld.value:Fld→Val
 | .mk _ value=>value
mutual
def Val.pv:Val→PV
 | .mk kind num scale text lst fields=>.agg ([.int .i64 kind,.int .i64 num,.int .i64 scale,.str text,.list (lst.map Val.pv),.list (fields.map Fld.pv)])
def Fld.pv:Fld→PV
 | .mk name value=>.agg ([.str name]++value.pv.cells)
end
theorem Val.pv_mk (kind:Int)(num:Int)(scale:Int)(text:List UInt8)(lst:List Val)(fields:List Fld):(Val.mk kind num scale text lst fields).pv = .agg ([.int .i64 kind,.int .i64 num,.int .i64 scale,.str text,.list (lst.map Val.pv),.list (fields.map Fld.pv)]):=by rw[Val.pv]
theorem Fld.pv_mk (name:List UInt8)(value:Val):(Fld.mk name value).pv = .agg ([.str name]++value.pv.cells):=by rw[Fld.pv]
theorem Val.cells_len (x:Val):x.pv.cells.length=6:=by
 obtain⟨kind,num,scale,text,lst,fields⟩:=x
 rw[Val.pv_mk];simp only[ag,List.length_append,List.length_cons,List.length_nil]
theorem Val.isAgg (x:Val):x.pv.isAgg=true:=by
 obtain⟨kind,num,scale,text,lst,fields⟩:=x
 rw[Val.pv_mk];rfl
theorem Fld.cells_len (x:Fld):x.pv.cells.length=7:=by
 obtain⟨name,value⟩:=x
 rw[Fld.pv_mk];simp only[ag,List.length_append,List.length_cons,List.length_nil,Val.cells_len]
theorem Fld.isAgg (x:Fld):x.pv.isAgg=true:=by
 obtain⟨name,value⟩:=x
 rw[Fld.pv_mk];rfl
theorem Val.ones (x:Val):(x.pv.cells.all PV.one)=true:=by
 obtain⟨kind,num,scale,text,lst,fields⟩:=x
 rw[Val.pv_mk];simp only[ag,List.all_append,List.all_cons,List.all_nil,en,eo,cK,cJ,Bool.and_true,Bool.and_self]
theorem Val.row (x:Val):∃ cs,x.pv = .agg cs∧cs.length=6∧∀ p∈cs,p.one=true:=by
 have h1:=x.cells_len;have h2:=x.ones;have h3:=x.isAgg
 cases h:x.pv with
 | agg cs=>rw[h] at h1 h2;exact⟨cs,rfl,h1,fun p hp=>List.all_eq_true.1 h2 p hp⟩
 | _=>rw[h] at h3;cases h3
theorem Fld.ones (x:Fld):(x.pv.cells.all PV.one)=true:=by
 obtain⟨name,value⟩:=x
 rw[Fld.pv_mk];simp only[ag,List.all_append,List.all_cons,List.all_nil,en,eo,cK,cJ,Bool.and_true,Bool.and_self,Val.ones]
theorem Fld.row (x:Fld):∃ cs,x.pv = .agg cs∧cs.length=7∧∀ p∈cs,p.one=true:=by
 have h1:=x.cells_len;have h2:=x.ones;have h3:=x.isAgg
 cases h:x.pv with
 | agg cs=>rw[h] at h1 h2;exact⟨cs,rfl,h1,fun p hp=>List.all_eq_true.1 h2 p hp⟩
 | _=>rw[h] at h3;cases h3
mutual
def Val.ok:Val→Prop
 | .mk kind num scale text lst fields=>I64 kind∧I64 num∧I64 scale∧text.length≤140737488351232∧lst.length*88≤140737488351232∧(∀ x∈lst,x.ok)∧fields.length*104≤140737488351232∧(∀ x∈fields,x.ok)
def Fld.ok:Fld→Prop
 | .mk name value=>name.length≤140737488351232∧value.ok
end
theorem Val.ok_mk (kind:Int)(num:Int)(scale:Int)(text:List UInt8)(lst:List Val)(fields:List Fld):(Val.mk kind num scale text lst fields).ok=(I64 kind∧I64 num∧I64 scale∧text.length≤140737488351232∧lst.length*88≤140737488351232∧(∀ x∈lst,x.ok)∧fields.length*104≤140737488351232∧(∀ x∈fields,x.ok)):=by rw[Val.ok]
theorem Fld.ok_mk (name:List UInt8)(value:Val):(Fld.mk name value).ok=(name.length≤140737488351232∧value.ok):=by rw[Fld.ok]
mutual
inductive Typ where
 | mk (kind:Int) (min:Int) (max:Int) (scale:Int) (words:List (List UInt8)) (elem:List Typ) (fields:List TFd)
inductive TFd where
 | mk (number:Int) (name:List UInt8) (need:Int) (typ:Typ) (dflt:List Val)
end
def Typ.kind:Typ→Int
 | .mk kind _ _ _ _ _ _=>kind
def Typ.min:Typ→Int
 | .mk _ min _ _ _ _ _=>min
def Typ.max:Typ→Int
 | .mk _ _ max _ _ _ _=>max
def Typ.scale:Typ→Int
 | .mk _ _ _ scale _ _ _=>scale
def Typ.words:Typ→List (List UInt8)
 | .mk _ _ _ _ words _ _=>words
def Typ.elem:Typ→List Typ
 | .mk _ _ _ _ _ elem _=>elem
def Typ.fields:Typ→List TFd
 | .mk _ _ _ _ _ _ fields=>fields
def TFd.number:TFd→Int
 | .mk number _ _ _ _=>number
def TFd.name:TFd→List UInt8
 | .mk _ name _ _ _=>name
def TFd.need:TFd→Int
 | .mk _ _ need _ _=>need
def TFd.typ:TFd→Typ
 | .mk _ _ _ typ _=>typ
def TFd.dflt:TFd→List Val
 | .mk _ _ _ _ dflt=>dflt
mutual
def Typ.pv:Typ→PV
 | .mk kind min max scale words elem fields=>.agg ([.int .i64 kind,.int .i64 min,.int .i64 max,.int .i64 scale,.list (words.map PV.str),.list (elem.map Typ.pv),.list (fields.map TFd.pv)])
def TFd.pv:TFd→PV
 | .mk number name need typ dflt=>.agg ([.int .i64 number,.str name,.int .i64 need]++typ.pv.cells++[.list (dflt.map Val.pv)])
end
theorem Typ.pv_mk (kind:Int)(min:Int)(max:Int)(scale:Int)(words:List (List UInt8))(elem:List Typ)(fields:List TFd):(Typ.mk kind min max scale words elem fields).pv = .agg ([.int .i64 kind,.int .i64 min,.int .i64 max,.int .i64 scale,.list (words.map PV.str),.list (elem.map Typ.pv),.list (fields.map TFd.pv)]):=by rw[Typ.pv]
theorem TFd.pv_mk (number:Int)(name:List UInt8)(need:Int)(typ:Typ)(dflt:List Val):(TFd.mk number name need typ dflt).pv = .agg ([.int .i64 number,.str name,.int .i64 need]++typ.pv.cells++[.list (dflt.map Val.pv)]):=by rw[TFd.pv]
theorem Typ.cells_len (x:Typ):x.pv.cells.length=7:=by
 obtain⟨kind,min,max,scale,words,elem,fields⟩:=x
 rw[Typ.pv_mk];simp only[ag,List.length_append,List.length_cons,List.length_nil]
theorem Typ.isAgg (x:Typ):x.pv.isAgg=true:=by
 obtain⟨kind,min,max,scale,words,elem,fields⟩:=x
 rw[Typ.pv_mk];rfl
theorem TFd.cells_len (x:TFd):x.pv.cells.length=11:=by
 obtain⟨number,name,need,typ,dflt⟩:=x
 rw[TFd.pv_mk];simp only[ag,List.length_append,List.length_cons,List.length_nil,Typ.cells_len]
theorem TFd.isAgg (x:TFd):x.pv.isAgg=true:=by
 obtain⟨number,name,need,typ,dflt⟩:=x
 rw[TFd.pv_mk];rfl
theorem Typ.ones (x:Typ):(x.pv.cells.all PV.one)=true:=by
 obtain⟨kind,min,max,scale,words,elem,fields⟩:=x
 rw[Typ.pv_mk];simp only[ag,List.all_append,List.all_cons,List.all_nil,en,eo,cK,cJ,Bool.and_true,Bool.and_self]
theorem Typ.row (x:Typ):∃ cs,x.pv = .agg cs∧cs.length=7∧∀ p∈cs,p.one=true:=by
 have h1:=x.cells_len;have h2:=x.ones;have h3:=x.isAgg
 cases h:x.pv with
 | agg cs=>rw[h] at h1 h2;exact⟨cs,rfl,h1,fun p hp=>List.all_eq_true.1 h2 p hp⟩
 | _=>rw[h] at h3;cases h3
theorem TFd.ones (x:TFd):(x.pv.cells.all PV.one)=true:=by
 obtain⟨number,name,need,typ,dflt⟩:=x
 rw[TFd.pv_mk];simp only[ag,List.all_append,List.all_cons,List.all_nil,en,eo,cK,cJ,Bool.and_true,Bool.and_self,Typ.ones]
theorem TFd.row (x:TFd):∃ cs,x.pv = .agg cs∧cs.length=11∧∀ p∈cs,p.one=true:=by
 have h1:=x.cells_len;have h2:=x.ones;have h3:=x.isAgg
 cases h:x.pv with
 | agg cs=>rw[h] at h1 h2;exact⟨cs,rfl,h1,fun p hp=>List.all_eq_true.1 h2 p hp⟩
 | _=>rw[h] at h3;cases h3
mutual
def Typ.ok:Typ→Prop
 | .mk kind min max scale words elem fields=>I64 kind∧I64 min∧I64 max∧I64 scale∧words.length*16≤140737488351232∧(∀ x∈words,x.length≤140737488351232)∧elem.length*104≤140737488351232∧(∀ x∈elem,x.ok)∧fields.length*160≤140737488351232∧(∀ x∈fields,x.ok)
def TFd.ok:TFd→Prop
 | .mk number name need typ dflt=>I64 number∧name.length≤140737488351232∧I64 need∧typ.ok∧dflt.length*88≤140737488351232∧(∀ x∈dflt,x.ok)
end
theorem Typ.ok_mk (kind:Int)(min:Int)(max:Int)(scale:Int)(words:List (List UInt8))(elem:List Typ)(fields:List TFd):(Typ.mk kind min max scale words elem fields).ok=(I64 kind∧I64 min∧I64 max∧I64 scale∧words.length*16≤140737488351232∧(∀ x∈words,x.length≤140737488351232)∧elem.length*104≤140737488351232∧(∀ x∈elem,x.ok)∧fields.length*160≤140737488351232∧(∀ x∈fields,x.ok)):=by rw[Typ.ok]
theorem TFd.ok_mk (number:Int)(name:List UInt8)(need:Int)(typ:Typ)(dflt:List Val):(TFd.mk number name need typ dflt).ok=(I64 number∧name.length≤140737488351232∧I64 need∧typ.ok∧dflt.length*88≤140737488351232∧(∀ x∈dflt,x.ok)):=by rw[TFd.ok]
inductive Fmt where
 | mk (kind:Int) (separator:Int) (widths:List Int)
def Fmt.kind:Fmt→Int
 | .mk kind _ _=>kind
def Fmt.separator:Fmt→Int
 | .mk _ separator _=>separator
def Fmt.widths:Fmt→List Int
 | .mk _ _ widths=>widths
def Fmt.pv:Fmt→PV
 | .mk kind separator widths=>.agg ([.int .i64 kind,.int .i64 separator,.list (widths.map (PV.int .i64))])
theorem Fmt.pv_mk (kind:Int)(separator:Int)(widths:List Int):(Fmt.mk kind separator widths).pv = .agg ([.int .i64 kind,.int .i64 separator,.list (widths.map (PV.int .i64))]):=by rw[Fmt.pv]
theorem Fmt.cells_len (x:Fmt):x.pv.cells.length=3:=by
 obtain⟨kind,separator,widths⟩:=x
 rw[Fmt.pv_mk];simp only[ag,List.length_append,List.length_cons,List.length_nil]
theorem Fmt.isAgg (x:Fmt):x.pv.isAgg=true:=by
 obtain⟨kind,separator,widths⟩:=x
 rw[Fmt.pv_mk];rfl
theorem Fmt.ones (x:Fmt):(x.pv.cells.all PV.one)=true:=by
 obtain⟨kind,separator,widths⟩:=x
 rw[Fmt.pv_mk];simp only[ag,List.all_append,List.all_cons,List.all_nil,en,eo,cK,cJ,Bool.and_true,Bool.and_self]
theorem Fmt.row (x:Fmt):∃ cs,x.pv = .agg cs∧cs.length=3∧∀ p∈cs,p.one=true:=by
 have h1:=x.cells_len;have h2:=x.ones;have h3:=x.isAgg
 cases h:x.pv with
 | agg cs=>rw[h] at h1 h2;exact⟨cs,rfl,h1,fun p hp=>List.all_eq_true.1 h2 p hp⟩
 | _=>rw[h] at h3;cases h3
def Fmt.ok:Fmt→Prop
 | .mk kind separator widths=>I64 kind∧I64 separator∧widths.length*8≤140737488351232∧(∀ x∈widths,I64 x)
theorem Fmt.ok_mk (kind:Int)(separator:Int)(widths:List Int):(Fmt.mk kind separator widths).ok=(I64 kind∧I64 separator∧widths.length*8≤140737488351232∧(∀ x∈widths,I64 x)):=by rw[Fmt.ok]
inductive Sch where
 | mk (name:List UInt8) (version:Int) (typ:Typ)
def Sch.name:Sch→List UInt8
 | .mk name _ _=>name
def Sch.version:Sch→Int
 | .mk _ version _=>version
def Sch.typ:Sch→Typ
 | .mk _ _ typ=>typ
def Sch.pv:Sch→PV
 | .mk name version typ=>.agg ([.str name,.int .i64 version]++typ.pv.cells)
theorem Sch.pv_mk (name:List UInt8)(version:Int)(typ:Typ):(Sch.mk name version typ).pv = .agg ([.str name,.int .i64 version]++typ.pv.cells):=by rw[Sch.pv]
theorem Sch.cells_len (x:Sch):x.pv.cells.length=9:=by
 obtain⟨name,version,typ⟩:=x
 rw[Sch.pv_mk];simp only[ag,List.length_append,List.length_cons,List.length_nil,Typ.cells_len]
theorem Sch.isAgg (x:Sch):x.pv.isAgg=true:=by
 obtain⟨name,version,typ⟩:=x
 rw[Sch.pv_mk];rfl
theorem Sch.ones (x:Sch):(x.pv.cells.all PV.one)=true:=by
 obtain⟨name,version,typ⟩:=x
 rw[Sch.pv_mk];simp only[ag,List.all_append,List.all_cons,List.all_nil,en,eo,cK,cJ,Bool.and_true,Bool.and_self,Typ.ones]
theorem Sch.row (x:Sch):∃ cs,x.pv = .agg cs∧cs.length=9∧∀ p∈cs,p.one=true:=by
 have h1:=x.cells_len;have h2:=x.ones;have h3:=x.isAgg
 cases h:x.pv with
 | agg cs=>rw[h] at h1 h2;exact⟨cs,rfl,h1,fun p hp=>List.all_eq_true.1 h2 p hp⟩
 | _=>rw[h] at h3;cases h3
def Sch.ok:Sch→Prop
 | .mk name version typ=>name.length≤140737488351232∧I64 version∧typ.ok
theorem Sch.ok_mk (name:List UInt8)(version:Int)(typ:Typ):(Sch.mk name version typ).ok=(name.length≤140737488351232∧I64 version∧typ.ok):=by rw[Sch.ok]
theorem Dr:aP Tryz.prog 3=false:=by kernel_rfl
theorem C6:Tryz.prog.cellsOf 3=1:=by kernel_rfl
theorem Dq:aP Tryz.prog 9=false:=by kernel_rfl
theorem C5:Tryz.prog.cellsOf 9=1:=by kernel_rfl
theorem M7:Tryz.prog.bytesOf 9=16:=by kernel_rfl
theorem KV:aP Tryz.prog 25=false:=by kernel_rfl
theorem Kv:Tryz.prog.cellsOf 25=1:=by kernel_rfl
theorem KU:aP Tryz.prog 26=false:=by kernel_rfl
theorem Ku:Tryz.prog.cellsOf 26=1:=by kernel_rfl
theorem KT:aP Tryz.prog 27=false:=by kernel_rfl
theorem Kt:Tryz.prog.cellsOf 27=1:=by kernel_rfl
theorem Eu:aP Tryz.prog 29=true:=by kernel_rfl
theorem yr:Tryz.prog.cellsOf 29=7:=by kernel_rfl
theorem KC:Tryz.prog.bytesOf 29=104:=by kernel_rfl
theorem Ks:Tryz.prog.cellsOf 31=9:=by kernel_rfl
theorem Et:aP Tryz.prog 37=false:=by kernel_rfl
theorem El:Tryz.prog.cellsOf 37=1:=by kernel_rfl
theorem KS:aP Tryz.prog 38=false:=by kernel_rfl
theorem Kr:Tryz.prog.cellsOf 38=1:=by kernel_rfl
theorem KR:aP Tryz.prog 40=true:=by kernel_rfl
theorem Ek:Tryz.prog.cellsOf 40=6:=by kernel_rfl
theorem En:Tryz.prog.bytesOf 40=88:=by kernel_rfl
theorem Kq:Tryz.prog.cellsOf 89=11:=by kernel_rfl
theorem KB:Tryz.prog.bytesOf 89=160:=by kernel_rfl
theorem Kp:Tryz.prog.cellsOf 97=7:=by kernel_rfl
theorem KA:Tryz.prog.bytesOf 97=104:=by kernel_rfl
section
variable {t:Nat}{p:PV}
theorem eO (h:HasT Tryz.prog t p)(hu:Tryz.prog.underlying t=some .string):∃ s:List UInt8,p = .str s∧s.length≤140737488351232:=by
 cases h with
 | str _ s hb hs=>exact⟨s,rfl,hs⟩
 | int _ k n hb=>rw[hu] at hb;cases hb
 | bool _ b hb=>rw[hu] at hb;cases hb
 | list _ e l hb=>rw[hu] at hb;cases hb
 | agg _ fs cs hb=>rw[hu] at hb;cases hb
 | arr _ e n cs hb=>rw[hu] at hb;cases hb
theorem bm (h:HasT Tryz.prog t p)(hu:Tryz.prog.underlying t=some (.int .i64)):∃ n:Int,p = .int .i64 n∧I64 n:=by
 obtain⟨n,rfl,hw⟩:=Cs h hu
 refine⟨n,rfl,?_⟩
 simp only[Lit.wf,Bool.and_eq_true,decide_eq_true_eq] at hw
 exact hw
theorem xe {e:Nat}(h:HasT Tryz.prog t p)(hu:Tryz.prog.underlying t=some (.slice e)):∃ l:List PV,p = .list l∧l.length≤maxLen∧l.length*Tryz.prog.bytesOf e≤140737488351232∧∀ (i:Nat) (x:PV),l[i]? = some x→HasT Tryz.prog e x:=by
 cases h with
 | list _ e' l hb hl hl2 hx=>rw[hu] at hb;cases hb;exact⟨l,rfl,hl,hl2,hx⟩
 | int _ k n hb=>rw[hu] at hb;cases hb
 | bool _ b hb=>rw[hu] at hb;cases hb
 | str _ s hb=>rw[hu] at hb;cases hb
 | agg _ fs cs hb=>rw[hu] at hb;cases hb
 | arr _ e n cs hb=>rw[hu] at hb;cases hb
theorem Ct {fs:Array Field}(h:HasT Tryz.prog t p)(hu:Tryz.prog.underlying t=some (.struct fs)):∃ cs:List PV,p = .agg cs∧cs.length=Tryz.prog.cellsOf t∧∀ (i:Nat) (f:Field),fs.toList[i]? = some f→HasT Tryz.prog f.type (ew Tryz.prog f cs):=by
 cases h with
 | agg _ fs' cs hb hl hx=>rw[hu] at hb;cases hb;exact⟨cs,rfl,hl,hx⟩
 | list _ e' l hb=>rw[hu] at hb;cases hb
 | int _ k n hb=>rw[hu] at hb;cases hb
 | bool _ b hb=>rw[hu] at hb;cases hb
 | str _ s hb=>rw[hu] at hb;cases hb
 | arr _ e n cs hb=>rw[hu] at hb;cases hb
end
theorem eC {t e e':Nat}(h:Tryz.prog.underlying t=some (.slice e))(h':Tryz.prog.underlying t=some (.slice e')):e=e':=by
 rw[h] at h';cases h';rfl
theorem fo {β:Type}{f:β→PV}{Q:β→Prop}:∀ (l:List PV),(∀ (i:Nat) (x:PV),l[i]? = some x→∃ s,x=f s∧Q s)→∃ ss:List β,l=ss.map f∧ss.length=l.length∧∀ s∈ss,Q s
 | [],_=>⟨[],rfl,rfl,by simp⟩
 | x::r,h=>by
   obtain⟨s,rfl,hs⟩:=h 0 x rfl
   obtain⟨ss,rfl,hl,hss⟩:=fo r (fun i y hy=>h (i+1) y (by simpa using hy))
   refine⟨s::ss,rfl,by simp,fun t ht=>?_⟩
   rcases List.mem_cons.1 ht with rfl | ht
   ·exact hs
   ·exact hss t ht
theorem oU {β:Type}{f:β→PV}{Q:β→Prop}{t e b:Nat}{p:PV}(h:HasT Tryz.prog t p)(hu:Tryz.prog.underlying t=some (.slice e))(hb:Tryz.prog.bytesOf e=b)(hq:∀ x,HasT Tryz.prog e x→∃ s,x=f s∧Q s):∃ ss:List β,p = .list (ss.map f)∧ss.length*b≤140737488351232∧∀ s∈ss,Q s:=by
 obtain⟨l,rfl,_,hl,hx⟩:=xe h hu
 obtain⟨ss,rfl,h1,h2⟩:=fo (f:=f) (Q:=Q) l fun i x hi=>hq x (hx i x hi)
 exact⟨ss,rfl,by rw[h1,← hb];exact hl,h2⟩
theorem ME {l:List PV}(h:l.length=6):∃ c0 c1 c2 c3 c4 c5,l=[c0,c1,c2,c3,c4,c5]:=by
 match l,h with
 | [c0,c1,c2,c3,c4,c5],_=>exact⟨c0,c1,c2,c3,c4,c5,rfl⟩
theorem JN {l:List PV}(h:l.length=7):∃ c0 c1 c2 c3 c4 c5 c6,l=[c0,c1,c2,c3,c4,c5,c6]:=by
 match l,h with
 | [c0,c1,c2,c3,c4,c5,c6],_=>exact⟨c0,c1,c2,c3,c4,c5,c6,rfl⟩
theorem MD {l:List PV}(h:l.length=9):∃ c0 c1 c2 c3 c4 c5 c6 c7 c8,l=[c0,c1,c2,c3,c4,c5,c6,c7,c8]:=by
 match l,h with
 | [c0,c1,c2,c3,c4,c5,c6,c7,c8],_=>exact⟨c0,c1,c2,c3,c4,c5,c6,c7,c8,rfl⟩
theorem JO {l:List PV}(h:l.length=11):∃ c0 c1 c2 c3 c4 c5 c6 c7 c8 c9 c10,l=[c0,c1,c2,c3,c4,c5,c6,c7,c8,c9,c10]:=by
 match l,h with
 | [c0,c1,c2,c3,c4,c5,c6,c7,c8,c9,c10],_=>exact⟨c0,c1,c2,c3,c4,c5,c6,c7,c8,c9,c10,rfl⟩
theorem fT {t:Nat}{p:PV}(h:HasT Tryz.prog t p):(t=40→∃ x:Val,p=x.pv∧x.ok)∧(t=97→∃ x:Fld,p=x.pv∧x.ok)∧(t=37→∃ l:List Val,p = .list (l.map Val.pv)∧l.length*88≤140737488351232∧∀ x∈l,x.ok)∧(t=38→∃ l:List Fld,p = .list (l.map Fld.pv)∧l.length*104≤140737488351232∧∀ x∈l,x.ok):=by
 induction h with
 | bool t b hb=>refine⟨?_,?_,?_,?_⟩<;>(intro h;subst h;simp[Tryz.underlying40,Tryz.underlying97,Tryz.underlying37,Tryz.underlying38] at hb)
 | int t k n hb _=>refine⟨?_,?_,?_,?_⟩<;>(intro h;subst h;simp[Tryz.underlying40,Tryz.underlying97,Tryz.underlying37,Tryz.underlying38] at hb)
 | str t s hb _=>refine⟨?_,?_,?_,?_⟩<;>(intro h;subst h;simp[Tryz.underlying40,Tryz.underlying97,Tryz.underlying37,Tryz.underlying38] at hb)
 | arr t e n cs hb _ _ _=>refine⟨?_,?_,?_,?_⟩<;>(intro h;subst h;simp[Tryz.underlying40,Tryz.underlying97,Tryz.underlying37,Tryz.underlying38] at hb)
 | list t e l hu hl hl2 hx ih=>
   refine⟨?_,?_,?_,?_⟩
   ·intro h;subst h;simp[Tryz.underlying40] at hu
   ·intro h;subst h;simp[Tryz.underlying97] at hu
   ·intro h;subst h
    obtain rfl:=eC hu Tryz.underlying37
    obtain⟨ss,rfl,hlen,hss⟩:=fo (f:=Val.pv) (Q:=Val.ok) l (fun i x hi=>(ih i x hi).1 rfl)
    exact⟨ss,rfl,by rw[hlen,← En];exact hl2,hss⟩
   ·intro h;subst h
    obtain rfl:=eC hu Tryz.underlying38
    obtain⟨ss,rfl,hlen,hss⟩:=fo (f:=Fld.pv) (Q:=Fld.ok) l (fun i x hi=>(ih i x hi).2.1 rfl)
    exact⟨ss,rfl,by rw[hlen,← KA];exact hl2,hss⟩
 | agg t fs cs hu hl hx ih=>
   refine⟨?_,?_,?_,?_⟩
   ·intro h;subst h
    rw[Tryz.underlying40] at hu;cases hu
    rw[Ek] at hl
    obtain⟨c0,c1,c2,c3,c4,c5,rfl⟩:=ME hl
    have h0:=hx 0 _ rfl
    have h1:=hx 1 _ rfl
    have h2:=hx 2 _ rfl
    have h3:=hx 3 _ rfl
    have h4:=(ih 4 _ rfl).2.2.1 rfl
    have h5:=(ih 5 _ rfl).2.2.2 rfl
    simp only[ew,Dr,C6,Dq,C5,Et,El,KS,Kr,List.drop_zero,List.drop_succ_cons,List.take_succ_cons,List.take_zero,bA,List.headD_cons] at h0 h1 h2 h3 h4 h5
    obtain⟨v0,rfl,ok_v0⟩:=bm h0 Tryz.underlying3
    obtain⟨v1,rfl,ok_v1⟩:=bm h1 Tryz.underlying3
    obtain⟨v2,rfl,ok_v2⟩:=bm h2 Tryz.underlying3
    obtain⟨v3,rfl,ok_v3⟩:=eO h3 Tryz.underlying9
    obtain⟨v4,rfl,ok_v4,oks_v4⟩:=h4
    obtain⟨v5,rfl,ok_v5,oks_v5⟩:=h5
    refine⟨.mk v0 v1 v2 v3 v4 v5,?_,?_⟩
    ·rw[Val.pv_mk]
    ·rw[Val.ok_mk];exact⟨ok_v0,ok_v1,ok_v2,ok_v3,ok_v4,oks_v4,ok_v5,oks_v5⟩
   ·intro h;subst h
    rw[Tryz.underlying97] at hu;cases hu
    rw[Kp] at hl
    obtain⟨c0,c1,c2,c3,c4,c5,c6,rfl⟩:=JN hl
    have h0:=hx 0 _ rfl
    have h1:=(ih 1 _ rfl).1 rfl
    simp only[ew,Dq,C5,KR,Ek,List.drop_zero,List.drop_succ_cons,List.take_succ_cons,List.take_zero,bA,List.headD_cons] at h0 h1
    obtain⟨v0,rfl,ok_v0⟩:=eO h0 Tryz.underlying9
    obtain⟨v1,e1,ok_v1⟩:=h1
    refine⟨.mk v0 v1,?_,?_⟩
    ·rw[Fld.pv_mk];rw[← e1];rfl
    ·rw[Fld.ok_mk];exact⟨ok_v0,ok_v1⟩
   ·intro h;subst h;simp[Tryz.underlying37] at hu
   ·intro h;subst h;simp[Tryz.underlying38] at hu
theorem Cu {p:PV}(h:HasT Tryz.prog 40 p):∃ x:Val,p=x.pv∧x.ok:=(fT h).1 rfl
theorem fU {t:Nat}{p:PV}(h:HasT Tryz.prog t p):(t=29→∃ x:Typ,p=x.pv∧x.ok)∧(t=89→∃ x:TFd,p=x.pv∧x.ok)∧(t=26→∃ l:List Typ,p = .list (l.map Typ.pv)∧l.length*104≤140737488351232∧∀ x∈l,x.ok)∧(t=27→∃ l:List TFd,p = .list (l.map TFd.pv)∧l.length*160≤140737488351232∧∀ x∈l,x.ok):=by
 induction h with
 | bool t b hb=>refine⟨?_,?_,?_,?_⟩<;>(intro h;subst h;simp[Tryz.underlying29,Tryz.underlying89,Tryz.underlying26,Tryz.underlying27] at hb)
 | int t k n hb _=>refine⟨?_,?_,?_,?_⟩<;>(intro h;subst h;simp[Tryz.underlying29,Tryz.underlying89,Tryz.underlying26,Tryz.underlying27] at hb)
 | str t s hb _=>refine⟨?_,?_,?_,?_⟩<;>(intro h;subst h;simp[Tryz.underlying29,Tryz.underlying89,Tryz.underlying26,Tryz.underlying27] at hb)
 | arr t e n cs hb _ _ _=>refine⟨?_,?_,?_,?_⟩<;>(intro h;subst h;simp[Tryz.underlying29,Tryz.underlying89,Tryz.underlying26,Tryz.underlying27] at hb)
 | list t e l hu hl hl2 hx ih=>
   refine⟨?_,?_,?_,?_⟩
   ·intro h;subst h;simp[Tryz.underlying29] at hu
   ·intro h;subst h;simp[Tryz.underlying89] at hu
   ·intro h;subst h
    obtain rfl:=eC hu Tryz.underlying26
    obtain⟨ss,rfl,hlen,hss⟩:=fo (f:=Typ.pv) (Q:=Typ.ok) l (fun i x hi=>(ih i x hi).1 rfl)
    exact⟨ss,rfl,by rw[hlen,← KC];exact hl2,hss⟩
   ·intro h;subst h
    obtain rfl:=eC hu Tryz.underlying27
    obtain⟨ss,rfl,hlen,hss⟩:=fo (f:=TFd.pv) (Q:=TFd.ok) l (fun i x hi=>(ih i x hi).2.1 rfl)
    exact⟨ss,rfl,by rw[hlen,← KB];exact hl2,hss⟩
 | agg t fs cs hu hl hx ih=>
   refine⟨?_,?_,?_,?_⟩
   ·intro h;subst h
    rw[Tryz.underlying29] at hu;cases hu
    rw[yr] at hl
    obtain⟨c0,c1,c2,c3,c4,c5,c6,rfl⟩:=JN hl
    have h0:=hx 0 _ rfl
    have h1:=hx 1 _ rfl
    have h2:=hx 2 _ rfl
    have h3:=hx 3 _ rfl
    have h4:=hx 4 _ rfl
    have h5:=(ih 5 _ rfl).2.2.1 rfl
    have h6:=(ih 6 _ rfl).2.2.2 rfl
    simp only[ew,Dr,C6,KV,Kv,KU,Ku,KT,Kt,List.drop_zero,List.drop_succ_cons,List.take_succ_cons,List.take_zero,bA,List.headD_cons] at h0 h1 h2 h3 h4 h5 h6
    obtain⟨v0,rfl,ok_v0⟩:=bm h0 Tryz.underlying3
    obtain⟨v1,rfl,ok_v1⟩:=bm h1 Tryz.underlying3
    obtain⟨v2,rfl,ok_v2⟩:=bm h2 Tryz.underlying3
    obtain⟨v3,rfl,ok_v3⟩:=bm h3 Tryz.underlying3
    obtain⟨v4,rfl,ok_v4,oks_v4⟩:=oU (f:=PV.str) (Q:=(fun x:List UInt8=>x.length≤140737488351232)) h4 Tryz.underlying25 M7 (fun x hx=>eO hx Tryz.underlying9)
    obtain⟨v5,rfl,ok_v5,oks_v5⟩:=h5
    obtain⟨v6,rfl,ok_v6,oks_v6⟩:=h6
    refine⟨.mk v0 v1 v2 v3 v4 v5 v6,?_,?_⟩
    ·rw[Typ.pv_mk]
    ·rw[Typ.ok_mk];exact⟨ok_v0,ok_v1,ok_v2,ok_v3,ok_v4,oks_v4,ok_v5,oks_v5,ok_v6,oks_v6⟩
   ·intro h;subst h
    rw[Tryz.underlying89] at hu;cases hu
    rw[Kq] at hl
    obtain⟨c0,c1,c2,c3,c4,c5,c6,c7,c8,c9,c10,rfl⟩:=JO hl
    have h0:=hx 0 _ rfl
    have h1:=hx 1 _ rfl
    have h2:=hx 2 _ rfl
    have h3:=(ih 3 _ rfl).1 rfl
    have h4:=hx 4 _ rfl
    simp only[ew,Dr,C6,Dq,C5,Eu,yr,Et,El,List.drop_zero,List.drop_succ_cons,List.take_succ_cons,List.take_zero,bA,List.headD_cons] at h0 h1 h2 h3 h4
    obtain⟨v0,rfl,ok_v0⟩:=bm h0 Tryz.underlying3
    obtain⟨v1,rfl,ok_v1⟩:=eO h1 Tryz.underlying9
    obtain⟨v2,rfl,ok_v2⟩:=bm h2 Tryz.underlying3
    obtain⟨v3,e3,ok_v3⟩:=h3
    obtain⟨v4,rfl,ok_v4,oks_v4⟩:=oU (f:=Val.pv) (Q:=(fun x:Val=>x.ok)) h4 Tryz.underlying37 En (fun x hx=>Cu hx)
    refine⟨.mk v0 v1 v2 v3 v4,?_,?_⟩
    ·rw[TFd.pv_mk];rw[← e3];rfl
    ·rw[TFd.ok_mk];exact⟨ok_v0,ok_v1,ok_v2,ok_v3,ok_v4,oks_v4⟩
   ·intro h;subst h;simp[Tryz.underlying26] at hu
   ·intro h;subst h;simp[Tryz.underlying27] at hu
theorem Cv {p:PV}(h:HasT Tryz.prog 29 p):∃ x:Typ,p=x.pv∧x.ok:=(fU h).1 rfl
theorem Cw {p:PV}(h:HasT Tryz.prog 31 p):∃ x:Sch,p=x.pv∧x.ok:=by
 obtain⟨cs,rfl,hl,hx⟩:=Ct h Tryz.underlying31
 rw[Ks] at hl
 obtain⟨c0,c1,c2,c3,c4,c5,c6,c7,c8,rfl⟩:=MD hl
 have h0:=hx 0 _ rfl
 have h1:=hx 1 _ rfl
 have h2:=hx 2 _ rfl
 simp only[ew,Dr,C6,Dq,C5,Eu,yr,List.drop_zero,List.drop_succ_cons,List.take_succ_cons,List.take_zero,bA,List.headD_cons] at h0 h1 h2
 obtain⟨v0,rfl,ok_v0⟩:=eO h0 Tryz.underlying9
 obtain⟨v1,rfl,ok_v1⟩:=bm h1 Tryz.underlying3
 obtain⟨v2,e2,ok_v2⟩:=Cv h2
 refine⟨.mk v0 v1 v2,?_,?_⟩
 ·rw[Sch.pv_mk];rw[← e2];rfl
 ·rw[Sch.ok_mk];exact⟨ok_v0,ok_v1,ok_v2⟩
end Go.Proofs.YtfepkhlgopjaoaaGreatDoor

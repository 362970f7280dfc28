/- A part. -/
import Derived.KernelRfl
import Derived.Test.YtngchmkoadaecaaGreatDoorProg
import Derived.Test.YtngchmkoadaecaaGreatDoorPbJSh
import Derived.Test.YtngchmkoadaecaaGreatDoorPbF
set_option linter.unusedVariables false
set_option linter.unusedSimpArgs false
set_option maxRecDepth 100000
open List renaming length_append->W0,length_cons->Xa,length_nil->Xn,all_append->XE,all_cons->XI,all_nil->XM,all_eq_true->Xb,drop_zero->XN,drop_succ_cons->XH,take_succ_cons->XC,take_zero->Xy,headD_cons->XU
open Bool renaming and_true->XJ,and_self->X7
namespace Go.Proofs.YtngchmkoadaecaaGreatDoor
open Go Go.Ab
theorem dI {P:Prop}(h:P:=by first | exact OM | (unfold Chk;decide +kernel) | omega | exact RT (by with_unfolding_all rfl) | (simp[ae]<;>omega) | fail):P:=h
theorem qsZ{P:Prop}(h:P:=by simp(maxSteps:=9^7) (disch:=try exact dI) only[push_cast,seval]):P:=h
theorem zgZ{P Q:Prop}(h:Q)(e:P=Q:=by simp(disch:=try exact dI) only[push_cast,seval];rfl):P:=e.mpr h
def I64 (n:Int):Prop:=-9223372036854775808<=n/\n<=9223372036854775807
mutual
inductive Val where
 | mk (kind:Int) (num:Int) (scale:Int) (text:List UInt8) (lst:List Val) (fields:List Fld)
inductive Fld where
 | mk (name:List UInt8) (value:Val)
end
def Val.kind:Val->Int
 | .mk kind _ _ _ _ _=>kind
def Val.num:Val->Int
 | .mk _ num _ _ _ _=>num
def Val.scale:Val->Int
 | .mk _ _ scale _ _ _=>scale
def Val.text:Val->List UInt8
 | .mk _ _ _ text _ _=>text
def Val.lst:Val->List Val
 | .mk _ _ _ _ lst _=>lst
def Val.fields:Val->List Fld
 | .mk _ _ _ _ _ fields=>fields
def Fld.name:Fld->List UInt8
 | .mk name _=>name
def Fld.value:Fld->Val
 | .mk _ value=>value
mutual
def Val.pv:Val->PV
 | .mk kind num scale text lst fields=>.agg ([.int .i64 kind,.int .i64 num,.int .i64 scale,.str text,.list (lst.map Val.pv),.list (fields.map Fld.pv)])
def Fld.pv:Fld->PV
 | .mk name value=>.agg ([.str name]++value.pv.cells)
end
theorem WQ (kind:Int)(num:Int)(scale:Int)(text:List UInt8)(lst:List Val)(fields:List Fld):(Val.mk kind num scale text lst fields).pv = .agg ([.int .i64 kind,.int .i64 num,.int .i64 scale,.str text,.list (lst.map Val.pv),.list (fields.map Fld.pv)]):=by rw[Val.pv]
theorem Wq (name:List UInt8)(value:Val):(Fld.mk name value).pv = .agg ([.str name]++value.pv.cells):=by rw[Fld.pv]
theorem Val.cells_len (x:Val):x.pv.cells.length=6:=by
 obtain⟨kind,num,scale,text,lst,fields⟩:=x
 rw[WQ];simp only[ae,W0,Xa,Xn]
theorem Val.isAgg (x:Val):x.pv.isAgg=true:=by
 obtain⟨kind,num,scale,text,lst,fields⟩:=x
 rw[WQ];rfl
theorem Fld.cells_len (x:Fld):x.pv.cells.length=7:=by
 obtain⟨name,value⟩:=x
 rw[Wq];simp only[ae,W0,Xa,Xn,Val.cells_len]
theorem Fld.isAgg (x:Fld):x.pv.isAgg=true:=by
 obtain⟨name,value⟩:=x
 rw[Wq];rfl
theorem Val.ones (x:Val):(x.pv.cells.all PV.one)=true:=by
 obtain⟨kind,num,scale,text,lst,fields⟩:=x
 rw[WQ];simp only[ae,XE,XI,XM,bP,bQ,bu,bq,XJ,X7]
theorem Val.row (x:Val):∃ cs,x.pv = .agg cs/\cs.length=6/\∀ p∈cs,p.one=true:=by
 have h1:=x.cells_len;have h2:=x.ones;have h3:=x.isAgg
 cases h:x.pv with
 | agg cs=>rw[h] at h1 h2;exact⟨cs,rfl,h1,fun p hp=>Xb.1 h2 p hp⟩
 | _=>rw[h] at h3;cases h3
theorem Fld.ones (x:Fld):(x.pv.cells.all PV.one)=true:=by
 obtain⟨name,value⟩:=x
 rw[Wq];simp only[ae,XE,XI,XM,bP,bQ,bu,bq,XJ,X7,Val.ones]
theorem Fld.row (x:Fld):∃ cs,x.pv = .agg cs/\cs.length=7/\∀ p∈cs,p.one=true:=by
 have h1:=x.cells_len;have h2:=x.ones;have h3:=x.isAgg
 cases h:x.pv with
 | agg cs=>rw[h] at h1 h2;exact⟨cs,rfl,h1,fun p hp=>Xb.1 h2 p hp⟩
 | _=>rw[h] at h3;cases h3
mutual
def Val.ok:Val->Prop
 | .mk kind num scale text lst fields=>I64 kind/\I64 num/\I64 scale/\text.length<=140737488351232/\lst.length*88<=140737488351232/\(∀ x∈lst,x.ok)/\fields.length*104<=140737488351232/\(∀ x∈fields,x.ok)
def Fld.ok:Fld->Prop
 | .mk name value=>name.length<=140737488351232/\value.ok
end
theorem WP (kind:Int)(num:Int)(scale:Int)(text:List UInt8)(lst:List Val)(fields:List Fld):(Val.mk kind num scale text lst fields).ok=(I64 kind/\I64 num/\I64 scale/\text.length<=140737488351232/\lst.length*88<=140737488351232/\(∀ x∈lst,x.ok)/\fields.length*104<=140737488351232/\(∀ x∈fields,x.ok)):=by rw[Val.ok]
theorem Wp (name:List UInt8)(value:Val):(Fld.mk name value).ok=(name.length<=140737488351232/\value.ok):=by rw[Fld.ok]
mutual
inductive Typ where
 | mk (kind:Int) (min:Int) (max:Int) (scale:Int) (words:List (List UInt8)) (elem:List Typ) (fields:List TFd)
inductive TFd where
 | mk (number:Int) (name:List UInt8) (need:Int) (typ:Typ) (dflt:List Val)
end
def Typ.kind:Typ->Int
 | .mk kind _ _ _ _ _ _=>kind
def Typ.min:Typ->Int
 | .mk _ min _ _ _ _ _=>min
def Typ.max:Typ->Int
 | .mk _ _ max _ _ _ _=>max
def Typ.scale:Typ->Int
 | .mk _ _ _ scale _ _ _=>scale
def Typ.words:Typ->List (List UInt8)
 | .mk _ _ _ _ words _ _=>words
def Typ.elem:Typ->List Typ
 | .mk _ _ _ _ _ elem _=>elem
def Typ.fields:Typ->List TFd
 | .mk _ _ _ _ _ _ fields=>fields
def TFd.number:TFd->Int
 | .mk number _ _ _ _=>number
def TFd.name:TFd->List UInt8
 | .mk _ name _ _ _=>name
def TFd.need:TFd->Int
 | .mk _ _ need _ _=>need
def TFd.typ:TFd->Typ
 | .mk _ _ _ typ _=>typ
def TFd.dflt:TFd->List Val
 | .mk _ _ _ _ dflt=>dflt
mutual
def Typ.pv:Typ->PV
 | .mk kind min max scale words elem fields=>.agg ([.int .i64 kind,.int .i64 min,.int .i64 max,.int .i64 scale,.list (words.map PV.str),.list (elem.map Typ.pv),.list (fields.map TFd.pv)])
def TFd.pv:TFd->PV
 | .mk number name need typ dflt=>.agg ([.int .i64 number,.str name,.int .i64 need]++typ.pv.cells++[.list (dflt.map Val.pv)])
end
theorem WO (kind:Int)(min:Int)(max:Int)(scale:Int)(words:List (List UInt8))(elem:List Typ)(fields:List TFd):(Typ.mk kind min max scale words elem fields).pv = .agg ([.int .i64 kind,.int .i64 min,.int .i64 max,.int .i64 scale,.list (words.map PV.str),.list (elem.map Typ.pv),.list (fields.map TFd.pv)]):=by rw[Typ.pv]
theorem WJ (number:Int)(name:List UInt8)(need:Int)(typ:Typ)(dflt:List Val):(TFd.mk number name need typ dflt).pv = .agg ([.int .i64 number,.str name,.int .i64 need]++typ.pv.cells++[.list (dflt.map Val.pv)]):=by rw[TFd.pv]
theorem Typ.cells_len (x:Typ):x.pv.cells.length=7:=by
 obtain⟨kind,min,max,scale,words,elem,fields⟩:=x
 rw[WO];simp only[ae,W0,Xa,Xn]
theorem Typ.isAgg (x:Typ):x.pv.isAgg=true:=by
 obtain⟨kind,min,max,scale,words,elem,fields⟩:=x
 rw[WO];rfl
theorem TFd.cells_len (x:TFd):x.pv.cells.length=11:=by
 obtain⟨number,name,need,typ,dflt⟩:=x
 rw[WJ];simp only[ae,W0,Xa,Xn,Typ.cells_len]
theorem TFd.isAgg (x:TFd):x.pv.isAgg=true:=by
 obtain⟨number,name,need,typ,dflt⟩:=x
 rw[WJ];rfl
theorem Typ.ones (x:Typ):(x.pv.cells.all PV.one)=true:=by
 obtain⟨kind,min,max,scale,words,elem,fields⟩:=x
 rw[WO];simp only[ae,XE,XI,XM,bP,bQ,bu,bq,XJ,X7]
theorem Typ.row (x:Typ):∃ cs,x.pv = .agg cs/\cs.length=7/\∀ p∈cs,p.one=true:=by
 have h1:=x.cells_len;have h2:=x.ones;have h3:=x.isAgg
 cases h:x.pv with
 | agg cs=>rw[h] at h1 h2;exact⟨cs,rfl,h1,fun p hp=>Xb.1 h2 p hp⟩
 | _=>rw[h] at h3;cases h3
theorem TFd.ones (x:TFd):(x.pv.cells.all PV.one)=true:=by
 obtain⟨number,name,need,typ,dflt⟩:=x
 rw[WJ];simp only[ae,XE,XI,XM,bP,bQ,bu,bq,XJ,X7,Typ.ones]
theorem TFd.row (x:TFd):∃ cs,x.pv = .agg cs/\cs.length=11/\∀ p∈cs,p.one=true:=by
 have h1:=x.cells_len;have h2:=x.ones;have h3:=x.isAgg
 cases h:x.pv with
 | agg cs=>rw[h] at h1 h2;exact⟨cs,rfl,h1,fun p hp=>Xb.1 h2 p hp⟩
 | _=>rw[h] at h3;cases h3
mutual
def Typ.ok:Typ->Prop
 | .mk kind min max scale words elem fields=>I64 kind/\I64 min/\I64 max/\I64 scale/\words.length*16<=140737488351232/\(∀ x∈words,x.length<=140737488351232)/\elem.length*104<=140737488351232/\(∀ x∈elem,x.ok)/\fields.length*160<=140737488351232/\(∀ x∈fields,x.ok)
def TFd.ok:TFd->Prop
 | .mk number name need typ dflt=>I64 number/\name.length<=140737488351232/\I64 need/\typ.ok/\dflt.length*88<=140737488351232/\(∀ x∈dflt,x.ok)
end
theorem WN (kind:Int)(min:Int)(max:Int)(scale:Int)(words:List (List UInt8))(elem:List Typ)(fields:List TFd):(Typ.mk kind min max scale words elem fields).ok=(I64 kind/\I64 min/\I64 max/\I64 scale/\words.length*16<=140737488351232/\(∀ x∈words,x.length<=140737488351232)/\elem.length*104<=140737488351232/\(∀ x∈elem,x.ok)/\fields.length*160<=140737488351232/\(∀ x∈fields,x.ok)):=by rw[Typ.ok]
theorem WI (number:Int)(name:List UInt8)(need:Int)(typ:Typ)(dflt:List Val):(TFd.mk number name need typ dflt).ok=(I64 number/\name.length<=140737488351232/\I64 need/\typ.ok/\dflt.length*88<=140737488351232/\(∀ x∈dflt,x.ok)):=by rw[TFd.ok]
inductive Exp where
 | mk (op:Int) (num:Int) (text:List UInt8) (value:List Val) (args:List Exp)
def Exp.op:Exp->Int
 | .mk op _ _ _ _=>op
def Exp.num:Exp->Int
 | .mk _ num _ _ _=>num
def Exp.text:Exp->List UInt8
 | .mk _ _ text _ _=>text
def Exp.value:Exp->List Val
 | .mk _ _ _ value _=>value
def Exp.args:Exp->List Exp
 | .mk _ _ _ _ args=>args
def Exp.pv:Exp->PV
 | .mk op num text value args=>.agg ([.int .i64 op,.int .i64 num,.str text,.list (value.map Val.pv),.list (args.map Exp.pv)])
theorem Wo (op:Int)(num:Int)(text:List UInt8)(value:List Val)(args:List Exp):(Exp.mk op num text value args).pv = .agg ([.int .i64 op,.int .i64 num,.str text,.list (value.map Val.pv),.list (args.map Exp.pv)]):=by rw[Exp.pv]
theorem Exp.cells_len (x:Exp):x.pv.cells.length=5:=by
 obtain⟨op,num,text,value,args⟩:=x
 rw[Wo];simp only[ae,W0,Xa,Xn]
theorem Exp.isAgg (x:Exp):x.pv.isAgg=true:=by
 obtain⟨op,num,text,value,args⟩:=x
 rw[Wo];rfl
theorem Exp.ones (x:Exp):(x.pv.cells.all PV.one)=true:=by
 obtain⟨op,num,text,value,args⟩:=x
 rw[Wo];simp only[ae,XE,XI,XM,bP,bQ,bu,bq,XJ,X7]
theorem Exp.row (x:Exp):∃ cs,x.pv = .agg cs/\cs.length=5/\∀ p∈cs,p.one=true:=by
 have h1:=x.cells_len;have h2:=x.ones;have h3:=x.isAgg
 cases h:x.pv with
 | agg cs=>rw[h] at h1 h2;exact⟨cs,rfl,h1,fun p hp=>Xb.1 h2 p hp⟩
 | _=>rw[h] at h3;cases h3
def Exp.ok:Exp->Prop
 | .mk op num text value args=>I64 op/\I64 num/\text.length<=140737488351232/\value.length*88<=140737488351232/\(∀ x∈value,x.ok)/\args.length*80<=140737488351232/\(∀ x∈args,x.ok)
theorem Wn (op:Int)(num:Int)(text:List UInt8)(value:List Val)(args:List Exp):(Exp.mk op num text value args).ok=(I64 op/\I64 num/\text.length<=140737488351232/\value.length*88<=140737488351232/\(∀ x∈value,x.ok)/\args.length*80<=140737488351232/\(∀ x∈args,x.ok)):=by rw[Exp.ok]
inductive Rul where
 | mk (target:List UInt8) (expr:Exp)
def Rul.target:Rul->List UInt8
 | .mk target _=>target
def Rul.expr:Rul->Exp
 | .mk _ expr=>expr
def Rul.pv:Rul->PV
 | .mk target expr=>.agg ([.str target]++expr.pv.cells)
theorem WA (target:List UInt8)(expr:Exp):(Rul.mk target expr).pv = .agg ([.str target]++expr.pv.cells):=by rw[Rul.pv]
theorem Rul.cells_len (x:Rul):x.pv.cells.length=6:=by
 obtain⟨target,expr⟩:=x
 rw[WA];simp only[ae,W0,Xa,Xn,Exp.cells_len]
theorem Rul.isAgg (x:Rul):x.pv.isAgg=true:=by
 obtain⟨target,expr⟩:=x
 rw[WA];rfl
theorem Rul.ones (x:Rul):(x.pv.cells.all PV.one)=true:=by
 obtain⟨target,expr⟩:=x
 rw[WA];simp only[ae,XE,XI,XM,bP,bQ,bu,bq,XJ,X7,Exp.ones]
theorem Rul.row (x:Rul):∃ cs,x.pv = .agg cs/\cs.length=6/\∀ p∈cs,p.one=true:=by
 have h1:=x.cells_len;have h2:=x.ones;have h3:=x.isAgg
 cases h:x.pv with
 | agg cs=>rw[h] at h1 h2;exact⟨cs,rfl,h1,fun p hp=>Xb.1 h2 p hp⟩
 | _=>rw[h] at h3;cases h3
def Rul.ok:Rul->Prop
 | .mk target expr=>target.length<=140737488351232/\expr.ok
theorem Wz (target:List UInt8)(expr:Exp):(Rul.mk target expr).ok=(target.length<=140737488351232/\expr.ok):=by rw[Rul.ok]
inductive Cal where
 | mk (service:List UInt8) (mapping:List Rul)
def Cal.service:Cal->List UInt8
 | .mk service _=>service
def Cal.mapping:Cal->List Rul
 | .mk _ mapping=>mapping
def Cal.pv:Cal->PV
 | .mk service mapping=>.agg ([.str service,.list (mapping.map Rul.pv)])
theorem Wj (service:List UInt8)(mapping:List Rul):(Cal.mk service mapping).pv = .agg ([.str service,.list (mapping.map Rul.pv)]):=by rw[Cal.pv]
theorem Cal.cells_len (x:Cal):x.pv.cells.length=2:=by
 obtain⟨service,mapping⟩:=x
 rw[Wj];simp only[ae,W0,Xa,Xn]
theorem Cal.isAgg (x:Cal):x.pv.isAgg=true:=by
 obtain⟨service,mapping⟩:=x
 rw[Wj];rfl
theorem Cal.ones (x:Cal):(x.pv.cells.all PV.one)=true:=by
 obtain⟨service,mapping⟩:=x
 rw[Wj];simp only[ae,XE,XI,XM,bP,bQ,bu,bq,XJ,X7]
theorem Cal.row (x:Cal):∃ cs,x.pv = .agg cs/\cs.length=2/\∀ p∈cs,p.one=true:=by
 have h1:=x.cells_len;have h2:=x.ones;have h3:=x.isAgg
 cases h:x.pv with
 | agg cs=>rw[h] at h1 h2;exact⟨cs,rfl,h1,fun p hp=>Xb.1 h2 p hp⟩
 | _=>rw[h] at h3;cases h3
def Cal.ok:Cal->Prop
 | .mk service mapping=>service.length<=140737488351232/\mapping.length*96<=140737488351232/\(∀ x∈mapping,x.ok)
theorem Wi (service:List UInt8)(mapping:List Rul):(Cal.mk service mapping).ok=(service.length<=140737488351232/\mapping.length*96<=140737488351232/\(∀ x∈mapping,x.ok)):=by rw[Cal.ok]
mutual
inductive Bra where
 | mk (when:List Exp) (steps:List Stp)
inductive Stp where
 | mk (name:List UInt8) (kind:Int) (number:Int) (time:Int) (limit:Int) (text:List UInt8) (schema:List UInt8) (exprs:List Exp) (mapping:List Rul) (calls:List Cal) (branches:List Bra)
end
def Bra.when:Bra->List Exp
 | .mk when _=>when
def Bra.steps:Bra->List Stp
 | .mk _ steps=>steps
def Stp.name:Stp->List UInt8
 | .mk name _ _ _ _ _ _ _ _ _ _=>name
def Stp.kind:Stp->Int
 | .mk _ kind _ _ _ _ _ _ _ _ _=>kind
def Stp.number:Stp->Int
 | .mk _ _ number _ _ _ _ _ _ _ _=>number
def Stp.time:Stp->Int
 | .mk _ _ _ time _ _ _ _ _ _ _=>time
def Stp.limit:Stp->Int
 | .mk _ _ _ _ limit _ _ _ _ _ _=>limit
def Stp.text:Stp->List UInt8
 | .mk _ _ _ _ _ text _ _ _ _ _=>text
def Stp.schema:Stp->List UInt8
 | .mk _ _ _ _ _ _ schema _ _ _ _=>schema
def Stp.exprs:Stp->List Exp
 | .mk _ _ _ _ _ _ _ exprs _ _ _=>exprs
def Stp.mapping:Stp->List Rul
 | .mk _ _ _ _ _ _ _ _ mapping _ _=>mapping
def Stp.calls:Stp->List Cal
 | .mk _ _ _ _ _ _ _ _ _ calls _=>calls
def Stp.branches:Stp->List Bra
 | .mk _ _ _ _ _ _ _ _ _ _ branches=>branches
mutual
def Bra.pv:Bra->PV
 | .mk when steps=>.agg ([.list (when.map Exp.pv),.list (steps.map Stp.pv)])
def Stp.pv:Stp->PV
 | .mk name kind number time limit text schema exprs mapping calls branches=>.agg ([.str name,.int .i64 kind,.int .i64 number,.int .i64 time,.int .i64 limit,.str text,.str schema,.list (exprs.map Exp.pv),.list (mapping.map Rul.pv),.list (calls.map Cal.pv),.list (branches.map Bra.pv)])
end
theorem Wh (when:List Exp)(steps:List Stp):(Bra.mk when steps).pv = .agg ([.list (when.map Exp.pv),.list (steps.map Stp.pv)]):=by rw[Bra.pv]
theorem WF (name:List UInt8)(kind:Int)(number:Int)(time:Int)(limit:Int)(text:List UInt8)(schema:List UInt8)(exprs:List Exp)(mapping:List Rul)(calls:List Cal)(branches:List Bra):(Stp.mk name kind number time limit text schema exprs mapping calls branches).pv = .agg ([.str name,.int .i64 kind,.int .i64 number,.int .i64 time,.int .i64 limit,.str text,.str schema,.list (exprs.map Exp.pv),.list (mapping.map Rul.pv),.list (calls.map Cal.pv),.list (branches.map Bra.pv)]):=by rw[Stp.pv]
theorem Bra.cells_len (x:Bra):x.pv.cells.length=2:=by
 obtain⟨when,steps⟩:=x
 rw[Wh];simp only[ae,W0,Xa,Xn]
theorem Bra.isAgg (x:Bra):x.pv.isAgg=true:=by
 obtain⟨when,steps⟩:=x
 rw[Wh];rfl
theorem Stp.cells_len (x:Stp):x.pv.cells.length=11:=by
 obtain⟨name,kind,number,time,limit,text,schema,exprs,mapping,calls,branches⟩:=x
 rw[WF];simp only[ae,W0,Xa,Xn]
theorem Stp.isAgg (x:Stp):x.pv.isAgg=true:=by
 obtain⟨name,kind,number,time,limit,text,schema,exprs,mapping,calls,branches⟩:=x
 rw[WF];rfl
theorem Bra.ones (x:Bra):(x.pv.cells.all PV.one)=true:=by
 obtain⟨when,steps⟩:=x
 rw[Wh];simp only[ae,XE,XI,XM,bP,bQ,bu,bq,XJ,X7]
theorem Bra.row (x:Bra):∃ cs,x.pv = .agg cs/\cs.length=2/\∀ p∈cs,p.one=true:=by
 have h1:=x.cells_len;have h2:=x.ones;have h3:=x.isAgg
 cases h:x.pv with
 | agg cs=>rw[h] at h1 h2;exact⟨cs,rfl,h1,fun p hp=>Xb.1 h2 p hp⟩
 | _=>rw[h] at h3;cases h3
theorem Stp.ones (x:Stp):(x.pv.cells.all PV.one)=true:=by
 obtain⟨name,kind,number,time,limit,text,schema,exprs,mapping,calls,branches⟩:=x
 rw[WF];simp only[ae,XE,XI,XM,bP,bQ,bu,bq,XJ,X7]
theorem Stp.row (x:Stp):∃ cs,x.pv = .agg cs/\cs.length=11/\∀ p∈cs,p.one=true:=by
 have h1:=x.cells_len;have h2:=x.ones;have h3:=x.isAgg
 cases h:x.pv with
 | agg cs=>rw[h] at h1 h2;exact⟨cs,rfl,h1,fun p hp=>Xb.1 h2 p hp⟩
 | _=>rw[h] at h3;cases h3
mutual
def Bra.ok:Bra->Prop
 | .mk when steps=>when.length*80<=140737488351232/\(∀ x∈when,x.ok)/\steps.length*176<=140737488351232/\(∀ x∈steps,x.ok)
def Stp.ok:Stp->Prop
 | .mk name kind number time limit text schema exprs mapping calls branches=>name.length<=140737488351232/\I64 kind/\I64 number/\I64 time/\I64 limit/\text.length<=140737488351232/\schema.length<=140737488351232/\exprs.length*80<=140737488351232/\(∀ x∈exprs,x.ok)/\mapping.length*96<=140737488351232/\(∀ x∈mapping,x.ok)/\calls.length*40<=140737488351232/\(∀ x∈calls,x.ok)/\branches.length*48<=140737488351232/\(∀ x∈branches,x.ok)
end
theorem Wg (when:List Exp)(steps:List Stp):(Bra.mk when steps).ok=(when.length*80<=140737488351232/\(∀ x∈when,x.ok)/\steps.length*176<=140737488351232/\(∀ x∈steps,x.ok)):=by rw[Bra.ok]
theorem WE (name:List UInt8)(kind:Int)(number:Int)(time:Int)(limit:Int)(text:List UInt8)(schema:List UInt8)(exprs:List Exp)(mapping:List Rul)(calls:List Cal)(branches:List Bra):(Stp.mk name kind number time limit text schema exprs mapping calls branches).ok=(name.length<=140737488351232/\I64 kind/\I64 number/\I64 time/\I64 limit/\text.length<=140737488351232/\schema.length<=140737488351232/\exprs.length*80<=140737488351232/\(∀ x∈exprs,x.ok)/\mapping.length*96<=140737488351232/\(∀ x∈mapping,x.ok)/\calls.length*40<=140737488351232/\(∀ x∈calls,x.ok)/\branches.length*48<=140737488351232/\(∀ x∈branches,x.ok)):=by rw[Stp.ok]
inductive Sch where
 | mk (name:List UInt8) (version:Int) (typ:Typ)
def Sch.name:Sch->List UInt8
 | .mk name _ _=>name
def Sch.version:Sch->Int
 | .mk _ version _=>version
def Sch.typ:Sch->Typ
 | .mk _ _ typ=>typ
def Sch.pv:Sch->PV
 | .mk name version typ=>.agg ([.str name,.int .i64 version]++typ.pv.cells)
theorem WD (name:List UInt8)(version:Int)(typ:Typ):(Sch.mk name version typ).pv = .agg ([.str name,.int .i64 version]++typ.pv.cells):=by rw[Sch.pv]
theorem Sch.cells_len (x:Sch):x.pv.cells.length=9:=by
 obtain⟨name,version,typ⟩:=x
 rw[WD];simp only[ae,W0,Xa,Xn,Typ.cells_len]
theorem Sch.isAgg (x:Sch):x.pv.isAgg=true:=by
 obtain⟨name,version,typ⟩:=x
 rw[WD];rfl
theorem Sch.ones (x:Sch):(x.pv.cells.all PV.one)=true:=by
 obtain⟨name,version,typ⟩:=x
 rw[WD];simp only[ae,XE,XI,XM,bP,bQ,bu,bq,XJ,X7,Typ.ones]
theorem Sch.row (x:Sch):∃ cs,x.pv = .agg cs/\cs.length=9/\∀ p∈cs,p.one=true:=by
 have h1:=x.cells_len;have h2:=x.ones;have h3:=x.isAgg
 cases h:x.pv with
 | agg cs=>rw[h] at h1 h2;exact⟨cs,rfl,h1,fun p hp=>Xb.1 h2 p hp⟩
 | _=>rw[h] at h3;cases h3
def Sch.ok:Sch->Prop
 | .mk name version typ=>name.length<=140737488351232/\I64 version/\typ.ok
theorem WC (name:List UInt8)(version:Int)(typ:Typ):(Sch.mk name version typ).ok=(name.length<=140737488351232/\I64 version/\typ.ok):=by rw[Sch.ok]
inductive Fmt where
 | mk (kind:Int) (separator:Int) (widths:List Int)
def Fmt.kind:Fmt->Int
 | .mk kind _ _=>kind
def Fmt.separator:Fmt->Int
 | .mk _ separator _=>separator
def Fmt.widths:Fmt->List Int
 | .mk _ _ widths=>widths
def Fmt.pv:Fmt->PV
 | .mk kind separator widths=>.agg ([.int .i64 kind,.int .i64 separator,.list (widths.map (PV.int .i64))])
theorem Ws (kind:Int)(separator:Int)(widths:List Int):(Fmt.mk kind separator widths).pv = .agg ([.int .i64 kind,.int .i64 separator,.list (widths.map (PV.int .i64))]):=by rw[Fmt.pv]
theorem Fmt.cells_len (x:Fmt):x.pv.cells.length=3:=by
 obtain⟨kind,separator,widths⟩:=x
 rw[Ws];simp only[ae,W0,Xa,Xn]
theorem Fmt.isAgg (x:Fmt):x.pv.isAgg=true:=by
 obtain⟨kind,separator,widths⟩:=x
 rw[Ws];rfl
theorem Fmt.ones (x:Fmt):(x.pv.cells.all PV.one)=true:=by
 obtain⟨kind,separator,widths⟩:=x
 rw[Ws];simp only[ae,XE,XI,XM,bP,bQ,bu,bq,XJ,X7]
theorem Fmt.row (x:Fmt):∃ cs,x.pv = .agg cs/\cs.length=3/\∀ p∈cs,p.one=true:=by
 have h1:=x.cells_len;have h2:=x.ones;have h3:=x.isAgg
 cases h:x.pv with
 | agg cs=>rw[h] at h1 h2;exact⟨cs,rfl,h1,fun p hp=>Xb.1 h2 p hp⟩
 | _=>rw[h] at h3;cases h3
def Fmt.ok:Fmt->Prop
 | .mk kind separator widths=>I64 kind/\I64 separator/\widths.length*8<=140737488351232/\(∀ x∈widths,I64 x)
theorem Wr (kind:Int)(separator:Int)(widths:List Int):(Fmt.mk kind separator widths).ok=(I64 kind/\I64 separator/\widths.length*8<=140737488351232/\(∀ x∈widths,I64 x)):=by rw[Fmt.ok]
inductive Enp where
 | mk (name:List UInt8) (kind:Int) (schema:List UInt8) (version:Int) (format:Fmt)
def Enp.name:Enp->List UInt8
 | .mk name _ _ _ _=>name
def Enp.kind:Enp->Int
 | .mk _ kind _ _ _=>kind
def Enp.schema:Enp->List UInt8
 | .mk _ _ schema _ _=>schema
def Enp.version:Enp->Int
 | .mk _ _ _ version _=>version
def Enp.format:Enp->Fmt
 | .mk _ _ _ _ format=>format
def Enp.pv:Enp->PV
 | .mk name kind schema version format=>.agg ([.str name,.int .i64 kind,.str schema,.int .i64 version]++format.pv.cells)
theorem Wm (name:List UInt8)(kind:Int)(schema:List UInt8)(version:Int)(format:Fmt):(Enp.mk name kind schema version format).pv = .agg ([.str name,.int .i64 kind,.str schema,.int .i64 version]++format.pv.cells):=by rw[Enp.pv]
theorem Enp.cells_len (x:Enp):x.pv.cells.length=7:=by
 obtain⟨name,kind,schema,version,format⟩:=x
 rw[Wm];simp only[ae,W0,Xa,Xn,Fmt.cells_len]
theorem Enp.isAgg (x:Enp):x.pv.isAgg=true:=by
 obtain⟨name,kind,schema,version,format⟩:=x
 rw[Wm];rfl
theorem Enp.ones (x:Enp):(x.pv.cells.all PV.one)=true:=by
 obtain⟨name,kind,schema,version,format⟩:=x
 rw[Wm];simp only[ae,XE,XI,XM,bP,bQ,bu,bq,XJ,X7,Fmt.ones]
theorem Enp.row (x:Enp):∃ cs,x.pv = .agg cs/\cs.length=7/\∀ p∈cs,p.one=true:=by
 have h1:=x.cells_len;have h2:=x.ones;have h3:=x.isAgg
 cases h:x.pv with
 | agg cs=>rw[h] at h1 h2;exact⟨cs,rfl,h1,fun p hp=>Xb.1 h2 p hp⟩
 | _=>rw[h] at h3;cases h3
def Enp.ok:Enp->Prop
 | .mk name kind schema version format=>name.length<=140737488351232/\I64 kind/\schema.length<=140737488351232/\I64 version/\format.ok
theorem Wl (name:List UInt8)(kind:Int)(schema:List UInt8)(version:Int)(format:Fmt):(Enp.mk name kind schema version format).ok=(name.length<=140737488351232/\I64 kind/\schema.length<=140737488351232/\I64 version/\format.ok):=by rw[Enp.ok]
inductive Svc where
 | mk (name:List UInt8) (request:List UInt8) (reply:List UInt8) (undo:Bool)
def Svc.name:Svc->List UInt8
 | .mk name _ _ _=>name
def Svc.request:Svc->List UInt8
 | .mk _ request _ _=>request
def Svc.reply:Svc->List UInt8
 | .mk _ _ reply _=>reply
def Svc.undo:Svc->Bool
 | .mk _ _ _ undo=>undo
def Svc.pv:Svc->PV
 | .mk name request reply undo=>.agg ([.str name,.str request,.str reply,.bool undo])
theorem WH (name:List UInt8)(request:List UInt8)(reply:List UInt8)(undo:Bool):(Svc.mk name request reply undo).pv = .agg ([.str name,.str request,.str reply,.bool undo]):=by rw[Svc.pv]
theorem Svc.cells_len (x:Svc):x.pv.cells.length=4:=by
 obtain⟨name,request,reply,undo⟩:=x
 rw[WH];simp only[ae,W0,Xa,Xn]
theorem Svc.isAgg (x:Svc):x.pv.isAgg=true:=by
 obtain⟨name,request,reply,undo⟩:=x
 rw[WH];rfl
theorem Svc.ones (x:Svc):(x.pv.cells.all PV.one)=true:=by
 obtain⟨name,request,reply,undo⟩:=x
 rw[WH];simp only[ae,XE,XI,XM,bP,bQ,bu,bq,XJ,X7]
theorem Svc.row (x:Svc):∃ cs,x.pv = .agg cs/\cs.length=4/\∀ p∈cs,p.one=true:=by
 have h1:=x.cells_len;have h2:=x.ones;have h3:=x.isAgg
 cases h:x.pv with
 | agg cs=>rw[h] at h1 h2;exact⟨cs,rfl,h1,fun p hp=>Xb.1 h2 p hp⟩
 | _=>rw[h] at h3;cases h3
def Svc.ok:Svc->Prop
 | .mk name request reply undo=>name.length<=140737488351232/\request.length<=140737488351232/\reply.length<=140737488351232
theorem WG (name:List UInt8)(request:List UInt8)(reply:List UInt8)(undo:Bool):(Svc.mk name request reply undo).ok=(name.length<=140737488351232/\request.length<=140737488351232/\reply.length<=140737488351232):=by rw[Svc.ok]
inductive Rou where
 | mk (name:List UInt8) (src:List UInt8) (steps:List Stp)
def Rou.name:Rou->List UInt8
 | .mk name _ _=>name
def Rou.src:Rou->List UInt8
 | .mk _ src _=>src
def Rou.steps:Rou->List Stp
 | .mk _ _ steps=>steps
def Rou.pv:Rou->PV
 | .mk name src steps=>.agg ([.str name,.str src,.list (steps.map Stp.pv)])
theorem Wy (name:List UInt8)(src:List UInt8)(steps:List Stp):(Rou.mk name src steps).pv = .agg ([.str name,.str src,.list (steps.map Stp.pv)]):=by rw[Rou.pv]
theorem Rou.cells_len (x:Rou):x.pv.cells.length=3:=by
 obtain⟨name,src,steps⟩:=x
 rw[Wy];simp only[ae,W0,Xa,Xn]
theorem Rou.isAgg (x:Rou):x.pv.isAgg=true:=by
 obtain⟨name,src,steps⟩:=x
 rw[Wy];rfl
theorem Rou.ones (x:Rou):(x.pv.cells.all PV.one)=true:=by
 obtain⟨name,src,steps⟩:=x
 rw[Wy];simp only[ae,XE,XI,XM,bP,bQ,bu,bq,XJ,X7]
theorem Rou.row (x:Rou):∃ cs,x.pv = .agg cs/\cs.length=3/\∀ p∈cs,p.one=true:=by
 have h1:=x.cells_len;have h2:=x.ones;have h3:=x.isAgg
 cases h:x.pv with
 | agg cs=>rw[h] at h1 h2;exact⟨cs,rfl,h1,fun p hp=>Xb.1 h2 p hp⟩
 | _=>rw[h] at h3;cases h3
def Rou.ok:Rou->Prop
 | .mk name src steps=>name.length<=140737488351232/\src.length<=140737488351232/\steps.length*176<=140737488351232/\(∀ x∈steps,x.ok)
theorem Ww (name:List UInt8)(src:List UInt8)(steps:List Stp):(Rou.mk name src steps).ok=(name.length<=140737488351232/\src.length<=140737488351232/\steps.length*176<=140737488351232/\(∀ x∈steps,x.ok)):=by rw[Rou.ok]
inductive Prg where
 | mk (version:Int) (schemas:List Sch) (endpoints:List Enp) (services:List Svc) (routes:List Rou)
def Prg.version:Prg->Int
 | .mk version _ _ _ _=>version
def Prg.schemas:Prg->List Sch
 | .mk _ schemas _ _ _=>schemas
def Prg.endpoints:Prg->List Enp
 | .mk _ _ endpoints _ _=>endpoints
def Prg.services:Prg->List Svc
 | .mk _ _ _ services _=>services
def Prg.routes:Prg->List Rou
 | .mk _ _ _ _ routes=>routes
def Prg.pv:Prg->PV
 | .mk version schemas endpoints services routes=>.agg ([.int .i64 version,.list (schemas.map Sch.pv),.list (endpoints.map Enp.pv),.list (services.map Svc.pv),.list (routes.map Rou.pv)])
theorem Wv (version:Int)(schemas:List Sch)(endpoints:List Enp)(services:List Svc)(routes:List Rou):(Prg.mk version schemas endpoints services routes).pv = .agg ([.int .i64 version,.list (schemas.map Sch.pv),.list (endpoints.map Enp.pv),.list (services.map Svc.pv),.list (routes.map Rou.pv)]):=by rw[Prg.pv]
theorem Prg.cells_len (x:Prg):x.pv.cells.length=5:=by
 obtain⟨version,schemas,endpoints,services,routes⟩:=x
 rw[Wv];simp only[ae,W0,Xa,Xn]
theorem Prg.isAgg (x:Prg):x.pv.isAgg=true:=by
 obtain⟨version,schemas,endpoints,services,routes⟩:=x
 rw[Wv];rfl
theorem Prg.ones (x:Prg):(x.pv.cells.all PV.one)=true:=by
 obtain⟨version,schemas,endpoints,services,routes⟩:=x
 rw[Wv];simp only[ae,XE,XI,XM,bP,bQ,bu,bq,XJ,X7]
theorem Prg.row (x:Prg):∃ cs,x.pv = .agg cs/\cs.length=5/\∀ p∈cs,p.one=true:=by
 have h1:=x.cells_len;have h2:=x.ones;have h3:=x.isAgg
 cases h:x.pv with
 | agg cs=>rw[h] at h1 h2;exact⟨cs,rfl,h1,fun p hp=>Xb.1 h2 p hp⟩
 | _=>rw[h] at h3;cases h3
def Prg.ok:Prg->Prop
 | .mk version schemas endpoints services routes=>I64 version/\schemas.length*128<=140737488351232/\(∀ x∈schemas,x.ok)/\endpoints.length*88<=140737488351232/\(∀ x∈endpoints,x.ok)/\services.length*56<=140737488351232/\(∀ x∈services,x.ok)/\routes.length*56<=140737488351232/\(∀ x∈routes,x.ok)
theorem Wu (version:Int)(schemas:List Sch)(endpoints:List Enp)(services:List Svc)(routes:List Rou):(Prg.mk version schemas endpoints services routes).ok=(I64 version/\schemas.length*128<=140737488351232/\(∀ x∈schemas,x.ok)/\endpoints.length*88<=140737488351232/\(∀ x∈endpoints,x.ok)/\services.length*56<=140737488351232/\(∀ x∈services,x.ok)/\routes.length*56<=140737488351232/\(∀ x∈routes,x.ok)):=by rw[Prg.ok]
inductive Prb where
 | mk (code:Int) (route:List UInt8) (place:List Int) (name:List UInt8)
def Prb.code:Prb->Int
 | .mk code _ _ _=>code
def Prb.route:Prb->List UInt8
 | .mk _ route _ _=>route
def Prb.place:Prb->List Int
 | .mk _ _ place _=>place
def Prb.name:Prb->List UInt8
 | .mk _ _ _ name=>name
def Prb.pv:Prb->PV
 | .mk code route place name=>.agg ([.int .i64 code,.str route,.list (place.map (PV.int .i64)),.str name])
theorem Wt (code:Int)(route:List UInt8)(place:List Int)(name:List UInt8):(Prb.mk code route place name).pv = .agg ([.int .i64 code,.str route,.list (place.map (PV.int .i64)),.str name]):=by rw[Prb.pv]
theorem Prb.cells_len (x:Prb):x.pv.cells.length=4:=by
 obtain⟨code,route,place,name⟩:=x
 rw[Wt];simp only[ae,W0,Xa,Xn]
theorem Prb.isAgg (x:Prb):x.pv.isAgg=true:=by
 obtain⟨code,route,place,name⟩:=x
 rw[Wt];rfl
theorem Prb.ones (x:Prb):(x.pv.cells.all PV.one)=true:=by
 obtain⟨code,route,place,name⟩:=x
 rw[Wt];simp only[ae,XE,XI,XM,bP,bQ,bu,bq,XJ,X7]
theorem Prb.row (x:Prb):∃ cs,x.pv = .agg cs/\cs.length=4/\∀ p∈cs,p.one=true:=by
 have h1:=x.cells_len;have h2:=x.ones;have h3:=x.isAgg
 cases h:x.pv with
 | agg cs=>rw[h] at h1 h2;exact⟨cs,rfl,h1,fun p hp=>Xb.1 h2 p hp⟩
 | _=>rw[h] at h3;cases h3
def Prb.ok:Prb->Prop
 | .mk code route place name=>I64 code/\route.length<=140737488351232/\place.length*8<=140737488351232/\(∀ x∈place,I64 x)/\name.length<=140737488351232
theorem Prb.ok_mk (code:Int)(route:List UInt8)(place:List Int)(name:List UInt8):(Prb.mk code route place name).ok=(I64 code/\route.length<=140737488351232/\place.length*8<=140737488351232/\(∀ x∈place,I64 x)/\name.length<=140737488351232):=by rw[Prb.ok]
inductive Wkd where
 | mk (route:Int) (place:List Int) (step:Stp)
def Wkd.route:Wkd->Int
 | .mk route _ _=>route
def Wkd.place:Wkd->List Int
 | .mk _ place _=>place
def Wkd.step:Wkd->Stp
 | .mk _ _ step=>step
def Wkd.pv:Wkd->PV
 | .mk route place step=>.agg ([.int .i64 route,.list (place.map (PV.int .i64))]++step.pv.cells)
theorem WR (route:Int)(place:List Int)(step:Stp):(Wkd.mk route place step).pv = .agg ([.int .i64 route,.list (place.map (PV.int .i64))]++step.pv.cells):=by rw[Wkd.pv]
theorem Wkd.cells_len (x:Wkd):x.pv.cells.length=13:=by
 obtain⟨route,place,step⟩:=x
 rw[WR];simp only[ae,W0,Xa,Xn,Stp.cells_len]
theorem Wkd.isAgg (x:Wkd):x.pv.isAgg=true:=by
 obtain⟨route,place,step⟩:=x
 rw[WR];rfl
theorem Wkd.ones (x:Wkd):(x.pv.cells.all PV.one)=true:=by
 obtain⟨route,place,step⟩:=x
 rw[WR];simp only[ae,XE,XI,XM,bP,bQ,bu,bq,XJ,X7,Stp.ones]
theorem Wkd.row (x:Wkd):∃ cs,x.pv = .agg cs/\cs.length=13/\∀ p∈cs,p.one=true:=by
 have h1:=x.cells_len;have h2:=x.ones;have h3:=x.isAgg
 cases h:x.pv with
 | agg cs=>rw[h] at h1 h2;exact⟨cs,rfl,h1,fun p hp=>Xb.1 h2 p hp⟩
 | _=>rw[h] at h3;cases h3
def Wkd.ok:Wkd->Prop
 | .mk route place step=>I64 route/\place.length*8<=140737488351232/\(∀ x∈place,I64 x)/\step.ok
theorem Wkd.ok_mk (route:Int)(place:List Int)(step:Stp):(Wkd.mk route place step).ok=(I64 route/\place.length*8<=140737488351232/\(∀ x∈place,I64 x)/\step.ok):=by rw[Wkd.ok]
theorem nL:aS Tryz.prog 3=false:=by kernel_rfl
theorem nD:Tryz.prog.cellsOf 3=1:=by kernel_rfl
theorem UV:Tryz.prog.bytesOf 3=8:=by kernel_rfl
theorem U1:aS Tryz.prog 4=false:=by kernel_rfl
theorem UO:Tryz.prog.cellsOf 4=1:=by kernel_rfl
theorem lc:aS Tryz.prog 9=false:=by kernel_rfl
theorem kQ:Tryz.prog.cellsOf 9=1:=by kernel_rfl
theorem UU:Tryz.prog.bytesOf 9=16:=by kernel_rfl
theorem SN:aS Tryz.prog 22=false:=by kernel_rfl
theorem Sc:Tryz.prog.cellsOf 22=1:=by kernel_rfl
theorem SM:aS Tryz.prog 23=false:=by kernel_rfl
theorem Sb:Tryz.prog.cellsOf 23=1:=by kernel_rfl
theorem SL:aS Tryz.prog 24=false:=by kernel_rfl
theorem Sa:Tryz.prog.cellsOf 24=1:=by kernel_rfl
theorem SK:aS Tryz.prog 25=false:=by kernel_rfl
theorem R9:Tryz.prog.cellsOf 25=1:=by kernel_rfl
theorem R8:Tryz.prog.cellsOf 27=5:=by kernel_rfl
theorem SJ:aS Tryz.prog 35=false:=by kernel_rfl
theorem R7:Tryz.prog.cellsOf 35=1:=by kernel_rfl
theorem SI:aS Tryz.prog 37=true:=by kernel_rfl
theorem K0:Tryz.prog.cellsOf 37=3:=by kernel_rfl
theorem R6:Tryz.prog.cellsOf 39=7:=by kernel_rfl
theorem Sm:Tryz.prog.bytesOf 39=88:=by kernel_rfl
theorem R5:Tryz.prog.cellsOf 41=4:=by kernel_rfl
theorem Sl:Tryz.prog.bytesOf 41=56:=by kernel_rfl
theorem Fl:aS Tryz.prog 44=false:=by kernel_rfl
theorem EX:Tryz.prog.cellsOf 44=1:=by kernel_rfl
theorem SH:aS Tryz.prog 45=false:=by kernel_rfl
theorem R4:Tryz.prog.cellsOf 45=1:=by kernel_rfl
theorem K9:aS Tryz.prog 47=true:=by kernel_rfl
theorem EW:Tryz.prog.cellsOf 47=1:=by kernel_rfl
theorem SG:aS Tryz.prog 48=false:=by kernel_rfl
theorem R3:Tryz.prog.cellsOf 48=1:=by kernel_rfl
theorem SF:aS Tryz.prog 49=false:=by kernel_rfl
theorem R2:Tryz.prog.cellsOf 49=1:=by kernel_rfl
theorem R1:Tryz.prog.cellsOf 51=11:=by kernel_rfl
theorem K2:Tryz.prog.bytesOf 51=176:=by kernel_rfl
theorem R0:Tryz.prog.cellsOf 61=2:=by kernel_rfl
theorem Sk:Tryz.prog.bytesOf 61=40:=by kernel_rfl
theorem K8:aS Tryz.prog 62=false:=by kernel_rfl
theorem KZ:Tryz.prog.cellsOf 62=1:=by kernel_rfl
theorem RZ:Tryz.prog.cellsOf 64=3:=by kernel_rfl
theorem Sj:Tryz.prog.bytesOf 64=56:=by kernel_rfl
theorem SE:aS Tryz.prog 66=false:=by kernel_rfl
theorem RY:Tryz.prog.cellsOf 66=1:=by kernel_rfl
theorem SD:aS Tryz.prog 67=false:=by kernel_rfl
theorem RX:Tryz.prog.cellsOf 67=1:=by kernel_rfl
theorem SC:aS Tryz.prog 68=false:=by kernel_rfl
theorem RW:Tryz.prog.cellsOf 68=1:=by kernel_rfl
theorem K7:aS Tryz.prog 70=true:=by kernel_rfl
theorem EV:Tryz.prog.cellsOf 70=7:=by kernel_rfl
theorem Si:Tryz.prog.bytesOf 70=104:=by kernel_rfl
theorem RV:Tryz.prog.cellsOf 72=9:=by kernel_rfl
theorem Sh:Tryz.prog.bytesOf 72=128:=by kernel_rfl
theorem tB:aS Tryz.prog 103=false:=by kernel_rfl
theorem tl:Tryz.prog.cellsOf 103=1:=by kernel_rfl
theorem OU:Tryz.prog.cellsOf 105=11:=by kernel_rfl
theorem O3:Tryz.prog.bytesOf 105=160:=by kernel_rfl
theorem Pe:aS Tryz.prog 106=false:=by kernel_rfl
theorem OT:Tryz.prog.cellsOf 106=1:=by kernel_rfl
theorem Pd:aS Tryz.prog 108=true:=by kernel_rfl
theorem EZ:Tryz.prog.cellsOf 108=6:=by kernel_rfl
theorem tt:Tryz.prog.bytesOf 108=88:=by kernel_rfl
theorem OS:Tryz.prog.cellsOf 111=2:=by kernel_rfl
theorem O0:Tryz.prog.bytesOf 111=48:=by kernel_rfl
theorem OR:Tryz.prog.cellsOf 138=7:=by kernel_rfl
theorem OZ:Tryz.prog.bytesOf 138=104:=by kernel_rfl
theorem Pc:aS Tryz.prog 159=true:=by kernel_rfl
theorem EY:Tryz.prog.cellsOf 159=5:=by kernel_rfl
theorem tr:Tryz.prog.bytesOf 159=80:=by kernel_rfl
theorem OQ:Tryz.prog.cellsOf 183=6:=by kernel_rfl
theorem OY:Tryz.prog.bytesOf 183=96:=by kernel_rfl
section
variable {t:Nat}{p:PV}
theorem bv (h:HasT Tryz.prog t p)(hu:Tryz.prog.underlying t=some .string):∃ s:List UInt8,p = .str s/\s.length<=140737488351232:=by
 cases h with
 | str _ s hb hs=>exact⟨s,rfl,hs⟩
 | int _ k n hb=>rw[hu] at hb;cases hb
 | bool _ b hb=>rw[hu] at hb;cases hb
 | list _ e l hb=>rw[hu] at hb;cases hb
 | agg _ fs cs hb=>rw[hu] at hb;cases hb
 | arr _ e n cs hb=>rw[hu] at hb;cases hb
theorem DL (h:HasT Tryz.prog t p)(hu:Tryz.prog.underlying t=some .bool):∃ b:Bool,p = .bool b:=by
 cases h with
 | bool _ b hb=>exact⟨b,rfl⟩
 | str _ s hb=>rw[hu] at hb;cases hb
 | int _ k n hb=>rw[hu] at hb;cases hb
 | list _ e l hb=>rw[hu] at hb;cases hb
 | agg _ fs cs hb=>rw[hu] at hb;cases hb
 | arr _ e n cs hb=>rw[hu] at hb;cases hb
theorem IV {k:IntKind}(h:HasT Tryz.prog t p)(hu:Tryz.prog.underlying t=some (.int k)):∃ n:Int,p = .int k n/\(Lit.int k n).wf=true:=by
 cases h with
 | int _ k' n hk hw=>rw[hu] at hk;cases hk;exact⟨n,rfl,hw⟩
 | bool _ b hb=>rw[hu] at hb;cases hb
 | str _ s hb=>rw[hu] at hb;cases hb
 | list _ e l hb=>rw[hu] at hb;cases hb
 | agg _ fs cs hb=>rw[hu] at hb;cases hb
 | arr _ e n cs hb=>rw[hu] at hb;cases hb
theorem ba (h:HasT Tryz.prog t p)(hu:Tryz.prog.underlying t=some (.int .i64)):∃ n:Int,p = .int .i64 n/\I64 n:=by
 obtain⟨n,rfl,hw⟩:=IV h hu
 refine⟨n,rfl,?_⟩
 simp only[Lit.wf,Bool.and_eq_true,decide_eq_true_eq] at hw
 exact hw
theorem DK {e:Nat}(h:HasT Tryz.prog t p)(hu:Tryz.prog.underlying t=some (.slice e)):∃ l:List PV,p = .list l/\l.length<=maxLen/\l.length*Tryz.prog.bytesOf e<=140737488351232/\∀ (i:Nat) (x:PV),l[i]? = some x->HasT Tryz.prog e x:=by
 cases h with
 | list _ e' l hb hl hl2 hx=>rw[hu] at hb;cases hb;exact⟨l,rfl,hl,hl2,hx⟩
 | int _ k n hb=>rw[hu] at hb;cases hb
 | bool _ b hb=>rw[hu] at hb;cases hb
 | str _ s hb=>rw[hu] at hb;cases hb
 | agg _ fs cs hb=>rw[hu] at hb;cases hb
 | arr _ e n cs hb=>rw[hu] at hb;cases hb
theorem dq {fs:Array Field}(h:HasT Tryz.prog t p)(hu:Tryz.prog.underlying t=some (.struct fs)):∃ cs:List PV,p = .agg cs/\cs.length=Tryz.prog.cellsOf t/\∀ (i:Nat) (f:Field),fs.toList[i]? = some f->HasT Tryz.prog f.type (bR Tryz.prog f cs):=by
 cases h with
 | agg _ fs' cs hb hl hx=>rw[hu] at hb;cases hb;exact⟨cs,rfl,hl,hx⟩
 | list _ e' l hb=>rw[hu] at hb;cases hb
 | int _ k n hb=>rw[hu] at hb;cases hb
 | bool _ b hb=>rw[hu] at hb;cases hb
 | str _ s hb=>rw[hu] at hb;cases hb
 | arr _ e n cs hb=>rw[hu] at hb;cases hb
end
theorem dv {t e e':Nat}(h:Tryz.prog.underlying t=some (.slice e))(h':Tryz.prog.underlying t=some (.slice e')):e=e':=by
 rw[h] at h';cases h';rfl
theorem eK {β:Type}{f:β->PV}{Q:β->Prop}:∀ (l:List PV),(∀ (i:Nat) (x:PV),l[i]? = some x->∃ s,x=f s/\Q s)->∃ ss:List β,l=ss.map f/\ss.length=l.length/\∀ s∈ss,Q s
 | [],_=>⟨[],rfl,rfl,by simp⟩
 | x::r,h=>by
   obtain⟨s,rfl,hs⟩:=h 0 x rfl
   obtain⟨ss,rfl,hl,hss⟩:=eK r (fun i y hy=>h (i+1) y (by simpa using hy))
   refine⟨s::ss,rfl,by simp,fun t ht=>?_⟩
   rcases List.mem_cons.1 ht with rfl | ht
   ·exact hs
   ·exact hss t ht
theorem b9 {β:Type}{f:β->PV}{Q:β->Prop}{t e b:Nat}{p:PV}(h:HasT Tryz.prog t p)(hu:Tryz.prog.underlying t=some (.slice e))(hb:Tryz.prog.bytesOf e=b)(hq:∀ x,HasT Tryz.prog e x->∃ s,x=f s/\Q s):∃ ss:List β,p = .list (ss.map f)/\ss.length*b<=140737488351232/\∀ s∈ss,Q s:=by
 obtain⟨l,rfl,_,hl,hx⟩:=DK h hu
 obtain⟨ss,rfl,h1,h2⟩:=eK (f:=f) (Q:=Q) l fun i x hi=>hq x (hx i x hi)
 exact⟨ss,rfl,by rw[h1,<- hb];exact hl,h2⟩
theorem Un {l:List PV}(h:l.length=1):∃ c0,l=[c0]:=by
 match l,h with
 | [c0],_=>exact⟨c0,rfl⟩
theorem Re {l:List PV}(h:l.length=2):∃ c0 c1,l=[c0,c1]:=by
 match l,h with
 | [c0,c1],_=>exact⟨c0,c1,rfl⟩
theorem Rd {l:List PV}(h:l.length=3):∃ c0 c1 c2,l=[c0,c1,c2]:=by
 match l,h with
 | [c0,c1,c2],_=>exact⟨c0,c1,c2,rfl⟩
theorem Um {l:List PV}(h:l.length=4):∃ c0 c1 c2 c3,l=[c0,c1,c2,c3]:=by
 match l,h with
 | [c0,c1,c2,c3],_=>exact⟨c0,c1,c2,c3,rfl⟩
theorem Rc {l:List PV}(h:l.length=5):∃ c0 c1 c2 c3 c4,l=[c0,c1,c2,c3,c4]:=by
 match l,h with
 | [c0,c1,c2,c3,c4],_=>exact⟨c0,c1,c2,c3,c4,rfl⟩
theorem N4 {l:List PV}(h:l.length=6):∃ c0 c1 c2 c3 c4 c5,l=[c0,c1,c2,c3,c4,c5]:=by
 match l,h with
 | [c0,c1,c2,c3,c4,c5],_=>exact⟨c0,c1,c2,c3,c4,c5,rfl⟩
theorem Df {l:List PV}(h:l.length=7):∃ c0 c1 c2 c3 c4 c5 c6,l=[c0,c1,c2,c3,c4,c5,c6]:=by
 match l,h with
 | [c0,c1,c2,c3,c4,c5,c6],_=>exact⟨c0,c1,c2,c3,c4,c5,c6,rfl⟩
theorem Ul {l:List PV}(h:l.length=9):∃ c0 c1 c2 c3 c4 c5 c6 c7 c8,l=[c0,c1,c2,c3,c4,c5,c6,c7,c8]:=by
 match l,h with
 | [c0,c1,c2,c3,c4,c5,c6,c7,c8],_=>exact⟨c0,c1,c2,c3,c4,c5,c6,c7,c8,rfl⟩
theorem KI {l:List PV}(h:l.length=11):∃ c0 c1 c2 c3 c4 c5 c6 c7 c8 c9 c10,l=[c0,c1,c2,c3,c4,c5,c6,c7,c8,c9,c10]:=by
 match l,h with
 | [c0,c1,c2,c3,c4,c5,c6,c7,c8,c9,c10],_=>exact⟨c0,c1,c2,c3,c4,c5,c6,c7,c8,c9,c10,rfl⟩
theorem ji {t:Nat}{p:PV}(h:HasT Tryz.prog t p):(t=108->∃ x:Val,p=x.pv/\x.ok)/\(t=138->∃ x:Fld,p=x.pv/\x.ok)/\(t=103->∃ l:List Val,p = .list (l.map Val.pv)/\l.length*88<=140737488351232/\∀ x∈l,x.ok)/\(t=106->∃ l:List Fld,p = .list (l.map Fld.pv)/\l.length*104<=140737488351232/\∀ x∈l,x.ok):=by
 induction h with
 | bool t b hb=>refine⟨?_,?_,?_,?_⟩<;>(intro h;subst h;simp[Tryz.underlying108,Tryz.underlying138,Tryz.underlying103,Tryz.underlying106] at hb)
 | int t k n hb _=>refine⟨?_,?_,?_,?_⟩<;>(intro h;subst h;simp[Tryz.underlying108,Tryz.underlying138,Tryz.underlying103,Tryz.underlying106] at hb)
 | str t s hb _=>refine⟨?_,?_,?_,?_⟩<;>(intro h;subst h;simp[Tryz.underlying108,Tryz.underlying138,Tryz.underlying103,Tryz.underlying106] at hb)
 | arr t e n cs hb _ _ _=>refine⟨?_,?_,?_,?_⟩<;>(intro h;subst h;simp[Tryz.underlying108,Tryz.underlying138,Tryz.underlying103,Tryz.underlying106] at hb)
 | list t e l hu hl hl2 hx ih=>
   refine⟨?_,?_,?_,?_⟩
   ·intro h;subst h;simp[Tryz.underlying108] at hu
   ·intro h;subst h;simp[Tryz.underlying138] at hu
   ·intro h;subst h
    obtain rfl:=dv hu Tryz.underlying103
    obtain⟨ss,rfl,hlen,hss⟩:=eK (f:=Val.pv) (Q:=Val.ok) l (fun i x hi=>(ih i x hi).1 rfl)
    exact⟨ss,rfl,by rw[hlen,<- tt];exact hl2,hss⟩
   ·intro h;subst h
    obtain rfl:=dv hu Tryz.underlying106
    obtain⟨ss,rfl,hlen,hss⟩:=eK (f:=Fld.pv) (Q:=Fld.ok) l (fun i x hi=>(ih i x hi).2.1 rfl)
    exact⟨ss,rfl,by rw[hlen,<- OZ];exact hl2,hss⟩
 | agg t fs cs hu hl hx ih=>
   refine⟨?_,?_,?_,?_⟩
   ·intro h;subst h
    rw[Tryz.underlying108] at hu;cases hu
    rw[EZ] at hl
    obtain⟨c0,c1,c2,c3,c4,c5,rfl⟩:=N4 hl
    have h0:=hx 0 _ rfl
    have h1:=hx 1 _ rfl
    have h2:=hx 2 _ rfl
    have h3:=hx 3 _ rfl
    have h4:=(ih 4 _ rfl).2.2.1 rfl
    have h5:=(ih 5 _ rfl).2.2.2 rfl
    simp only[bR,nL,nD,lc,kQ,tB,tl,Pe,OT,XN,XH,XC,Xy,bE,XU] at h0 h1 h2 h3 h4 h5
    obtain⟨v0,rfl,ok_v0⟩:=ba h0 Tryz.underlying3
    obtain⟨v1,rfl,ok_v1⟩:=ba h1 Tryz.underlying3
    obtain⟨v2,rfl,ok_v2⟩:=ba h2 Tryz.underlying3
    obtain⟨v3,rfl,ok_v3⟩:=bv h3 Tryz.underlying9
    obtain⟨v4,rfl,ok_v4,oks_v4⟩:=h4
    obtain⟨v5,rfl,ok_v5,oks_v5⟩:=h5
    refine⟨.mk v0 v1 v2 v3 v4 v5,?_,?_⟩
    ·rw[WQ]
    ·rw[WP];exact⟨ok_v0,ok_v1,ok_v2,ok_v3,ok_v4,oks_v4,ok_v5,oks_v5⟩
   ·intro h;subst h
    rw[Tryz.underlying138] at hu;cases hu
    rw[OR] at hl
    obtain⟨c0,c1,c2,c3,c4,c5,c6,rfl⟩:=Df hl
    have h0:=hx 0 _ rfl
    have h1:=(ih 1 _ rfl).1 rfl
    simp only[bR,lc,kQ,Pd,EZ,XN,XH,XC,Xy,bE,XU] at h0 h1
    obtain⟨v0,rfl,ok_v0⟩:=bv h0 Tryz.underlying9
    obtain⟨v1,e1,ok_v1⟩:=h1
    refine⟨.mk v0 v1,?_,?_⟩
    ·rw[Wq];rw[<- e1];rfl
    ·rw[Wp];exact⟨ok_v0,ok_v1⟩
   ·intro h;subst h;simp[Tryz.underlying103] at hu
   ·intro h;subst h;simp[Tryz.underlying106] at hu
theorem uC {p:PV}(h:HasT Tryz.prog 108 p):∃ x:Val,p=x.pv/\x.ok:=(ji h).1 rfl
theorem jj {t:Nat}{p:PV}(h:HasT Tryz.prog t p):(t=70->∃ x:Typ,p=x.pv/\x.ok)/\(t=105->∃ x:TFd,p=x.pv/\x.ok)/\(t=67->∃ l:List Typ,p = .list (l.map Typ.pv)/\l.length*104<=140737488351232/\∀ x∈l,x.ok)/\(t=68->∃ l:List TFd,p = .list (l.map TFd.pv)/\l.length*160<=140737488351232/\∀ x∈l,x.ok):=by
 induction h with
 | bool t b hb=>refine⟨?_,?_,?_,?_⟩<;>(intro h;subst h;simp[Tryz.underlying70,Tryz.underlying105,Tryz.underlying67,Tryz.underlying68] at hb)
 | int t k n hb _=>refine⟨?_,?_,?_,?_⟩<;>(intro h;subst h;simp[Tryz.underlying70,Tryz.underlying105,Tryz.underlying67,Tryz.underlying68] at hb)
 | str t s hb _=>refine⟨?_,?_,?_,?_⟩<;>(intro h;subst h;simp[Tryz.underlying70,Tryz.underlying105,Tryz.underlying67,Tryz.underlying68] at hb)
 | arr t e n cs hb _ _ _=>refine⟨?_,?_,?_,?_⟩<;>(intro h;subst h;simp[Tryz.underlying70,Tryz.underlying105,Tryz.underlying67,Tryz.underlying68] at hb)
 | list t e l hu hl hl2 hx ih=>
   refine⟨?_,?_,?_,?_⟩
   ·intro h;subst h;simp[Tryz.underlying70] at hu
   ·intro h;subst h;simp[Tryz.underlying105] at hu
   ·intro h;subst h
    obtain rfl:=dv hu Tryz.underlying67
    obtain⟨ss,rfl,hlen,hss⟩:=eK (f:=Typ.pv) (Q:=Typ.ok) l (fun i x hi=>(ih i x hi).1 rfl)
    exact⟨ss,rfl,by rw[hlen,<- Si];exact hl2,hss⟩
   ·intro h;subst h
    obtain rfl:=dv hu Tryz.underlying68
    obtain⟨ss,rfl,hlen,hss⟩:=eK (f:=TFd.pv) (Q:=TFd.ok) l (fun i x hi=>(ih i x hi).2.1 rfl)
    exact⟨ss,rfl,by rw[hlen,<- O3];exact hl2,hss⟩
 | agg t fs cs hu hl hx ih=>
   refine⟨?_,?_,?_,?_⟩
   ·intro h;subst h
    rw[Tryz.underlying70] at hu;cases hu
    rw[EV] at hl
    obtain⟨c0,c1,c2,c3,c4,c5,c6,rfl⟩:=Df hl
    have h0:=hx 0 _ rfl
    have h1:=hx 1 _ rfl
    have h2:=hx 2 _ rfl
    have h3:=hx 3 _ rfl
    have h4:=hx 4 _ rfl
    have h5:=(ih 5 _ rfl).2.2.1 rfl
    have h6:=(ih 6 _ rfl).2.2.2 rfl
    simp only[bR,nL,nD,SE,RY,SD,RX,SC,RW,XN,XH,XC,Xy,bE,XU] at h0 h1 h2 h3 h4 h5 h6
    obtain⟨v0,rfl,ok_v0⟩:=ba h0 Tryz.underlying3
    obtain⟨v1,rfl,ok_v1⟩:=ba h1 Tryz.underlying3
    obtain⟨v2,rfl,ok_v2⟩:=ba h2 Tryz.underlying3
    obtain⟨v3,rfl,ok_v3⟩:=ba h3 Tryz.underlying3
    obtain⟨v4,rfl,ok_v4,oks_v4⟩:=b9 (f:=PV.str) (Q:=(fun x:List UInt8=>x.length<=140737488351232)) h4 Tryz.underlying66 UU (fun x hx=>bv hx Tryz.underlying9)
    obtain⟨v5,rfl,ok_v5,oks_v5⟩:=h5
    obtain⟨v6,rfl,ok_v6,oks_v6⟩:=h6
    refine⟨.mk v0 v1 v2 v3 v4 v5 v6,?_,?_⟩
    ·rw[WO]
    ·rw[WN];exact⟨ok_v0,ok_v1,ok_v2,ok_v3,ok_v4,oks_v4,ok_v5,oks_v5,ok_v6,oks_v6⟩
   ·intro h;subst h
    rw[Tryz.underlying105] at hu;cases hu
    rw[OU] at hl
    obtain⟨c0,c1,c2,c3,c4,c5,c6,c7,c8,c9,c10,rfl⟩:=KI hl
    have h0:=hx 0 _ rfl
    have h1:=hx 1 _ rfl
    have h2:=hx 2 _ rfl
    have h3:=(ih 3 _ rfl).1 rfl
    have h4:=hx 4 _ rfl
    simp only[bR,nL,nD,lc,kQ,K7,EV,tB,tl,XN,XH,XC,Xy,bE,XU] at h0 h1 h2 h3 h4
    obtain⟨v0,rfl,ok_v0⟩:=ba h0 Tryz.underlying3
    obtain⟨v1,rfl,ok_v1⟩:=bv h1 Tryz.underlying9
    obtain⟨v2,rfl,ok_v2⟩:=ba h2 Tryz.underlying3
    obtain⟨v3,e3,ok_v3⟩:=h3
    obtain⟨v4,rfl,ok_v4,oks_v4⟩:=b9 (f:=Val.pv) (Q:=(fun x:Val=>x.ok)) h4 Tryz.underlying103 tt (fun x hx=>uC hx)
    refine⟨.mk v0 v1 v2 v3 v4,?_,?_⟩
    ·rw[WJ];rw[<- e3];rfl
    ·rw[WI];exact⟨ok_v0,ok_v1,ok_v2,ok_v3,ok_v4,oks_v4⟩
   ·intro h;subst h;simp[Tryz.underlying67] at hu
   ·intro h;subst h;simp[Tryz.underlying68] at hu
theorem IW {p:PV}(h:HasT Tryz.prog 70 p):∃ x:Typ,p=x.pv/\x.ok:=(jj h).1 rfl
theorem pq {t:Nat}{p:PV}(h:HasT Tryz.prog t p):(t=159->∃ x:Exp,p=x.pv/\x.ok)/\(t=44->∃ l:List Exp,p = .list (l.map Exp.pv)/\l.length*80<=140737488351232/\∀ x∈l,x.ok):=by
 induction h with
 | bool t b hb=>refine⟨?_,?_⟩<;>(intro h;subst h;simp[Tryz.underlying159,Tryz.underlying44] at hb)
 | int t k n hb _=>refine⟨?_,?_⟩<;>(intro h;subst h;simp[Tryz.underlying159,Tryz.underlying44] at hb)
 | str t s hb _=>refine⟨?_,?_⟩<;>(intro h;subst h;simp[Tryz.underlying159,Tryz.underlying44] at hb)
 | arr t e n cs hb _ _ _=>refine⟨?_,?_⟩<;>(intro h;subst h;simp[Tryz.underlying159,Tryz.underlying44] at hb)
 | list t e l hu hl hl2 hx ih=>
   refine⟨?_,?_⟩
   ·intro h;subst h;simp[Tryz.underlying159] at hu
   ·intro h;subst h
    obtain rfl:=dv hu Tryz.underlying44
    obtain⟨ss,rfl,hlen,hss⟩:=eK (f:=Exp.pv) (Q:=Exp.ok) l (fun i x hi=>(ih i x hi).1 rfl)
    exact⟨ss,rfl,by rw[hlen,<- tr];exact hl2,hss⟩
 | agg t fs cs hu hl hx ih=>
   refine⟨?_,?_⟩
   ·intro h;subst h
    rw[Tryz.underlying159] at hu;cases hu
    rw[EY] at hl
    obtain⟨c0,c1,c2,c3,c4,rfl⟩:=Rc hl
    have h0:=hx 0 _ rfl
    have h1:=hx 1 _ rfl
    have h2:=hx 2 _ rfl
    have h3:=hx 3 _ rfl
    have h4:=(ih 4 _ rfl).2 rfl
    simp only[bR,nL,nD,lc,kQ,Fl,EX,tB,tl,XN,XH,XC,Xy,bE,XU] at h0 h1 h2 h3 h4
    obtain⟨v0,rfl,ok_v0⟩:=ba h0 Tryz.underlying3
    obtain⟨v1,rfl,ok_v1⟩:=ba h1 Tryz.underlying3
    obtain⟨v2,rfl,ok_v2⟩:=bv h2 Tryz.underlying9
    obtain⟨v3,rfl,ok_v3,oks_v3⟩:=b9 (f:=Val.pv) (Q:=(fun x:Val=>x.ok)) h3 Tryz.underlying103 tt (fun x hx=>uC hx)
    obtain⟨v4,rfl,ok_v4,oks_v4⟩:=h4
    refine⟨.mk v0 v1 v2 v3 v4,?_,?_⟩
    ·rw[Wo]
    ·rw[Wn];exact⟨ok_v0,ok_v1,ok_v2,ok_v3,oks_v3,ok_v4,oks_v4⟩
   ·intro h;subst h;simp[Tryz.underlying44] at hu
theorem ni {p:PV}(h:HasT Tryz.prog 159 p):∃ x:Exp,p=x.pv/\x.ok:=(pq h).1 rfl
theorem I0 {p:PV}(h:HasT Tryz.prog 183 p):∃ x:Rul,p=x.pv/\x.ok:=by
 obtain⟨cs,rfl,hl,hx⟩:=dq h Tryz.underlying183
 rw[OQ] at hl
 obtain⟨c0,c1,c2,c3,c4,c5,rfl⟩:=N4 hl
 have h0:=hx 0 _ rfl
 have h1:=hx 1 _ rfl
 simp only[bR,lc,kQ,Pc,EY,XN,XH,XC,Xy,bE,XU] at h0 h1
 obtain⟨v0,rfl,ok_v0⟩:=bv h0 Tryz.underlying9
 obtain⟨v1,e1,ok_v1⟩:=ni h1
 refine⟨.mk v0 v1,?_,?_⟩
 ·rw[WA];rw[<- e1];rfl
 ·rw[Wz];exact⟨ok_v0,ok_v1⟩
theorem ma {p:PV}(h:HasT Tryz.prog 47 p):∃ y:List Rul,p=(fun x=>PV.agg [.list (x.map Rul.pv)]) y/\y.length*96<=140737488351232/\∀ x∈y,x.ok:=by
 obtain⟨cs,rfl,hl,hx⟩:=dq h Tryz.underlying47
 rw[EW] at hl
 obtain⟨c0,rfl⟩:=Un hl
 have h0:=hx 0 _ rfl
 simp only[bR,SH,R4,XN,XC,Xy,bE,XU] at h0
 obtain⟨v,rfl,ok_v,oks_v⟩:=b9 (f:=Rul.pv) (Q:=(fun x:Rul=>x.ok)) h0 Tryz.underlying45 OY (fun x hx=>I0 hx)
 exact⟨v,rfl,ok_v,oks_v⟩
theorem I5 {p:PV}(h:HasT Tryz.prog 61 p):∃ x:Cal,p=x.pv/\x.ok:=by
 obtain⟨cs,rfl,hl,hx⟩:=dq h Tryz.underlying61
 rw[R0] at hl
 obtain⟨c0,c1,rfl⟩:=Re hl
 have h0:=hx 0 _ rfl
 have h1:=hx 1 _ rfl
 simp only[bR,lc,kQ,K9,EW,XN,XH,XC,Xy,bE,XU] at h0 h1
 obtain⟨v0,rfl,ok_v0⟩:=bv h0 Tryz.underlying9
 obtain⟨v1,e1,okk0_v1,okk1_v1⟩:=ma h1
 simp only[PV.agg.injEq,List.cons.injEq,and_true] at e1;subst e1
 refine⟨.mk v0 v1,?_,?_⟩
 ·rw[Wj]
 ·rw[Wi];exact⟨ok_v0,okk0_v1,okk1_v1⟩
theorem jk {t:Nat}{p:PV}(h:HasT Tryz.prog t p):(t=111->∃ x:Bra,p=x.pv/\x.ok)/\(t=51->∃ x:Stp,p=x.pv/\x.ok)/\(t=49->∃ l:List Bra,p = .list (l.map Bra.pv)/\l.length*48<=140737488351232/\∀ x∈l,x.ok)/\(t=62->∃ l:List Stp,p = .list (l.map Stp.pv)/\l.length*176<=140737488351232/\∀ x∈l,x.ok):=by
 induction h with
 | bool t b hb=>refine⟨?_,?_,?_,?_⟩<;>(intro h;subst h;simp[Tryz.underlying111,Tryz.underlying51,Tryz.underlying49,Tryz.underlying62] at hb)
 | int t k n hb _=>refine⟨?_,?_,?_,?_⟩<;>(intro h;subst h;simp[Tryz.underlying111,Tryz.underlying51,Tryz.underlying49,Tryz.underlying62] at hb)
 | str t s hb _=>refine⟨?_,?_,?_,?_⟩<;>(intro h;subst h;simp[Tryz.underlying111,Tryz.underlying51,Tryz.underlying49,Tryz.underlying62] at hb)
 | arr t e n cs hb _ _ _=>refine⟨?_,?_,?_,?_⟩<;>(intro h;subst h;simp[Tryz.underlying111,Tryz.underlying51,Tryz.underlying49,Tryz.underlying62] at hb)
 | list t e l hu hl hl2 hx ih=>
   refine⟨?_,?_,?_,?_⟩
   ·intro h;subst h;simp[Tryz.underlying111] at hu
   ·intro h;subst h;simp[Tryz.underlying51] at hu
   ·intro h;subst h
    obtain rfl:=dv hu Tryz.underlying49
    obtain⟨ss,rfl,hlen,hss⟩:=eK (f:=Bra.pv) (Q:=Bra.ok) l (fun i x hi=>(ih i x hi).1 rfl)
    exact⟨ss,rfl,by rw[hlen,<- O0];exact hl2,hss⟩
   ·intro h;subst h
    obtain rfl:=dv hu Tryz.underlying62
    obtain⟨ss,rfl,hlen,hss⟩:=eK (f:=Stp.pv) (Q:=Stp.ok) l (fun i x hi=>(ih i x hi).2.1 rfl)
    exact⟨ss,rfl,by rw[hlen,<- K2];exact hl2,hss⟩
 | agg t fs cs hu hl hx ih=>
   refine⟨?_,?_,?_,?_⟩
   ·intro h;subst h
    rw[Tryz.underlying111] at hu;cases hu
    rw[OS] at hl
    obtain⟨c0,c1,rfl⟩:=Re hl
    have h0:=hx 0 _ rfl
    have h1:=(ih 1 _ rfl).2.2.2 rfl
    simp only[bR,Fl,EX,K8,KZ,XN,XH,XC,Xy,bE,XU] at h0 h1
    obtain⟨v0,rfl,ok_v0,oks_v0⟩:=b9 (f:=Exp.pv) (Q:=(fun x:Exp=>x.ok)) h0 Tryz.underlying44 tr (fun x hx=>ni hx)
    obtain⟨v1,rfl,ok_v1,oks_v1⟩:=h1
    refine⟨.mk v0 v1,?_,?_⟩
    ·rw[Wh]
    ·rw[Wg];exact⟨ok_v0,oks_v0,ok_v1,oks_v1⟩
   ·intro h;subst h
    rw[Tryz.underlying51] at hu;cases hu
    rw[R1] at hl
    obtain⟨c0,c1,c2,c3,c4,c5,c6,c7,c8,c9,c10,rfl⟩:=KI hl
    have h0:=hx 0 _ rfl
    have h1:=hx 1 _ rfl
    have h2:=hx 2 _ rfl
    have h3:=hx 3 _ rfl
    have h4:=hx 4 _ rfl
    have h5:=hx 5 _ rfl
    have h6:=hx 6 _ rfl
    have h7:=hx 7 _ rfl
    have h8:=hx 8 _ rfl
    have h9:=hx 9 _ rfl
    have h10:=(ih 10 _ rfl).2.2.1 rfl
    simp only[bR,nL,nD,lc,kQ,Fl,EX,K9,EW,SG,R3,SF,R2,XN,XH,XC,Xy,bE,XU] at h0 h1 h2 h3 h4 h5 h6 h7 h8 h9 h10
    obtain⟨v0,rfl,ok_v0⟩:=bv h0 Tryz.underlying9
    obtain⟨v1,rfl,ok_v1⟩:=ba h1 Tryz.underlying3
    obtain⟨v2,rfl,ok_v2⟩:=ba h2 Tryz.underlying3
    obtain⟨v3,rfl,ok_v3⟩:=ba h3 Tryz.underlying3
    obtain⟨v4,rfl,ok_v4⟩:=ba h4 Tryz.underlying3
    obtain⟨v5,rfl,ok_v5⟩:=bv h5 Tryz.underlying9
    obtain⟨v6,rfl,ok_v6⟩:=bv h6 Tryz.underlying9
    obtain⟨v7,rfl,ok_v7,oks_v7⟩:=b9 (f:=Exp.pv) (Q:=(fun x:Exp=>x.ok)) h7 Tryz.underlying44 tr (fun x hx=>ni hx)
    obtain⟨v8,e8,okk0_v8,okk1_v8⟩:=ma h8
    simp only[PV.agg.injEq,List.cons.injEq,and_true] at e8;subst e8
    obtain⟨v9,rfl,ok_v9,oks_v9⟩:=b9 (f:=Cal.pv) (Q:=(fun x:Cal=>x.ok)) h9 Tryz.underlying48 Sk (fun x hx=>I5 hx)
    obtain⟨v10,rfl,ok_v10,oks_v10⟩:=h10
    refine⟨.mk v0 v1 v2 v3 v4 v5 v6 v7 v8 v9 v10,?_,?_⟩
    ·rw[WF]
    ·rw[WE];exact⟨ok_v0,ok_v1,ok_v2,ok_v3,ok_v4,ok_v5,ok_v6,ok_v7,oks_v7,okk0_v8,okk1_v8,ok_v9,oks_v9,ok_v10,oks_v10⟩
   ·intro h;subst h;simp[Tryz.underlying49] at hu
   ·intro h;subst h;simp[Tryz.underlying62] at hu
theorem IY {p:PV}(h:HasT Tryz.prog 51 p):∃ x:Stp,p=x.pv/\x.ok:=(jk h).2.1 rfl
theorem IZ {p:PV}(h:HasT Tryz.prog 72 p):∃ x:Sch,p=x.pv/\x.ok:=by
 obtain⟨cs,rfl,hl,hx⟩:=dq h Tryz.underlying72
 rw[RV] at hl
 obtain⟨c0,c1,c2,c3,c4,c5,c6,c7,c8,rfl⟩:=Ul hl
 have h0:=hx 0 _ rfl
 have h1:=hx 1 _ rfl
 have h2:=hx 2 _ rfl
 simp only[bR,nL,nD,lc,kQ,K7,EV,XN,XH,XC,Xy,bE,XU] at h0 h1 h2
 obtain⟨v0,rfl,ok_v0⟩:=bv h0 Tryz.underlying9
 obtain⟨v1,rfl,ok_v1⟩:=ba h1 Tryz.underlying3
 obtain⟨v2,e2,ok_v2⟩:=IW h2
 refine⟨.mk v0 v1 v2,?_,?_⟩
 ·rw[WD];rw[<- e2];rfl
 ·rw[WC];exact⟨ok_v0,ok_v1,ok_v2⟩
theorem I3 {p:PV}(h:HasT Tryz.prog 37 p):∃ x:Fmt,p=x.pv/\x.ok:=by
 obtain⟨cs,rfl,hl,hx⟩:=dq h Tryz.underlying37
 rw[K0] at hl
 obtain⟨c0,c1,c2,rfl⟩:=Rd hl
 have h0:=hx 0 _ rfl
 have h1:=hx 1 _ rfl
 have h2:=hx 2 _ rfl
 simp only[bR,nL,nD,SJ,R7,XN,XH,XC,Xy,bE,XU] at h0 h1 h2
 obtain⟨v0,rfl,ok_v0⟩:=ba h0 Tryz.underlying3
 obtain⟨v1,rfl,ok_v1⟩:=ba h1 Tryz.underlying3
 obtain⟨v2,rfl,ok_v2,oks_v2⟩:=b9 (f:=(PV.int .i64)) (Q:=(fun x:Int=>I64 x)) h2 Tryz.underlying35 UV (fun x hx=>ba hx Tryz.underlying3)
 refine⟨.mk v0 v1 v2,?_,?_⟩
 ·rw[Ws]
 ·rw[Wr];exact⟨ok_v0,ok_v1,ok_v2,oks_v2⟩
theorem I4 {p:PV}(h:HasT Tryz.prog 39 p):∃ x:Enp,p=x.pv/\x.ok:=by
 obtain⟨cs,rfl,hl,hx⟩:=dq h Tryz.underlying39
 rw[R6] at hl
 obtain⟨c0,c1,c2,c3,c4,c5,c6,rfl⟩:=Df hl
 have h0:=hx 0 _ rfl
 have h1:=hx 1 _ rfl
 have h2:=hx 2 _ rfl
 have h3:=hx 3 _ rfl
 have h4:=hx 4 _ rfl
 simp only[bR,nL,nD,lc,kQ,SI,K0,XN,XH,XC,Xy,bE,XU] at h0 h1 h2 h3 h4
 obtain⟨v0,rfl,ok_v0⟩:=bv h0 Tryz.underlying9
 obtain⟨v1,rfl,ok_v1⟩:=ba h1 Tryz.underlying3
 obtain⟨v2,rfl,ok_v2⟩:=bv h2 Tryz.underlying9
 obtain⟨v3,rfl,ok_v3⟩:=ba h3 Tryz.underlying3
 obtain⟨v4,e4,ok_v4⟩:=I3 h4
 refine⟨.mk v0 v1 v2 v3 v4,?_,?_⟩
 ·rw[Wm];rw[<- e4];rfl
 ·rw[Wl];exact⟨ok_v0,ok_v1,ok_v2,ok_v3,ok_v4⟩
theorem IX {p:PV}(h:HasT Tryz.prog 41 p):∃ x:Svc,p=x.pv/\x.ok:=by
 obtain⟨cs,rfl,hl,hx⟩:=dq h Tryz.underlying41
 rw[R5] at hl
 obtain⟨c0,c1,c2,c3,rfl⟩:=Um hl
 have h0:=hx 0 _ rfl
 have h1:=hx 1 _ rfl
 have h2:=hx 2 _ rfl
 have h3:=hx 3 _ rfl
 simp only[bR,U1,UO,lc,kQ,XN,XH,XC,Xy,bE,XU] at h0 h1 h2 h3
 obtain⟨v0,rfl,ok_v0⟩:=bv h0 Tryz.underlying9
 obtain⟨v1,rfl,ok_v1⟩:=bv h1 Tryz.underlying9
 obtain⟨v2,rfl,ok_v2⟩:=bv h2 Tryz.underlying9
 obtain⟨v3,rfl⟩:=DL h3 Tryz.underlying4
 refine⟨.mk v0 v1 v2 v3,?_,?_⟩
 ·rw[WH]
 ·rw[WG];exact⟨ok_v0,ok_v1,ok_v2⟩
theorem I1 {p:PV}(h:HasT Tryz.prog 64 p):∃ x:Rou,p=x.pv/\x.ok:=by
 obtain⟨cs,rfl,hl,hx⟩:=dq h Tryz.underlying64
 rw[RZ] at hl
 obtain⟨c0,c1,c2,rfl⟩:=Rd hl
 have h0:=hx 0 _ rfl
 have h1:=hx 1 _ rfl
 have h2:=hx 2 _ rfl
 simp only[bR,lc,kQ,K8,KZ,XN,XH,XC,Xy,bE,XU] at h0 h1 h2
 obtain⟨v0,rfl,ok_v0⟩:=bv h0 Tryz.underlying9
 obtain⟨v1,rfl,ok_v1⟩:=bv h1 Tryz.underlying9
 obtain⟨v2,rfl,ok_v2,oks_v2⟩:=b9 (f:=Stp.pv) (Q:=(fun x:Stp=>x.ok)) h2 Tryz.underlying62 K2 (fun x hx=>IY hx)
 refine⟨.mk v0 v1 v2,?_,?_⟩
 ·rw[Wy]
 ·rw[Ww];exact⟨ok_v0,ok_v1,ok_v2,oks_v2⟩
theorem I2 {p:PV}(h:HasT Tryz.prog 27 p):∃ x:Prg,p=x.pv/\x.ok:=by
 obtain⟨cs,rfl,hl,hx⟩:=dq h Tryz.underlying27
 rw[R8] at hl
 obtain⟨c0,c1,c2,c3,c4,rfl⟩:=Rc hl
 have h0:=hx 0 _ rfl
 have h1:=hx 1 _ rfl
 have h2:=hx 2 _ rfl
 have h3:=hx 3 _ rfl
 have h4:=hx 4 _ rfl
 simp only[bR,nL,nD,SN,Sc,SM,Sb,SL,Sa,SK,R9,XN,XH,XC,Xy,bE,XU] at h0 h1 h2 h3 h4
 obtain⟨v0,rfl,ok_v0⟩:=ba h0 Tryz.underlying3
 obtain⟨v1,rfl,ok_v1,oks_v1⟩:=b9 (f:=Sch.pv) (Q:=(fun x:Sch=>x.ok)) h1 Tryz.underlying22 Sh (fun x hx=>IZ hx)
 obtain⟨v2,rfl,ok_v2,oks_v2⟩:=b9 (f:=Enp.pv) (Q:=(fun x:Enp=>x.ok)) h2 Tryz.underlying23 Sm (fun x hx=>I4 hx)
 obtain⟨v3,rfl,ok_v3,oks_v3⟩:=b9 (f:=Svc.pv) (Q:=(fun x:Svc=>x.ok)) h3 Tryz.underlying24 Sl (fun x hx=>IX hx)
 obtain⟨v4,rfl,ok_v4,oks_v4⟩:=b9 (f:=Rou.pv) (Q:=(fun x:Rou=>x.ok)) h4 Tryz.underlying25 Sj (fun x hx=>I1 hx)
 refine⟨.mk v0 v1 v2 v3 v4,?_,?_⟩
 ·rw[Wv]
 ·rw[Wu];exact⟨ok_v0,ok_v1,oks_v1,ok_v2,oks_v2,ok_v3,oks_v3,ok_v4,oks_v4⟩

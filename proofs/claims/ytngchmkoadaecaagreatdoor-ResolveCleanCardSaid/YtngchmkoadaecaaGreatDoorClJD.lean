/- A part. -/
import Derived.KernelRfl
import Derived.Test.YtngchmkoadaecaaGreatDoorProg
import Derived.Test.YtngchmkoadaecaaGreatDoorClJSh
import Derived.Test.YtngchmkoadaecaaGreatDoorClF
set_option linter.unusedVariables false
set_option linter.unusedSimpArgs false
set_option maxRecDepth 100000
open List renaming length_append->Uy,length_cons->UC,length_nil->UR,all_append->U5,all_cons->U9,all_nil->Vj,all_eq_true->UD,drop_zero->Vc,drop_succ_cons->U8,take_succ_cons->U4,take_zero->U3,headD_cons->Vk
open Bool renaming and_true->Vh,and_self->Vu
namespace Go.Proofs.YtngchmkoadaecaaGreatDoor
open Go Go.Ab
theorem dI {P:Prop}(h:P:=by first | exact Mt | (unfold Chk;decide +kernel) | omega | exact PE (by with_unfolding_all rfl) | (simp[ae]<;>omega) | fail):P:=h
theorem qsZ{P:Prop}(h:P:=by simp(maxSteps:=9^7) (disch:=try exact dI) only[push_cast,seval]):P:=h
theorem zgZ{P Q:Prop}(h:Q)(e:P=Q:=by simp(disch:=try exact dI) only[push_cast,seval];rfl):P:=e.mpr h
def I64 (n:Int):Prop:=-9223372036854775808<=n/\n<=9223372036854775807
mutual
inductive Val where
 | mk (kind:Int) (num:Int) (scale:Int) (text:List UInt8) (lst:List Val) (fields:List Fld)
inductive Fld where
 | mk (name:List UInt8) (value:Val)
end
def Val.kind:Val->Int
 | .mk kind _ _ _ _ _=>kind
def Val.num:Val->Int
 | .mk _ num _ _ _ _=>num
def Val.scale:Val->Int
 | .mk _ _ scale _ _ _=>scale
def Val.text:Val->List UInt8
 | .mk _ _ _ text _ _=>text
def Val.lst:Val->List Val
 | .mk _ _ _ _ lst _=>lst
def Val.fields:Val->List Fld
 | .mk _ _ _ _ _ fields=>fields
def Fld.name:Fld->List UInt8
 | .mk name _=>name
def Fld.value:Fld->Val
 | .mk _ value=>value
mutual
def Val.pv:Val->PV
 | .mk kind num scale text lst fields=>.agg ([.int .i64 kind,.int .i64 num,.int .i64 scale,.str text,.list (lst.map Val.pv),.list (fields.map Fld.pv)])
def Fld.pv:Fld->PV
 | .mk name value=>.agg ([.str name]++value.pv.cells)
end
theorem Uo (kind:Int)(num:Int)(scale:Int)(text:List UInt8)(lst:List Val)(fields:List Fld):(Val.mk kind num scale text lst fields).pv = .agg ([.int .i64 kind,.int .i64 num,.int .i64 scale,.str text,.list (lst.map Val.pv),.list (fields.map Fld.pv)]):=by rw[Val.pv]
theorem TY (name:List UInt8)(value:Val):(Fld.mk name value).pv = .agg ([.str name]++value.pv.cells):=by rw[Fld.pv]
theorem Val.cells_len (x:Val):x.pv.cells.length=6:=by
 obtain⟨kind,num,scale,text,lst,fields⟩:=x
 rw[Uo];simp only[ae,Uy,UC,UR]
theorem Val.isAgg (x:Val):x.pv.isAgg=true:=by
 obtain⟨kind,num,scale,text,lst,fields⟩:=x
 rw[Uo];rfl
theorem Fld.cells_len (x:Fld):x.pv.cells.length=7:=by
 obtain⟨name,value⟩:=x
 rw[TY];simp only[ae,Uy,UC,UR,Val.cells_len]
theorem Fld.isAgg (x:Fld):x.pv.isAgg=true:=by
 obtain⟨name,value⟩:=x
 rw[TY];rfl
theorem Val.ones (x:Val):(x.pv.cells.all PV.one)=true:=by
 obtain⟨kind,num,scale,text,lst,fields⟩:=x
 rw[Uo];simp only[ae,U5,U9,Vj,bF,bG,bh,bg,Vh,Vu]
theorem Val.row (x:Val):∃ cs,x.pv = .agg cs/\cs.length=6/\∀ p∈cs,p.one=true:=by
 have h1:=x.cells_len;have h2:=x.ones;have h3:=x.isAgg
 cases h:x.pv with
 | agg cs=>rw[h] at h1 h2;exact⟨cs,rfl,h1,fun p hp=>UD.1 h2 p hp⟩
 | _=>rw[h] at h3;cases h3
theorem Fld.ones (x:Fld):(x.pv.cells.all PV.one)=true:=by
 obtain⟨name,value⟩:=x
 rw[TY];simp only[ae,U5,U9,Vj,bF,bG,bh,bg,Vh,Vu,Val.ones]
theorem Fld.row (x:Fld):∃ cs,x.pv = .agg cs/\cs.length=7/\∀ p∈cs,p.one=true:=by
 have h1:=x.cells_len;have h2:=x.ones;have h3:=x.isAgg
 cases h:x.pv with
 | agg cs=>rw[h] at h1 h2;exact⟨cs,rfl,h1,fun p hp=>UD.1 h2 p hp⟩
 | _=>rw[h] at h3;cases h3
mutual
def Val.ok:Val->Prop
 | .mk kind num scale text lst fields=>I64 kind/\I64 num/\I64 scale/\text.length<=140737488351232/\lst.length*88<=140737488351232/\(∀ x∈lst,x.ok)/\fields.length*104<=140737488351232/\(∀ x∈fields,x.ok)
def Fld.ok:Fld->Prop
 | .mk name value=>name.length<=140737488351232/\value.ok
end
theorem Un (kind:Int)(num:Int)(scale:Int)(text:List UInt8)(lst:List Val)(fields:List Fld):(Val.mk kind num scale text lst fields).ok=(I64 kind/\I64 num/\I64 scale/\text.length<=140737488351232/\lst.length*88<=140737488351232/\(∀ x∈lst,x.ok)/\fields.length*104<=140737488351232/\(∀ x∈fields,x.ok)):=by rw[Val.ok]
theorem TX (name:List UInt8)(value:Val):(Fld.mk name value).ok=(name.length<=140737488351232/\value.ok):=by rw[Fld.ok]
mutual
inductive Typ where
 | mk (kind:Int) (min:Int) (max:Int) (scale:Int) (words:List (List UInt8)) (elem:List Typ) (fields:List TFd)
inductive TFd where
 | mk (number:Int) (name:List UInt8) (need:Int) (typ:Typ) (dflt:List Val)
end
def Typ.kind:Typ->Int
 | .mk kind _ _ _ _ _ _=>kind
def Typ.min:Typ->Int
 | .mk _ min _ _ _ _ _=>min
def Typ.max:Typ->Int
 | .mk _ _ max _ _ _ _=>max
def Typ.scale:Typ->Int
 | .mk _ _ _ scale _ _ _=>scale
def Typ.words:Typ->List (List UInt8)
 | .mk _ _ _ _ words _ _=>words
def Typ.elem:Typ->List Typ
 | .mk _ _ _ _ _ elem _=>elem
def Typ.fields:Typ->List TFd
 | .mk _ _ _ _ _ _ fields=>fields
def TFd.number:TFd->Int
 | .mk number _ _ _ _=>number
def TFd.name:TFd->List UInt8
 | .mk _ name _ _ _=>name
def TFd.need:TFd->Int
 | .mk _ _ need _ _=>need
def TFd.typ:TFd->Typ
 | .mk _ _ _ typ _=>typ
def TFd.dflt:TFd->List Val
 | .mk _ _ _ _ dflt=>dflt
mutual
def Typ.pv:Typ->PV
 | .mk kind min max scale words elem fields=>.agg ([.int .i64 kind,.int .i64 min,.int .i64 max,.int .i64 scale,.list (words.map PV.str),.list (elem.map Typ.pv),.list (fields.map TFd.pv)])
def TFd.pv:TFd->PV
 | .mk number name need typ dflt=>.agg ([.int .i64 number,.str name,.int .i64 need]++typ.pv.cells++[.list (dflt.map Val.pv)])
end
theorem Um (kind:Int)(min:Int)(max:Int)(scale:Int)(words:List (List UInt8))(elem:List Typ)(fields:List TFd):(Typ.mk kind min max scale words elem fields).pv = .agg ([.int .i64 kind,.int .i64 min,.int .i64 max,.int .i64 scale,.list (words.map PV.str),.list (elem.map Typ.pv),.list (fields.map TFd.pv)]):=by rw[Typ.pv]
theorem Uh (number:Int)(name:List UInt8)(need:Int)(typ:Typ)(dflt:List Val):(TFd.mk number name need typ dflt).pv = .agg ([.int .i64 number,.str name,.int .i64 need]++typ.pv.cells++[.list (dflt.map Val.pv)]):=by rw[TFd.pv]
theorem Typ.cells_len (x:Typ):x.pv.cells.length=7:=by
 obtain⟨kind,min,max,scale,words,elem,fields⟩:=x
 rw[Um];simp only[ae,Uy,UC,UR]
theorem Typ.isAgg (x:Typ):x.pv.isAgg=true:=by
 obtain⟨kind,min,max,scale,words,elem,fields⟩:=x
 rw[Um];rfl
theorem TFd.cells_len (x:TFd):x.pv.cells.length=11:=by
 obtain⟨number,name,need,typ,dflt⟩:=x
 rw[Uh];simp only[ae,Uy,UC,UR,Typ.cells_len]
theorem TFd.isAgg (x:TFd):x.pv.isAgg=true:=by
 obtain⟨number,name,need,typ,dflt⟩:=x
 rw[Uh];rfl
theorem Typ.ones (x:Typ):(x.pv.cells.all PV.one)=true:=by
 obtain⟨kind,min,max,scale,words,elem,fields⟩:=x
 rw[Um];simp only[ae,U5,U9,Vj,bF,bG,bh,bg,Vh,Vu]
theorem Typ.row (x:Typ):∃ cs,x.pv = .agg cs/\cs.length=7/\∀ p∈cs,p.one=true:=by
 have h1:=x.cells_len;have h2:=x.ones;have h3:=x.isAgg
 cases h:x.pv with
 | agg cs=>rw[h] at h1 h2;exact⟨cs,rfl,h1,fun p hp=>UD.1 h2 p hp⟩
 | _=>rw[h] at h3;cases h3
theorem TFd.ones (x:TFd):(x.pv.cells.all PV.one)=true:=by
 obtain⟨number,name,need,typ,dflt⟩:=x
 rw[Uh];simp only[ae,U5,U9,Vj,bF,bG,bh,bg,Vh,Vu,Typ.ones]
theorem TFd.row (x:TFd):∃ cs,x.pv = .agg cs/\cs.length=11/\∀ p∈cs,p.one=true:=by
 have h1:=x.cells_len;have h2:=x.ones;have h3:=x.isAgg
 cases h:x.pv with
 | agg cs=>rw[h] at h1 h2;exact⟨cs,rfl,h1,fun p hp=>UD.1 h2 p hp⟩
 | _=>rw[h] at h3;cases h3
mutual
def Typ.ok:Typ->Prop
 | .mk kind min max scale words elem fields=>I64 kind/\I64 min/\I64 max/\I64 scale/\words.length*16<=140737488351232/\(∀ x∈words,x.length<=140737488351232)/\elem.length*104<=140737488351232/\(∀ x∈elem,x.ok)/\fields.length*160<=140737488351232/\(∀ x∈fields,x.ok)
def TFd.ok:TFd->Prop
 | .mk number name need typ dflt=>I64 number/\name.length<=140737488351232/\I64 need/\typ.ok/\dflt.length*88<=140737488351232/\(∀ x∈dflt,x.ok)
end
theorem Ul (kind:Int)(min:Int)(max:Int)(scale:Int)(words:List (List UInt8))(elem:List Typ)(fields:List TFd):(Typ.mk kind min max scale words elem fields).ok=(I64 kind/\I64 min/\I64 max/\I64 scale/\words.length*16<=140737488351232/\(∀ x∈words,x.length<=140737488351232)/\elem.length*104<=140737488351232/\(∀ x∈elem,x.ok)/\fields.length*160<=140737488351232/\(∀ x∈fields,x.ok)):=by rw[Typ.ok]
theorem Ug (number:Int)(name:List UInt8)(need:Int)(typ:Typ)(dflt:List Val):(TFd.mk number name need typ dflt).ok=(I64 number/\name.length<=140737488351232/\I64 need/\typ.ok/\dflt.length*88<=140737488351232/\(∀ x∈dflt,x.ok)):=by rw[TFd.ok]
inductive Exp where
 | mk (op:Int) (num:Int) (text:List UInt8) (value:List Val) (args:List Exp)
def Exp.op:Exp->Int
 | .mk op _ _ _ _=>op
def Exp.num:Exp->Int
 | .mk _ num _ _ _=>num
def Exp.text:Exp->List UInt8
 | .mk _ _ text _ _=>text
def Exp.value:Exp->List Val
 | .mk _ _ _ value _=>value
def Exp.args:Exp->List Exp
 | .mk _ _ _ _ args=>args
def Exp.pv:Exp->PV
 | .mk op num text value args=>.agg ([.int .i64 op,.int .i64 num,.str text,.list (value.map Val.pv),.list (args.map Exp.pv)])
theorem TW (op:Int)(num:Int)(text:List UInt8)(value:List Val)(args:List Exp):(Exp.mk op num text value args).pv = .agg ([.int .i64 op,.int .i64 num,.str text,.list (value.map Val.pv),.list (args.map Exp.pv)]):=by rw[Exp.pv]
theorem Exp.cells_len (x:Exp):x.pv.cells.length=5:=by
 obtain⟨op,num,text,value,args⟩:=x
 rw[TW];simp only[ae,Uy,UC,UR]
theorem Exp.isAgg (x:Exp):x.pv.isAgg=true:=by
 obtain⟨op,num,text,value,args⟩:=x
 rw[TW];rfl
theorem Exp.ones (x:Exp):(x.pv.cells.all PV.one)=true:=by
 obtain⟨op,num,text,value,args⟩:=x
 rw[TW];simp only[ae,U5,U9,Vj,bF,bG,bh,bg,Vh,Vu]
theorem Exp.row (x:Exp):∃ cs,x.pv = .agg cs/\cs.length=5/\∀ p∈cs,p.one=true:=by
 have h1:=x.cells_len;have h2:=x.ones;have h3:=x.isAgg
 cases h:x.pv with
 | agg cs=>rw[h] at h1 h2;exact⟨cs,rfl,h1,fun p hp=>UD.1 h2 p hp⟩
 | _=>rw[h] at h3;cases h3
def Exp.ok:Exp->Prop
 | .mk op num text value args=>I64 op/\I64 num/\text.length<=140737488351232/\value.length*88<=140737488351232/\(∀ x∈value,x.ok)/\args.length*80<=140737488351232/\(∀ x∈args,x.ok)
theorem TV (op:Int)(num:Int)(text:List UInt8)(value:List Val)(args:List Exp):(Exp.mk op num text value args).ok=(I64 op/\I64 num/\text.length<=140737488351232/\value.length*88<=140737488351232/\(∀ x∈value,x.ok)/\args.length*80<=140737488351232/\(∀ x∈args,x.ok)):=by rw[Exp.ok]
inductive Rul where
 | mk (target:List UInt8) (expr:Exp)
def Rul.target:Rul->List UInt8
 | .mk target _=>target
def Rul.expr:Rul->Exp
 | .mk _ expr=>expr
def Rul.pv:Rul->PV
 | .mk target expr=>.agg ([.str target]++expr.pv.cells)
theorem T8 (target:List UInt8)(expr:Exp):(Rul.mk target expr).pv = .agg ([.str target]++expr.pv.cells):=by rw[Rul.pv]
theorem Rul.cells_len (x:Rul):x.pv.cells.length=6:=by
 obtain⟨target,expr⟩:=x
 rw[T8];simp only[ae,Uy,UC,UR,Exp.cells_len]
theorem Rul.isAgg (x:Rul):x.pv.isAgg=true:=by
 obtain⟨target,expr⟩:=x
 rw[T8];rfl
theorem Rul.ones (x:Rul):(x.pv.cells.all PV.one)=true:=by
 obtain⟨target,expr⟩:=x
 rw[T8];simp only[ae,U5,U9,Vj,bF,bG,bh,bg,Vh,Vu,Exp.ones]
theorem Rul.row (x:Rul):∃ cs,x.pv = .agg cs/\cs.length=6/\∀ p∈cs,p.one=true:=by
 have h1:=x.cells_len;have h2:=x.ones;have h3:=x.isAgg
 cases h:x.pv with
 | agg cs=>rw[h] at h1 h2;exact⟨cs,rfl,h1,fun p hp=>UD.1 h2 p hp⟩
 | _=>rw[h] at h3;cases h3
def Rul.ok:Rul->Prop
 | .mk target expr=>target.length<=140737488351232/\expr.ok
theorem T7 (target:List UInt8)(expr:Exp):(Rul.mk target expr).ok=(target.length<=140737488351232/\expr.ok):=by rw[Rul.ok]
inductive Cal where
 | mk (service:List UInt8) (mapping:List Rul)
def Cal.service:Cal->List UInt8
 | .mk service _=>service
def Cal.mapping:Cal->List Rul
 | .mk _ mapping=>mapping
def Cal.pv:Cal->PV
 | .mk service mapping=>.agg ([.str service,.list (mapping.map Rul.pv)])
theorem TS (service:List UInt8)(mapping:List Rul):(Cal.mk service mapping).pv = .agg ([.str service,.list (mapping.map Rul.pv)]):=by rw[Cal.pv]
theorem Cal.cells_len (x:Cal):x.pv.cells.length=2:=by
 obtain⟨service,mapping⟩:=x
 rw[TS];simp only[ae,Uy,UC,UR]
theorem Cal.isAgg (x:Cal):x.pv.isAgg=true:=by
 obtain⟨service,mapping⟩:=x
 rw[TS];rfl
theorem Cal.ones (x:Cal):(x.pv.cells.all PV.one)=true:=by
 obtain⟨service,mapping⟩:=x
 rw[TS];simp only[ae,U5,U9,Vj,bF,bG,bh,bg,Vh,Vu]
theorem Cal.row (x:Cal):∃ cs,x.pv = .agg cs/\cs.length=2/\∀ p∈cs,p.one=true:=by
 have h1:=x.cells_len;have h2:=x.ones;have h3:=x.isAgg
 cases h:x.pv with
 | agg cs=>rw[h] at h1 h2;exact⟨cs,rfl,h1,fun p hp=>UD.1 h2 p hp⟩
 | _=>rw[h] at h3;cases h3
def Cal.ok:Cal->Prop
 | .mk service mapping=>service.length<=140737488351232/\mapping.length*96<=140737488351232/\(∀ x∈mapping,x.ok)
theorem TR (service:List UInt8)(mapping:List Rul):(Cal.mk service mapping).ok=(service.length<=140737488351232/\mapping.length*96<=140737488351232/\(∀ x∈mapping,x.ok)):=by rw[Cal.ok]
mutual
inductive Bra where
 | mk (when:List Exp) (steps:List Stp)
inductive Stp where
 | mk (name:List UInt8) (kind:Int) (number:Int) (time:Int) (limit:Int) (text:List UInt8) (schema:List UInt8) (exprs:List Exp) (mapping:List Rul) (calls:List Cal) (branches:List Bra)
end
def Bra.when:Bra->List Exp
 | .mk when _=>when
def Bra.steps:Bra->List Stp
 | .mk _ steps=>steps
def Stp.name:Stp->List UInt8
 | .mk name _ _ _ _ _ _ _ _ _ _=>name
def Stp.kind:Stp->Int
 | .mk _ kind _ _ _ _ _ _ _ _ _=>kind
def Stp.number:Stp->Int
 | .mk _ _ number _ _ _ _ _ _ _ _=>number
def Stp.time:Stp->Int
 | .mk _ _ _ time _ _ _ _ _ _ _=>time
def Stp.limit:Stp->Int
 | .mk _ _ _ _ limit _ _ _ _ _ _=>limit
def Stp.text:Stp->List UInt8
 | .mk _ _ _ _ _ text _ _ _ _ _=>text
def Stp.schema:Stp->List UInt8
 | .mk _ _ _ _ _ _ schema _ _ _ _=>schema
def Stp.exprs:Stp->List Exp
 | .mk _ _ _ _ _ _ _ exprs _ _ _=>exprs
def Stp.mapping:Stp->List Rul
 | .mk _ _ _ _ _ _ _ _ mapping _ _=>mapping
def Stp.calls:Stp->List Cal
 | .mk _ _ _ _ _ _ _ _ _ calls _=>calls
def Stp.branches:Stp->List Bra
 | .mk _ _ _ _ _ _ _ _ _ _ branches=>branches
mutual
def Bra.pv:Bra->PV
 | .mk when steps=>.agg ([.list (when.map Exp.pv),.list (steps.map Stp.pv)])
def Stp.pv:Stp->PV
 | .mk name kind number time limit text schema exprs mapping calls branches=>.agg ([.str name,.int .i64 kind,.int .i64 number,.int .i64 time,.int .i64 limit,.str text,.str schema,.list (exprs.map Exp.pv),.list (mapping.map Rul.pv),.list (calls.map Cal.pv),.list (branches.map Bra.pv)])
end
theorem TQ (when:List Exp)(steps:List Stp):(Bra.mk when steps).pv = .agg ([.list (when.map Exp.pv),.list (steps.map Stp.pv)]):=by rw[Bra.pv]
theorem Ud (name:List UInt8)(kind:Int)(number:Int)(time:Int)(limit:Int)(text:List UInt8)(schema:List UInt8)(exprs:List Exp)(mapping:List Rul)(calls:List Cal)(branches:List Bra):(Stp.mk name kind number time limit text schema exprs mapping calls branches).pv = .agg ([.str name,.int .i64 kind,.int .i64 number,.int .i64 time,.int .i64 limit,.str text,.str schema,.list (exprs.map Exp.pv),.list (mapping.map Rul.pv),.list (calls.map Cal.pv),.list (branches.map Bra.pv)]):=by rw[Stp.pv]
theorem Bra.cells_len (x:Bra):x.pv.cells.length=2:=by
 obtain⟨when,steps⟩:=x
 rw[TQ];simp only[ae,Uy,UC,UR]
theorem Bra.isAgg (x:Bra):x.pv.isAgg=true:=by
 obtain⟨when,steps⟩:=x
 rw[TQ];rfl
theorem Stp.cells_len (x:Stp):x.pv.cells.length=11:=by
 obtain⟨name,kind,number,time,limit,text,schema,exprs,mapping,calls,branches⟩:=x
 rw[Ud];simp only[ae,Uy,UC,UR]
theorem Stp.isAgg (x:Stp):x.pv.isAgg=true:=by
 obtain⟨name,kind,number,time,limit,text,schema,exprs,mapping,calls,branches⟩:=x
 rw[Ud];rfl
theorem Bra.ones (x:Bra):(x.pv.cells.all PV.one)=true:=by
 obtain⟨when,steps⟩:=x
 rw[TQ];simp only[ae,U5,U9,Vj,bF,bG,bh,bg,Vh,Vu]
theorem Bra.row (x:Bra):∃ cs,x.pv = .agg cs/\cs.length=2/\∀ p∈cs,p.one=true:=by
 have h1:=x.cells_len;have h2:=x.ones;have h3:=x.isAgg
 cases h:x.pv with
 | agg cs=>rw[h] at h1 h2;exact⟨cs,rfl,h1,fun p hp=>UD.1 h2 p hp⟩
 | _=>rw[h] at h3;cases h3
theorem Stp.ones (x:Stp):(x.pv.cells.all PV.one)=true:=by
 obtain⟨name,kind,number,time,limit,text,schema,exprs,mapping,calls,branches⟩:=x
 rw[Ud];simp only[ae,U5,U9,Vj,bF,bG,bh,bg,Vh,Vu]
theorem Stp.row (x:Stp):∃ cs,x.pv = .agg cs/\cs.length=11/\∀ p∈cs,p.one=true:=by
 have h1:=x.cells_len;have h2:=x.ones;have h3:=x.isAgg
 cases h:x.pv with
 | agg cs=>rw[h] at h1 h2;exact⟨cs,rfl,h1,fun p hp=>UD.1 h2 p hp⟩
 | _=>rw[h] at h3;cases h3
mutual
def Bra.ok:Bra->Prop
 | .mk when steps=>when.length*80<=140737488351232/\(∀ x∈when,x.ok)/\steps.length*176<=140737488351232/\(∀ x∈steps,x.ok)
def Stp.ok:Stp->Prop
 | .mk name kind number time limit text schema exprs mapping calls branches=>name.length<=140737488351232/\I64 kind/\I64 number/\I64 time/\I64 limit/\text.length<=140737488351232/\schema.length<=140737488351232/\exprs.length*80<=140737488351232/\(∀ x∈exprs,x.ok)/\mapping.length*96<=140737488351232/\(∀ x∈mapping,x.ok)/\calls.length*40<=140737488351232/\(∀ x∈calls,x.ok)/\branches.length*48<=140737488351232/\(∀ x∈branches,x.ok)
end
theorem TP (when:List Exp)(steps:List Stp):(Bra.mk when steps).ok=(when.length*80<=140737488351232/\(∀ x∈when,x.ok)/\steps.length*176<=140737488351232/\(∀ x∈steps,x.ok)):=by rw[Bra.ok]
theorem Uc (name:List UInt8)(kind:Int)(number:Int)(time:Int)(limit:Int)(text:List UInt8)(schema:List UInt8)(exprs:List Exp)(mapping:List Rul)(calls:List Cal)(branches:List Bra):(Stp.mk name kind number time limit text schema exprs mapping calls branches).ok=(name.length<=140737488351232/\I64 kind/\I64 number/\I64 time/\I64 limit/\text.length<=140737488351232/\schema.length<=140737488351232/\exprs.length*80<=140737488351232/\(∀ x∈exprs,x.ok)/\mapping.length*96<=140737488351232/\(∀ x∈mapping,x.ok)/\calls.length*40<=140737488351232/\(∀ x∈calls,x.ok)/\branches.length*48<=140737488351232/\(∀ x∈branches,x.ok)):=by rw[Stp.ok]
inductive Sch where
 | mk (name:List UInt8) (version:Int) (typ:Typ)
def Sch.name:Sch->List UInt8
 | .mk name _ _=>name
def Sch.version:Sch->Int
 | .mk _ version _=>version
def Sch.typ:Sch->Typ
 | .mk _ _ typ=>typ
def Sch.pv:Sch->PV
 | .mk name version typ=>.agg ([.str name,.int .i64 version]++typ.pv.cells)
theorem Ub (name:List UInt8)(version:Int)(typ:Typ):(Sch.mk name version typ).pv = .agg ([.str name,.int .i64 version]++typ.pv.cells):=by rw[Sch.pv]
theorem Sch.cells_len (x:Sch):x.pv.cells.length=9:=by
 obtain⟨name,version,typ⟩:=x
 rw[Ub];simp only[ae,Uy,UC,UR,Typ.cells_len]
theorem Sch.isAgg (x:Sch):x.pv.isAgg=true:=by
 obtain⟨name,version,typ⟩:=x
 rw[Ub];rfl
theorem Sch.ones (x:Sch):(x.pv.cells.all PV.one)=true:=by
 obtain⟨name,version,typ⟩:=x
 rw[Ub];simp only[ae,U5,U9,Vj,bF,bG,bh,bg,Vh,Vu,Typ.ones]
theorem Sch.row (x:Sch):∃ cs,x.pv = .agg cs/\cs.length=9/\∀ p∈cs,p.one=true:=by
 have h1:=x.cells_len;have h2:=x.ones;have h3:=x.isAgg
 cases h:x.pv with
 | agg cs=>rw[h] at h1 h2;exact⟨cs,rfl,h1,fun p hp=>UD.1 h2 p hp⟩
 | _=>rw[h] at h3;cases h3
def Sch.ok:Sch->Prop
 | .mk name version typ=>name.length<=140737488351232/\I64 version/\typ.ok
theorem Ua (name:List UInt8)(version:Int)(typ:Typ):(Sch.mk name version typ).ok=(name.length<=140737488351232/\I64 version/\typ.ok):=by rw[Sch.ok]
inductive Fmt where
 | mk (kind:Int) (separator:Int) (widths:List Int)
def Fmt.kind:Fmt->Int
 | .mk kind _ _=>kind
def Fmt.separator:Fmt->Int
 | .mk _ separator _=>separator
def Fmt.widths:Fmt->List Int
 | .mk _ _ widths=>widths
def Fmt.pv:Fmt->PV
 | .mk kind separator widths=>.agg ([.int .i64 kind,.int .i64 separator,.list (widths.map (PV.int .i64))])
theorem T1 (kind:Int)(separator:Int)(widths:List Int):(Fmt.mk kind separator widths).pv = .agg ([.int .i64 kind,.int .i64 separator,.list (widths.map (PV.int .i64))]):=by rw[Fmt.pv]
theorem Fmt.cells_len (x:Fmt):x.pv.cells.length=3:=by
 obtain⟨kind,separator,widths⟩:=x
 rw[T1];simp only[ae,Uy,UC,UR]
theorem Fmt.isAgg (x:Fmt):x.pv.isAgg=true:=by
 obtain⟨kind,separator,widths⟩:=x
 rw[T1];rfl
theorem Fmt.ones (x:Fmt):(x.pv.cells.all PV.one)=true:=by
 obtain⟨kind,separator,widths⟩:=x
 rw[T1];simp only[ae,U5,U9,Vj,bF,bG,bh,bg,Vh,Vu]
theorem Fmt.row (x:Fmt):∃ cs,x.pv = .agg cs/\cs.length=3/\∀ p∈cs,p.one=true:=by
 have h1:=x.cells_len;have h2:=x.ones;have h3:=x.isAgg
 cases h:x.pv with
 | agg cs=>rw[h] at h1 h2;exact⟨cs,rfl,h1,fun p hp=>UD.1 h2 p hp⟩
 | _=>rw[h] at h3;cases h3
def Fmt.ok:Fmt->Prop
 | .mk kind separator widths=>I64 kind/\I64 separator/\widths.length*8<=140737488351232/\(∀ x∈widths,I64 x)
theorem TZ (kind:Int)(separator:Int)(widths:List Int):(Fmt.mk kind separator widths).ok=(I64 kind/\I64 separator/\widths.length*8<=140737488351232/\(∀ x∈widths,I64 x)):=by rw[Fmt.ok]
inductive Enp where
 | mk (name:List UInt8) (kind:Int) (schema:List UInt8) (version:Int) (format:Fmt)
def Enp.name:Enp->List UInt8
 | .mk name _ _ _ _=>name
def Enp.kind:Enp->Int
 | .mk _ kind _ _ _=>kind
def Enp.schema:Enp->List UInt8
 | .mk _ _ schema _ _=>schema
def Enp.version:Enp->Int
 | .mk _ _ _ version _=>version
def Enp.format:Enp->Fmt
 | .mk _ _ _ _ format=>format
def Enp.pv:Enp->PV
 | .mk name kind schema version format=>.agg ([.str name,.int .i64 kind,.str schema,.int .i64 version]++format.pv.cells)
theorem TU (name:List UInt8)(kind:Int)(schema:List UInt8)(version:Int)(format:Fmt):(Enp.mk name kind schema version format).pv = .agg ([.str name,.int .i64 kind,.str schema,.int .i64 version]++format.pv.cells):=by rw[Enp.pv]
theorem Enp.cells_len (x:Enp):x.pv.cells.length=7:=by
 obtain⟨name,kind,schema,version,format⟩:=x
 rw[TU];simp only[ae,Uy,UC,UR,Fmt.cells_len]
theorem Enp.isAgg (x:Enp):x.pv.isAgg=true:=by
 obtain⟨name,kind,schema,version,format⟩:=x
 rw[TU];rfl
theorem Enp.ones (x:Enp):(x.pv.cells.all PV.one)=true:=by
 obtain⟨name,kind,schema,version,format⟩:=x
 rw[TU];simp only[ae,U5,U9,Vj,bF,bG,bh,bg,Vh,Vu,Fmt.ones]
theorem Enp.row (x:Enp):∃ cs,x.pv = .agg cs/\cs.length=7/\∀ p∈cs,p.one=true:=by
 have h1:=x.cells_len;have h2:=x.ones;have h3:=x.isAgg
 cases h:x.pv with
 | agg cs=>rw[h] at h1 h2;exact⟨cs,rfl,h1,fun p hp=>UD.1 h2 p hp⟩
 | _=>rw[h] at h3;cases h3
def Enp.ok:Enp->Prop
 | .mk name kind schema version format=>name.length<=140737488351232/\I64 kind/\schema.length<=140737488351232/\I64 version/\format.ok
theorem TT (name:List UInt8)(kind:Int)(schema:List UInt8)(version:Int)(format:Fmt):(Enp.mk name kind schema version format).ok=(name.length<=140737488351232/\I64 kind/\schema.length<=140737488351232/\I64 version/\format.ok):=by rw[Enp.ok]
inductive Svc where
 | mk (name:List UInt8) (request:List UInt8) (reply:List UInt8) (undo:Bool)
def Svc.name:Svc->List UInt8
 | .mk name _ _ _=>name
def Svc.request:Svc->List UInt8
 | .mk _ request _ _=>request
def Svc.reply:Svc->List UInt8
 | .mk _ _ reply _=>reply
def Svc.undo:Svc->Bool
 | .mk _ _ _ undo=>undo
def Svc.pv:Svc->PV
 | .mk name request reply undo=>.agg ([.str name,.str request,.str reply,.bool undo])
theorem Uf (name:List UInt8)(request:List UInt8)(reply:List UInt8)(undo:Bool):(Svc.mk name request reply undo).pv = .agg ([.str name,.str request,.str reply,.bool undo]):=by rw[Svc.pv]
theorem Svc.cells_len (x:Svc):x.pv.cells.length=4:=by
 obtain⟨name,request,reply,undo⟩:=x
 rw[Uf];simp only[ae,Uy,UC,UR]
theorem Svc.isAgg (x:Svc):x.pv.isAgg=true:=by
 obtain⟨name,request,reply,undo⟩:=x
 rw[Uf];rfl
theorem Svc.ones (x:Svc):(x.pv.cells.all PV.one)=true:=by
 obtain⟨name,request,reply,undo⟩:=x
 rw[Uf];simp only[ae,U5,U9,Vj,bF,bG,bh,bg,Vh,Vu]
theorem Svc.row (x:Svc):∃ cs,x.pv = .agg cs/\cs.length=4/\∀ p∈cs,p.one=true:=by
 have h1:=x.cells_len;have h2:=x.ones;have h3:=x.isAgg
 cases h:x.pv with
 | agg cs=>rw[h] at h1 h2;exact⟨cs,rfl,h1,fun p hp=>UD.1 h2 p hp⟩
 | _=>rw[h] at h3;cases h3
def Svc.ok:Svc->Prop
 | .mk name request reply undo=>name.length<=140737488351232/\request.length<=140737488351232/\reply.length<=140737488351232
theorem Ue (name:List UInt8)(request:List UInt8)(reply:List UInt8)(undo:Bool):(Svc.mk name request reply undo).ok=(name.length<=140737488351232/\request.length<=140737488351232/\reply.length<=140737488351232):=by rw[Svc.ok]
inductive Rou where
 | mk (name:List UInt8) (src:List UInt8) (steps:List Stp)
def Rou.name:Rou->List UInt8
 | .mk name _ _=>name
def Rou.src:Rou->List UInt8
 | .mk _ src _=>src
def Rou.steps:Rou->List Stp
 | .mk _ _ steps=>steps
def Rou.pv:Rou->PV
 | .mk name src steps=>.agg ([.str name,.str src,.list (steps.map Stp.pv)])
theorem T6 (name:List UInt8)(src:List UInt8)(steps:List Stp):(Rou.mk name src steps).pv = .agg ([.str name,.str src,.list (steps.map Stp.pv)]):=by rw[Rou.pv]
theorem Rou.cells_len (x:Rou):x.pv.cells.length=3:=by
 obtain⟨name,src,steps⟩:=x
 rw[T6];simp only[ae,Uy,UC,UR]
theorem Rou.isAgg (x:Rou):x.pv.isAgg=true:=by
 obtain⟨name,src,steps⟩:=x
 rw[T6];rfl
theorem Rou.ones (x:Rou):(x.pv.cells.all PV.one)=true:=by
 obtain⟨name,src,steps⟩:=x
 rw[T6];simp only[ae,U5,U9,Vj,bF,bG,bh,bg,Vh,Vu]
theorem Rou.row (x:Rou):∃ cs,x.pv = .agg cs/\cs.length=3/\∀ p∈cs,p.one=true:=by
 have h1:=x.cells_len;have h2:=x.ones;have h3:=x.isAgg
 cases h:x.pv with
 | agg cs=>rw[h] at h1 h2;exact⟨cs,rfl,h1,fun p hp=>UD.1 h2 p hp⟩
 | _=>rw[h] at h3;cases h3
def Rou.ok:Rou->Prop
 | .mk name src steps=>name.length<=140737488351232/\src.length<=140737488351232/\steps.length*176<=140737488351232/\(∀ x∈steps,x.ok)
theorem T5 (name:List UInt8)(src:List UInt8)(steps:List Stp):(Rou.mk name src steps).ok=(name.length<=140737488351232/\src.length<=140737488351232/\steps.length*176<=140737488351232/\(∀ x∈steps,x.ok)):=by rw[Rou.ok]
inductive Prg where
 | mk (version:Int) (schemas:List Sch) (endpoints:List Enp) (services:List Svc) (routes:List Rou)
def Prg.version:Prg->Int
 | .mk version _ _ _ _=>version
def Prg.schemas:Prg->List Sch
 | .mk _ schemas _ _ _=>schemas
def Prg.endpoints:Prg->List Enp
 | .mk _ _ endpoints _ _=>endpoints
def Prg.services:Prg->List Svc
 | .mk _ _ _ services _=>services
def Prg.routes:Prg->List Rou
 | .mk _ _ _ _ routes=>routes
def Prg.pv:Prg->PV
 | .mk version schemas endpoints services routes=>.agg ([.int .i64 version,.list (schemas.map Sch.pv),.list (endpoints.map Enp.pv),.list (services.map Svc.pv),.list (routes.map Rou.pv)])
theorem T4 (version:Int)(schemas:List Sch)(endpoints:List Enp)(services:List Svc)(routes:List Rou):(Prg.mk version schemas endpoints services routes).pv = .agg ([.int .i64 version,.list (schemas.map Sch.pv),.list (endpoints.map Enp.pv),.list (services.map Svc.pv),.list (routes.map Rou.pv)]):=by rw[Prg.pv]
theorem Prg.cells_len (x:Prg):x.pv.cells.length=5:=by
 obtain⟨version,schemas,endpoints,services,routes⟩:=x
 rw[T4];simp only[ae,Uy,UC,UR]
theorem Prg.isAgg (x:Prg):x.pv.isAgg=true:=by
 obtain⟨version,schemas,endpoints,services,routes⟩:=x
 rw[T4];rfl
theorem Prg.ones (x:Prg):(x.pv.cells.all PV.one)=true:=by
 obtain⟨version,schemas,endpoints,services,routes⟩:=x
 rw[T4];simp only[ae,U5,U9,Vj,bF,bG,bh,bg,Vh,Vu]
theorem Prg.row (x:Prg):∃ cs,x.pv = .agg cs/\cs.length=5/\∀ p∈cs,p.one=true:=by
 have h1:=x.cells_len;have h2:=x.ones;have h3:=x.isAgg
 cases h:x.pv with
 | agg cs=>rw[h] at h1 h2;exact⟨cs,rfl,h1,fun p hp=>UD.1 h2 p hp⟩
 | _=>rw[h] at h3;cases h3
def Prg.ok:Prg->Prop
 | .mk version schemas endpoints services routes=>I64 version/\schemas.length*128<=140737488351232/\(∀ x∈schemas,x.ok)/\endpoints.length*88<=140737488351232/\(∀ x∈endpoints,x.ok)/\services.length*56<=140737488351232/\(∀ x∈services,x.ok)/\routes.length*56<=140737488351232/\(∀ x∈routes,x.ok)
theorem T3 (version:Int)(schemas:List Sch)(endpoints:List Enp)(services:List Svc)(routes:List Rou):(Prg.mk version schemas endpoints services routes).ok=(I64 version/\schemas.length*128<=140737488351232/\(∀ x∈schemas,x.ok)/\endpoints.length*88<=140737488351232/\(∀ x∈endpoints,x.ok)/\services.length*56<=140737488351232/\(∀ x∈services,x.ok)/\routes.length*56<=140737488351232/\(∀ x∈routes,x.ok)):=by rw[Prg.ok]
inductive Prb where
 | mk (code:Int) (route:List UInt8) (place:List Int) (name:List UInt8)
def Prb.code:Prb->Int
 | .mk code _ _ _=>code
def Prb.route:Prb->List UInt8
 | .mk _ route _ _=>route
def Prb.place:Prb->List Int
 | .mk _ _ place _=>place
def Prb.name:Prb->List UInt8
 | .mk _ _ _ name=>name
def Prb.pv:Prb->PV
 | .mk code route place name=>.agg ([.int .i64 code,.str route,.list (place.map (PV.int .i64)),.str name])
theorem T2 (code:Int)(route:List UInt8)(place:List Int)(name:List UInt8):(Prb.mk code route place name).pv = .agg ([.int .i64 code,.str route,.list (place.map (PV.int .i64)),.str name]):=by rw[Prb.pv]
theorem Prb.cells_len (x:Prb):x.pv.cells.length=4:=by
 obtain⟨code,route,place,name⟩:=x
 rw[T2];simp only[ae,Uy,UC,UR]
theorem Prb.isAgg (x:Prb):x.pv.isAgg=true:=by
 obtain⟨code,route,place,name⟩:=x
 rw[T2];rfl
theorem Prb.ones (x:Prb):(x.pv.cells.all PV.one)=true:=by
 obtain⟨code,route,place,name⟩:=x
 rw[T2];simp only[ae,U5,U9,Vj,bF,bG,bh,bg,Vh,Vu]
theorem Prb.row (x:Prb):∃ cs,x.pv = .agg cs/\cs.length=4/\∀ p∈cs,p.one=true:=by
 have h1:=x.cells_len;have h2:=x.ones;have h3:=x.isAgg
 cases h:x.pv with
 | agg cs=>rw[h] at h1 h2;exact⟨cs,rfl,h1,fun p hp=>UD.1 h2 p hp⟩
 | _=>rw[h] at h3;cases h3
def Prb.ok:Prb->Prop
 | .mk code route place name=>I64 code/\route.length<=140737488351232/\place.length*8<=140737488351232/\(∀ x∈place,I64 x)/\name.length<=140737488351232
theorem Prb.ok_mk (code:Int)(route:List UInt8)(place:List Int)(name:List UInt8):(Prb.mk code route place name).ok=(I64 code/\route.length<=140737488351232/\place.length*8<=140737488351232/\(∀ x∈place,I64 x)/\name.length<=140737488351232):=by rw[Prb.ok]
inductive Wkd where
 | mk (route:Int) (place:List Int) (step:Stp)
def Wkd.route:Wkd->Int
 | .mk route _ _=>route
def Wkd.place:Wkd->List Int
 | .mk _ place _=>place
def Wkd.step:Wkd->Stp
 | .mk _ _ step=>step
def Wkd.pv:Wkd->PV
 | .mk route place step=>.agg ([.int .i64 route,.list (place.map (PV.int .i64))]++step.pv.cells)
theorem Up (route:Int)(place:List Int)(step:Stp):(Wkd.mk route place step).pv = .agg ([.int .i64 route,.list (place.map (PV.int .i64))]++step.pv.cells):=by rw[Wkd.pv]
theorem Wkd.cells_len (x:Wkd):x.pv.cells.length=13:=by
 obtain⟨route,place,step⟩:=x
 rw[Up];simp only[ae,Uy,UC,UR,Stp.cells_len]
theorem Wkd.isAgg (x:Wkd):x.pv.isAgg=true:=by
 obtain⟨route,place,step⟩:=x
 rw[Up];rfl
theorem Wkd.ones (x:Wkd):(x.pv.cells.all PV.one)=true:=by
 obtain⟨route,place,step⟩:=x
 rw[Up];simp only[ae,U5,U9,Vj,bF,bG,bh,bg,Vh,Vu,Stp.ones]
theorem Wkd.row (x:Wkd):∃ cs,x.pv = .agg cs/\cs.length=13/\∀ p∈cs,p.one=true:=by
 have h1:=x.cells_len;have h2:=x.ones;have h3:=x.isAgg
 cases h:x.pv with
 | agg cs=>rw[h] at h1 h2;exact⟨cs,rfl,h1,fun p hp=>UD.1 h2 p hp⟩
 | _=>rw[h] at h3;cases h3
def Wkd.ok:Wkd->Prop
 | .mk route place step=>I64 route/\place.length*8<=140737488351232/\(∀ x∈place,I64 x)/\step.ok
theorem Wkd.ok_mk (route:Int)(place:List Int)(step:Stp):(Wkd.mk route place step).ok=(I64 route/\place.length*8<=140737488351232/\(∀ x∈place,I64 x)/\step.ok):=by rw[Wkd.ok]
theorem mR:aP Tryz.prog 3=false:=by kernel_rfl
theorem mK:Tryz.prog.cellsOf 3=1:=by kernel_rfl
theorem So:Tryz.prog.bytesOf 3=8:=by kernel_rfl
theorem Ss:aP Tryz.prog 4=false:=by kernel_rfl
theorem Sh:Tryz.prog.cellsOf 4=1:=by kernel_rfl
theorem ko:aP Tryz.prog 9=false:=by kernel_rfl
theorem kb:Tryz.prog.cellsOf 9=1:=by kernel_rfl
theorem Sn:Tryz.prog.bytesOf 9=16:=by kernel_rfl
theorem Qz:aP Tryz.prog 22=false:=by kernel_rfl
theorem PY:Tryz.prog.cellsOf 22=1:=by kernel_rfl
theorem Qy:aP Tryz.prog 23=false:=by kernel_rfl
theorem PX:Tryz.prog.cellsOf 23=1:=by kernel_rfl
theorem Qx:aP Tryz.prog 24=false:=by kernel_rfl
theorem PW:Tryz.prog.cellsOf 24=1:=by kernel_rfl
theorem Qw:aP Tryz.prog 25=false:=by kernel_rfl
theorem PU:Tryz.prog.cellsOf 25=1:=by kernel_rfl
theorem PT:Tryz.prog.cellsOf 27=5:=by kernel_rfl
theorem Qv:aP Tryz.prog 35=false:=by kernel_rfl
theorem PS:Tryz.prog.cellsOf 35=1:=by kernel_rfl
theorem Qu:aP Tryz.prog 37=true:=by kernel_rfl
theorem I2:Tryz.prog.cellsOf 37=3:=by kernel_rfl
theorem PR:Tryz.prog.cellsOf 39=7:=by kernel_rfl
theorem P8:Tryz.prog.bytesOf 39=88:=by kernel_rfl
theorem PQ:Tryz.prog.cellsOf 41=4:=by kernel_rfl
theorem P7:Tryz.prog.bytesOf 41=56:=by kernel_rfl
theorem DL:aP Tryz.prog 44=false:=by kernel_rfl
theorem Dm:Tryz.prog.cellsOf 44=1:=by kernel_rfl
theorem Qt:aP Tryz.prog 45=false:=by kernel_rfl
theorem PP:Tryz.prog.cellsOf 45=1:=by kernel_rfl
theorem Ja:aP Tryz.prog 47=true:=by kernel_rfl
theorem Dl:Tryz.prog.cellsOf 47=1:=by kernel_rfl
theorem Qs:aP Tryz.prog 48=false:=by kernel_rfl
theorem PO:Tryz.prog.cellsOf 48=1:=by kernel_rfl
theorem Qr:aP Tryz.prog 49=false:=by kernel_rfl
theorem PN:Tryz.prog.cellsOf 49=1:=by kernel_rfl
theorem PM:Tryz.prog.cellsOf 51=11:=by kernel_rfl
theorem I4:Tryz.prog.bytesOf 51=176:=by kernel_rfl
theorem PL:Tryz.prog.cellsOf 61=2:=by kernel_rfl
theorem P6:Tryz.prog.bytesOf 61=40:=by kernel_rfl
theorem I9:aP Tryz.prog 62=false:=by kernel_rfl
theorem I1:Tryz.prog.cellsOf 62=1:=by kernel_rfl
theorem PK:Tryz.prog.cellsOf 64=3:=by kernel_rfl
theorem P5:Tryz.prog.bytesOf 64=56:=by kernel_rfl
theorem Qq:aP Tryz.prog 66=false:=by kernel_rfl
theorem PJ:Tryz.prog.cellsOf 66=1:=by kernel_rfl
theorem Qp:aP Tryz.prog 67=false:=by kernel_rfl
theorem PI:Tryz.prog.cellsOf 67=1:=by kernel_rfl
theorem Qo:aP Tryz.prog 68=false:=by kernel_rfl
theorem PH:Tryz.prog.cellsOf 68=1:=by kernel_rfl
theorem I8:aP Tryz.prog 70=true:=by kernel_rfl
theorem Dk:Tryz.prog.cellsOf 70=7:=by kernel_rfl
theorem P4:Tryz.prog.bytesOf 70=104:=by kernel_rfl
theorem PG:Tryz.prog.cellsOf 72=9:=by kernel_rfl
theorem P3:Tryz.prog.bytesOf 72=128:=by kernel_rfl
theorem rS:aP Tryz.prog 103=false:=by kernel_rfl
theorem rI:Tryz.prog.cellsOf 103=1:=by kernel_rfl
theorem MB:Tryz.prog.cellsOf 105=11:=by kernel_rfl
theorem MJ:Tryz.prog.bytesOf 105=160:=by kernel_rfl
theorem MT:aP Tryz.prog 106=false:=by kernel_rfl
theorem MA:Tryz.prog.cellsOf 106=1:=by kernel_rfl
theorem MS:aP Tryz.prog 108=true:=by kernel_rfl
theorem Do:Tryz.prog.cellsOf 108=6:=by kernel_rfl
theorem rN:Tryz.prog.bytesOf 108=88:=by kernel_rfl
theorem Mz:Tryz.prog.cellsOf 111=2:=by kernel_rfl
theorem MI:Tryz.prog.bytesOf 111=48:=by kernel_rfl
theorem My:Tryz.prog.cellsOf 138=7:=by kernel_rfl
theorem MH:Tryz.prog.bytesOf 138=104:=by kernel_rfl
theorem MR:aP Tryz.prog 159=true:=by kernel_rfl
theorem Dn:Tryz.prog.cellsOf 159=5:=by kernel_rfl
theorem rM:Tryz.prog.bytesOf 159=80:=by kernel_rfl
theorem Mx:Tryz.prog.cellsOf 183=6:=by kernel_rfl
theorem MG:Tryz.prog.bytesOf 183=96:=by kernel_rfl
section
variable {t:Nat}{p:PV}
theorem bi (h:HasT Tryz.prog t p)(hu:Tryz.prog.underlying t=some .string):∃ s:List UInt8,p = .str s/\s.length<=140737488351232:=by
 cases h with
 | str _ s hb hs=>exact⟨s,rfl,hs⟩
 | int _ k n hb=>rw[hu] at hb;cases hb
 | bool _ b hb=>rw[hu] at hb;cases hb
 | list _ e l hb=>rw[hu] at hb;cases hb
 | agg _ fs cs hb=>rw[hu] at hb;cases hb
 | arr _ e n cs hb=>rw[hu] at hb;cases hb
theorem Ch (h:HasT Tryz.prog t p)(hu:Tryz.prog.underlying t=some .bool):∃ b:Bool,p = .bool b:=by
 cases h with
 | bool _ b hb=>exact⟨b,rfl⟩
 | str _ s hb=>rw[hu] at hb;cases hb
 | int _ k n hb=>rw[hu] at hb;cases hb
 | list _ e l hb=>rw[hu] at hb;cases hb
 | agg _ fs cs hb=>rw[hu] at hb;cases hb
 | arr _ e n cs hb=>rw[hu] at hb;cases hb
theorem G0 {k:IntKind}(h:HasT Tryz.prog t p)(hu:Tryz.prog.underlying t=some (.int k)):∃ n:Int,p = .int k n/\(Lit.int k n).wf=true:=by
 cases h with
 | int _ k' n hk hw=>rw[hu] at hk;cases hk;exact⟨n,rfl,hw⟩
 | bool _ b hb=>rw[hu] at hb;cases hb
 | str _ s hb=>rw[hu] at hb;cases hb
 | list _ e l hb=>rw[hu] at hb;cases hb
 | agg _ fs cs hb=>rw[hu] at hb;cases hb
 | arr _ e n cs hb=>rw[hu] at hb;cases hb
theorem aW (h:HasT Tryz.prog t p)(hu:Tryz.prog.underlying t=some (.int .i64)):∃ n:Int,p = .int .i64 n/\I64 n:=by
 obtain⟨n,rfl,hw⟩:=G0 h hu
 refine⟨n,rfl,?_⟩
 simp only[Lit.wf,Bool.and_eq_true,decide_eq_true_eq] at hw
 exact hw
theorem Cg {e:Nat}(h:HasT Tryz.prog t p)(hu:Tryz.prog.underlying t=some (.slice e)):∃ l:List PV,p = .list l/\l.length<=maxLen/\l.length*Tryz.prog.bytesOf e<=140737488351232/\∀ (i:Nat) (x:PV),l[i]? = some x->HasT Tryz.prog e x:=by
 cases h with
 | list _ e' l hb hl hl2 hx=>rw[hu] at hb;cases hb;exact⟨l,rfl,hl,hl2,hx⟩
 | int _ k n hb=>rw[hu] at hb;cases hb
 | bool _ b hb=>rw[hu] at hb;cases hb
 | str _ s hb=>rw[hu] at hb;cases hb
 | agg _ fs cs hb=>rw[hu] at hb;cases hb
 | arr _ e n cs hb=>rw[hu] at hb;cases hb
theorem cW {fs:Array Field}(h:HasT Tryz.prog t p)(hu:Tryz.prog.underlying t=some (.struct fs)):∃ cs:List PV,p = .agg cs/\cs.length=Tryz.prog.cellsOf t/\∀ (i:Nat) (f:Field),fs.toList[i]? = some f->HasT Tryz.prog f.type (bH Tryz.prog f cs):=by
 cases h with
 | agg _ fs' cs hb hl hx=>rw[hu] at hb;cases hb;exact⟨cs,rfl,hl,hx⟩
 | list _ e' l hb=>rw[hu] at hb;cases hb
 | int _ k n hb=>rw[hu] at hb;cases hb
 | bool _ b hb=>rw[hu] at hb;cases hb
 | str _ s hb=>rw[hu] at hb;cases hb
 | arr _ e n cs hb=>rw[hu] at hb;cases hb
end
theorem db {t e e':Nat}(h:Tryz.prog.underlying t=some (.slice e))(h':Tryz.prog.underlying t=some (.slice e')):e=e':=by
 rw[h] at h';cases h';rfl
theorem ep {β:Type}{f:β->PV}{Q:β->Prop}:∀ (l:List PV),(∀ (i:Nat) (x:PV),l[i]? = some x->∃ s,x=f s/\Q s)->∃ ss:List β,l=ss.map f/\ss.length=l.length/\∀ s∈ss,Q s
 | [],_=>⟨[],rfl,rfl,by simp⟩
 | x::r,h=>by
   obtain⟨s,rfl,hs⟩:=h 0 x rfl
   obtain⟨ss,rfl,hl,hss⟩:=ep r (fun i y hy=>h (i+1) y (by simpa using hy))
   refine⟨s::ss,rfl,by simp,fun t ht=>?_⟩
   rcases List.mem_cons.1 ht with rfl | ht
   ·exact hs
   ·exact hss t ht
theorem bP {β:Type}{f:β->PV}{Q:β->Prop}{t e b:Nat}{p:PV}(h:HasT Tryz.prog t p)(hu:Tryz.prog.underlying t=some (.slice e))(hb:Tryz.prog.bytesOf e=b)(hq:∀ x,HasT Tryz.prog e x->∃ s,x=f s/\Q s):∃ ss:List β,p = .list (ss.map f)/\ss.length*b<=140737488351232/\∀ s∈ss,Q s:=by
 obtain⟨l,rfl,_,hl,hx⟩:=Cg h hu
 obtain⟨ss,rfl,h1,h2⟩:=ep (f:=f) (Q:=Q) l fun i x hi=>hq x (hx i x hi)
 exact⟨ss,rfl,by rw[h1,<- hb];exact hl,h2⟩
theorem RP {l:List PV}(h:l.length=1):∃ c0,l=[c0]:=by
 match l,h with
 | [c0],_=>exact⟨c0,rfl⟩
theorem O0 {l:List PV}(h:l.length=2):∃ c0 c1,l=[c0,c1]:=by
 match l,h with
 | [c0,c1],_=>exact⟨c0,c1,rfl⟩
theorem OZ {l:List PV}(h:l.length=3):∃ c0 c1 c2,l=[c0,c1,c2]:=by
 match l,h with
 | [c0,c1,c2],_=>exact⟨c0,c1,c2,rfl⟩
theorem RO {l:List PV}(h:l.length=4):∃ c0 c1 c2 c3,l=[c0,c1,c2,c3]:=by
 match l,h with
 | [c0,c1,c2,c3],_=>exact⟨c0,c1,c2,c3,rfl⟩
theorem OY {l:List PV}(h:l.length=5):∃ c0 c1 c2 c3 c4,l=[c0,c1,c2,c3,c4]:=by
 match l,h with
 | [c0,c1,c2,c3,c4],_=>exact⟨c0,c1,c2,c3,c4,rfl⟩
theorem LM {l:List PV}(h:l.length=6):∃ c0 c1 c2 c3 c4 c5,l=[c0,c1,c2,c3,c4,c5]:=by
 match l,h with
 | [c0,c1,c2,c3,c4,c5],_=>exact⟨c0,c1,c2,c3,c4,c5,rfl⟩
theorem BK {l:List PV}(h:l.length=7):∃ c0 c1 c2 c3 c4 c5 c6,l=[c0,c1,c2,c3,c4,c5,c6]:=by
 match l,h with
 | [c0,c1,c2,c3,c4,c5,c6],_=>exact⟨c0,c1,c2,c3,c4,c5,c6,rfl⟩
theorem RN {l:List PV}(h:l.length=9):∃ c0 c1 c2 c3 c4 c5 c6 c7 c8,l=[c0,c1,c2,c3,c4,c5,c6,c7,c8]:=by
 match l,h with
 | [c0,c1,c2,c3,c4,c5,c6,c7,c8],_=>exact⟨c0,c1,c2,c3,c4,c5,c6,c7,c8,rfl⟩
theorem II {l:List PV}(h:l.length=11):∃ c0 c1 c2 c3 c4 c5 c6 c7 c8 c9 c10,l=[c0,c1,c2,c3,c4,c5,c6,c7,c8,c9,c10]:=by
 match l,h with
 | [c0,c1,c2,c3,c4,c5,c6,c7,c8,c9,c10],_=>exact⟨c0,c1,c2,c3,c4,c5,c6,c7,c8,c9,c10,rfl⟩
theorem iJ {t:Nat}{p:PV}(h:HasT Tryz.prog t p):(t=108->∃ x:Val,p=x.pv/\x.ok)/\(t=138->∃ x:Fld,p=x.pv/\x.ok)/\(t=103->∃ l:List Val,p = .list (l.map Val.pv)/\l.length*88<=140737488351232/\∀ x∈l,x.ok)/\(t=106->∃ l:List Fld,p = .list (l.map Fld.pv)/\l.length*104<=140737488351232/\∀ x∈l,x.ok):=by
 induction h with
 | bool t b hb=>refine⟨?_,?_,?_,?_⟩<;>(intro h;subst h;simp[Tryz.underlying108,Tryz.underlying138,Tryz.underlying103,Tryz.underlying106] at hb)
 | int t k n hb _=>refine⟨?_,?_,?_,?_⟩<;>(intro h;subst h;simp[Tryz.underlying108,Tryz.underlying138,Tryz.underlying103,Tryz.underlying106] at hb)
 | str t s hb _=>refine⟨?_,?_,?_,?_⟩<;>(intro h;subst h;simp[Tryz.underlying108,Tryz.underlying138,Tryz.underlying103,Tryz.underlying106] at hb)
 | arr t e n cs hb _ _ _=>refine⟨?_,?_,?_,?_⟩<;>(intro h;subst h;simp[Tryz.underlying108,Tryz.underlying138,Tryz.underlying103,Tryz.underlying106] at hb)
 | list t e l hu hl hl2 hx ih=>
   refine⟨?_,?_,?_,?_⟩
   ·intro h;subst h;simp[Tryz.underlying108] at hu
   ·intro h;subst h;simp[Tryz.underlying138] at hu
   ·intro h;subst h
    obtain rfl:=db hu Tryz.underlying103
    obtain⟨ss,rfl,hlen,hss⟩:=ep (f:=Val.pv) (Q:=Val.ok) l (fun i x hi=>(ih i x hi).1 rfl)
    exact⟨ss,rfl,by rw[hlen,<- rN];exact hl2,hss⟩
   ·intro h;subst h
    obtain rfl:=db hu Tryz.underlying106
    obtain⟨ss,rfl,hlen,hss⟩:=ep (f:=Fld.pv) (Q:=Fld.ok) l (fun i x hi=>(ih i x hi).2.1 rfl)
    exact⟨ss,rfl,by rw[hlen,<- MH];exact hl2,hss⟩
 | agg t fs cs hu hl hx ih=>
   refine⟨?_,?_,?_,?_⟩
   ·intro h;subst h
    rw[Tryz.underlying108] at hu;cases hu
    rw[Do] at hl
    obtain⟨c0,c1,c2,c3,c4,c5,rfl⟩:=LM hl
    have h0:=hx 0 _ rfl
    have h1:=hx 1 _ rfl
    have h2:=hx 2 _ rfl
    have h3:=hx 3 _ rfl
    have h4:=(ih 4 _ rfl).2.2.1 rfl
    have h5:=(ih 5 _ rfl).2.2.2 rfl
    simp only[bH,mR,mK,ko,kb,rS,rI,MT,MA,Vc,U8,U4,U3,bt,Vk] at h0 h1 h2 h3 h4 h5
    obtain⟨v0,rfl,ok_v0⟩:=aW h0 Tryz.underlying3
    obtain⟨v1,rfl,ok_v1⟩:=aW h1 Tryz.underlying3
    obtain⟨v2,rfl,ok_v2⟩:=aW h2 Tryz.underlying3
    obtain⟨v3,rfl,ok_v3⟩:=bi h3 Tryz.underlying9
    obtain⟨v4,rfl,ok_v4,oks_v4⟩:=h4
    obtain⟨v5,rfl,ok_v5,oks_v5⟩:=h5
    refine⟨.mk v0 v1 v2 v3 v4 v5,?_,?_⟩
    ·rw[Uo]
    ·rw[Un];exact⟨ok_v0,ok_v1,ok_v2,ok_v3,ok_v4,oks_v4,ok_v5,oks_v5⟩
   ·intro h;subst h
    rw[Tryz.underlying138] at hu;cases hu
    rw[My] at hl
    obtain⟨c0,c1,c2,c3,c4,c5,c6,rfl⟩:=BK hl
    have h0:=hx 0 _ rfl
    have h1:=(ih 1 _ rfl).1 rfl
    simp only[bH,ko,kb,MS,Do,Vc,U8,U4,U3,bt,Vk] at h0 h1
    obtain⟨v0,rfl,ok_v0⟩:=bi h0 Tryz.underlying9
    obtain⟨v1,e1,ok_v1⟩:=h1
    refine⟨.mk v0 v1,?_,?_⟩
    ·rw[TY];rw[<- e1];rfl
    ·rw[TX];exact⟨ok_v0,ok_v1⟩
   ·intro h;subst h;simp[Tryz.underlying103] at hu
   ·intro h;subst h;simp[Tryz.underlying106] at hu
theorem sM {p:PV}(h:HasT Tryz.prog 108 p):∃ x:Val,p=x.pv/\x.ok:=(iJ h).1 rfl
theorem iK {t:Nat}{p:PV}(h:HasT Tryz.prog t p):(t=70->∃ x:Typ,p=x.pv/\x.ok)/\(t=105->∃ x:TFd,p=x.pv/\x.ok)/\(t=67->∃ l:List Typ,p = .list (l.map Typ.pv)/\l.length*104<=140737488351232/\∀ x∈l,x.ok)/\(t=68->∃ l:List TFd,p = .list (l.map TFd.pv)/\l.length*160<=140737488351232/\∀ x∈l,x.ok):=by
 induction h with
 | bool t b hb=>refine⟨?_,?_,?_,?_⟩<;>(intro h;subst h;simp[Tryz.underlying70,Tryz.underlying105,Tryz.underlying67,Tryz.underlying68] at hb)
 | int t k n hb _=>refine⟨?_,?_,?_,?_⟩<;>(intro h;subst h;simp[Tryz.underlying70,Tryz.underlying105,Tryz.underlying67,Tryz.underlying68] at hb)
 | str t s hb _=>refine⟨?_,?_,?_,?_⟩<;>(intro h;subst h;simp[Tryz.underlying70,Tryz.underlying105,Tryz.underlying67,Tryz.underlying68] at hb)
 | arr t e n cs hb _ _ _=>refine⟨?_,?_,?_,?_⟩<;>(intro h;subst h;simp[Tryz.underlying70,Tryz.underlying105,Tryz.underlying67,Tryz.underlying68] at hb)
 | list t e l hu hl hl2 hx ih=>
   refine⟨?_,?_,?_,?_⟩
   ·intro h;subst h;simp[Tryz.underlying70] at hu
   ·intro h;subst h;simp[Tryz.underlying105] at hu
   ·intro h;subst h
    obtain rfl:=db hu Tryz.underlying67
    obtain⟨ss,rfl,hlen,hss⟩:=ep (f:=Typ.pv) (Q:=Typ.ok) l (fun i x hi=>(ih i x hi).1 rfl)
    exact⟨ss,rfl,by rw[hlen,<- P4];exact hl2,hss⟩
   ·intro h;subst h
    obtain rfl:=db hu Tryz.underlying68
    obtain⟨ss,rfl,hlen,hss⟩:=ep (f:=TFd.pv) (Q:=TFd.ok) l (fun i x hi=>(ih i x hi).2.1 rfl)
    exact⟨ss,rfl,by rw[hlen,<- MJ];exact hl2,hss⟩
 | agg t fs cs hu hl hx ih=>
   refine⟨?_,?_,?_,?_⟩
   ·intro h;subst h
    rw[Tryz.underlying70] at hu;cases hu
    rw[Dk] at hl
    obtain⟨c0,c1,c2,c3,c4,c5,c6,rfl⟩:=BK hl
    have h0:=hx 0 _ rfl
    have h1:=hx 1 _ rfl
    have h2:=hx 2 _ rfl
    have h3:=hx 3 _ rfl
    have h4:=hx 4 _ rfl
    have h5:=(ih 5 _ rfl).2.2.1 rfl
    have h6:=(ih 6 _ rfl).2.2.2 rfl
    simp only[bH,mR,mK,Qq,PJ,Qp,PI,Qo,PH,Vc,U8,U4,U3,bt,Vk] at h0 h1 h2 h3 h4 h5 h6
    obtain⟨v0,rfl,ok_v0⟩:=aW h0 Tryz.underlying3
    obtain⟨v1,rfl,ok_v1⟩:=aW h1 Tryz.underlying3
    obtain⟨v2,rfl,ok_v2⟩:=aW h2 Tryz.underlying3
    obtain⟨v3,rfl,ok_v3⟩:=aW h3 Tryz.underlying3
    obtain⟨v4,rfl,ok_v4,oks_v4⟩:=bP (f:=PV.str) (Q:=(fun x:List UInt8=>x.length<=140737488351232)) h4 Tryz.underlying66 Sn (fun x hx=>bi hx Tryz.underlying9)
    obtain⟨v5,rfl,ok_v5,oks_v5⟩:=h5
    obtain⟨v6,rfl,ok_v6,oks_v6⟩:=h6
    refine⟨.mk v0 v1 v2 v3 v4 v5 v6,?_,?_⟩
    ·rw[Um]
    ·rw[Ul];exact⟨ok_v0,ok_v1,ok_v2,ok_v3,ok_v4,oks_v4,ok_v5,oks_v5,ok_v6,oks_v6⟩
   ·intro h;subst h
    rw[Tryz.underlying105] at hu;cases hu
    rw[MB] at hl
    obtain⟨c0,c1,c2,c3,c4,c5,c6,c7,c8,c9,c10,rfl⟩:=II hl
    have h0:=hx 0 _ rfl
    have h1:=hx 1 _ rfl
    have h2:=hx 2 _ rfl
    have h3:=(ih 3 _ rfl).1 rfl
    have h4:=hx 4 _ rfl
    simp only[bH,mR,mK,ko,kb,I8,Dk,rS,rI,Vc,U8,U4,U3,bt,Vk] at h0 h1 h2 h3 h4
    obtain⟨v0,rfl,ok_v0⟩:=aW h0 Tryz.underlying3
    obtain⟨v1,rfl,ok_v1⟩:=bi h1 Tryz.underlying9
    obtain⟨v2,rfl,ok_v2⟩:=aW h2 Tryz.underlying3
    obtain⟨v3,e3,ok_v3⟩:=h3
    obtain⟨v4,rfl,ok_v4,oks_v4⟩:=bP (f:=Val.pv) (Q:=(fun x:Val=>x.ok)) h4 Tryz.underlying103 rN (fun x hx=>sM hx)
    refine⟨.mk v0 v1 v2 v3 v4,?_,?_⟩
    ·rw[Uh];rw[<- e3];rfl
    ·rw[Ug];exact⟨ok_v0,ok_v1,ok_v2,ok_v3,ok_v4,oks_v4⟩
   ·intro h;subst h;simp[Tryz.underlying67] at hu
   ·intro h;subst h;simp[Tryz.underlying68] at hu
theorem G1 {p:PV}(h:HasT Tryz.prog 70 p):∃ x:Typ,p=x.pv/\x.ok:=(iK h).1 rfl
theorem ov {t:Nat}{p:PV}(h:HasT Tryz.prog t p):(t=159->∃ x:Exp,p=x.pv/\x.ok)/\(t=44->∃ l:List Exp,p = .list (l.map Exp.pv)/\l.length*80<=140737488351232/\∀ x∈l,x.ok):=by
 induction h with
 | bool t b hb=>refine⟨?_,?_⟩<;>(intro h;subst h;simp[Tryz.underlying159,Tryz.underlying44] at hb)
 | int t k n hb _=>refine⟨?_,?_⟩<;>(intro h;subst h;simp[Tryz.underlying159,Tryz.underlying44] at hb)
 | str t s hb _=>refine⟨?_,?_⟩<;>(intro h;subst h;simp[Tryz.underlying159,Tryz.underlying44] at hb)
 | arr t e n cs hb _ _ _=>refine⟨?_,?_⟩<;>(intro h;subst h;simp[Tryz.underlying159,Tryz.underlying44] at hb)
 | list t e l hu hl hl2 hx ih=>
   refine⟨?_,?_⟩
   ·intro h;subst h;simp[Tryz.underlying159] at hu
   ·intro h;subst h
    obtain rfl:=db hu Tryz.underlying44
    obtain⟨ss,rfl,hlen,hss⟩:=ep (f:=Exp.pv) (Q:=Exp.ok) l (fun i x hi=>(ih i x hi).1 rfl)
    exact⟨ss,rfl,by rw[hlen,<- rM];exact hl2,hss⟩
 | agg t fs cs hu hl hx ih=>
   refine⟨?_,?_⟩
   ·intro h;subst h
    rw[Tryz.underlying159] at hu;cases hu
    rw[Dn] at hl
    obtain⟨c0,c1,c2,c3,c4,rfl⟩:=OY hl
    have h0:=hx 0 _ rfl
    have h1:=hx 1 _ rfl
    have h2:=hx 2 _ rfl
    have h3:=hx 3 _ rfl
    have h4:=(ih 4 _ rfl).2 rfl
    simp only[bH,mR,mK,ko,kb,DL,Dm,rS,rI,Vc,U8,U4,U3,bt,Vk] at h0 h1 h2 h3 h4
    obtain⟨v0,rfl,ok_v0⟩:=aW h0 Tryz.underlying3
    obtain⟨v1,rfl,ok_v1⟩:=aW h1 Tryz.underlying3
    obtain⟨v2,rfl,ok_v2⟩:=bi h2 Tryz.underlying9
    obtain⟨v3,rfl,ok_v3,oks_v3⟩:=bP (f:=Val.pv) (Q:=(fun x:Val=>x.ok)) h3 Tryz.underlying103 rN (fun x hx=>sM hx)
    obtain⟨v4,rfl,ok_v4,oks_v4⟩:=h4
    refine⟨.mk v0 v1 v2 v3 v4,?_,?_⟩
    ·rw[TW]
    ·rw[TV];exact⟨ok_v0,ok_v1,ok_v2,ok_v3,oks_v3,ok_v4,oks_v4⟩
   ·intro h;subst h;simp[Tryz.underlying44] at hu
theorem mw {p:PV}(h:HasT Tryz.prog 159 p):∃ x:Exp,p=x.pv/\x.ok:=(ov h).1 rfl
theorem G5 {p:PV}(h:HasT Tryz.prog 183 p):∃ x:Rul,p=x.pv/\x.ok:=by
 obtain⟨cs,rfl,hl,hx⟩:=cW h Tryz.underlying183
 rw[Mx] at hl
 obtain⟨c0,c1,c2,c3,c4,c5,rfl⟩:=LM hl
 have h0:=hx 0 _ rfl
 have h1:=hx 1 _ rfl
 simp only[bH,ko,kb,MR,Dn,Vc,U8,U4,U3,bt,Vk] at h0 h1
 obtain⟨v0,rfl,ok_v0⟩:=bi h0 Tryz.underlying9
 obtain⟨v1,e1,ok_v1⟩:=mw h1
 refine⟨.mk v0 v1,?_,?_⟩
 ·rw[T8];rw[<- e1];rfl
 ·rw[T7];exact⟨ok_v0,ok_v1⟩
theorem lx {p:PV}(h:HasT Tryz.prog 47 p):∃ y:List Rul,p=(fun x=>PV.agg [.list (x.map Rul.pv)]) y/\y.length*96<=140737488351232/\∀ x∈y,x.ok:=by
 obtain⟨cs,rfl,hl,hx⟩:=cW h Tryz.underlying47
 rw[Dl] at hl
 obtain⟨c0,rfl⟩:=RP hl
 have h0:=hx 0 _ rfl
 simp only[bH,Qt,PP,Vc,U4,U3,bt,Vk] at h0
 obtain⟨v,rfl,ok_v,oks_v⟩:=bP (f:=Rul.pv) (Q:=(fun x:Rul=>x.ok)) h0 Tryz.underlying45 MG (fun x hx=>G5 hx)
 exact⟨v,rfl,ok_v,oks_v⟩
theorem Ha {p:PV}(h:HasT Tryz.prog 61 p):∃ x:Cal,p=x.pv/\x.ok:=by
 obtain⟨cs,rfl,hl,hx⟩:=cW h Tryz.underlying61
 rw[PL] at hl
 obtain⟨c0,c1,rfl⟩:=O0 hl
 have h0:=hx 0 _ rfl
 have h1:=hx 1 _ rfl
 simp only[bH,ko,kb,Ja,Dl,Vc,U8,U4,U3,bt,Vk] at h0 h1
 obtain⟨v0,rfl,ok_v0⟩:=bi h0 Tryz.underlying9
 obtain⟨v1,e1,okk0_v1,okk1_v1⟩:=lx h1
 simp only[PV.agg.injEq,List.cons.injEq,and_true] at e1;subst e1
 refine⟨.mk v0 v1,?_,?_⟩
 ·rw[TS]
 ·rw[TR];exact⟨ok_v0,okk0_v1,okk1_v1⟩
theorem iL {t:Nat}{p:PV}(h:HasT Tryz.prog t p):(t=111->∃ x:Bra,p=x.pv/\x.ok)/\(t=51->∃ x:Stp,p=x.pv/\x.ok)/\(t=49->∃ l:List Bra,p = .list (l.map Bra.pv)/\l.length*48<=140737488351232/\∀ x∈l,x.ok)/\(t=62->∃ l:List Stp,p = .list (l.map Stp.pv)/\l.length*176<=140737488351232/\∀ x∈l,x.ok):=by
 induction h with
 | bool t b hb=>refine⟨?_,?_,?_,?_⟩<;>(intro h;subst h;simp[Tryz.underlying111,Tryz.underlying51,Tryz.underlying49,Tryz.underlying62] at hb)
 | int t k n hb _=>refine⟨?_,?_,?_,?_⟩<;>(intro h;subst h;simp[Tryz.underlying111,Tryz.underlying51,Tryz.underlying49,Tryz.underlying62] at hb)
 | str t s hb _=>refine⟨?_,?_,?_,?_⟩<;>(intro h;subst h;simp[Tryz.underlying111,Tryz.underlying51,Tryz.underlying49,Tryz.underlying62] at hb)
 | arr t e n cs hb _ _ _=>refine⟨?_,?_,?_,?_⟩<;>(intro h;subst h;simp[Tryz.underlying111,Tryz.underlying51,Tryz.underlying49,Tryz.underlying62] at hb)
 | list t e l hu hl hl2 hx ih=>
   refine⟨?_,?_,?_,?_⟩
   ·intro h;subst h;simp[Tryz.underlying111] at hu
   ·intro h;subst h;simp[Tryz.underlying51] at hu
   ·intro h;subst h
    obtain rfl:=db hu Tryz.underlying49
    obtain⟨ss,rfl,hlen,hss⟩:=ep (f:=Bra.pv) (Q:=Bra.ok) l (fun i x hi=>(ih i x hi).1 rfl)
    exact⟨ss,rfl,by rw[hlen,<- MI];exact hl2,hss⟩
   ·intro h;subst h
    obtain rfl:=db hu Tryz.underlying62
    obtain⟨ss,rfl,hlen,hss⟩:=ep (f:=Stp.pv) (Q:=Stp.ok) l (fun i x hi=>(ih i x hi).2.1 rfl)
    exact⟨ss,rfl,by rw[hlen,<- I4];exact hl2,hss⟩
 | agg t fs cs hu hl hx ih=>
   refine⟨?_,?_,?_,?_⟩
   ·intro h;subst h
    rw[Tryz.underlying111] at hu;cases hu
    rw[Mz] at hl
    obtain⟨c0,c1,rfl⟩:=O0 hl
    have h0:=hx 0 _ rfl
    have h1:=(ih 1 _ rfl).2.2.2 rfl
    simp only[bH,DL,Dm,I9,I1,Vc,U8,U4,U3,bt,Vk] at h0 h1
    obtain⟨v0,rfl,ok_v0,oks_v0⟩:=bP (f:=Exp.pv) (Q:=(fun x:Exp=>x.ok)) h0 Tryz.underlying44 rM (fun x hx=>mw hx)
    obtain⟨v1,rfl,ok_v1,oks_v1⟩:=h1
    refine⟨.mk v0 v1,?_,?_⟩
    ·rw[TQ]
    ·rw[TP];exact⟨ok_v0,oks_v0,ok_v1,oks_v1⟩
   ·intro h;subst h
    rw[Tryz.underlying51] at hu;cases hu
    rw[PM] at hl
    obtain⟨c0,c1,c2,c3,c4,c5,c6,c7,c8,c9,c10,rfl⟩:=II hl
    have h0:=hx 0 _ rfl
    have h1:=hx 1 _ rfl
    have h2:=hx 2 _ rfl
    have h3:=hx 3 _ rfl
    have h4:=hx 4 _ rfl
    have h5:=hx 5 _ rfl
    have h6:=hx 6 _ rfl
    have h7:=hx 7 _ rfl
    have h8:=hx 8 _ rfl
    have h9:=hx 9 _ rfl
    have h10:=(ih 10 _ rfl).2.2.1 rfl
    simp only[bH,mR,mK,ko,kb,DL,Dm,Ja,Dl,Qs,PO,Qr,PN,Vc,U8,U4,U3,bt,Vk] at h0 h1 h2 h3 h4 h5 h6 h7 h8 h9 h10
    obtain⟨v0,rfl,ok_v0⟩:=bi h0 Tryz.underlying9
    obtain⟨v1,rfl,ok_v1⟩:=aW h1 Tryz.underlying3
    obtain⟨v2,rfl,ok_v2⟩:=aW h2 Tryz.underlying3
    obtain⟨v3,rfl,ok_v3⟩:=aW h3 Tryz.underlying3
    obtain⟨v4,rfl,ok_v4⟩:=aW h4 Tryz.underlying3
    obtain⟨v5,rfl,ok_v5⟩:=bi h5 Tryz.underlying9
    obtain⟨v6,rfl,ok_v6⟩:=bi h6 Tryz.underlying9
    obtain⟨v7,rfl,ok_v7,oks_v7⟩:=bP (f:=Exp.pv) (Q:=(fun x:Exp=>x.ok)) h7 Tryz.underlying44 rM (fun x hx=>mw hx)
    obtain⟨v8,e8,okk0_v8,okk1_v8⟩:=lx h8
    simp only[PV.agg.injEq,List.cons.injEq,and_true] at e8;subst e8
    obtain⟨v9,rfl,ok_v9,oks_v9⟩:=bP (f:=Cal.pv) (Q:=(fun x:Cal=>x.ok)) h9 Tryz.underlying48 P6 (fun x hx=>Ha hx)
    obtain⟨v10,rfl,ok_v10,oks_v10⟩:=h10
    refine⟨.mk v0 v1 v2 v3 v4 v5 v6 v7 v8 v9 v10,?_,?_⟩
    ·rw[Ud]
    ·rw[Uc];exact⟨ok_v0,ok_v1,ok_v2,ok_v3,ok_v4,ok_v5,ok_v6,ok_v7,oks_v7,okk0_v8,okk1_v8,ok_v9,oks_v9,ok_v10,oks_v10⟩
   ·intro h;subst h;simp[Tryz.underlying49] at hu
   ·intro h;subst h;simp[Tryz.underlying62] at hu
theorem G3 {p:PV}(h:HasT Tryz.prog 51 p):∃ x:Stp,p=x.pv/\x.ok:=(iL h).2.1 rfl
theorem G4 {p:PV}(h:HasT Tryz.prog 72 p):∃ x:Sch,p=x.pv/\x.ok:=by
 obtain⟨cs,rfl,hl,hx⟩:=cW h Tryz.underlying72
 rw[PG] at hl
 obtain⟨c0,c1,c2,c3,c4,c5,c6,c7,c8,rfl⟩:=RN hl
 have h0:=hx 0 _ rfl
 have h1:=hx 1 _ rfl
 have h2:=hx 2 _ rfl
 simp only[bH,mR,mK,ko,kb,I8,Dk,Vc,U8,U4,U3,bt,Vk] at h0 h1 h2
 obtain⟨v0,rfl,ok_v0⟩:=bi h0 Tryz.underlying9
 obtain⟨v1,rfl,ok_v1⟩:=aW h1 Tryz.underlying3
 obtain⟨v2,e2,ok_v2⟩:=G1 h2
 refine⟨.mk v0 v1 v2,?_,?_⟩
 ·rw[Ub];rw[<- e2];rfl
 ·rw[Ua];exact⟨ok_v0,ok_v1,ok_v2⟩
theorem G8 {p:PV}(h:HasT Tryz.prog 37 p):∃ x:Fmt,p=x.pv/\x.ok:=by
 obtain⟨cs,rfl,hl,hx⟩:=cW h Tryz.underlying37
 rw[I2] at hl
 obtain⟨c0,c1,c2,rfl⟩:=OZ hl
 have h0:=hx 0 _ rfl
 have h1:=hx 1 _ rfl
 have h2:=hx 2 _ rfl
 simp only[bH,mR,mK,Qv,PS,Vc,U8,U4,U3,bt,Vk] at h0 h1 h2
 obtain⟨v0,rfl,ok_v0⟩:=aW h0 Tryz.underlying3
 obtain⟨v1,rfl,ok_v1⟩:=aW h1 Tryz.underlying3
 obtain⟨v2,rfl,ok_v2,oks_v2⟩:=bP (f:=(PV.int .i64)) (Q:=(fun x:Int=>I64 x)) h2 Tryz.underlying35 So (fun x hx=>aW hx Tryz.underlying3)
 refine⟨.mk v0 v1 v2,?_,?_⟩
 ·rw[T1]
 ·rw[TZ];exact⟨ok_v0,ok_v1,ok_v2,oks_v2⟩
theorem G9 {p:PV}(h:HasT Tryz.prog 39 p):∃ x:Enp,p=x.pv/\x.ok:=by
 obtain⟨cs,rfl,hl,hx⟩:=cW h Tryz.underlying39
 rw[PR] at hl
 obtain⟨c0,c1,c2,c3,c4,c5,c6,rfl⟩:=BK hl
 have h0:=hx 0 _ rfl
 have h1:=hx 1 _ rfl
 have h2:=hx 2 _ rfl
 have h3:=hx 3 _ rfl
 have h4:=hx 4 _ rfl
 simp only[bH,mR,mK,ko,kb,Qu,I2,Vc,U8,U4,U3,bt,Vk] at h0 h1 h2 h3 h4
 obtain⟨v0,rfl,ok_v0⟩:=bi h0 Tryz.underlying9
 obtain⟨v1,rfl,ok_v1⟩:=aW h1 Tryz.underlying3
 obtain⟨v2,rfl,ok_v2⟩:=bi h2 Tryz.underlying9
 obtain⟨v3,rfl,ok_v3⟩:=aW h3 Tryz.underlying3
 obtain⟨v4,e4,ok_v4⟩:=G8 h4
 refine⟨.mk v0 v1 v2 v3 v4,?_,?_⟩
 ·rw[TU];rw[<- e4];rfl
 ·rw[TT];exact⟨ok_v0,ok_v1,ok_v2,ok_v3,ok_v4⟩
theorem G2 {p:PV}(h:HasT Tryz.prog 41 p):∃ x:Svc,p=x.pv/\x.ok:=by
 obtain⟨cs,rfl,hl,hx⟩:=cW h Tryz.underlying41
 rw[PQ] at hl
 obtain⟨c0,c1,c2,c3,rfl⟩:=RO hl
 have h0:=hx 0 _ rfl
 have h1:=hx 1 _ rfl
 have h2:=hx 2 _ rfl
 have h3:=hx 3 _ rfl
 simp only[bH,Ss,Sh,ko,kb,Vc,U8,U4,U3,bt,Vk] at h0 h1 h2 h3
 obtain⟨v0,rfl,ok_v0⟩:=bi h0 Tryz.underlying9
 obtain⟨v1,rfl,ok_v1⟩:=bi h1 Tryz.underlying9
 obtain⟨v2,rfl,ok_v2⟩:=bi h2 Tryz.underlying9
 obtain⟨v3,rfl⟩:=Ch h3 Tryz.underlying4
 refine⟨.mk v0 v1 v2 v3,?_,?_⟩
 ·rw[Uf]
 ·rw[Ue];exact⟨ok_v0,ok_v1,ok_v2⟩
theorem G6 {p:PV}(h:HasT Tryz.prog 64 p):∃ x:Rou,p=x.pv/\x.ok:=by
 obtain⟨cs,rfl,hl,hx⟩:=cW h Tryz.underlying64
 rw[PK] at hl
 obtain⟨c0,c1,c2,rfl⟩:=OZ hl
 have h0:=hx 0 _ rfl
 have h1:=hx 1 _ rfl
 have h2:=hx 2 _ rfl
 simp only[bH,ko,kb,I9,I1,Vc,U8,U4,U3,bt,Vk] at h0 h1 h2
 obtain⟨v0,rfl,ok_v0⟩:=bi h0 Tryz.underlying9
 obtain⟨v1,rfl,ok_v1⟩:=bi h1 Tryz.underlying9
 obtain⟨v2,rfl,ok_v2,oks_v2⟩:=bP (f:=Stp.pv) (Q:=(fun x:Stp=>x.ok)) h2 Tryz.underlying62 I4 (fun x hx=>G3 hx)
 refine⟨.mk v0 v1 v2,?_,?_⟩
 ·rw[T6]
 ·rw[T5];exact⟨ok_v0,ok_v1,ok_v2,oks_v2⟩
theorem G7 {p:PV}(h:HasT Tryz.prog 27 p):∃ x:Prg,p=x.pv/\x.ok:=by
 obtain⟨cs,rfl,hl,hx⟩:=cW h Tryz.underlying27
 rw[PT] at hl
 obtain⟨c0,c1,c2,c3,c4,rfl⟩:=OY hl
 have h0:=hx 0 _ rfl
 have h1:=hx 1 _ rfl
 have h2:=hx 2 _ rfl
 have h3:=hx 3 _ rfl
 have h4:=hx 4 _ rfl
 simp only[bH,mR,mK,Qz,PY,Qy,PX,Qx,PW,Qw,PU,Vc,U8,U4,U3,bt,Vk] at h0 h1 h2 h3 h4
 obtain⟨v0,rfl,ok_v0⟩:=aW h0 Tryz.underlying3
 obtain⟨v1,rfl,ok_v1,oks_v1⟩:=bP (f:=Sch.pv) (Q:=(fun x:Sch=>x.ok)) h1 Tryz.underlying22 P3 (fun x hx=>G4 hx)
 obtain⟨v2,rfl,ok_v2,oks_v2⟩:=bP (f:=Enp.pv) (Q:=(fun x:Enp=>x.ok)) h2 Tryz.underlying23 P8 (fun x hx=>G9 hx)
 obtain⟨v3,rfl,ok_v3,oks_v3⟩:=bP (f:=Svc.pv) (Q:=(fun x:Svc=>x.ok)) h3 Tryz.underlying24 P7 (fun x hx=>G2 hx)
 obtain⟨v4,rfl,ok_v4,oks_v4⟩:=bP (f:=Rou.pv) (Q:=(fun x:Rou=>x.ok)) h4 Tryz.underlying25 P5 (fun x hx=>G6 hx)
 refine⟨.mk v0 v1 v2 v3 v4,?_,?_⟩
 ·rw[T4]
 ·rw[T3];exact⟨ok_v0,ok_v1,oks_v1,ok_v2,oks_v2,ok_v3,oks_v3,ok_v4,oks_v4⟩

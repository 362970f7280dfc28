/- A part. -/
import Derived.KernelRfl
import Derived.Test.YtamoeblcphjbaaaGreatDoorProg
import Derived.Test.YtamoeblcphjbaaaGreatDoorTyLC1
import Derived.Test.YtamoeblcphjbaaaGreatDoorTyF
set_option linter.unusedVariables false
set_option linter.unusedSimpArgs false
set_option maxRecDepth 100000
open List renaming length_append->WF,length_cons->WG,length_nil->WL,drop_succ_cons->XZ,take_succ_cons->XY,take_zero->XS
namespace Go.Proofs.YtamoeblcphjbaaaGreatDoor
open Go Go.Ab
def I64 (n:Int):Prop:=-9223372036854775808<=n/\n<=9223372036854775807
mutual
inductive Val where
 | mk (kind:Int) (num:Int) (scale:Int) (text:List UInt8) (lst:List Val) (fields:List Fld)
inductive Fld where
 | mk (name:List UInt8) (value:Val)
end
def Val.kind:Val->Int
 | .mk kind _ _ _ _ _=>kind
def Val.num:Val->Int
 | .mk _ num _ _ _ _=>num
def Val.scale:Val->Int
 | .mk _ _ scale _ _ _=>scale
def Val.text:Val->List UInt8
 | .mk _ _ _ text _ _=>text
def Val.lst:Val->List Val
 | .mk _ _ _ _ lst _=>lst
def Val.fields:Val->List Fld
 | .mk _ _ _ _ _ fields=>fields
def Fld.name:Fld->List UInt8
 | .mk name _=>name
def Fld.value:Fld->Val
 | .mk _ value=>value
mutual
def Val.pv:Val->PV
 | .mk kind num scale text lst fields=>.agg ([.int .i64 kind,.int .i64 num,.int .i64 scale,.str text,.list (lst.map Val.pv),.list (fields.map Fld.pv)])
def Fld.pv:Fld->PV
 | .mk name value=>.agg ([.str name]++value.pv.cells)
end
theorem WD (kind:Int)(num:Int)(scale:Int)(text:List UInt8)(lst:List Val)(fields:List Fld):(Val.mk kind num scale text lst fields).pv = .agg ([.int .i64 kind,.int .i64 num,.int .i64 scale,.str text,.list (lst.map Val.pv),.list (fields.map Fld.pv)]):=by rw[Val.pv]
theorem Wq (name:List UInt8)(value:Val):(Fld.mk name value).pv = .agg ([.str name]++value.pv.cells):=by rw[Fld.pv]
theorem Val.cells_len (x:Val):x.pv.cells.length=6:=by
 obtain⟨kind,num,scale,text,lst,fields⟩:=x
 rw[WD];simp only[ap,WF,WG,WL]
theorem Val.isAgg (x:Val):x.pv.isAgg=true:=by
 obtain⟨kind,num,scale,text,lst,fields⟩:=x
 rw[WD];rfl
theorem Fld.cells_len (x:Fld):x.pv.cells.length=7:=by
 obtain⟨name,value⟩:=x
 rw[Wq];simp only[ap,WF,WG,WL,Val.cells_len]
theorem Fld.isAgg (x:Fld):x.pv.isAgg=true:=by
 obtain⟨name,value⟩:=x
 rw[Wq];rfl
theorem Val.ones (x:Val):(x.pv.cells.all PV.one)=true:=by
 obtain⟨kind,num,scale,text,lst,fields⟩:=x
 rw[WD];simp only[ap,List.all_append,List.all_cons,List.all_nil,Dh,Di,wz,wy,Bool.and_true,Bool.and_self]
theorem Val.row (x:Val):∃ cs,x.pv = .agg cs/\cs.length=6/\∀ p∈cs,p.one=true:=by
 have h1:=x.cells_len;have h2:=x.ones;have h3:=x.isAgg
 cases h:x.pv with
 | agg cs=>rw[h] at h1 h2;exact⟨cs,rfl,h1,fun p hp=>List.all_eq_true.1 h2 p hp⟩
 | _=>rw[h] at h3;cases h3
mutual
def Val.ok:Val->Prop
 | .mk kind num scale text lst fields=>I64 kind/\I64 num/\I64 scale/\text.length<=140737488351232/\lst.length*88<=140737488351232/\(∀ x∈lst,x.ok)/\fields.length*104<=140737488351232/\(∀ x∈fields,x.ok)
def Fld.ok:Fld->Prop
 | .mk name value=>name.length<=140737488351232/\value.ok
end
theorem WC (kind:Int)(num:Int)(scale:Int)(text:List UInt8)(lst:List Val)(fields:List Fld):(Val.mk kind num scale text lst fields).ok=(I64 kind/\I64 num/\I64 scale/\text.length<=140737488351232/\lst.length*88<=140737488351232/\(∀ x∈lst,x.ok)/\fields.length*104<=140737488351232/\(∀ x∈fields,x.ok)):=by rw[Val.ok]
theorem Wp (name:List UInt8)(value:Val):(Fld.mk name value).ok=(name.length<=140737488351232/\value.ok):=by rw[Fld.ok]
mutual
inductive Typ where
 | mk (kind:Int) (min:Int) (max:Int) (scale:Int) (words:List (List UInt8)) (elem:List Typ) (fields:List TFd)
inductive TFd where
 | mk (number:Int) (name:List UInt8) (need:Int) (typ:Typ) (dflt:List Val)
end
def Typ.kind:Typ->Int
 | .mk kind _ _ _ _ _ _=>kind
def Typ.min:Typ->Int
 | .mk _ min _ _ _ _ _=>min
def Typ.max:Typ->Int
 | .mk _ _ max _ _ _ _=>max
def Typ.scale:Typ->Int
 | .mk _ _ _ scale _ _ _=>scale
def Typ.words:Typ->List (List UInt8)
 | .mk _ _ _ _ words _ _=>words
def Typ.elem:Typ->List Typ
 | .mk _ _ _ _ _ elem _=>elem
def Typ.fields:Typ->List TFd
 | .mk _ _ _ _ _ _ fields=>fields
def TFd.number:TFd->Int
 | .mk number _ _ _ _=>number
def TFd.name:TFd->List UInt8
 | .mk _ name _ _ _=>name
def TFd.need:TFd->Int
 | .mk _ _ need _ _=>need
def TFd.typ:TFd->Typ
 | .mk _ _ _ typ _=>typ
def TFd.dflt:TFd->List Val
 | .mk _ _ _ _ dflt=>dflt
mutual
def Typ.pv:Typ->PV
 | .mk kind min max scale words elem fields=>.agg ([.int .i64 kind,.int .i64 min,.int .i64 max,.int .i64 scale,.list (words.map PV.str),.list (elem.map Typ.pv),.list (fields.map TFd.pv)])
def TFd.pv:TFd->PV
 | .mk number name need typ dflt=>.agg ([.int .i64 number,.str name,.int .i64 need]++typ.pv.cells++[.list (dflt.map Val.pv)])
end
theorem WB (kind:Int)(min:Int)(max:Int)(scale:Int)(words:List (List UInt8))(elem:List Typ)(fields:List TFd):(Typ.mk kind min max scale words elem fields).pv = .agg ([.int .i64 kind,.int .i64 min,.int .i64 max,.int .i64 scale,.list (words.map PV.str),.list (elem.map Typ.pv),.list (fields.map TFd.pv)]):=by rw[Typ.pv]
theorem Wt (number:Int)(name:List UInt8)(need:Int)(typ:Typ)(dflt:List Val):(TFd.mk number name need typ dflt).pv = .agg ([.int .i64 number,.str name,.int .i64 need]++typ.pv.cells++[.list (dflt.map Val.pv)]):=by rw[TFd.pv]
theorem Typ.cells_len (x:Typ):x.pv.cells.length=7:=by
 obtain⟨kind,min,max,scale,words,elem,fields⟩:=x
 rw[WB];simp only[ap,WF,WG,WL]
theorem TFd.cells_len (x:TFd):x.pv.cells.length=11:=by
 obtain⟨number,name,need,typ,dflt⟩:=x
 rw[Wt];simp only[ap,WF,WG,WL,Typ.cells_len]
theorem TFd.isAgg (x:TFd):x.pv.isAgg=true:=by
 obtain⟨number,name,need,typ,dflt⟩:=x
 rw[Wt];rfl
mutual
def Typ.ok:Typ->Prop
 | .mk kind min max scale words elem fields=>I64 kind/\I64 min/\I64 max/\I64 scale/\words.length*16<=140737488351232/\(∀ x∈words,x.length<=140737488351232)/\elem.length*104<=140737488351232/\(∀ x∈elem,x.ok)/\fields.length*160<=140737488351232/\(∀ x∈fields,x.ok)
def TFd.ok:TFd->Prop
 | .mk number name need typ dflt=>I64 number/\name.length<=140737488351232/\I64 need/\typ.ok/\dflt.length*88<=140737488351232/\(∀ x∈dflt,x.ok)
end
theorem WA (kind:Int)(min:Int)(max:Int)(scale:Int)(words:List (List UInt8))(elem:List Typ)(fields:List TFd):(Typ.mk kind min max scale words elem fields).ok=(I64 kind/\I64 min/\I64 max/\I64 scale/\words.length*16<=140737488351232/\(∀ x∈words,x.length<=140737488351232)/\elem.length*104<=140737488351232/\(∀ x∈elem,x.ok)/\fields.length*160<=140737488351232/\(∀ x∈fields,x.ok)):=by rw[Typ.ok]
theorem Ws (number:Int)(name:List UInt8)(need:Int)(typ:Typ)(dflt:List Val):(TFd.mk number name need typ dflt).ok=(I64 number/\name.length<=140737488351232/\I64 need/\typ.ok/\dflt.length*88<=140737488351232/\(∀ x∈dflt,x.ok)):=by rw[TFd.ok]
theorem Pm:bO Tryz.prog 3=false:=by kernel_rfl
theorem Pa:Tryz.prog.cellsOf 3=1:=by kernel_rfl
theorem Pl:bO Tryz.prog 9=false:=by kernel_rfl
theorem O9:Tryz.prog.cellsOf 9=1:=by kernel_rfl
theorem US:Tryz.prog.bytesOf 9=16:=by kernel_rfl
theorem L9:bO Tryz.prog 22=false:=by kernel_rfl
theorem LU:Tryz.prog.cellsOf 22=1:=by kernel_rfl
theorem SS:bO Tryz.prog 23=false:=by kernel_rfl
theorem Sn:Tryz.prog.cellsOf 23=1:=by kernel_rfl
theorem SR:bO Tryz.prog 25=true:=by kernel_rfl
theorem LS:Tryz.prog.cellsOf 25=6:=by kernel_rfl
theorem LX:Tryz.prog.bytesOf 25=88:=by kernel_rfl
theorem Sm:Tryz.prog.cellsOf 39=7:=by kernel_rfl
theorem Sw:Tryz.prog.bytesOf 39=104:=by kernel_rfl
theorem SQ:bO Tryz.prog 42=false:=by kernel_rfl
theorem Sl:Tryz.prog.cellsOf 42=1:=by kernel_rfl
theorem SP:bO Tryz.prog 45=false:=by kernel_rfl
theorem Sk:Tryz.prog.cellsOf 45=1:=by kernel_rfl
theorem SO:bO Tryz.prog 46=false:=by kernel_rfl
theorem Sj:Tryz.prog.cellsOf 46=1:=by kernel_rfl
theorem SN:bO Tryz.prog 48=true:=by kernel_rfl
theorem LR:Tryz.prog.cellsOf 48=7:=by kernel_rfl
theorem Sv:Tryz.prog.bytesOf 48=104:=by kernel_rfl
theorem Si:Tryz.prog.cellsOf 60=11:=by kernel_rfl
theorem Su:Tryz.prog.bytesOf 60=160:=by kernel_rfl
section
variable {t:Nat}{p:PV}
theorem ll (h:HasT Tryz.prog t p)(hu:Tryz.prog.underlying t=some .string):∃ s:List UInt8,p = .str s/\s.length<=140737488351232:=by
 cases h with
 | str _ s hb hs=>exact⟨s,rfl,hs⟩
 | int _ k n hb=>rw[hu] at hb;cases hb
 | bool _ b hb=>rw[hu] at hb;cases hb
 | list _ e l hb=>rw[hu] at hb;cases hb
 | agg _ fs cs hb=>rw[hu] at hb;cases hb
 | arr _ e n cs hb=>rw[hu] at hb;cases hb
theorem Jm {k:IntKind}(h:HasT Tryz.prog t p)(hu:Tryz.prog.underlying t=some (.int k)):∃ n:Int,p = .int k n/\(Lit.int k n).wf=true:=by
 cases h with
 | int _ k' n hk hw=>rw[hu] at hk;cases hk;exact⟨n,rfl,hw⟩
 | bool _ b hb=>rw[hu] at hb;cases hb
 | str _ s hb=>rw[hu] at hb;cases hb
 | list _ e l hb=>rw[hu] at hb;cases hb
 | agg _ fs cs hb=>rw[hu] at hb;cases hb
 | arr _ e n cs hb=>rw[hu] at hb;cases hb
theorem dN (h:HasT Tryz.prog t p)(hu:Tryz.prog.underlying t=some (.int .i64)):∃ n:Int,p = .int .i64 n/\I64 n:=by
 obtain⟨n,rfl,hw⟩:=Jm h hu
 refine⟨n,rfl,?_⟩
 simp only[Lit.wf,Bool.and_eq_true,decide_eq_true_eq] at hw
 exact hw
theorem Ez {e:Nat}(h:HasT Tryz.prog t p)(hu:Tryz.prog.underlying t=some (.slice e)):∃ l:List PV,p = .list l/\l.length<=maxLen/\l.length*Tryz.prog.bytesOf e<=140737488351232/\∀ (i:Nat) (x:PV),l[i]? = some x->HasT Tryz.prog e x:=by
 cases h with
 | list _ e' l hb hl hl2 hx=>rw[hu] at hb;cases hb;exact⟨l,rfl,hl,hl2,hx⟩
 | int _ k n hb=>rw[hu] at hb;cases hb
 | bool _ b hb=>rw[hu] at hb;cases hb
 | str _ s hb=>rw[hu] at hb;cases hb
 | agg _ fs cs hb=>rw[hu] at hb;cases hb
 | arr _ e n cs hb=>rw[hu] at hb;cases hb
end
theorem i1 {t e e':Nat}(h:Tryz.prog.underlying t=some (.slice e))(h':Tryz.prog.underlying t=some (.slice e')):e=e':=by
 rw[h] at h';cases h';rfl
theorem j3 {β:Type}{f:β->PV}{Q:β->Prop}:∀ (l:List PV),(∀ (i:Nat) (x:PV),l[i]? = some x->∃ s,x=f s/\Q s)->∃ ss:List β,l=ss.map f/\ss.length=l.length/\∀ s∈ss,Q s
 | [],_=>⟨[],rfl,rfl,by simp⟩
 | x::r,h=>by
   obtain⟨s,rfl,hs⟩:=h 0 x rfl
   obtain⟨ss,rfl,hl,hss⟩:=j3 r (fun i y hy=>h (i+1) y (by simpa using hy))
   refine⟨s::ss,rfl,by simp,fun t ht=>?_⟩
   rcases List.mem_cons.1 ht with rfl | ht
   ·exact hs
   ·exact hss t ht
theorem wO {β:Type}{f:β->PV}{Q:β->Prop}{t e b:Nat}{p:PV}(h:HasT Tryz.prog t p)(hu:Tryz.prog.underlying t=some (.slice e))(hb:Tryz.prog.bytesOf e=b)(hq:∀ x,HasT Tryz.prog e x->∃ s,x=f s/\Q s):∃ ss:List β,p = .list (ss.map f)/\ss.length*b<=140737488351232/\∀ s∈ss,Q s:=by
 obtain⟨l,rfl,_,hl,hx⟩:=Ez h hu
 obtain⟨ss,rfl,h1,h2⟩:=j3 (f:=f) (Q:=Q) l fun i x hi=>hq x (hx i x hi)
 exact⟨ss,rfl,by rw[h1,<- hb];exact hl,h2⟩
theorem Ug {l:List PV}(h:l.length=6):∃ c0 c1 c2 c3 c4 c5,l=[c0,c1,c2,c3,c4,c5]:=by
 match l,h with
 | [c0,c1,c2,c3,c4,c5],_=>exact⟨c0,c1,c2,c3,c4,c5,rfl⟩
theorem Rz {l:List PV}(h:l.length=7):∃ c0 c1 c2 c3 c4 c5 c6,l=[c0,c1,c2,c3,c4,c5,c6]:=by
 match l,h with
 | [c0,c1,c2,c3,c4,c5,c6],_=>exact⟨c0,c1,c2,c3,c4,c5,c6,rfl⟩
theorem RA {l:List PV}(h:l.length=11):∃ c0 c1 c2 c3 c4 c5 c6 c7 c8 c9 c10,l=[c0,c1,c2,c3,c4,c5,c6,c7,c8,c9,c10]:=by
 match l,h with
 | [c0,c1,c2,c3,c4,c5,c6,c7,c8,c9,c10],_=>exact⟨c0,c1,c2,c3,c4,c5,c6,c7,c8,c9,c10,rfl⟩
theorem kR {t:Nat}{p:PV}(h:HasT Tryz.prog t p):(t=25->∃ x:Val,p=x.pv/\x.ok)/\(t=39->∃ x:Fld,p=x.pv/\x.ok)/\(t=22->∃ l:List Val,p = .list (l.map Val.pv)/\l.length*88<=140737488351232/\∀ x∈l,x.ok)/\(t=23->∃ l:List Fld,p = .list (l.map Fld.pv)/\l.length*104<=140737488351232/\∀ x∈l,x.ok):=by
 induction h with
 | bool t b hb=>refine⟨?_,?_,?_,?_⟩<;>(intro h;subst h;simp[Tryz.underlying25,Tryz.underlying39,Tryz.underlying22,Tryz.underlying23] at hb)
 | int t k n hb _=>refine⟨?_,?_,?_,?_⟩<;>(intro h;subst h;simp[Tryz.underlying25,Tryz.underlying39,Tryz.underlying22,Tryz.underlying23] at hb)
 | str t s hb _=>refine⟨?_,?_,?_,?_⟩<;>(intro h;subst h;simp[Tryz.underlying25,Tryz.underlying39,Tryz.underlying22,Tryz.underlying23] at hb)
 | arr t e n cs hb _ _ _=>refine⟨?_,?_,?_,?_⟩<;>(intro h;subst h;simp[Tryz.underlying25,Tryz.underlying39,Tryz.underlying22,Tryz.underlying23] at hb)
 | list t e l hu hl hl2 hx ih=>
   refine⟨?_,?_,?_,?_⟩
   ·intro h;subst h;simp[Tryz.underlying25] at hu
   ·intro h;subst h;simp[Tryz.underlying39] at hu
   ·intro h;subst h
    obtain rfl:=i1 hu Tryz.underlying22
    obtain⟨ss,rfl,hlen,hss⟩:=j3 (f:=Val.pv) (Q:=Val.ok) l (fun i x hi=>(ih i x hi).1 rfl)
    exact⟨ss,rfl,by rw[hlen,<- LX];exact hl2,hss⟩
   ·intro h;subst h
    obtain rfl:=i1 hu Tryz.underlying23
    obtain⟨ss,rfl,hlen,hss⟩:=j3 (f:=Fld.pv) (Q:=Fld.ok) l (fun i x hi=>(ih i x hi).2.1 rfl)
    exact⟨ss,rfl,by rw[hlen,<- Sw];exact hl2,hss⟩
 | agg t fs cs hu hl hx ih=>
   refine⟨?_,?_,?_,?_⟩
   ·intro h;subst h
    rw[Tryz.underlying25] at hu;cases hu
    rw[LS] at hl
    obtain⟨c0,c1,c2,c3,c4,c5,rfl⟩:=Ug hl
    have h0:=hx 0 _ rfl
    have h1:=hx 1 _ rfl
    have h2:=hx 2 _ rfl
    have h3:=hx 3 _ rfl
    have h4:=(ih 4 _ rfl).2.2.1 rfl
    have h5:=(ih 5 _ rfl).2.2.2 rfl
    simp only[mW,Pm,Pa,Pl,O9,L9,LU,SS,Sn,List.drop_zero,XZ,XY,XS,dG,List.headD_cons] at h0 h1 h2 h3 h4 h5
    obtain⟨v0,rfl,ok_v0⟩:=dN h0 Tryz.underlying3
    obtain⟨v1,rfl,ok_v1⟩:=dN h1 Tryz.underlying3
    obtain⟨v2,rfl,ok_v2⟩:=dN h2 Tryz.underlying3
    obtain⟨v3,rfl,ok_v3⟩:=ll h3 Tryz.underlying9
    obtain⟨v4,rfl,ok_v4,oks_v4⟩:=h4
    obtain⟨v5,rfl,ok_v5,oks_v5⟩:=h5
    refine⟨.mk v0 v1 v2 v3 v4 v5,?_,?_⟩
    ·rw[WD]
    ·rw[WC];exact⟨ok_v0,ok_v1,ok_v2,ok_v3,ok_v4,oks_v4,ok_v5,oks_v5⟩
   ·intro h;subst h
    rw[Tryz.underlying39] at hu;cases hu
    rw[Sm] at hl
    obtain⟨c0,c1,c2,c3,c4,c5,c6,rfl⟩:=Rz hl
    have h0:=hx 0 _ rfl
    have h1:=(ih 1 _ rfl).1 rfl
    simp only[mW,Pl,O9,SR,LS,List.drop_zero,XZ,XY,XS,dG,List.headD_cons] at h0 h1
    obtain⟨v0,rfl,ok_v0⟩:=ll h0 Tryz.underlying9
    obtain⟨v1,e1,ok_v1⟩:=h1
    refine⟨.mk v0 v1,?_,?_⟩
    ·rw[Wq];rw[<- e1];rfl
    ·rw[Wp];exact⟨ok_v0,ok_v1⟩
   ·intro h;subst h;simp[Tryz.underlying22] at hu
   ·intro h;subst h;simp[Tryz.underlying23] at hu
theorem Jn {p:PV}(h:HasT Tryz.prog 25 p):∃ x:Val,p=x.pv/\x.ok:=(kR h).1 rfl
theorem kS {t:Nat}{p:PV}(h:HasT Tryz.prog t p):(t=48->∃ x:Typ,p=x.pv/\x.ok)/\(t=60->∃ x:TFd,p=x.pv/\x.ok)/\(t=45->∃ l:List Typ,p = .list (l.map Typ.pv)/\l.length*104<=140737488351232/\∀ x∈l,x.ok)/\(t=46->∃ l:List TFd,p = .list (l.map TFd.pv)/\l.length*160<=140737488351232/\∀ x∈l,x.ok):=by
 induction h with
 | bool t b hb=>refine⟨?_,?_,?_,?_⟩<;>(intro h;subst h;simp[Tryz.underlying48,Tryz.underlying60,Tryz.underlying45,Tryz.underlying46] at hb)
 | int t k n hb _=>refine⟨?_,?_,?_,?_⟩<;>(intro h;subst h;simp[Tryz.underlying48,Tryz.underlying60,Tryz.underlying45,Tryz.underlying46] at hb)
 | str t s hb _=>refine⟨?_,?_,?_,?_⟩<;>(intro h;subst h;simp[Tryz.underlying48,Tryz.underlying60,Tryz.underlying45,Tryz.underlying46] at hb)
 | arr t e n cs hb _ _ _=>refine⟨?_,?_,?_,?_⟩<;>(intro h;subst h;simp[Tryz.underlying48,Tryz.underlying60,Tryz.underlying45,Tryz.underlying46] at hb)
 | list t e l hu hl hl2 hx ih=>
   refine⟨?_,?_,?_,?_⟩
   ·intro h;subst h;simp[Tryz.underlying48] at hu
   ·intro h;subst h;simp[Tryz.underlying60] at hu
   ·intro h;subst h
    obtain rfl:=i1 hu Tryz.underlying45
    obtain⟨ss,rfl,hlen,hss⟩:=j3 (f:=Typ.pv) (Q:=Typ.ok) l (fun i x hi=>(ih i x hi).1 rfl)
    exact⟨ss,rfl,by rw[hlen,<- Sv];exact hl2,hss⟩
   ·intro h;subst h
    obtain rfl:=i1 hu Tryz.underlying46
    obtain⟨ss,rfl,hlen,hss⟩:=j3 (f:=TFd.pv) (Q:=TFd.ok) l (fun i x hi=>(ih i x hi).2.1 rfl)
    exact⟨ss,rfl,by rw[hlen,<- Su];exact hl2,hss⟩
 | agg t fs cs hu hl hx ih=>
   refine⟨?_,?_,?_,?_⟩
   ·intro h;subst h
    rw[Tryz.underlying48] at hu;cases hu
    rw[LR] at hl
    obtain⟨c0,c1,c2,c3,c4,c5,c6,rfl⟩:=Rz hl
    have h0:=hx 0 _ rfl
    have h1:=hx 1 _ rfl
    have h2:=hx 2 _ rfl
    have h3:=hx 3 _ rfl
    have h4:=hx 4 _ rfl
    have h5:=(ih 5 _ rfl).2.2.1 rfl
    have h6:=(ih 6 _ rfl).2.2.2 rfl
    simp only[mW,Pm,Pa,SQ,Sl,SP,Sk,SO,Sj,List.drop_zero,XZ,XY,XS,dG,List.headD_cons] at h0 h1 h2 h3 h4 h5 h6
    obtain⟨v0,rfl,ok_v0⟩:=dN h0 Tryz.underlying3
    obtain⟨v1,rfl,ok_v1⟩:=dN h1 Tryz.underlying3
    obtain⟨v2,rfl,ok_v2⟩:=dN h2 Tryz.underlying3
    obtain⟨v3,rfl,ok_v3⟩:=dN h3 Tryz.underlying3
    obtain⟨v4,rfl,ok_v4,oks_v4⟩:=wO (f:=PV.str) (Q:=(fun x:List UInt8=>x.length<=140737488351232)) h4 Tryz.underlying42 US (fun x hx=>ll hx Tryz.underlying9)
    obtain⟨v5,rfl,ok_v5,oks_v5⟩:=h5
    obtain⟨v6,rfl,ok_v6,oks_v6⟩:=h6
    refine⟨.mk v0 v1 v2 v3 v4 v5 v6,?_,?_⟩
    ·rw[WB]
    ·rw[WA];exact⟨ok_v0,ok_v1,ok_v2,ok_v3,ok_v4,oks_v4,ok_v5,oks_v5,ok_v6,oks_v6⟩
   ·intro h;subst h
    rw[Tryz.underlying60] at hu;cases hu
    rw[Si] at hl
    obtain⟨c0,c1,c2,c3,c4,c5,c6,c7,c8,c9,c10,rfl⟩:=RA hl
    have h0:=hx 0 _ rfl
    have h1:=hx 1 _ rfl
    have h2:=hx 2 _ rfl
    have h3:=(ih 3 _ rfl).1 rfl
    have h4:=hx 4 _ rfl
    simp only[mW,Pm,Pa,Pl,O9,L9,LU,SN,LR,List.drop_zero,XZ,XY,XS,dG,List.headD_cons] at h0 h1 h2 h3 h4
    obtain⟨v0,rfl,ok_v0⟩:=dN h0 Tryz.underlying3
    obtain⟨v1,rfl,ok_v1⟩:=ll h1 Tryz.underlying9
    obtain⟨v2,rfl,ok_v2⟩:=dN h2 Tryz.underlying3
    obtain⟨v3,e3,ok_v3⟩:=h3
    obtain⟨v4,rfl,ok_v4,oks_v4⟩:=wO (f:=Val.pv) (Q:=(fun x:Val=>x.ok)) h4 Tryz.underlying22 LX (fun x hx=>Jn hx)
    refine⟨.mk v0 v1 v2 v3 v4,?_,?_⟩
    ·rw[Wt];rw[<- e3];rfl
    ·rw[Ws];exact⟨ok_v0,ok_v1,ok_v2,ok_v3,ok_v4,oks_v4⟩
   ·intro h;subst h;simp[Tryz.underlying45] at hu
   ·intro h;subst h;simp[Tryz.underlying46] at hu
theorem Jo {p:PV}(h:HasT Tryz.prog 48 p):∃ x:Typ,p=x.pv/\x.ok:=(kS h).1 rfl
attribute [local irreducible] vc
theorem RG (n lo hi:Int):am Tryz.prog aC 154 [.int .i64 n,.int .i64 lo,.int .i64 hi] (.bool (decide (lo<=n)&&decide (n<=hi))):=by
 refine am.intro S7.2 (by simp[S7]) ?_
 by_cases h1:lo<=n
 ·by_cases h2:n<=hi
  ·rw[show (decide (lo<=n)&&decide (n<=hi))=true by simp[h1,h2]]
   simp(disch:=try exact dI) only[S7,push_cast,seval]
  ·rw[show (decide (lo<=n)&&decide (n<=hi))=false by simp[h2]]
   simp(disch:=try exact dI) only[S7,push_cast,seval]
 ·rw[show (decide (lo<=n)&&decide (n<=hi))=false by simp[h1]]
  simp(disch:=try exact dI) only[S7,push_cast,seval]
theorem eG {n lo hi:Int}(h:lo<=n/\n<=hi):am Tryz.prog aC 154 [.int .i64 n,.int .i64 lo,.int .i64 hi] (.bool true):=by
 have:=RG n lo hi
 rwa [show (decide (lo<=n)&&decide (n<=hi))=true by simp[h]] at this
theorem pN {n lo hi:Int}(h:¬ (lo<=n/\n<=hi)):am Tryz.prog aC 154 [.int .i64 n,.int .i64 lo,.int .i64 hi] (.bool false):=by
 have:=RG n lo hi
 rwa [show (decide (lo<=n)&&decide (n<=hi))=false by rw[<- Bool.decide_and];exact decide_eq_false h] at this
theorem Ob {y:Int}(h1:1<=y)(h2:y<=9999):am Tryz.prog aC 205 [.int .i64 y] (.bool (j4 y)):=by
 have hi:=eG (n:=y) (lo:=1) (hi:=9999) ⟨h1,h2⟩
 have e4:=kr (a:=y) (b:=4) (by omega)
 have e100:=kr (a:=y) (b:=100) (by omega)
 have e400:=kr (a:=y) (b:=400) (by omega)
 refine am.intro P1.2 (by simp[P1]) ?_
 unfold j4
 by_cases a:y % 4=0
 ·by_cases b:y % 100=0
  ·by_cases c:y % 400=0
   ·simp only[a,b,c,decide_true,Bool.not_true,Bool.or_true,Bool.and_true]
    simp(disch:=try exact dI) only[P1,e4,e100,e400,push_cast,seval]
    refine ae.pure hi rfl ?_
    simp(disch:=try exact dI) only[e4,e100,e400,a,b,c,push_cast,seval]
   ·simp only[a,b,c,decide_true,decide_false,Bool.not_true,Bool.or_false,Bool.and_false]
    simp(disch:=try exact dI) only[P1,e4,e100,e400,push_cast,seval]
    refine ae.pure hi rfl ?_
    simp(disch:=try exact dI) only[e4,e100,e400,a,b,c,push_cast,seval]
  ·simp only[a,b,decide_true,decide_false,Bool.not_false,Bool.true_or,Bool.and_true]
   simp(disch:=try exact dI) only[P1,e4,e100,e400,push_cast,seval]
   refine ae.pure hi rfl ?_
   simp(disch:=try exact dI) only[e4,e100,e400,a,b,push_cast,seval]
 ·simp only[a,decide_false,Bool.false_and]
  simp(disch:=try exact dI) only[P1,e4,e100,e400,push_cast,seval]
  refine ae.pure hi rfl ?_
  simp(disch:=try exact dI) only[e4,e100,e400,a,push_cast,seval]
theorem LZ {y:Int}(h1:1<=y)(h2:y<=100000):am Tryz.prog aC 155 [.int .i64 y] (.int .i64 (fe y)):=by
 have e4:=iV (a:=y - 1) (b:=4) (by omega)
 have e100:=iV (a:=y - 1) (b:=100) (by omega)
 have e400:=iV (a:=y - 1) (b:=400) (by omega)
 refine am.intro Vy.2 (by simp[Vy]) ?_
 simp(disch:=try exact dI) only[Vy,fe,e4,e100,e400,push_cast,seval]
open Nat renaming reduceEqDiff->qa,reduceAdd->qb,reduceMul->qc,reduceLeDiff->qd,reduceLT->qe,reduceBEq->qf,reduceSub->qg
open Int renaming reduceToNat->qh,reduceNeg->qi
def Tc (m:Nat):Int:=if m=2 then 28 else if m=4\/m=6\/m=9\/m=11 then 30 else 31
theorem Lk (y:Int)(m:Nat)(h:¬ (m=2/\j4 y=true)):mdI y m=Tc m:=by
 unfold mdI Tc
 by_cases h2:m=2
 ·subst h2
  have:¬ j4 y=true:=fun hl=>h ⟨rfl,hl⟩
  simp[this]
 ·have:¬ (m:Int)=2:=by omega
  rw[if_neg this,if_neg h2]
  by_cases h4:m=4\/m=6\/m=9\/m=11
  ·rw[if_pos h4,if_pos (by omega)]
  ·rw[if_neg h4,if_neg (by omega)]
theorem Um (m:Nat)(h1:1<=m)(h2:m<=12):ft false 12 1 (.pv (.agg [.int .i64 31,.int .i64 28,.int .i64 31,.int .i64 30,.int .i64 31,.int .i64 30,.int .i64 31,.int .i64 31,.int .i64 30,.int .i64 31,.int .i64 30,.int .i64 31])) (.pv (.int .i64 ((m:Int) - 1)))=some (.pv (.int .i64 (Tc m))):=by
 have h12:m=1\/m=2\/m=3\/m=4\/m=5\/m=6\/m=7\/m=8\/m=9\/m=10\/m=11\/m=12:=by omega
 rcases h12 with rfl | rfl | rfl | rfl | rfl | rfl | rfl | rfl | rfl | rfl | rfl | rfl<;>rfl
theorem NZ {y:Int}(h1:1<=y)(h2:y<=9999)(m:Nat)(h3:1<=m)(h4:m<=12):am Tryz.prog aC 156 [.int .i64 y,.int .i64 (m:Int)] (.int .i64 (mdI y m)):=by
 have hl:=Ob h1 h2
 have hx:=Um m h3 h4
 refine am.intro S6.2 (by simp[S6]) ?_
 by_cases h:m=2
 ·subst h
  cases hb:j4 y with
  | true=>
    rw[hb] at hl
    rw[show mdI y ((2:Nat):Int)=29 by simp[mdI,hb]]
    simp(disch:=try exact dI) only[S6,push_cast,↓reduceIte,qa,qb,qc,qd,qe,qf,qg,qh,qi]
    refine ae.pure hl rfl ?_
    simp(disch:=try exact dI) only[push_cast,↓reduceIte,qa,qb,qc,qd,qe,qf,qg,qh,qi]
  | false=>
    rw[hb] at hl
    rw[Lk y 2 (by simp[hb])]
    have hx2:ft false 12 1 (.pv (.agg [.int .i64 31,.int .i64 28,.int .i64 31,.int .i64 30,.int .i64 31,.int .i64 30,.int .i64 31,.int .i64 31,.int .i64 30,.int .i64 31,.int .i64 30,.int .i64 31])) (.pv (.int .i64 (2 - 1)))=some (.pv (.int .i64 28)):=rfl
    rw[show Tc 2=28 from rfl]
    simp(disch:=try exact dI) only[S6,push_cast,↓reduceIte,qa,qb,qc,qd,qe,qf,qg,qh,qi]
    refine ae.pure hl rfl ?_
    simp(disch:=try exact dI) only[hx2,push_cast,↓reduceIte,qa,qb,qc,qd,qe,qf,qg,qh,qi]
 ·rw[Lk y m (by simp[h])]
  simp(disch:=try exact dI) only[S6,hx,push_cast,↓reduceIte,qa,qb,qc,qd,qe,qf,qg,qh,qi]
theorem mC {y:Int}(h1:1<=y)(h2:y<=9999)(m:Nat)(h3:1<=m)(h4:m<=12):am Tryz.prog aC 223 [.int .i64 y,.int .i64 (m:Int)] (.tup [.int .i64 (mdI y m),.int .i64 0]):=by
 have hi1:=eG (n:=y) (lo:=1) (hi:=9999) ⟨h1,h2⟩
 have hi2:=eG (n:=(m:Int)) (lo:=1) (hi:=12) ⟨by omega,by omega⟩
 have hm:=NZ h1 h2 m h3 h4
 refine am.intro Pw.2 (by simp[Pw]) ?_
 simp(disch:=try exact dI) only[Pw,push_cast,↓reduceIte,qa,qb,qc,qd,qe,qf,qg,qh,qi]
 refine ae.pure hi1 rfl ?_
 simp(disch:=try exact dI) only[push_cast,↓reduceIte,qa,qb,qc,qd,qe,qf,qg,qh,qi]
 refine ae.pure hi2 rfl ?_
 simp(disch:=try exact dI) only[push_cast,↓reduceIte,qa,qb,qc,qd,qe,qf,qg,qh,qi]
 refine ae.pure hm rfl ?_
 simp(disch:=try exact dI) only[push_cast,↓reduceIte,qa,qb,qc,qd,qe,qf,qg,qh,qi]
theorem uh {y m:Int}(h:¬ (1<=y/\y<=9999/\1<=m/\m<=12)):am Tryz.prog aC 223 [.int .i64 y,.int .i64 m] (.tup [.int .i64 0,.int .i64 17]):=by
 refine am.intro Pw.2 (by simp[Pw]) ?_
 by_cases hy:1<=y/\y<=9999
 ·have hi1:=eG (n:=y) (lo:=1) (hi:=9999) hy
  have hi2:=pN (n:=m) (lo:=1) (hi:=12) (by omega)
  simp(disch:=try exact dI) only[Pw,push_cast,↓reduceIte,qa,qb,qc,qd,qe,qf,qg,qh,qi]
  refine ae.pure hi1 rfl ?_
  simp(disch:=try exact dI) only[push_cast,↓reduceIte,qa,qb,qc,qd,qe,qf,qg,qh,qi]
  refine ae.pure hi2 rfl ?_
  simp(disch:=try exact dI) only[push_cast,↓reduceIte,qa,qb,qc,qd,qe,qf,qg,qh,qi]
 ·have hi1:=pN (n:=y) (lo:=1) (hi:=9999) hy
  simp(disch:=try exact dI) only[Pw,push_cast,↓reduceIte,qa,qb,qc,qd,qe,qf,qg,qh,qi]
  refine ae.pure hi1 rfl ?_
  simp(disch:=try exact dI) only[push_cast,↓reduceIte,qa,qb,qc,qd,qe,qf,qg,qh,qi]
theorem RY {y:Int}{m:Nat}{d:Int}(h:DateOk y m d):am Tryz.prog aC 191 [.int .i64 y,.int .i64 (m:Int),.int .i64 d] (.tup [.int .i64 (kh y m d - 719162),.int .i64 0]):=by
 have hm:=mC h.y1 h.y2 m h.m1 h.m2
 have hi:=eG (n:=d) (lo:=1) (hi:=mdI y m) ⟨h.d1,h.d2⟩
 have hb:=LZ h.y1 (by have:=h.y2;omega)
 have hbb:=jE h.y1 (by have:=h.y2;omega)
 have hmd:=eS y m
 have hd1:=h.d1
 have hd2:=h.d2
 have hdr:=gI h
 have hdn:kh y m d=fe y+eJ y (m - 1)+d - 1:=rfl
 refine am.intro Px.2 (by simp[Px]) ?_
 simp(disch:=try exact dI) only[Px,push_cast,↓reduceIte,qa,qb,qc,qd,qe,qf,qg,qh,qi]
 refine ae.pure hm rfl ?_
 simp(disch:=try exact dI) only[push_cast,↓reduceIte,qa,qb,qc,qd,qe,qf,qg,qh,qi]
 refine ae.pure hi rfl ?_
 simp(disch:=try exact dI) only[push_cast,↓reduceIte,qa,qb,qc,qd,qe,qf,qg,qh,qi]
 refine ae.pure hb rfl ?_
 simp(disch:=try exact dI) only[push_cast,↓reduceIte,qa,qb,qc,qd,qe,qf,qg,qh,qi]
 have e0:((0:Nat):Int)+1=1:=rfl
 have e1:-719162+fe y+d - 1+eJ y 0 = -719162+fe y+d - 1:=by
  have z:eJ y 0=0:=rfl
  omega
 refine aG ([]) (fun k:Nat=>[(10,.pv (.int .i64 (-719162+fe y+d - 1+eJ y k))),(11,.pv (.int .i64 ((k:Int)+1)))]) (fun _=>[]) (fun k=>k<=m - 1) (fun k=>m - 1 - k) (0) ?_;intro e0 σ0 n0 h0;simp(disch:=try exact dI) only[push_cast,↓reduceIte,qa,qb,qc,qd,qe,qf,qg,qh,qi] at h0;obtain⟨rfl,rfl,rfl⟩:=h0;refine⟨?_,?_,?_⟩
 ·simp(disch:=try exact dI) only[e1,Int.zero_add,push_cast,↓reduceIte,qa,qb,qc,qd,qe,qf,qg,qh,qi]
 ·omega
 intro k hk
 have hs0:=dJ y k 0
 have z:eJ y 0=0:=rfl
 simp only[Nat.zero_add] at hs0
 have hsm:=dJ y (m - 1 - k) k
 rw[show k+(m - 1 - k)=m - 1 by omega] at hsm
 by_cases hlt:k<m - 1
 ·have hmk:=NZ h.y1 h.y2 (k+1) (by omega) (by have:=h.m2;omega)
  have hmdk:=eS y ((k+1:Nat):Int)
  have hsk:eJ y (k+1)=eJ y k+mdI y ((k+1:Nat):Int):=rfl
  rw[show ((k+1:Nat):Int)=(k:Int)+1 by omega] at hmk hmdk hsk
  have hs2:-719162+fe y+d - 1+eJ y (k+1) = -719162+fe y+d - 1+eJ y k+mdI y ((k:Int)+1):=by omega
  simp(disch:=try exact dI) only[push_cast,↓reduceIte,qa,qb,qc,qd,qe,qf,qg,qh,qi]
  refine ae.pure hmk rfl ?_
  simp(disch:=try exact dI) only[push_cast,↓reduceIte,qa,qb,qc,qd,qe,qf,qg,qh,qi]
  exact⟨k+1,bl (by simp(disch:=try exact dI) only[hs2,push_cast,↓reduceIte,qa,qb,qc,qd,qe,qf,qg,qh,qi]),by omega,by omega⟩
 ·have:k=m - 1:=by omega
  subst this
  have hfin:-719162+fe y+d - 1+eJ y (m - 1)=kh y m d - 719162:=by omega
  simp(disch:=try exact dI) only[hfin,push_cast,↓reduceIte,qa,qb,qc,qd,qe,qf,qg,qh,qi]
theorem RZ {y m d:Int}(h:∀ k:Nat,m=k->¬ DateOk y k d):am Tryz.prog aC 191 [.int .i64 y,.int .i64 m,.int .i64 d] (.tup [.int .i64 0,.int .i64 17]):=by
 refine am.intro Px.2 (by simp[Px]) ?_
 by_cases hm:1<=y/\y<=9999/\1<=m/\m<=12
 ·obtain⟨k,rfl⟩:∃ k:Nat,m=k:=⟨m.toNat,by omega⟩
  have hmt:=mC hm.1 hm.2.1 k (by omega) (by omega)
  have hi:=pN (n:=d) (lo:=1) (hi:=mdI y k) (fun hd=>h k rfl ⟨hm.1,hm.2.1,by omega,by omega,hd.1,hd.2⟩)
  simp(disch:=try exact dI) only[Px,push_cast,↓reduceIte,qa,qb,qc,qd,qe,qf,qg,qh,qi]
  refine ae.pure hmt rfl ?_
  simp(disch:=try exact dI) only[push_cast,↓reduceIte,qa,qb,qc,qd,qe,qf,qg,qh,qi]
  refine ae.pure hi rfl ?_
  simp(disch:=try exact dI) only[push_cast,↓reduceIte,qa,qb,qc,qd,qe,qf,qg,qh,qi]
 ·have hmf:=uh hm
  simp(disch:=try exact dI) only[Px,push_cast,↓reduceIte,qa,qb,qc,qd,qe,qf,qg,qh,qi]
  refine ae.pure hmf rfl ?_
  simp(disch:=try exact dI) only[push_cast,↓reduceIte,qa,qb,qc,qd,qe,qf,qg,qh,qi]
theorem O4 {y:Int}{m:Nat}{d:Int}(h:DateOk y m d):am Tryz.prog aC 89 [.int .i64 (kh y m d - 719162)] (.tup [.int .i64 y,.int .i64 (m:Int),.int .i64 d,.int .i64 0]):=by
 have hdr:=gI h
 have hdb:=sx h
 have hy1:=h.y1
 have hy2:=h.y2
 have hm1:=h.m1
 have hm2:=h.m2
 have hd1:=h.d1
 have hd2:=h.d2
 have hdn:kh y m d=fe y+eJ y (m - 1)+d - 1:=rfl
 obtain⟨n,hn⟩:∃ n,n=kh y m d:=⟨_,rfl⟩
 rw[<- hn] at hdr hdb hdn ⊢
 have hin:=eG (n:=n - 719162) (lo:=-719162) (hi:=2932896) ⟨by omega,by omega⟩
 have hq:=iV (a:=n) (b:=365) (by omega)
 have hs0:=dJ y (m - 1) 0
 have z:eJ y 0=0:=rfl
 simp only[Nat.zero_add] at hs0
 have hbb:=jE hy1 (by omega)
 have hb365:365*(y - 1)<=fe y:=by unfold fe;omega
 have e1:n - 719162 - -719162=n:=by omega
 refine am.intro Q89.2 (by simp[Q89]) ?_
 simp(disch:=try exact dI) only[Q89,push_cast,seval]
 refine ae.pure hin rfl ?_
 have hmin:y<=n / 365+1:=by omega
 have hloop:∀ Y:Int,y<=Y->Y<=9999->(n<fe Y↔y<Y):=by
  intro Y h1 h2
  constructor
  ·intro h3
   by_cases e:Y=y
   ·subst e;omega
   ·omega
  ·intro h3
   have:=SH h3
   omega
 simp(disch:=try exact dI) only[e1,hq,push_cast,seval]
 refine aG ([]) (fun Y:Int=>[(2,.pv (.int .i64 Y))]) (fun _=>[]) (fun Y=>y<=Y/\Y<=9999) (fun Y=>(Y - y).toNat) (min (n / 365+1) 9999) ?_;intro e0 σ0 n0 h0;simp(disch:=try exact dI) only[push_cast,seval] at h0;obtain⟨rfl,rfl,rfl⟩:=h0;refine⟨?_,?_,?_⟩
 ·exact qsZ
 ·exact⟨by omega,by omega⟩
 rintro Y ⟨g1,g2⟩
 have hbY:=LZ (y:=Y) (by omega) (by omega)
 by_cases hY:y<Y
 ·have hgt:=(hloop Y g1 g2).2 hY
  refine zgZ ?_
  refine ae.pure hbY rfl ?_
  refine zgZ ?_
  exact⟨Y - 1,bl qsZ,⟨by omega,by omega⟩,by omega⟩
 ·have:Y=y:=by omega
  subst this
  refine zgZ ?_
  refine ae.pure hbY rfl ?_
  refine zgZ ?_
  refine ae.pure hbY rfl ?_
  refine zgZ ?_
  refine aG ([]) (fun k:Nat=>[(3,.pv (.int .i64 ((k:Int)+1))),(6,.pv (.int .i64 (n - fe Y - eJ Y k)))]) (fun _=>[]) (fun k=>k<=m - 1) (fun k=>m - 1 - k) (0) ?_;intro e0 σ0 n0 h0;simp(disch:=try exact dI) only[push_cast,seval] at h0;obtain⟨rfl,rfl,rfl⟩:=h0;refine⟨?_,?_,?_⟩
  ·simp(disch:=try exact dI) only[z,Int.zero_add,Int.sub_zero,push_cast,seval]
  ·omega
  intro k hk
  have hsm:=dJ Y (m - 1 - k) k
  rw[show k+(m - 1 - k)=m - 1 by omega] at hsm
  have hs1:=dJ Y k 0
  simp only[Nat.zero_add] at hs1
  have hmk:=NZ hy1 hy2 (k+1) (by omega) (by omega)
  have hmdk:=eS Y ((k+1:Nat):Int)
  have hsk:eJ Y (k+1)=eJ Y k+mdI Y ((k+1:Nat):Int):=rfl
  rw[show ((k+1:Nat):Int)=(k:Int)+1 by omega] at hmk hmdk hsk
  by_cases hlt:k<m - 1
  ·have hge:mdI Y ((k:Int)+1)<=n - fe Y - eJ Y k:=by
    have hs2:=dJ Y (m - 1 - (k+1)) (k+1)
    rw[show k+1+(m - 1 - (k+1))=m - 1 by omega] at hs2
    omega
   have he:n - fe Y - eJ Y (k+1)=n - fe Y - eJ Y k - mdI Y ((k:Int)+1):=by omega
   refine zgZ ?_
   refine ae.pure hmk rfl ?_
   refine zgZ ?_
   refine ae.pure hmk rfl ?_
   refine zgZ ?_
   exact⟨k+1,bl (by simp(disch:=try exact dI) only[he,push_cast,seval]),by omega,by omega⟩
  ·have hkm:k=m - 1:=by omega
   subst hkm
   have em:((m - 1:Nat):Int)+1=(m:Int):=by omega
   have em2:(m:Int) - 1+1=(m:Int):=by omega
   rw[em] at hmk hmdk hsk
   have hnge:¬ mdI Y (m:Int)<=n - fe Y - eJ Y (m - 1):=by omega
   have efin:n - fe Y - eJ Y (m - 1)+1=d:=by omega
   simp(disch:=try exact dI) only[em2,push_cast,seval]
   refine ae.pure hmk rfl ?_
   simp(disch:=try exact dI) only[em2,efin,push_cast,seval]

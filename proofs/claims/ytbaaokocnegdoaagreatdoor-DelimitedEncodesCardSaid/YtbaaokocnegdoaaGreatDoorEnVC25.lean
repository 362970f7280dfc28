/- A part. -/
import Derived.Test.YtbaaokocnegdoaaGreatDoorEnVC21
import Derived.KernelRfl
import Derived.Test.YtbaaokocnegdoaaGreatDoorProg
set_option linter.unusedVariables false
set_option linter.unusedSimpArgs false
set_option maxRecDepth 100000
open UInt8 renaming ofNat->VT
open List renaming length_cons->Vq,getElem?_eq_getElem->Vg,length_append->Vp,length_nil->VV,all_eq_true->VM,take_succ_cons->WF,take_zero->V8
open Bool renaming and_true->Ww,true_and->Wb,false_and->Wc
namespace Go.Proofs.YtbaaokocnegdoaaGreatDoor
open Go Go.Ab
attribute [local irreducible] vc
def FZ:List UInt8:=[48,49,50,51,52,53,54,55,56,57,97,98,99,100,101,102]
def nib (c:UInt8):Int:=jd c FZ 0
theorem jz:∀ c:UInt8,-1<=nib c/\nib c<=15/\(0<=nib c->FZ[(nib c).toNat]? = some c):=by
 have key:∀ k:Fin 256,-1<=nib (VT k.val)/\nib (VT k.val)<=15/\(0<=nib (VT k.val)->FZ[(nib (VT k.val)).toNat]? = some (VT k.val)):=by decide +kernel
 intro c
 have h:=key ⟨c.toNat,c.toNat_lt⟩
 simpa using h
theorem P2 (c:UInt8):ae Tryz.prog aq 73 [.str FZ,.int .u8 (c.toNat:Int)] (.int .i64 (nib c)):=by
 have h:=pb FZ (c.toNat:Int)
 rw[show ((c.toNat:Int)).toNat.toUInt8=c by simp] at h
 exact h
def AS (a b:UInt8):UInt8:=VT (16*(nib a).toNat+(nib b).toNat)
def sl:List UInt8->Option (List UInt8)
 | []=>some []
 | [_]=>none
 | a::b::r=>if nib a<0\/nib b<0 then none else (sl r).map (AS a b :: ·)
theorem pf:∀ {s:List UInt8},s.length % 2=1->sl s=none
 | [],h=>by simp at h
 | [_],_=>rfl
 | a::b::r,h=>by
   rw[sl]
   split
   ·rfl
   ·rw[pf (s:=r) (by simp only[Vq] at h;omega)];rfl
theorem UL {a:Int}(h0:0<=a)(h1:a<=15):dY .shl (.pv (.int .i64 a)) (.pv (.int .u64 4))=some (.pv (.int .i64 (a*16))):=by
 have e:dY .shl (.pv (.int .i64 a)) (.pv (.int .u64 4))=some (.pv (.int .i64 (IntKind.i64.wrap (a*16)))):=rfl
 rw[e,ii (by omega) (by omega)]
theorem or4 {a b:Int}(h0:0<=a)(h1:a<=15)(h2:0<=b)(h3:b<=15):bits .or .i64 (a*16) b=a*16+b:=by
 have key:∀ x y:Fin 16,bits .or .i64 (((x.val:Nat):Int)*16) ((y.val:Nat):Int)=((x.val:Nat):Int)*16+((y.val:Nat):Int):=by decide +kernel
 have h:=key ⟨a.toNat,by omega⟩ ⟨b.toNat,by omega⟩
 simp only at h
 rw[show ((a.toNat:Nat):Int)=a by omega,show ((b.toNat:Nat):Int)=b by omega] at h
 exact h
theorem wQ {a b:UInt8}(ha:¬ nib a<0)(hb:¬ nib b<0):((AS a b).toNat:Int)=nib a*16+nib b:=by
 have h1:=jz a
 have h2:=jz b
 unfold AS
 rw[UInt8.toNat_ofNat']
 omega
def hdU (s:List UInt8):Nat×List UInt8->St
 | (i,[])=>⟨[(0,.pv (.str s)),(4,.ptr 0 0),(5,.pv (.int .i64 (i:Int)))],[(0,.cells 89 true [.pv .nilp,.pv .nils])],1⟩
 | (i,b::r)=>⟨[(0,.pv (.str s)),(4,.ptr 0 0),(5,.pv (.int .i64 (i:Int)))],[(0,.cells 89 true [.ptr 0 0,.row 1 1 0 (r.length+1)]),(1,.cells 5 false ((aG (b::r)).map .pv))],2⟩
def exU:List UInt8->St
 | []=>⟨[(4,.ptr 0 0)],[(0,.cells 89 true [.pv .nilp,.pv .nils])],1⟩
 | b::r=>⟨[(4,.ptr 0 0)],[(0,.cells 89 true [.ptr 0 0,.row 1 1 0 (r.length+1)]),(1,.cells 5 false ((aG (b::r)).map .pv))],2⟩
def DZ:Option (List UInt8)->PV
 | some b=>.tup [.str b,.bool true]
 | none=>.tup [.str [],.bool false]
theorem Lg (s:List UInt8)(hl:s.length<=10000):ae Tryz.prog aq 34 [.str s] (DZ (sl s)):=by
 obtain⟨R,hR⟩:∃ R,R=sl s:=⟨_,rfl⟩
 rw[<- hR]
 have hm:=cY (a:=(s.length:Int)) (b:=2) (by omega)
 refine ae.intro Q34.2 (by simp[Q34]) ?_
 by_cases h2:s.length % 2=1
 ·rw[pf h2] at hR
  subst hR
  have hI:¬ (s.length:Int) % 2=0:=by omega
  simp(disch:=try exact dI) only[Q34,hm,DZ,push_cast,seval]
 have hI:(s.length:Int) % 2=0:=by omega
 simp(disch:=try exact dI) only[Q34,hm,hI,push_cast,seval]
 refine kq (hdU s) (fun y=>y.1<=s.length/\y.1 % 2=0/\y.2.length<=y.1/\R=(sl (s.drop y.1)).map (y.2 ++ ·)) (fun y=>s.length - y.1) (0,[]) [4] exU (fun l=>R=some l/\l.length<=10000) ?_ ?_ ?_ ?_
 ·exact aI (by simp(disch:=try exact dI) only[hdU,push_cast,seval])
 ·exact⟨by simp,by simp,by simp,by simp[hR]⟩
 ·rintro⟨i,l⟩ ⟨h1,h3,h4,h5⟩
  simp only at h1 h3 h4 h5
  by_cases hi:i<s.length
  ·obtain⟨x,hx⟩:∃ x,s[i]? = some x:=⟨_,Vg hi⟩
   obtain⟨y,hy⟩:∃ y,s[i+1]? = some y:=⟨_,Vg (by omega)⟩
   rw[bD hx,bD hy,sl] at h5
   have n1:=P2 x
   have n2:=P2 y
   unfold FZ at n1 n2
   have a1:=jz x
   have a2:=jz y
   by_cases hxn:nib x<0
   ·rw[if_pos (Or.inl hxn)] at h5
    have hR2:R=none:=h5
    rw[hR2]
    cases l with
    | nil=>
      simp(disch:=try exact dI) only[hdU,hx,hy,am,push_cast,seval]
      refine ak n1 rfl ?_
      simp(disch:=try exact dI) only[hdU,hx,hy,am,push_cast,seval]
      refine ab.pure n2 rfl ?_
      simp(disch:=try exact dI) only[DZ,push_cast,seval]
    | cons b r=>
      simp(disch:=try exact dI) only[hdU,hx,hy,am,push_cast,seval]
      refine ak n1 rfl ?_
      simp(disch:=try exact dI) only[hdU,hx,hy,am,push_cast,seval]
      refine ab.pure n2 rfl ?_
      simp(disch:=try exact dI) only[DZ,push_cast,seval]
   ·by_cases hyn:nib y<0
    ·rw[if_pos (Or.inr hyn)] at h5
     have hR2:R=none:=h5
     rw[hR2]
     cases l with
     | nil=>
       simp(disch:=try exact dI) only[hdU,hx,hy,am,push_cast,seval]
       refine ak n1 rfl ?_
       simp(disch:=try exact dI) only[hdU,hx,hy,am,push_cast,seval]
       refine ab.pure n2 rfl ?_
       simp(disch:=try exact dI) only[DZ,push_cast,seval]
     | cons b r=>
       simp(disch:=try exact dI) only[hdU,hx,hy,am,push_cast,seval]
       refine ak n1 rfl ?_
       simp(disch:=try exact dI) only[hdU,hx,hy,am,push_cast,seval]
       refine ab.pure n2 rfl ?_
       simp(disch:=try exact dI) only[DZ,push_cast,seval]
    ·rw[if_neg (by rintro (h | h);exact hxn h;exact hyn h)] at h5
     have hs4:=UL (a:=nib x) (by omega) (by omega)
     have ho4:=or4 (a:=nib x) (b:=nib y) (by omega) (by omega) (by omega) (by omega)
     have hbn:=wQ hxn hyn
     have hw:=ji (n:=nib x*16+nib y) (by omega) (by omega)
     have h5':R=(sl (s.drop (i+2))).map (l++[AS x y] ++ ·):=by
      rw[h5,Option.map_map]
      congr 1
      funext q;simp
     cases l with
     | nil=>
       have hW:=ig false [] (AS x y) (by simp)
       simp only[bB,aB,List.nil_append] at hW
       rw[hbn] at hW
       simp(disch:=try exact dI) only[hdU,hx,hy,am,push_cast,seval]
       refine ak n1 rfl ?_
       simp(disch:=try exact dI) only[hdU,hx,hy,am,push_cast,seval]
       refine ab.pure n2 rfl ?_
       simp(disch:=try exact dI) only[hs4,ho4,hw,push_cast,seval]
       refine ab.lentK hW [0] rfl qsZ qsZ ?_
       refine zgZ ?_
       exact⟨(i+2,[AS x y]),aI (by simp(disch:=try exact dI) only[hdU,push_cast,seval];omega),⟨by simp only;omega,by simp only;omega,by simp,by simpa using h5'⟩,by simp only;omega⟩
     | cons b r=>
       have hW:=ig true (b::r) (AS x y) (by simp at h4 ⊢;omega)
       simp only[bB,aB,List.cons_append] at hW
       rw[hbn] at hW
       simp(disch:=try exact dI) only[hdU,hx,hy,am,push_cast,seval]
       refine ak n1 rfl ?_
       simp(disch:=try exact dI) only[hdU,hx,hy,am,push_cast,seval]
       refine ab.pure n2 rfl ?_
       simp(disch:=try exact dI) only[hs4,ho4,hw,push_cast,seval]
       refine ab.lentK hW [0,1] rfl qsZ qsZ ?_
       refine zgZ ?_
       exact⟨(i+2,b::(r++[AS x y])),aI (by simp(disch:=try exact dI) only[hdU,push_cast,seval];omega),⟨by simp only;omega,by simp only;omega,by simp at h4 ⊢;omega,by simpa using h5'⟩,by simp only;omega⟩
  ·have hie:i=s.length:=by omega
   rw[List.drop_eq_nil_of_le (by omega),sl,Option.map_some,List.append_nil] at h5
   cases l with
   | nil=>
     simp(disch:=try exact dI) only[hdU,push_cast,seval]
     exact⟨[],aI (by simp(disch:=try exact dI) only[exU,push_cast,seval]),h5,by simp⟩
   | cons b r=>
     simp(disch:=try exact dI) only[hdU,push_cast,seval]
     exact⟨b::r,aI (by simp(disch:=try exact dI) only[exU,push_cast,seval]),h5,by omega⟩
 ·rintro l ⟨h1,h2⟩
  rw[h1]
  cases l with
  | nil=>
    have hSt:=ld false [] (by simp)
    simp only[bB,aB,stB] at hSt
    simp(disch:=try exact dI) only[exU,push_cast,seval]
    refine ab.lentK hSt [0] rfl qsZ qsZ ?_
    simp(disch:=try exact dI) only[DZ,push_cast,seval]
  | cons b r=>
    have hSt:=ld true (b::r) (by omega)
    simp only[bB,aB,stB] at hSt
    simp(disch:=try exact dI) only[exU,push_cast,seval]
    refine ab.lentK hSt [0,1] rfl qsZ qsZ ?_
    simp(disch:=try exact dI) only[DZ,push_cast,seval]
def I64 (n:Int):Prop:=-9223372036854775808<=n/\n<=9223372036854775807
mutual
inductive Val where
 | mk (kind:Int) (num:Int) (scale:Int) (text:List UInt8) (lst:List Val) (fields:List Fld)
inductive Fld where
 | mk (name:List UInt8) (value:Val)
end
def Val.kind:Val->Int
 | .mk kind _ _ _ _ _=>kind
def Val.num:Val->Int
 | .mk _ num _ _ _ _=>num
def Val.scale:Val->Int
 | .mk _ _ scale _ _ _=>scale
def Val.text:Val->List UInt8
 | .mk _ _ _ text _ _=>text
def Val.lst:Val->List Val
 | .mk _ _ _ _ lst _=>lst
def Val.fields:Val->List Fld
 | .mk _ _ _ _ _ fields=>fields
def Fld.name:Fld->List UInt8
 | .mk name _=>name
def Fld.value:Fld->Val
 | .mk _ value=>value
mutual
def Val.pv:Val->PV
 | .mk kind num scale text lst fields=>.agg ([.int .i64 kind,.int .i64 num,.int .i64 scale,.str text,.list (lst.map Val.pv),.list (fields.map Fld.pv)])
def Fld.pv:Fld->PV
 | .mk name value=>.agg ([.str name]++value.pv.cells)
end
theorem Vf (kind:Int)(num:Int)(scale:Int)(text:List UInt8)(lst:List Val)(fields:List Fld):(Val.mk kind num scale text lst fields).pv = .agg ([.int .i64 kind,.int .i64 num,.int .i64 scale,.str text,.list (lst.map Val.pv),.list (fields.map Fld.pv)]):=by rw[Val.pv]
theorem U3 (name:List UInt8)(value:Val):(Fld.mk name value).pv = .agg ([.str name]++value.pv.cells):=by rw[Fld.pv]
theorem Val.cells_len (x:Val):x.pv.cells.length=6:=by
 obtain⟨kind,num,scale,text,lst,fields⟩:=x
 rw[Vf];simp only[ag,Vp,Vq,VV]
theorem Val.isAgg (x:Val):x.pv.isAgg=true:=by
 obtain⟨kind,num,scale,text,lst,fields⟩:=x
 rw[Vf];rfl
theorem Fld.cells_len (x:Fld):x.pv.cells.length=7:=by
 obtain⟨name,value⟩:=x
 rw[U3];simp only[ag,Vp,Vq,VV,Val.cells_len]
theorem Fld.isAgg (x:Fld):x.pv.isAgg=true:=by
 obtain⟨name,value⟩:=x
 rw[U3];rfl
theorem Val.ones (x:Val):(x.pv.cells.all PV.one)=true:=by
 obtain⟨kind,num,scale,text,lst,fields⟩:=x
 rw[Vf];simp only[ag,List.all_append,List.all_cons,List.all_nil,tm,tn,oS,oR,Ww,Bool.and_self]
theorem Val.row (x:Val):∃ cs,x.pv = .agg cs/\cs.length=6/\∀ p∈cs,p.one=true:=by
 have h1:=x.cells_len;have h2:=x.ones;have h3:=x.isAgg
 cases h:x.pv with
 | agg cs=>rw[h] at h1 h2;exact⟨cs,rfl,h1,fun p hp=>VM.1 h2 p hp⟩
 | _=>rw[h] at h3;cases h3
mutual
def Val.ok:Val->Prop
 | .mk kind num scale text lst fields=>I64 kind/\I64 num/\I64 scale/\text.length<=140737488351232/\lst.length*88<=140737488351232/\(∀ x∈lst,x.ok)/\fields.length*104<=140737488351232/\(∀ x∈fields,x.ok)
def Fld.ok:Fld->Prop
 | .mk name value=>name.length<=140737488351232/\value.ok
end
theorem Ve (kind:Int)(num:Int)(scale:Int)(text:List UInt8)(lst:List Val)(fields:List Fld):(Val.mk kind num scale text lst fields).ok=(I64 kind/\I64 num/\I64 scale/\text.length<=140737488351232/\lst.length*88<=140737488351232/\(∀ x∈lst,x.ok)/\fields.length*104<=140737488351232/\(∀ x∈fields,x.ok)):=by rw[Val.ok]
theorem U2 (name:List UInt8)(value:Val):(Fld.mk name value).ok=(name.length<=140737488351232/\value.ok):=by rw[Fld.ok]
mutual
inductive Typ where
 | mk (kind:Int) (min:Int) (max:Int) (scale:Int) (words:List (List UInt8)) (elem:List Typ) (fields:List TFd)
inductive TFd where
 | mk (number:Int) (name:List UInt8) (need:Int) (typ:Typ) (dflt:List Val)
end
def Typ.kind:Typ->Int
 | .mk kind _ _ _ _ _ _=>kind
def Typ.min:Typ->Int
 | .mk _ min _ _ _ _ _=>min
def Typ.max:Typ->Int
 | .mk _ _ max _ _ _ _=>max
def Typ.scale:Typ->Int
 | .mk _ _ _ scale _ _ _=>scale
def Typ.words:Typ->List (List UInt8)
 | .mk _ _ _ _ words _ _=>words
def Typ.elem:Typ->List Typ
 | .mk _ _ _ _ _ elem _=>elem
def Typ.fields:Typ->List TFd
 | .mk _ _ _ _ _ _ fields=>fields
def TFd.number:TFd->Int
 | .mk number _ _ _ _=>number
def TFd.name:TFd->List UInt8
 | .mk _ name _ _ _=>name
def TFd.need:TFd->Int
 | .mk _ _ need _ _=>need
def TFd.typ:TFd->Typ
 | .mk _ _ _ typ _=>typ
def TFd.dflt:TFd->List Val
 | .mk _ _ _ _ dflt=>dflt
mutual
def Typ.pv:Typ->PV
 | .mk kind min max scale words elem fields=>.agg ([.int .i64 kind,.int .i64 min,.int .i64 max,.int .i64 scale,.list (words.map PV.str),.list (elem.map Typ.pv),.list (fields.map TFd.pv)])
def TFd.pv:TFd->PV
 | .mk number name need typ dflt=>.agg ([.int .i64 number,.str name,.int .i64 need]++typ.pv.cells++[.list (dflt.map Val.pv)])
end
theorem Vd (kind:Int)(min:Int)(max:Int)(scale:Int)(words:List (List UInt8))(elem:List Typ)(fields:List TFd):(Typ.mk kind min max scale words elem fields).pv = .agg ([.int .i64 kind,.int .i64 min,.int .i64 max,.int .i64 scale,.list (words.map PV.str),.list (elem.map Typ.pv),.list (fields.map TFd.pv)]):=by rw[Typ.pv]
theorem U7 (number:Int)(name:List UInt8)(need:Int)(typ:Typ)(dflt:List Val):(TFd.mk number name need typ dflt).pv = .agg ([.int .i64 number,.str name,.int .i64 need]++typ.pv.cells++[.list (dflt.map Val.pv)]):=by rw[TFd.pv]
theorem Typ.cells_len (x:Typ):x.pv.cells.length=7:=by
 obtain⟨kind,min,max,scale,words,elem,fields⟩:=x
 rw[Vd];simp only[ag,Vp,Vq,VV]
theorem Typ.isAgg (x:Typ):x.pv.isAgg=true:=by
 obtain⟨kind,min,max,scale,words,elem,fields⟩:=x
 rw[Vd];rfl
theorem TFd.cells_len (x:TFd):x.pv.cells.length=11:=by
 obtain⟨number,name,need,typ,dflt⟩:=x
 rw[U7];simp only[ag,Vp,Vq,VV,Typ.cells_len]
theorem TFd.isAgg (x:TFd):x.pv.isAgg=true:=by
 obtain⟨number,name,need,typ,dflt⟩:=x
 rw[U7];rfl
theorem Typ.ones (x:Typ):(x.pv.cells.all PV.one)=true:=by
 obtain⟨kind,min,max,scale,words,elem,fields⟩:=x
 rw[Vd];simp only[ag,List.all_append,List.all_cons,List.all_nil,tm,tn,oS,oR,Ww,Bool.and_self]
theorem Typ.row (x:Typ):∃ cs,x.pv = .agg cs/\cs.length=7/\∀ p∈cs,p.one=true:=by
 have h1:=x.cells_len;have h2:=x.ones;have h3:=x.isAgg
 cases h:x.pv with
 | agg cs=>rw[h] at h1 h2;exact⟨cs,rfl,h1,fun p hp=>VM.1 h2 p hp⟩
 | _=>rw[h] at h3;cases h3
mutual
def Typ.ok:Typ->Prop
 | .mk kind min max scale words elem fields=>I64 kind/\I64 min/\I64 max/\I64 scale/\words.length*16<=140737488351232/\(∀ x∈words,x.length<=140737488351232)/\elem.length*104<=140737488351232/\(∀ x∈elem,x.ok)/\fields.length*160<=140737488351232/\(∀ x∈fields,x.ok)
def TFd.ok:TFd->Prop
 | .mk number name need typ dflt=>I64 number/\name.length<=140737488351232/\I64 need/\typ.ok/\dflt.length*88<=140737488351232/\(∀ x∈dflt,x.ok)
end
theorem Vc (kind:Int)(min:Int)(max:Int)(scale:Int)(words:List (List UInt8))(elem:List Typ)(fields:List TFd):(Typ.mk kind min max scale words elem fields).ok=(I64 kind/\I64 min/\I64 max/\I64 scale/\words.length*16<=140737488351232/\(∀ x∈words,x.length<=140737488351232)/\elem.length*104<=140737488351232/\(∀ x∈elem,x.ok)/\fields.length*160<=140737488351232/\(∀ x∈fields,x.ok)):=by rw[Typ.ok]
theorem U6 (number:Int)(name:List UInt8)(need:Int)(typ:Typ)(dflt:List Val):(TFd.mk number name need typ dflt).ok=(I64 number/\name.length<=140737488351232/\I64 need/\typ.ok/\dflt.length*88<=140737488351232/\(∀ x∈dflt,x.ok)):=by rw[TFd.ok]
inductive Mis where
 | mk (path:List UInt8) (code:Int)
def Mis.path:Mis->List UInt8
 | .mk path _=>path
def Mis.pv:Mis->PV
 | .mk path code=>.agg ([.str path,.int .i64 code])
theorem U4 (path:List UInt8)(code:Int):(Mis.mk path code).pv = .agg ([.str path,.int .i64 code]):=by rw[Mis.pv]
theorem Mis.cells_len (x:Mis):x.pv.cells.length=2:=by
 obtain⟨path,code⟩:=x
 rw[U4];simp only[ag,Vp,Vq,VV]
theorem NX:bj Tryz.prog 3=false:=by kernel_rfl
theorem NK:Tryz.prog.cellsOf 3=1:=by kernel_rfl
theorem NW:bj Tryz.prog 9=false:=by kernel_rfl
theorem NJ:Tryz.prog.cellsOf 9=1:=by kernel_rfl
theorem TF:Tryz.prog.bytesOf 9=16:=by kernel_rfl
theorem Rw:bj Tryz.prog 22=false:=by kernel_rfl
theorem Q3:Tryz.prog.cellsOf 22=1:=by kernel_rfl
theorem Rv:bj Tryz.prog 23=false:=by kernel_rfl
theorem Q2:Tryz.prog.cellsOf 23=1:=by kernel_rfl
theorem Ru:bj Tryz.prog 24=false:=by kernel_rfl
theorem Q1:Tryz.prog.cellsOf 24=1:=by kernel_rfl
theorem Rt:bj Tryz.prog 26=true:=by kernel_rfl
theorem KF:Tryz.prog.cellsOf 26=7:=by kernel_rfl
theorem Rb:Tryz.prog.bytesOf 26=104:=by kernel_rfl
theorem KM:bj Tryz.prog 28=false:=by kernel_rfl
theorem KE:Tryz.prog.cellsOf 28=1:=by kernel_rfl
theorem Rs:bj Tryz.prog 29=false:=by kernel_rfl
theorem Q0:Tryz.prog.cellsOf 29=1:=by kernel_rfl
theorem Rr:bj Tryz.prog 31=true:=by kernel_rfl
theorem KD:Tryz.prog.cellsOf 31=6:=by kernel_rfl
theorem KH:Tryz.prog.bytesOf 31=88:=by kernel_rfl
theorem QZ:Tryz.prog.cellsOf 83=7:=by kernel_rfl
theorem Ra:Tryz.prog.bytesOf 83=104:=by kernel_rfl
theorem QY:Tryz.prog.cellsOf 98=11:=by kernel_rfl
theorem Q9:Tryz.prog.bytesOf 98=160:=by kernel_rfl
section
variable {t:Nat}{p:PV}
theorem pi (h:HasT Tryz.prog t p)(hu:Tryz.prog.underlying t=some .string):∃ s:List UInt8,p = .str s/\s.length<=140737488351232:=by
 cases h with
 | str _ s hb hs=>exact⟨s,rfl,hs⟩
 | int _ k n hb=>rw[hu] at hb;cases hb
 | bool _ b hb=>rw[hu] at hb;cases hb
 | list _ e l hb=>rw[hu] at hb;cases hb
 | agg _ fs cs hb=>rw[hu] at hb;cases hb
 | arr _ e n cs hb=>rw[hu] at hb;cases hb
theorem M1 {k:IntKind}(h:HasT Tryz.prog t p)(hu:Tryz.prog.underlying t=some (.int k)):∃ n:Int,p = .int k n/\(Lit.int k n).wf=true:=by
 cases h with
 | int _ k' n hk hw=>rw[hu] at hk;cases hk;exact⟨n,rfl,hw⟩
 | bool _ b hb=>rw[hu] at hb;cases hb
 | str _ s hb=>rw[hu] at hb;cases hb
 | list _ e l hb=>rw[hu] at hb;cases hb
 | agg _ fs cs hb=>rw[hu] at hb;cases hb
 | arr _ e n cs hb=>rw[hu] at hb;cases hb
theorem ed (h:HasT Tryz.prog t p)(hu:Tryz.prog.underlying t=some (.int .i64)):∃ n:Int,p = .int .i64 n/\I64 n:=by
 obtain⟨n,rfl,hw⟩:=M1 h hu
 refine⟨n,rfl,?_⟩
 simp only[Lit.wf,Bool.and_eq_true,decide_eq_true_eq] at hw
 exact hw
theorem IF {e:Nat}(h:HasT Tryz.prog t p)(hu:Tryz.prog.underlying t=some (.slice e)):∃ l:List PV,p = .list l/\l.length<=maxLen/\l.length*Tryz.prog.bytesOf e<=140737488351232/\∀ (i:Nat) (x:PV),l[i]? = some x->HasT Tryz.prog e x:=by
 cases h with
 | list _ e' l hb hl hl2 hx=>rw[hu] at hb;cases hb;exact⟨l,rfl,hl,hl2,hx⟩
 | int _ k n hb=>rw[hu] at hb;cases hb
 | bool _ b hb=>rw[hu] at hb;cases hb
 | str _ s hb=>rw[hu] at hb;cases hb
 | agg _ fs cs hb=>rw[hu] at hb;cases hb
 | arr _ e n cs hb=>rw[hu] at hb;cases hb
end
theorem il {t e e':Nat}(h:Tryz.prog.underlying t=some (.slice e))(h':Tryz.prog.underlying t=some (.slice e')):e=e':=by
 rw[h] at h';cases h';rfl
theorem jB {β:Type}{f:β->PV}{Q:β->Prop}:∀ (l:List PV),(∀ (i:Nat) (x:PV),l[i]? = some x->∃ s,x=f s/\Q s)->∃ ss:List β,l=ss.map f/\ss.length=l.length/\∀ s∈ss,Q s
 | [],_=>⟨[],rfl,rfl,by simp⟩
 | x::r,h=>by
   obtain⟨s,rfl,hs⟩:=h 0 x rfl
   obtain⟨ss,rfl,hl,hss⟩:=jB r (fun i y hy=>h (i+1) y (by simpa using hy))
   refine⟨s::ss,rfl,by simp,fun t ht=>?_⟩
   rcases List.mem_cons.1 ht with rfl | ht
   ·exact hs
   ·exact hss t ht
theorem vS {β:Type}{f:β->PV}{Q:β->Prop}{t e b:Nat}{p:PV}(h:HasT Tryz.prog t p)(hu:Tryz.prog.underlying t=some (.slice e))(hb:Tryz.prog.bytesOf e=b)(hq:∀ x,HasT Tryz.prog e x->∃ s,x=f s/\Q s):∃ ss:List β,p = .list (ss.map f)/\ss.length*b<=140737488351232/\∀ s∈ss,Q s:=by
 obtain⟨l,rfl,_,hl,hx⟩:=IF h hu
 obtain⟨ss,rfl,h1,h2⟩:=jB (f:=f) (Q:=Q) l fun i x hi=>hq x (hx i x hi)
 exact⟨ss,rfl,by rw[h1,<- hb];exact hl,h2⟩
theorem Qa {l:List PV}(h:l.length=6):∃ c0 c1 c2 c3 c4 c5,l=[c0,c1,c2,c3,c4,c5]:=by
 match l,h with
 | [c0,c1,c2,c3,c4,c5],_=>exact⟨c0,c1,c2,c3,c4,c5,rfl⟩
theorem MV {l:List PV}(h:l.length=7):∃ c0 c1 c2 c3 c4 c5 c6,l=[c0,c1,c2,c3,c4,c5,c6]:=by
 match l,h with
 | [c0,c1,c2,c3,c4,c5,c6],_=>exact⟨c0,c1,c2,c3,c4,c5,c6,rfl⟩
theorem Qb {l:List PV}(h:l.length=11):∃ c0 c1 c2 c3 c4 c5 c6 c7 c8 c9 c10,l=[c0,c1,c2,c3,c4,c5,c6,c7,c8,c9,c10]:=by
 match l,h with
 | [c0,c1,c2,c3,c4,c5,c6,c7,c8,c9,c10],_=>exact⟨c0,c1,c2,c3,c4,c5,c6,c7,c8,c9,c10,rfl⟩
theorem kf {t:Nat}{p:PV}(h:HasT Tryz.prog t p):(t=31->∃ x:Val,p=x.pv/\x.ok)/\(t=83->∃ x:Fld,p=x.pv/\x.ok)/\(t=28->∃ l:List Val,p = .list (l.map Val.pv)/\l.length*88<=140737488351232/\∀ x∈l,x.ok)/\(t=29->∃ l:List Fld,p = .list (l.map Fld.pv)/\l.length*104<=140737488351232/\∀ x∈l,x.ok):=by
 induction h with
 | bool t b hb=>refine⟨?_,?_,?_,?_⟩<;>(intro h;subst h;simp[Tryz.underlying31,Tryz.underlying83,Tryz.underlying28,Tryz.underlying29] at hb)
 | int t k n hb _=>refine⟨?_,?_,?_,?_⟩<;>(intro h;subst h;simp[Tryz.underlying31,Tryz.underlying83,Tryz.underlying28,Tryz.underlying29] at hb)
 | str t s hb _=>refine⟨?_,?_,?_,?_⟩<;>(intro h;subst h;simp[Tryz.underlying31,Tryz.underlying83,Tryz.underlying28,Tryz.underlying29] at hb)
 | arr t e n cs hb _ _ _=>refine⟨?_,?_,?_,?_⟩<;>(intro h;subst h;simp[Tryz.underlying31,Tryz.underlying83,Tryz.underlying28,Tryz.underlying29] at hb)
 | list t e l hu hl hl2 hx ih=>
   refine⟨?_,?_,?_,?_⟩
   ·intro h;subst h;simp[Tryz.underlying31] at hu
   ·intro h;subst h;simp[Tryz.underlying83] at hu
   ·intro h;subst h
    obtain rfl:=il hu Tryz.underlying28
    obtain⟨ss,rfl,hlen,hss⟩:=jB (f:=Val.pv) (Q:=Val.ok) l (fun i x hi=>(ih i x hi).1 rfl)
    exact⟨ss,rfl,by rw[hlen,<- KH];exact hl2,hss⟩
   ·intro h;subst h
    obtain rfl:=il hu Tryz.underlying29
    obtain⟨ss,rfl,hlen,hss⟩:=jB (f:=Fld.pv) (Q:=Fld.ok) l (fun i x hi=>(ih i x hi).2.1 rfl)
    exact⟨ss,rfl,by rw[hlen,<- Ra];exact hl2,hss⟩
 | agg t fs cs hu hl hx ih=>
   refine⟨?_,?_,?_,?_⟩
   ·intro h;subst h
    rw[Tryz.underlying31] at hu;cases hu
    rw[KD] at hl
    obtain⟨c0,c1,c2,c3,c4,c5,rfl⟩:=Qa hl
    have h0:=hx 0 _ rfl
    have h1:=hx 1 _ rfl
    have h2:=hx 2 _ rfl
    have h3:=hx 3 _ rfl
    have h4:=(ih 4 _ rfl).2.2.1 rfl
    have h5:=(ih 5 _ rfl).2.2.2 rfl
    simp only[mC,NX,NK,NW,NJ,KM,KE,Rs,Q0,List.drop_zero,List.drop_succ_cons,WF,V8,di,List.headD_cons] at h0 h1 h2 h3 h4 h5
    obtain⟨v0,rfl,ok_v0⟩:=ed h0 Tryz.underlying3
    obtain⟨v1,rfl,ok_v1⟩:=ed h1 Tryz.underlying3
    obtain⟨v2,rfl,ok_v2⟩:=ed h2 Tryz.underlying3
    obtain⟨v3,rfl,ok_v3⟩:=pi h3 Tryz.underlying9
    obtain⟨v4,rfl,ok_v4,oks_v4⟩:=h4
    obtain⟨v5,rfl,ok_v5,oks_v5⟩:=h5
    refine⟨.mk v0 v1 v2 v3 v4 v5,?_,?_⟩
    ·rw[Vf]
    ·rw[Ve];exact⟨ok_v0,ok_v1,ok_v2,ok_v3,ok_v4,oks_v4,ok_v5,oks_v5⟩
   ·intro h;subst h
    rw[Tryz.underlying83] at hu;cases hu
    rw[QZ] at hl
    obtain⟨c0,c1,c2,c3,c4,c5,c6,rfl⟩:=MV hl
    have h0:=hx 0 _ rfl
    have h1:=(ih 1 _ rfl).1 rfl
    simp only[mC,NW,NJ,Rr,KD,List.drop_zero,List.drop_succ_cons,WF,V8,di,List.headD_cons] at h0 h1
    obtain⟨v0,rfl,ok_v0⟩:=pi h0 Tryz.underlying9
    obtain⟨v1,e1,ok_v1⟩:=h1
    refine⟨.mk v0 v1,?_,?_⟩
    ·rw[U3];rw[<- e1];rfl
    ·rw[U2];exact⟨ok_v0,ok_v1⟩
   ·intro h;subst h;simp[Tryz.underlying28] at hu
   ·intro h;subst h;simp[Tryz.underlying29] at hu
theorem wa {p:PV}(h:HasT Tryz.prog 31 p):∃ x:Val,p=x.pv/\x.ok:=(kf h).1 rfl
theorem kg {t:Nat}{p:PV}(h:HasT Tryz.prog t p):(t=26->∃ x:Typ,p=x.pv/\x.ok)/\(t=98->∃ x:TFd,p=x.pv/\x.ok)/\(t=23->∃ l:List Typ,p = .list (l.map Typ.pv)/\l.length*104<=140737488351232/\∀ x∈l,x.ok)/\(t=24->∃ l:List TFd,p = .list (l.map TFd.pv)/\l.length*160<=140737488351232/\∀ x∈l,x.ok):=by
 induction h with
 | bool t b hb=>refine⟨?_,?_,?_,?_⟩<;>(intro h;subst h;simp[Tryz.underlying26,Tryz.underlying98,Tryz.underlying23,Tryz.underlying24] at hb)
 | int t k n hb _=>refine⟨?_,?_,?_,?_⟩<;>(intro h;subst h;simp[Tryz.underlying26,Tryz.underlying98,Tryz.underlying23,Tryz.underlying24] at hb)
 | str t s hb _=>refine⟨?_,?_,?_,?_⟩<;>(intro h;subst h;simp[Tryz.underlying26,Tryz.underlying98,Tryz.underlying23,Tryz.underlying24] at hb)
 | arr t e n cs hb _ _ _=>refine⟨?_,?_,?_,?_⟩<;>(intro h;subst h;simp[Tryz.underlying26,Tryz.underlying98,Tryz.underlying23,Tryz.underlying24] at hb)
 | list t e l hu hl hl2 hx ih=>
   refine⟨?_,?_,?_,?_⟩
   ·intro h;subst h;simp[Tryz.underlying26] at hu
   ·intro h;subst h;simp[Tryz.underlying98] at hu
   ·intro h;subst h
    obtain rfl:=il hu Tryz.underlying23
    obtain⟨ss,rfl,hlen,hss⟩:=jB (f:=Typ.pv) (Q:=Typ.ok) l (fun i x hi=>(ih i x hi).1 rfl)
    exact⟨ss,rfl,by rw[hlen,<- Rb];exact hl2,hss⟩
   ·intro h;subst h
    obtain rfl:=il hu Tryz.underlying24
    obtain⟨ss,rfl,hlen,hss⟩:=jB (f:=TFd.pv) (Q:=TFd.ok) l (fun i x hi=>(ih i x hi).2.1 rfl)
    exact⟨ss,rfl,by rw[hlen,<- Q9];exact hl2,hss⟩
 | agg t fs cs hu hl hx ih=>
   refine⟨?_,?_,?_,?_⟩
   ·intro h;subst h
    rw[Tryz.underlying26] at hu;cases hu
    rw[KF] at hl
    obtain⟨c0,c1,c2,c3,c4,c5,c6,rfl⟩:=MV hl
    have h0:=hx 0 _ rfl
    have h1:=hx 1 _ rfl
    have h2:=hx 2 _ rfl
    have h3:=hx 3 _ rfl
    have h4:=hx 4 _ rfl
    have h5:=(ih 5 _ rfl).2.2.1 rfl
    have h6:=(ih 6 _ rfl).2.2.2 rfl
    simp only[mC,NX,NK,Rw,Q3,Rv,Q2,Ru,Q1,List.drop_zero,List.drop_succ_cons,WF,V8,di,List.headD_cons] at h0 h1 h2 h3 h4 h5 h6
    obtain⟨v0,rfl,ok_v0⟩:=ed h0 Tryz.underlying3
    obtain⟨v1,rfl,ok_v1⟩:=ed h1 Tryz.underlying3
    obtain⟨v2,rfl,ok_v2⟩:=ed h2 Tryz.underlying3
    obtain⟨v3,rfl,ok_v3⟩:=ed h3 Tryz.underlying3
    obtain⟨v4,rfl,ok_v4,oks_v4⟩:=vS (f:=PV.str) (Q:=(fun x:List UInt8=>x.length<=140737488351232)) h4 Tryz.underlying22 TF (fun x hx=>pi hx Tryz.underlying9)
    obtain⟨v5,rfl,ok_v5,oks_v5⟩:=h5
    obtain⟨v6,rfl,ok_v6,oks_v6⟩:=h6
    refine⟨.mk v0 v1 v2 v3 v4 v5 v6,?_,?_⟩
    ·rw[Vd]
    ·rw[Vc];exact⟨ok_v0,ok_v1,ok_v2,ok_v3,ok_v4,oks_v4,ok_v5,oks_v5,ok_v6,oks_v6⟩
   ·intro h;subst h
    rw[Tryz.underlying98] at hu;cases hu
    rw[QY] at hl
    obtain⟨c0,c1,c2,c3,c4,c5,c6,c7,c8,c9,c10,rfl⟩:=Qb hl
    have h0:=hx 0 _ rfl
    have h1:=hx 1 _ rfl
    have h2:=hx 2 _ rfl
    have h3:=(ih 3 _ rfl).1 rfl
    have h4:=hx 4 _ rfl
    simp only[mC,NX,NK,NW,NJ,Rt,KF,KM,KE,List.drop_zero,List.drop_succ_cons,WF,V8,di,List.headD_cons] at h0 h1 h2 h3 h4
    obtain⟨v0,rfl,ok_v0⟩:=ed h0 Tryz.underlying3
    obtain⟨v1,rfl,ok_v1⟩:=pi h1 Tryz.underlying9
    obtain⟨v2,rfl,ok_v2⟩:=ed h2 Tryz.underlying3
    obtain⟨v3,e3,ok_v3⟩:=h3
    obtain⟨v4,rfl,ok_v4,oks_v4⟩:=vS (f:=Val.pv) (Q:=(fun x:Val=>x.ok)) h4 Tryz.underlying28 KH (fun x hx=>wa hx)
    refine⟨.mk v0 v1 v2 v3 v4,?_,?_⟩
    ·rw[U7];rw[<- e3];rfl
    ·rw[U6];exact⟨ok_v0,ok_v1,ok_v2,ok_v3,ok_v4,oks_v4⟩
   ·intro h;subst h;simp[Tryz.underlying23] at hu
   ·intro h;subst h;simp[Tryz.underlying24] at hu
theorem Iv {p:PV}(h:HasT Tryz.prog 26 p):∃ x:Typ,p=x.pv/\x.ok:=(kg h).1 rfl
def nj (k:Int):Bool:=decide (1<=k)&&decide (k<=7)
theorem dQ (k:Int):nj k=true↔1<=k/\k<=7:=by simp[nj]
theorem oG (t:Typ):ae Tryz.prog aq 32 [t.pv] (.bool (nj t.kind)):=by
 obtain⟨k,a,b,c,w,e,f⟩:=t
 change ae Tryz.prog aq 32 [(Typ.mk k a b c w e f).pv] (.bool (nj k))
 unfold nj
 by_cases h1:1<=k
 ·rw[decide_eq_true h1,Wb]
  refine ae.intro Q32.2 (by simp[Q32]) ?_
  simp(disch:=try exact dI) only[Q32,Vd,push_cast,seval]
 ·rw[decide_eq_false h1,Wc]
  refine ae.intro Q32.2 (by simp[Q32]) ?_
  simp(disch:=try exact dI) only[Q32,Vd,push_cast,seval]
theorem GL (k:Int):ae Tryz.prog aq 38 [.int .i64 k] (.bool (nj k)):=by
 unfold nj
 by_cases h1:1<=k
 ·rw[decide_eq_true h1,Wb]
  refine ae.intro Q38.2 (by simp[Q38]) ?_
  simp(disch:=try exact dI) only[Q38,push_cast,seval]
 ·rw[decide_eq_false h1,Wc]
  refine ae.intro Q38.2 (by simp[Q38]) ?_
  simp(disch:=try exact dI) only[Q38,push_cast,seval]
def gR:List UInt8:=[116,114,117,101]
def eF:List UInt8:=[102,97,108,115,101]
def vN (k a b:Int)(c:List UInt8):PV:=.agg [.int .i64 k,.int .i64 a,.int .i64 b,.str c,.nils,.nils]
def zh:List UInt8->Option (List UInt8)
 | []=>some []
 | [_]=>some []
 | a::b::r=>if nib a<0\/nib b<0 then none else (zh r).map (AS a b :: ·)
theorem iM:∀ {s:List UInt8},s.length % 2=0->sl s=zh s
 | [],_=>rfl
 | [_],h=>by simp at h
 | a::b::r,h=>by
   rw[sl,zh,iM (s:=r) (by simp only[Vq] at h;omega)]

/- A part of the proof for LiteralFieldsCardSaid. -/
import Derived.Test.YtamoeblcphjbaaaGreatDoorFlLC1
import Derived.Test.YtamoeblcphjbaaaGreatDoorFlCore6
import Derived.KernelRfl
import Derived.Test.YtamoeblcphjbaaaGreatDoorProg
import Derived.Test.YtamoeblcphjbaaaGreatDoorFlF
set_option maxRecDepth 100000
set_option linter.unusedVariables false
set_option linter.unusedSimpArgs false
namespace Go.Proofs.YtamoeblcphjbaaaGreatDoor
open Go Go.Ab
attribute [local irreducible] vc
theorem dI {P:Prop}(h:P:=by first | exact KQ | (unfold Chk;decide +kernel) | omega | exact Og (by with_unfolding_all rfl) | (simp[b9]<;>omega) | fail):P:=h
theorem qsZ{P:Prop}(h:P:=by simp(disch:=try exact dI) only[push_cast,seval]):P:=h
end Go.Proofs.YtamoeblcphjbaaaGreatDoor
namespace Go.Proofs.YtamoeblcphjbaaaGreatDoor
open Go Go.Ab
def I64 (n:Int):Prop:=-9223372036854775808≤n∧n≤9223372036854775807
mutual
inductive Val where
 | mk (kind:Int) (num:Int) (scale:Int) (text:List UInt8) (lst:List Val) (fields:List Fld)
inductive Fld where
 | mk (name:List UInt8) (value:Val)
end
def Val.kind:Val→Int
 | .mk kind _ _ _ _ _=>kind
def Val.num:Val→Int
 | .mk _ num _ _ _ _=>num
def Val.scale:Val→Int
 | .mk _ _ scale _ _ _=>scale
def Val.text:Val→List UInt8
 | .mk _ _ _ text _ _=>text
def Val.lst:Val→List Val
 | .mk _ _ _ _ lst _=>lst
def Val.fields:Val→List Fld
 | .mk _ _ _ _ _ fields=>fields
def Fld.name:Fld→List UInt8
 | .mk name _=>name
def Fld.value:Fld→Val
 | .mk _ value=>value
mutual
def Val.pv:Val→PV
 | .mk kind num scale text lst fields=>.agg ([.int .i64 kind,.int .i64 num,.int .i64 scale,.str text,.list (lst.map Val.pv),.list (fields.map Fld.pv)])
def Fld.pv:Fld→PV
 | .mk name value=>.agg ([.str name]++value.pv.cells)
end
theorem Val.pv_mk (kind:Int)(num:Int)(scale:Int)(text:List UInt8)(lst:List Val)(fields:List Fld):(Val.mk kind num scale text lst fields).pv = .agg ([.int .i64 kind,.int .i64 num,.int .i64 scale,.str text,.list (lst.map Val.pv),.list (fields.map Fld.pv)]):=by rw[Val.pv]
theorem Fld.pv_mk (name:List UInt8)(value:Val):(Fld.mk name value).pv = .agg ([.str name]++value.pv.cells):=by rw[Fld.pv]
theorem Val.cells_len (x:Val):x.pv.cells.length=6:=by
 obtain⟨kind,num,scale,text,lst,fields⟩:=x
 rw[Val.pv_mk];simp only[b9,List.length_append,List.length_cons,List.length_nil]
theorem Val.isAgg (x:Val):x.pv.isAgg=true:=by
 obtain⟨kind,num,scale,text,lst,fields⟩:=x
 rw[Val.pv_mk];rfl
theorem Fld.cells_len (x:Fld):x.pv.cells.length=7:=by
 obtain⟨name,value⟩:=x
 rw[Fld.pv_mk];simp only[b9,List.length_append,List.length_cons,List.length_nil,Val.cells_len]
theorem Fld.isAgg (x:Fld):x.pv.isAgg=true:=by
 obtain⟨name,value⟩:=x
 rw[Fld.pv_mk];rfl
theorem Val.ones (x:Val):(x.pv.cells.all PV.one)=true:=by
 obtain⟨kind,num,scale,text,lst,fields⟩:=x
 rw[Val.pv_mk];simp only[b9,List.all_append,List.all_cons,List.all_nil,rj,rk,mZ,mY,Bool.and_true,Bool.and_self]
theorem Val.row (x:Val):∃ cs,x.pv = .agg cs∧cs.length=6∧∀ p∈cs,p.one=true:=by
 have h1:=x.cells_len;have h2:=x.ones;have h3:=x.isAgg
 cases h:x.pv with
 | agg cs=>rw[h] at h1 h2;exact⟨cs,rfl,h1,fun p hp=>List.all_eq_true.1 h2 p hp⟩
 | _=>rw[h] at h3;cases h3
theorem Fld.ones (x:Fld):(x.pv.cells.all PV.one)=true:=by
 obtain⟨name,value⟩:=x
 rw[Fld.pv_mk];simp only[b9,List.all_append,List.all_cons,List.all_nil,rj,rk,mZ,mY,Bool.and_true,Bool.and_self,Val.ones]
theorem Fld.row (x:Fld):∃ cs,x.pv = .agg cs∧cs.length=7∧∀ p∈cs,p.one=true:=by
 have h1:=x.cells_len;have h2:=x.ones;have h3:=x.isAgg
 cases h:x.pv with
 | agg cs=>rw[h] at h1 h2;exact⟨cs,rfl,h1,fun p hp=>List.all_eq_true.1 h2 p hp⟩
 | _=>rw[h] at h3;cases h3
mutual
def Val.ok:Val→Prop
 | .mk kind num scale text lst fields=>I64 kind∧I64 num∧I64 scale∧text.length≤140737488351232∧lst.length*88≤140737488351232∧(∀ x∈lst,x.ok)∧fields.length*104≤140737488351232∧(∀ x∈fields,x.ok)
def Fld.ok:Fld→Prop
 | .mk name value=>name.length≤140737488351232∧value.ok
end
theorem Val.ok_mk (kind:Int)(num:Int)(scale:Int)(text:List UInt8)(lst:List Val)(fields:List Fld):(Val.mk kind num scale text lst fields).ok=(I64 kind∧I64 num∧I64 scale∧text.length≤140737488351232∧lst.length*88≤140737488351232∧(∀ x∈lst,x.ok)∧fields.length*104≤140737488351232∧(∀ x∈fields,x.ok)):=by rw[Val.ok]
theorem Fld.ok_mk (name:List UInt8)(value:Val):(Fld.mk name value).ok=(name.length≤140737488351232∧value.ok):=by rw[Fld.ok]
mutual
inductive Typ where
 | mk (kind:Int) (min:Int) (max:Int) (scale:Int) (words:List (List UInt8)) (elem:List Typ) (fields:List TFd)
inductive TFd where
 | mk (number:Int) (name:List UInt8) (need:Int) (typ:Typ) (dflt:List Val)
end
mutual
def Typ.pv:Typ→PV
 | .mk kind min max scale words elem fields=>.agg ([.int .i64 kind,.int .i64 min,.int .i64 max,.int .i64 scale,.list (words.map PV.str),.list (elem.map Typ.pv),.list (fields.map TFd.pv)])
def TFd.pv:TFd→PV
 | .mk number name need typ dflt=>.agg ([.int .i64 number,.str name,.int .i64 need]++typ.pv.cells++[.list (dflt.map Val.pv)])
end
mutual
def Typ.ok:Typ→Prop
 | .mk kind min max scale words elem fields=>I64 kind∧I64 min∧I64 max∧I64 scale∧words.length*16≤140737488351232∧(∀ x∈words,x.length≤140737488351232)∧elem.length*104≤140737488351232∧(∀ x∈elem,x.ok)∧fields.length*160≤140737488351232∧(∀ x∈fields,x.ok)
def TFd.ok:TFd→Prop
 | .mk number name need typ dflt=>I64 number∧name.length≤140737488351232∧I64 need∧typ.ok∧dflt.length*88≤140737488351232∧(∀ x∈dflt,x.ok)
end
theorem RD:bK Tryz.prog 3=false:=by kernel_rfl
theorem Rt:Tryz.prog.cellsOf 3=1:=by kernel_rfl
theorem OE:bK Tryz.prog 9=false:=by kernel_rfl
theorem Oh:Tryz.prog.cellsOf 9=1:=by kernel_rfl
theorem OH:bK Tryz.prog 22=false:=by kernel_rfl
theorem Ok:Tryz.prog.cellsOf 22=1:=by kernel_rfl
theorem OG:bK Tryz.prog 23=false:=by kernel_rfl
theorem Oj:Tryz.prog.cellsOf 23=1:=by kernel_rfl
theorem OF:bK Tryz.prog 25=true:=by kernel_rfl
theorem H7:Tryz.prog.cellsOf 25=6:=by kernel_rfl
theorem Ou:Tryz.prog.bytesOf 25=88:=by kernel_rfl
theorem Oi:Tryz.prog.cellsOf 39=7:=by kernel_rfl
theorem Ot:Tryz.prog.bytesOf 39=104:=by kernel_rfl
section
variable {t:Nat}{p:PV}
theorem tZ (h:HasT Tryz.prog t p)(hu:Tryz.prog.underlying t=some .string):∃ s:List UInt8,p = .str s∧s.length≤140737488351232:=by
 cases h with
 | str _ s hb hs=>exact⟨s,rfl,hs⟩
 | int _ k n hb=>rw[hu] at hb;cases hb
 | bool _ b hb=>rw[hu] at hb;cases hb
 | list _ e l hb=>rw[hu] at hb;cases hb
 | agg _ fs cs hb=>rw[hu] at hb;cases hb
 | arr _ e n cs hb=>rw[hu] at hb;cases hb
theorem t8 {k:IntKind}(h:HasT Tryz.prog t p)(hu:Tryz.prog.underlying t=some (.int k)):∃ n:Int,p = .int k n∧(Lit.int k n).wf=true:=by
 cases h with
 | int _ k' n hk hw=>rw[hu] at hk;cases hk;exact⟨n,rfl,hw⟩
 | bool _ b hb=>rw[hu] at hb;cases hb
 | str _ s hb=>rw[hu] at hb;cases hb
 | list _ e l hb=>rw[hu] at hb;cases hb
 | agg _ fs cs hb=>rw[hu] at hb;cases hb
 | arr _ e n cs hb=>rw[hu] at hb;cases hb
theorem np (h:HasT Tryz.prog t p)(hu:Tryz.prog.underlying t=some (.int .i64)):∃ n:Int,p = .int .i64 n∧I64 n:=by
 obtain⟨n,rfl,hw⟩:=t8 h hu
 refine⟨n,rfl,?_⟩
 simp only[Lit.wf,Bool.and_eq_true,decide_eq_true_eq] at hw
 exact hw
theorem BC {e:Nat}(h:HasT Tryz.prog t p)(hu:Tryz.prog.underlying t=some (.slice e)):∃ l:List PV,p = .list l∧l.length≤maxLen∧l.length*Tryz.prog.bytesOf e≤140737488351232∧∀ (i:Nat) (x:PV),l[i]? = some x→HasT Tryz.prog e x:=by
 cases h with
 | list _ e' l hb hl hl2 hx=>rw[hu] at hb;cases hb;exact⟨l,rfl,hl,hl2,hx⟩
 | int _ k n hb=>rw[hu] at hb;cases hb
 | bool _ b hb=>rw[hu] at hb;cases hb
 | str _ s hb=>rw[hu] at hb;cases hb
 | agg _ fs cs hb=>rw[hu] at hb;cases hb
 | arr _ e n cs hb=>rw[hu] at hb;cases hb
end
theorem ob {t e e':Nat}(h:Tryz.prog.underlying t=some (.slice e))(h':Tryz.prog.underlying t=some (.slice e')):e=e':=by
 rw[h] at h';cases h';rfl
theorem m8 {β:Type}{f:β→PV}{Q:β→Prop}:∀ (l:List PV),(∀ (i:Nat) (x:PV),l[i]? = some x→∃ s,x=f s∧Q s)→∃ ss:List β,l=ss.map f∧ss.length=l.length∧∀ s∈ss,Q s
 | [],_=>⟨[],rfl,rfl,by simp⟩
 | x::r,h=>by
   obtain⟨s,rfl,hs⟩:=h 0 x rfl
   obtain⟨ss,rfl,hl,hss⟩:=m8 r (fun i y hy=>h (i+1) y (by simpa using hy))
   refine⟨s::ss,rfl,by simp,fun t ht=>?_⟩
   rcases List.mem_cons.1 ht with rfl | ht
   ·exact hs
   ·exact hss t ht
theorem F5 {β:Type}{f:β→PV}{Q:β→Prop}{t e b:Nat}{p:PV}(h:HasT Tryz.prog t p)(hu:Tryz.prog.underlying t=some (.slice e))(hb:Tryz.prog.bytesOf e=b)(hq:∀ x,HasT Tryz.prog e x→∃ s,x=f s∧Q s):∃ ss:List β,p = .list (ss.map f)∧ss.length*b≤140737488351232∧∀ s∈ss,Q s:=by
 obtain⟨l,rfl,_,hl,hx⟩:=BC h hu
 obtain⟨ss,rfl,h1,h2⟩:=m8 (f:=f) (Q:=Q) l fun i x hi=>hq x (hx i x hi)
 exact⟨ss,rfl,by rw[h1,← hb];exact hl,h2⟩
theorem Q2 {l:List PV}(h:l.length=6):∃ c0 c1 c2 c3 c4 c5,l=[c0,c1,c2,c3,c4,c5]:=by
 match l,h with
 | [c0,c1,c2,c3,c4,c5],_=>exact⟨c0,c1,c2,c3,c4,c5,rfl⟩
theorem Q1 {l:List PV}(h:l.length=7):∃ c0 c1 c2 c3 c4 c5 c6,l=[c0,c1,c2,c3,c4,c5,c6]:=by
 match l,h with
 | [c0,c1,c2,c3,c4,c5,c6],_=>exact⟨c0,c1,c2,c3,c4,c5,c6,rfl⟩
theorem jd {t:Nat}{p:PV}(h:HasT Tryz.prog t p):(t=25→∃ x:Val,p=x.pv∧x.ok)∧(t=39→∃ x:Fld,p=x.pv∧x.ok)∧(t=22→∃ l:List Val,p = .list (l.map Val.pv)∧l.length*88≤140737488351232∧∀ x∈l,x.ok)∧(t=23→∃ l:List Fld,p = .list (l.map Fld.pv)∧l.length*104≤140737488351232∧∀ x∈l,x.ok):=by
 induction h with
 | bool t b hb=>refine⟨?_,?_,?_,?_⟩<;>(intro h;subst h;simp[Tryz.underlying25,Tryz.underlying39,Tryz.underlying22,Tryz.underlying23] at hb)
 | int t k n hb _=>refine⟨?_,?_,?_,?_⟩<;>(intro h;subst h;simp[Tryz.underlying25,Tryz.underlying39,Tryz.underlying22,Tryz.underlying23] at hb)
 | str t s hb _=>refine⟨?_,?_,?_,?_⟩<;>(intro h;subst h;simp[Tryz.underlying25,Tryz.underlying39,Tryz.underlying22,Tryz.underlying23] at hb)
 | arr t e n cs hb _ _ _=>refine⟨?_,?_,?_,?_⟩<;>(intro h;subst h;simp[Tryz.underlying25,Tryz.underlying39,Tryz.underlying22,Tryz.underlying23] at hb)
 | list t e l hu hl hl2 hx ih=>
   refine⟨?_,?_,?_,?_⟩
   ·intro h;subst h;simp[Tryz.underlying25] at hu
   ·intro h;subst h;simp[Tryz.underlying39] at hu
   ·intro h;subst h
    obtain rfl:=ob hu Tryz.underlying22
    obtain⟨ss,rfl,hlen,hss⟩:=m8 (f:=Val.pv) (Q:=Val.ok) l (fun i x hi=>(ih i x hi).1 rfl)
    exact⟨ss,rfl,by rw[hlen,← Ou];exact hl2,hss⟩
   ·intro h;subst h
    obtain rfl:=ob hu Tryz.underlying23
    obtain⟨ss,rfl,hlen,hss⟩:=m8 (f:=Fld.pv) (Q:=Fld.ok) l (fun i x hi=>(ih i x hi).2.1 rfl)
    exact⟨ss,rfl,by rw[hlen,← Ot];exact hl2,hss⟩
 | agg t fs cs hu hl hx ih=>
   refine⟨?_,?_,?_,?_⟩
   ·intro h;subst h
    rw[Tryz.underlying25] at hu;cases hu
    rw[H7] at hl
    obtain⟨c0,c1,c2,c3,c4,c5,rfl⟩:=Q2 hl
    have h0:=hx 0 _ rfl
    have h1:=hx 1 _ rfl
    have h2:=hx 2 _ rfl
    have h3:=hx 3 _ rfl
    have h4:=(ih 4 _ rfl).2.2.1 rfl
    have h5:=(ih 5 _ rfl).2.2.2 rfl
    simp only[rQ,RD,Rt,OE,Oh,OH,Ok,OG,Oj,List.drop_zero,List.drop_succ_cons,List.take_succ_cons,List.take_zero,dG,List.headD_cons] at h0 h1 h2 h3 h4 h5
    obtain⟨v0,rfl,ok_v0⟩:=np h0 Tryz.underlying3
    obtain⟨v1,rfl,ok_v1⟩:=np h1 Tryz.underlying3
    obtain⟨v2,rfl,ok_v2⟩:=np h2 Tryz.underlying3
    obtain⟨v3,rfl,ok_v3⟩:=tZ h3 Tryz.underlying9
    obtain⟨v4,rfl,ok_v4,oks_v4⟩:=h4
    obtain⟨v5,rfl,ok_v5,oks_v5⟩:=h5
    refine⟨.mk v0 v1 v2 v3 v4 v5,?_,?_⟩
    ·rw[Val.pv_mk]
    ·rw[Val.ok_mk];exact⟨ok_v0,ok_v1,ok_v2,ok_v3,ok_v4,oks_v4,ok_v5,oks_v5⟩
   ·intro h;subst h
    rw[Tryz.underlying39] at hu;cases hu
    rw[Oi] at hl
    obtain⟨c0,c1,c2,c3,c4,c5,c6,rfl⟩:=Q1 hl
    have h0:=hx 0 _ rfl
    have h1:=(ih 1 _ rfl).1 rfl
    simp only[rQ,OE,Oh,OF,H7,List.drop_zero,List.drop_succ_cons,List.take_succ_cons,List.take_zero,dG,List.headD_cons] at h0 h1
    obtain⟨v0,rfl,ok_v0⟩:=tZ h0 Tryz.underlying9
    obtain⟨v1,e1,ok_v1⟩:=h1
    refine⟨.mk v0 v1,?_,?_⟩
    ·rw[Fld.pv_mk];rw[← e1];rfl
    ·rw[Fld.ok_mk];exact⟨ok_v0,ok_v1⟩
   ·intro h;subst h;simp[Tryz.underlying22] at hu
   ·intro h;subst h;simp[Tryz.underlying23] at hu
theorem Gg {p:PV}(h:HasT Tryz.prog 25 p):∃ x:Val,p=x.pv∧x.ok:=(jd h).1 rfl
end Go.Proofs.YtamoeblcphjbaaaGreatDoor
-- many steps
namespace Go.Proofs.YtamoeblcphjbaaaGreatDoor
open Go Go.Ab
attribute [local irreducible] vc
theorem NT (n lo hi:Int):aq Tryz.prog aF 154 [.int .i64 n,.int .i64 lo,.int .i64 hi] (.bool (decide (lo≤n)&&decide (n≤hi))):=by
 refine aq.intro LO (by simp[PP]) ?_
 by_cases h1:lo≤n
 ·by_cases h2:n≤hi
  ·rw[show (decide (lo≤n)&&decide (n≤hi))=true by simp[h1,h2]]
   simp(disch:=try exact dI) only[PP,push_cast,seval]
  ·rw[show (decide (lo≤n)&&decide (n≤hi))=false by simp[h2]]
   simp(disch:=try exact dI) only[PP,push_cast,seval]
 ·rw[show (decide (lo≤n)&&decide (n≤hi))=false by simp[h1]]
  simp(disch:=try exact dI) only[PP,push_cast,seval]
theorem dN {n lo hi:Int}(h:lo≤n∧n≤hi):aq Tryz.prog aF 154 [.int .i64 n,.int .i64 lo,.int .i64 hi] (.bool true):=by
 have:=NT n lo hi
 rwa [show (decide (lo≤n)&&decide (n≤hi))=true by simp[h]] at this
theorem nc {n lo hi:Int}(h:¬ (lo≤n∧n≤hi)):aq Tryz.prog aF 154 [.int .i64 n,.int .i64 lo,.int .i64 hi] (.bool false):=by
 have:=NT n lo hi
 rwa [show (decide (lo≤n)&&decide (n≤hi))=false by rw[← Bool.decide_and];exact decide_eq_false h] at this
theorem Ka {y:Int}(h1:1≤y)(h2:y≤9999):aq Tryz.prog aF 205 [.int .i64 y] (.bool (iy y)):=by
 have hi:=dN (n:=y) (lo:=1) (hi:=9999) ⟨h1,h2⟩
 have e4:=iP (a:=y) (b:=4) (by omega)
 have e100:=iP (a:=y) (b:=100) (by omega)
 have e400:=iP (a:=y) (b:=400) (by omega)
 refine aq.intro Lm (by simp[Mr]) ?_
 unfold iy
 by_cases a:y % 4=0
 ·by_cases b:y % 100=0
  ·by_cases c:y % 400=0
   ·simp only[a,b,c,decide_true,Bool.not_true,Bool.or_true,Bool.and_true]
    simp(disch:=try exact dI) only[Mr,e4,e100,e400,push_cast,seval]
    refine ab.pure hi rfl ?_
    simp(disch:=try exact dI) only[e4,e100,e400,a,b,c,push_cast,seval]
   ·simp only[a,b,c,decide_true,decide_false,Bool.not_true,Bool.or_false,Bool.and_false]
    simp(disch:=try exact dI) only[Mr,e4,e100,e400,push_cast,seval]
    refine ab.pure hi rfl ?_
    simp(disch:=try exact dI) only[e4,e100,e400,a,b,c,push_cast,seval]
  ·simp only[a,b,decide_true,decide_false,Bool.not_false,Bool.true_or,Bool.and_true]
   simp(disch:=try exact dI) only[Mr,e4,e100,e400,push_cast,seval]
   refine ab.pure hi rfl ?_
   simp(disch:=try exact dI) only[e4,e100,e400,a,b,push_cast,seval]
 ·simp only[a,decide_false,Bool.false_and]
  simp(disch:=try exact dI) only[Mr,e4,e100,e400,push_cast,seval]
  refine ab.pure hi rfl ?_
  simp(disch:=try exact dI) only[e4,e100,e400,a,push_cast,seval]
theorem H9 {y:Int}(h1:1≤y)(h2:y≤100000):aq Tryz.prog aF 155 [.int .i64 y] (.int .i64 (ek y)):=by
 have e4:=gl (a:=y - 1) (b:=4) (by omega)
 have e100:=gl (a:=y - 1) (b:=100) (by omega)
 have e400:=gl (a:=y - 1) (b:=400) (by omega)
 refine aq.intro LN (by simp[Se]) ?_
 simp(disch:=try exact dI) only[Se,ek,e4,e100,e400,push_cast,seval]
end Go.Proofs.YtamoeblcphjbaaaGreatDoor

/- A part of the proof. -/
import Derived.Test.YtbojpfpliibfbaaGreatDoorDeRWU
import Derived.Test.YtbojpfpliibfbaaGreatDoorDeR18
set_option maxHeartbeats 16000000
set_option maxRecDepth 100000
set_option linter.unusedVariables false
set_option linter.unusedSimpArgs false
namespace Go.Proofs.YtbojpfpliibfbaaGreatDoor
open Go Go.Ab
attribute [local irreducible] vc
def upJ (f:List Fld)(j:Nat):Bool:=bf (((f[j]?).map Fld.name).getD []) (((f[j+1]?).map Fld.name).getD [])
def upB (f:List Fld):Bool:=iQ (upJ f) (f.length - 1)
def aD:Val->Bool
 | .mk k i s t l f=>
   if k=1 then (decide (i=0)||decide (i=1))&&(decide (s=0)&&(decide (t=[])&&(decide (l.length=0)&&decide (f.length=0))))
   else if k=2\/k=6\/k=7 then decide (s=0)&&(decide (t=[])&&(decide (l.length=0)&&decide (f.length=0)))
   else if k=3 then decide (t=[])&&(decide (l.length=0)&&decide (f.length=0))
   else if k=4 then Lib.validD t&&(decide (i=0)&&(decide (s=0)&&(decide (l.length=0)&&decide (f.length=0))))
   else if k=5 then decide (i=0)&&(decide (s=0)&&(decide (l.length=0)&&decide (f.length=0)))
   else if k=8 then decide (i=0)&&(decide (s=0)&&(decide (t=[])&&decide (f.length=0)))
   else if k=9 then upB f&&(decide (i=0)&&(decide (s=0)&&(decide (t=[])&&decide (l.length=0))))
   else if k=10 then decide (l.length=1)&&(decide (i=0)&&(decide (s=0)&&decide (f.length=0)))
   else decide (i=0)&&(decide (s=0)&&(decide (t=[])&&(decide (l.length=0)&&decide (f.length=0))))
theorem sC (s:List UInt8):ak Tryz.prog ap 165 [.str s] (.bool (Lib.validD s)):=by
 refine ak.intro R5.2 (by simp[R5]) ?_
 simp(disch:=try exact dI) only[R5,push_cast,seval]
 refine ab.pure (cw s) rfl ?_
 exact qsZ
theorem GD (v:Val)(hm:v.fields.length<=9000000000000)(hm2:v.lst.length<=9000000000000)(ht0:v.text.length<=140737488351232):ak Tryz.prog ap 135 [v.pv] (.bool (aD v)):=by
 obtain⟨k,i,s,t,l,f⟩:=v
 simp only[Val.fields,Val.lst,Val.text] at hm hm2 ht0
 obtain⟨R,hR⟩:∃ R,R=aD (.mk k i s t l f):=⟨_,rfl⟩
 rw[<- hR]
 refine ak.intro Px.2 (by simp[Px]) ?_
 by_cases hk9:k=9
 ·subst hk9
  simp(disch:=try exact dI) only[Px,Val.pv_mk,push_cast,seval]
  refine am ([]) (fun m:Nat=>[(4,.pv (.int .i64 ((m:Int)+1)))]) (fun m=>[]) (fun m=>m<=f.length - 1/\iQ (upJ f) m=true) (fun m=>f.length - 1 - m) (0) ?_;intro e0 σ0 n0 h0;simp(disch:=try exact dI) only[push_cast,seval] at h0;obtain⟨rfl,rfl,rfl⟩:=h0;refine⟨?_,?_,?_⟩
  ·simp(disch:=try exact dI) only[Int.zero_add,push_cast,seval]
  ·exact⟨by omega,by simp[iQ]⟩
  ·rintro m ⟨hm,hpre⟩
   by_cases hlt:m<f.length - 1
   ·have hltI:(m:Int)+1<f.length:=by omega
    have hsub:(m:Int)+1 - 1=m:=by omega
    obtain⟨x,hx⟩:∃ x,f[m]? = some x:=⟨_,List.getElem?_eq_getElem (by omega)⟩
    obtain⟨y,hy⟩:∃ y,f[m+1]? = some y:=⟨_,List.getElem?_eq_getElem (by omega)⟩
    have hu:upJ f m=bf x.name y.name:=by simp[upJ,hx,hy]
    obtain⟨xn,⟨x1,x2,x3,x4,x5,x6⟩⟩:=x
    obtain⟨yn,⟨y1,y2,y3,y4,y5,y6⟩⟩:=y
    simp only[Fld.name] at hu
    cases hb:bf xn yn with
    | false=>
      have hU:upB f=false:=by
       cases hU:upB f with
       | false=>rfl
       | true=>
         have hh:=ic.1 hU m hlt
         rw[hu,hb] at hh;cases hh
      obtain rfl:R=false:=by rw[hR];simp[aD,hU]
      simp(disch:=try exact dI) only[hx,hy,hsub,Fld.pv_mk,Val.pv_mk,hb,push_cast,seval]
    | true=>
      simp(disch:=try exact dI) only[hx,hy,hsub,Fld.pv_mk,Val.pv_mk,hb,push_cast,seval]
      exact⟨m+1,aI qsZ,⟨by omega,by rw[iQ,hpre,hu,hb];rfl⟩,by omega⟩
   ·have hltI:¬ (m:Int)+1<f.length:=by omega
    obtain rfl:m=f.length - 1:=by omega
    have hU:upB f=true:=hpre
    by_cases hi:i=0<;>by_cases hs:s=0<;>by_cases ht:t=[]<;>by_cases hl:l.length=0
    all_goals
     simp[aD, *] at hR
     subst hR
     simp(disch:=try exact dI) only[*,push_cast,seval]
 by_cases hk4:k=4
 ·subst hk4
  have hv:=sC t
  generalize hV:Lib.validD t=V at hv
  cases V<;>by_cases hi:i=0<;>by_cases hs:s=0<;>by_cases hl:l.length=0<;>by_cases hf:f.length=0
  all_goals
   simp[aD, *] at hR
   subst hR
   simp(disch:=try exact dI) only[Px,Val.pv_mk, *,push_cast,seval]
   refine ab.pure hv rfl ?_
   simp(disch:=try exact dI) only[*,push_cast,seval]
 have hc:k=1\/k=2\/k=6\/k=7\/k=3\/k=5\/k=8\/k=10\/(¬ k=1/\¬ k=2/\¬ k=6/\¬ k=7/\¬ k=3/\¬ k=5/\¬ k=8/\¬ k=10):=by omega
 rcases hc with rfl | rfl | rfl | rfl | rfl | rfl | rfl | rfl | hc
 case' inl=>by_cases hi:i=0<;>by_cases hj:i=1<;>(try omega)<;>by_cases hs:s=0<;>by_cases ht:t=[]<;>by_cases hl:l.length=0<;>by_cases hf:f.length=0
 iterate 3 (case' inl=>by_cases hs:s=0<;>by_cases ht:t=[]<;>by_cases hl:l.length=0<;>by_cases hf:f.length=0)
 case' inl=>by_cases ht:t=[]<;>by_cases hl:l.length=0<;>by_cases hf:f.length=0
 case' inl=>by_cases hi:i=0<;>by_cases hs:s=0<;>by_cases hl:l.length=0<;>by_cases hf:f.length=0
 case' inl=>by_cases hi:i=0<;>by_cases hs:s=0<;>by_cases ht:t=[]<;>by_cases hf:f.length=0
 case' inl=>by_cases hn:l.length=1<;>by_cases hi:i=0<;>by_cases hs:s=0<;>by_cases hf:f.length=0
 case' inr=>by_cases hi:i=0<;>by_cases hs:s=0<;>by_cases ht:t=[]<;>by_cases hl:l.length=0<;>by_cases hf:f.length=0
 all_goals
  simp[aD, *] at hR
  subst hR
  simp(disch:=try exact dI) only[Px,Val.pv_mk, *,push_cast,seval]
theorem GE (v:Val)(hm:v.fields.length<=9000000000000)(hm2:v.lst.length<=9000000000000)(ht0:v.text.length<=140737488351232):ak Tryz.prog ap 61 [v.pv] (.bool (aD v)):=by
 obtain⟨k,i,s,t,l,f⟩:=v
 simp only[Val.fields,Val.lst,Val.text] at hm hm2 ht0
 obtain⟨R,hR⟩:∃ R,R=aD (.mk k i s t l f):=⟨_,rfl⟩
 rw[<- hR]
 refine ak.intro Q61.2 (by simp[Q61]) ?_
 by_cases hk9:k=9
 ·subst hk9
  by_cases hi:i=0<;>by_cases hs:s=0<;>by_cases ht:t=[]<;>by_cases hl:l.length=0
  case' pos=>
   simp(disch:=try exact dI) only[Q61,Val.pv_mk,hi,hs,ht,push_cast,seval]
   refine am ([]) (fun m:Nat=>[(7,.pv (.int .i64 ((m:Int)+1)))]) (fun m=>[]) (fun m=>m<=f.length - 1/\iQ (upJ f) m=true) (fun m=>f.length - 1 - m) (0) ?_;intro e0 σ0 n0 h0;simp(disch:=try exact dI) only[push_cast,seval] at h0;obtain⟨rfl,rfl,rfl⟩:=h0;refine⟨?_,?_,?_⟩
   ·simp(disch:=try exact dI) only[Int.zero_add,push_cast,seval]
   ·exact⟨by omega,by simp[iQ]⟩
   rintro m ⟨hm,hpre⟩
   by_cases hlt:m<f.length - 1
   ·have hltI:(m:Int)+1<f.length:=by omega
    have hsub:(m:Int)+1 - 1=m:=by omega
    obtain⟨x,hx⟩:∃ x,f[m]? = some x:=⟨_,List.getElem?_eq_getElem (by omega)⟩
    obtain⟨y,hy⟩:∃ y,f[m+1]? = some y:=⟨_,List.getElem?_eq_getElem (by omega)⟩
    have hu:upJ f m=bf x.name y.name:=by simp[upJ,hx,hy]
    obtain⟨xn,⟨x1,x2,x3,x4,x5,x6⟩⟩:=x
    obtain⟨yn,⟨y1,y2,y3,y4,y5,y6⟩⟩:=y
    simp only[Fld.name] at hu
    cases hb:bf xn yn with
    | false=>
      have hU:upB f=false:=by
       cases hU:upB f with
       | false=>rfl
       | true=>
         have hh:=ic.1 hU m hlt
         rw[hu,hb] at hh;cases hh
      obtain rfl:R=false:=by rw[hR];simp[aD,hU]
      simp(disch:=try exact dI) only[hx,hy,hsub,Fld.pv_mk,Val.pv_mk,hb,push_cast,seval]
    | true=>
      simp(disch:=try exact dI) only[hx,hy,hsub,Fld.pv_mk,Val.pv_mk,hb,push_cast,seval]
      exact⟨m+1,aI qsZ,⟨by omega,by rw[iQ,hpre,hu,hb];rfl⟩,by omega⟩
   ·have hltI:¬ (m:Int)+1<f.length:=by omega
    obtain rfl:m=f.length - 1:=by omega
    have hU:upB f=true:=hpre
    simp[aD, *] at hR
    subst hR
    exact qsZ
  all_goals
   simp[aD, *] at hR
   subst hR
   simp(disch:=try exact dI) only[Q61,Val.pv_mk, *,push_cast,seval]
 by_cases hk4:k=4
 ·subst hk4
  obtain⟨hv1,hv2⟩:=fb t t.length 0 (by omega) (by omega)
  rw[List.drop_zero] at hv1 hv2
  have h90:=Cc t (by omega)
  by_cases hi:i=0<;>by_cases hs:s=0<;>by_cases hl:l.length=0<;>by_cases hf:f.length=0
  case' pos=>
   cases hV:Lib.validD t with
   | false=>
     have hz:(0:Int)<=dX t t.length 0:=hv2 hV
     simp[aD,hV,hi,hs,hl,hf] at hR
     subst hR
     simp(disch:=try exact dI) only[Q61,Val.pv_mk,hi,hs,push_cast,seval]
     refine ab.pure h90 rfl ?_
     simp(disch:=try exact dI) only[hi,hs,push_cast,seval]
   | true=>
     have hz:¬ (0:Int)<=dX t t.length 0:=by rw[hv1 hV];omega
     simp[aD,hV,hi,hs,hl,hf] at hR
     subst hR
     simp(disch:=try exact dI) only[Q61,Val.pv_mk,hi,hs,push_cast,seval]
     refine ab.pure h90 rfl ?_
     simp(disch:=try exact dI) only[hi,hs,push_cast,seval]
     refine am ([]) (fun m:Nat=>[]) (fun m=>[]) (fun m=>True) (fun m=>0) (0) ?_;intro e0 σ0 n0 h0;simp(disch:=try exact dI) only[push_cast,seval] at h0;obtain⟨rfl,rfl,rfl⟩:=h0;refine⟨?_,?_,?_⟩
     ·exact qsZ
     ·trivial
     ·intro m _
      have hz:¬ (1:Int)<f.length:=by omega
      exact qsZ
  all_goals
   simp[aD,hi,hs,hl,hf] at hR
   subst hR
   simp(disch:=try exact dI) only[Q61,Val.pv_mk,hi,hs,push_cast,seval]
 have hc:k=1\/k=2\/k=6\/k=7\/k=3\/k=5\/k=8\/k=10\/(¬ k=1/\¬ k=2/\¬ k=6/\¬ k=7/\¬ k=3/\¬ k=5/\¬ k=8/\¬ k=10):=by omega
 rcases hc with rfl | rfl | rfl | rfl | rfl | rfl | rfl | rfl | hc
 case' inl=>by_cases hi:i=0<;>by_cases hj:i=1<;>(try omega)<;>by_cases hs:s=0<;>by_cases ht:t=[]<;>by_cases hl:l.length=0<;>by_cases hf:f.length=0
 iterate 3 (case' inl=>by_cases hs:s=0<;>by_cases ht:t=[]<;>by_cases hl:l.length=0<;>by_cases hf:f.length=0)
 case' inl=>by_cases ht:t=[]<;>by_cases hl:l.length=0<;>by_cases hf:f.length=0
 case' inl=>by_cases hi:i=0<;>by_cases hs:s=0<;>by_cases hl:l.length=0<;>by_cases hf:f.length=0
 case' inl=>by_cases hi:i=0<;>by_cases hs:s=0<;>by_cases ht:t=[]<;>by_cases hf:f.length=0
 case' inl=>by_cases hn:l.length=1<;>by_cases hi:i=0<;>by_cases hs:s=0<;>by_cases hf:f.length=0
 case' inr=>by_cases hi:i=0<;>by_cases hs:s=0<;>by_cases ht:t=[]<;>by_cases hl:l.length=0<;>by_cases hf:f.length=0
 all_goals
  simp[aD, *] at hR
  subst hR
  simp(disch:=try exact dI) only[Q61,Val.pv_mk, *,push_cast,seval]
 all_goals
  refine am ([]) (fun m:Nat=>[]) (fun m=>[]) (fun m=>True) (fun m=>0) (0) ?_;intro e0 σ0 n0 h0;simp(disch:=try exact dI) only[push_cast,seval] at h0;obtain⟨rfl,rfl,rfl⟩:=h0;refine⟨?_,?_,?_⟩
  ·simp(disch:=try exact dI) only[*,push_cast,seval]
  ·trivial
  ·intro m _
   have hz:¬ (1:Int)<f.length:=by omega
   simp(disch:=try exact dI) only[*,push_cast,seval]
def eC (p n:List UInt8):List UInt8:=if p=[] then n else p++(46::n)
theorem H6 (p n:List UInt8)(hp:p.length<=4000)(hn:n.length<=140737488351232):ak Tryz.prog ap 122 [.str p,.str n] (.str (eC p n)):=by
 refine ak.intro P2.2 (by simp[P2]) ?_
 by_cases h:p=[]
 ·rw[eC,if_pos h]
  simp(disch:=try exact dI) only[P2,h,push_cast,seval]
 ·rw[eC,if_neg h]
  simp(disch:=try exact dI) only[P2,h,push_cast,seval]
def jx (mn mx:Int)(p:List UInt8)(n:Int):List Mis:=if n<mn\/mx<n then [.mk p 2] else []
theorem tp {mn mx n:Int}{p:List UInt8}(h:n<mn\/mx<n):jx mn mx p n=[.mk p 2]:=if_pos h
theorem HY {mn mx n:Int}{p:List UInt8}(h:¬ (n<mn\/mx<n)):jx mn mx p n=[]:=if_neg h
def ixM {α β:Type}(F:α->Nat->List β)(l:List α):List β:=l.zipIdx.flatMap fun q=>F q.1 q.2
theorem pF {α β:Type}(F:α->List β){l:List α}{m:Nat}{x:α}(h:l[m]? = some x):(l.take (m+1)).flatMap F=(l.take m).flatMap F++F x:=by
 rw[aB h];simp
def atT (p:List UInt8)(i:Nat):List UInt8:=p++(91::(lJ i++[93]))
def QX (R:Typ->Val->List UInt8->List Mis)(e:List Typ)(p:List UInt8)(x:Val)(i:Nat):List Mis:=
 match e with
 | [t]=>R t x (atT p i)
 | _=>[.mk (atT p i) 1]
def fc (R:Typ->Val->List UInt8->List Mis)(fs:List Fld)(p:List UInt8)(x:TFd):List Mis:=
 match fs.find? (aP x.name) with
 | some y=>R x.typ y.value (eC p x.name)
 | none=>if x.need=2 then [] else [.mk (eC p x.name) 5]
def fM (ts:List TFd)(p:List UInt8)(x:Fld):List Mis:=if (ts.find? (named x.name)).isSome=true then [] else [.mk (eC p x.name) 6]
theorem gd {R:Typ->Val->List UInt8->List Mis}{fs:List Fld}{p:List UInt8}{x:TFd}{y:Fld}(h:fs.find? (aP x.name)=some y):fc R fs p x=R x.typ y.value (eC p x.name):=by
 unfold fc;rw[h]
theorem iI {R:Typ->Val->List UInt8->List Mis}{fs:List Fld}{p:List UInt8}{x:TFd}(h:fs.find? (aP x.name)=none)(hn:x.need=2):fc R fs p x=[]:=by
 unfold fc;rw[h];exact if_pos hn
theorem kW {R:Typ->Val->List UInt8->List Mis}{fs:List Fld}{p:List UInt8}{x:TFd}(h:fs.find? (aP x.name)=none)(hn:¬ x.need=2):fc R fs p x=[.mk (eC p x.name) 5]:=by
 unfold fc;rw[h];exact if_neg hn
theorem km {ts:List TFd}{p:List UInt8}{x:Fld}{z:TFd}(h:ts.find? (named x.name)=some z):fM ts p x=[]:=by
 unfold fM;rw[h];exact if_pos rfl
theorem ru {ts:List TFd}{p:List UInt8}{x:Fld}(h:ts.find? (named x.name)=none):fM ts p x=[.mk (eC p x.name) 6]:=by
 unfold fM;rw[h];exact if_neg (by simp)
def ET (R:Typ->Val->List UInt8->List Mis)(t:Typ)(v:Val)(p:List UInt8):List Mis:=t.fields.flatMap (fc R v.fields p)++v.fields.flatMap (fM t.fields p)
def SF (R:Typ->Val->List UInt8->List Mis)(t:Typ)(v:Val)(p:List UInt8):List Mis:=
 match t.fields.find? (named v.text) with
 | some c=>R c.typ (v.lst.headD eM) (p++(63::v.text))
 | none=>[.mk p 7]
def cG (R:Typ->Val->List UInt8->List Mis)(t:Typ)(v:Val)(p:List UInt8):List Mis:=
 if t.kind<1\/10<t.kind\/¬ v.kind=t.kind then [.mk p 1]
 else if aD v=false then [.mk p 8]
 else if t.kind=2\/t.kind=6\/t.kind=7 then jx t.min t.max p v.num
 else if t.kind=3 then (if v.scale=t.scale then jx t.min t.max p v.num else [.mk p 3])
 else if t.kind=4\/t.kind=5 then (if t.kind=4/\0<t.words.length then (if (t.words.any fun x=>decide (x=v.text))=true then [] else [.mk p 4]) else jx t.min t.max p v.text.length)
 else if t.kind=8 then jx t.min t.max p v.lst.length++ixM (QX R t.elem p) v.lst
 else if t.kind=9 then ET R t v p
 else if t.kind=10 then SF R t v p
 else []
def bD:Nat->Typ->Val->List UInt8->List Mis
 | 0=>fun _ _ _=>[]
 | n+1=>cG (bD n)
def dep:Nat->Val->Prop
 | 0,_=>True
 | n+1,v=>v.lst.length<=9000000000000/\v.fields.length<=9000000000000/\v.text.length<=140737488351232/\(∀ x∈v.lst,dep n x)/\∀ f∈v.fields,f.name.length<=140737488351232/\dep n f.value
theorem mH:∀ (n:Nat) (v:Val),v.ok->dep n v
 | 0,_,_=>trivial
 | n+1,.mk k a b t l f,h=>by
   rw[Val.ok_mk] at h
   obtain⟨_,_,_,h1,h2,h3,h4,h5⟩:=h
   refine⟨by simp only[Val.lst];omega,by simp only[Val.fields];omega,h1,fun x hx=>mH n x (h3 x hx),fun g hg=>?_⟩
   have:=h5 g hg
   obtain⟨nm,y⟩:=g
   rw[Fld.ok_mk] at this
   exact⟨this.1,mH n y this.2⟩
def jV:Nat->Typ->Prop
 | 0,_=>False
 | n+1,t=>t.fields.length<=9000000000000/\t.words.length<=9000000000000/\(∀ e∈t.elem,jV n e)/\∀ f∈t.fields,f.name.length<=100/\jV n f.typ
def SP (d:Bool)(l:List Mis):Prop:=l.length<=64/\(d=false->l.length<64)
theorem lP (p n:List UInt8):(eC p n).length<=p.length+n.length+1:=by
 unfold eC;split
 ·omega
 ·simp only[List.length_append,List.length_cons];omega
section
variable {R:Typ->Val->List UInt8->List Mis}{t:Typ}{v:Val}{p:List UInt8}
theorem ft (h:t.kind<1\/10<t.kind\/¬ v.kind=t.kind):cG R t v p=[.mk p 1]:=if_pos h
theorem ph (h:¬ (t.kind<1\/10<t.kind\/¬ v.kind=t.kind))(hf:aD v=false):cG R t v p=[.mk p 8]:=by
 unfold cG;rw[if_neg h,if_pos hf]
theorem eW (h:¬ (t.kind<1\/10<t.kind\/¬ v.kind=t.kind))(hf:aD v=true)(hk:t.kind=2\/t.kind=6\/t.kind=7):cG R t v p=jx t.min t.max p v.num:=by
 unfold cG;rw[if_neg h,if_neg (by rw[hf];simp),if_pos hk]
theorem kB (h:¬ (t.kind<1\/10<t.kind\/¬ v.kind=t.kind))(hf:aD v=true)(hk:t.kind=3)(hs:v.scale=t.scale):cG R t v p=jx t.min t.max p v.num:=by
 unfold cG;rw[if_neg h,if_neg (by rw[hf];simp),if_neg (by omega),if_pos hk,if_pos hs]
theorem kA (h:¬ (t.kind<1\/10<t.kind\/¬ v.kind=t.kind))(hf:aD v=true)(hk:t.kind=3)(hs:¬ v.scale=t.scale):cG R t v p=[.mk p 3]:=by
 unfold cG;rw[if_neg h,if_neg (by rw[hf];simp),if_neg (by omega),if_pos hk,if_neg hs]
theorem mj (h:¬ (t.kind<1\/10<t.kind\/¬ v.kind=t.kind))(hf:aD v=true)(hk:t.kind=4)(hw:0<t.words.length)(ha:(t.words.any fun x=>decide (x=v.text))=true):cG R t v p=[]:=by
 unfold cG;rw[if_neg h,if_neg (by rw[hf];simp),if_neg (by omega),if_neg (by omega),if_pos (.inl hk),if_pos ⟨hk,hw⟩,if_pos ha]
theorem iV (h:¬ (t.kind<1\/10<t.kind\/¬ v.kind=t.kind))(hf:aD v=true)(hk:t.kind=4)(hw:0<t.words.length)(ha:(t.words.any fun x=>decide (x=v.text))=false):cG R t v p=[.mk p 4]:=by
 unfold cG;rw[if_neg h,if_neg (by rw[hf];simp),if_neg (by omega),if_neg (by omega),if_pos (.inl hk),if_pos ⟨hk,hw⟩,if_neg (by rw[ha];simp)]
theorem dS (h:¬ (t.kind<1\/10<t.kind\/¬ v.kind=t.kind))(hf:aD v=true)(hk:t.kind=4\/t.kind=5)(hw:t.kind=4->t.words.length=0):cG R t v p=jx t.min t.max p v.text.length:=by
 unfold cG;rw[if_neg h,if_neg (by rw[hf];simp),if_neg (by omega),if_neg (by omega),if_pos hk,if_neg (by intro hh;have:=hw hh.1;omega)]
theorem pg (h:¬ (t.kind<1\/10<t.kind\/¬ v.kind=t.kind))(hf:aD v=true)(hk:t.kind=9):cG R t v p=ET R t v p:=by
 unfold cG;rw[if_neg h,if_neg (by rw[hf];simp),if_neg (by omega),if_neg (by omega),if_neg (by omega),if_neg (by omega),if_pos hk]
theorem ml (h:¬ (t.kind<1\/10<t.kind\/¬ v.kind=t.kind))(hf:aD v=true)(hk:t.kind=1):cG R t v p=[]:=by
 unfold cG;rw[if_neg h,if_neg (by rw[hf];simp),if_neg (by omega),if_neg (by omega),if_neg (by omega),if_neg (by omega),if_neg (by omega),if_neg (by omega)]
end
theorem cu (n:Nat)(t:Typ)(v:Val)(p:List UInt8):bD (n+1) t v p=cG (bD n) t v p:=rfl
theorem Bd (Q:Typ->Val->List UInt8->List Mis)(t:Typ)(v:Val)(p:List UInt8)(hk:t.kind<=7\/t.kind=9){F A:Bool}(hF:aD v=F)(hA:(t.words.any fun x=>decide (x=v.text))=A){X:List Mis}(hX:cG Q t v p=X) :
  (t.kind<1/\X=[.mk p 1])\/(¬ t.kind<1/\10<t.kind/\X=[.mk p 1])\/(¬ t.kind<1/\¬ 10<t.kind/\¬ v.kind=t.kind/\X=[.mk p 1]) \/
  (¬ t.kind<1/\¬ 10<t.kind/\v.kind=t.kind/\F=false/\X=[.mk p 8]) \/
  (t.kind=1/\v.kind=1/\F=true/\X=[]) \/
  (t.kind=2/\v.kind=2/\F=true/\X=jx t.min t.max p v.num)\/(t.kind=6/\v.kind=6/\F=true/\X=jx t.min t.max p v.num)\/(t.kind=7/\v.kind=7/\F=true/\X=jx t.min t.max p v.num) \/
  (t.kind=3/\v.kind=3/\F=true/\v.scale=t.scale/\X=jx t.min t.max p v.num)\/(t.kind=3/\v.kind=3/\F=true/\¬ v.scale=t.scale/\X=[.mk p 3]) \/
  (t.kind=5/\v.kind=5/\F=true/\X=jx t.min t.max p v.text.length)\/(t.kind=4/\v.kind=4/\F=true/\¬ (0:Int)<t.words.length/\X=jx t.min t.max p v.text.length) \/
  (t.kind=4/\v.kind=4/\F=true/\(0:Int)<t.words.length/\A=true/\X=[])\/(t.kind=4/\v.kind=4/\F=true/\(0:Int)<t.words.length/\A=false/\X=[.mk p 4]) \/
  (t.kind=9/\v.kind=9/\F=true/\X=ET Q t v p):=by
 subst hX
 by_cases a:t.kind<1
 ·exact .inl ⟨a,ft (.inl a)⟩
 refine .inr ?_
 by_cases b:10<t.kind
 ·exact .inl ⟨a,b,ft (.inr (.inl b))⟩
 refine .inr ?_
 by_cases c:v.kind=t.kind
 case neg=>exact .inl ⟨a,b,c,ft (.inr (.inr c))⟩
 refine .inr ?_
 have h:¬ (t.kind<1\/10<t.kind\/¬ v.kind=t.kind):=by omega
 cases F
 ·exact .inl ⟨a,b,c,rfl,ph h hF⟩
 refine .inr ?_
 by_cases k:t.kind=1
 ·exact .inl ⟨k,c.trans k,rfl,ml h hF k⟩
 refine .inr ?_
 by_cases k:t.kind=2
 ·exact .inl ⟨k,c.trans k,rfl,eW h hF (by omega)⟩
 refine .inr ?_
 by_cases k:t.kind=6
 ·exact .inl ⟨k,c.trans k,rfl,eW h hF (by omega)⟩
 refine .inr ?_
 by_cases k:t.kind=7
 ·exact .inl ⟨k,c.trans k,rfl,eW h hF (by omega)⟩
 refine .inr ?_
 by_cases k:t.kind=3
 ·by_cases s:v.scale=t.scale
  ·exact .inl ⟨k,c.trans k,rfl,s,kB h hF k s⟩
  ·exact .inr (.inl ⟨k,c.trans k,rfl,s,kA h hF k s⟩)
 refine .inr (.inr ?_)
 by_cases k:t.kind=5
 ·exact .inl ⟨k,c.trans k,rfl,dS h hF (.inr k) (by omega)⟩
 refine .inr ?_
 by_cases k:t.kind=4
 ·by_cases w:(0:Int)<t.words.length
  ·cases A
   ·exact .inr (.inr (.inl ⟨k,c.trans k,rfl,w,rfl,iV h hF k (by omega) hA⟩))
   ·exact .inr (.inl ⟨k,c.trans k,rfl,w,rfl,mj h hF k (by omega) hA⟩)
  ·exact .inl ⟨k,c.trans k,rfl,w,dS h hF (.inl k) (by omega)⟩
 have k:t.kind=9:=by omega
 exact .inr (.inr (.inr ⟨k,c.trans k,rfl,pg h hF k⟩))
def m4:Bool->List Mis->Mis->Bool×List Mis
 | true,l,_=>(true,l)
 | false,l,m=>(true,l++[m])
def uR:Bool->List Mis->List Mis->Bool×List Mis
 | d,l,[]=>(d,l)
 | d,l,m::r=>uR (m4 d l m).1 (m4 d l m).2 r
def qw (d:Bool)(l:List Mis):List Blk:=[.cells 122 true [.clo 80 [] [.ptr 1 0],.pv (.bool d)],.cells 4 true [.pv (.bool (!d))]]
theorem SZ (d:Bool)(m:Mis):bK Tryz.prog ap 1 80 [.pv m.pv,.ptr 0 0] [.cells 4 true [.pv (.bool d)]] (.pv (.bool false)) [.cells 4 true [.pv (.bool false)]]:=by
 obtain⟨p,c⟩:=m
 refine bK.intro Q80.2 (by simp[Q80]) ?_
 simp(disch:=try exact dI) only[Q80,Mis.pv_mk,push_cast,seval]
 exact aJ [] qsZ
theorem Iu (d:Bool)(l:List Mis)(p:List UInt8)(c:Int)(hl:l.length<=100000):bK Tryz.prog ap 2 134 [.ptr 0 0,.pv (.str p),.pv (.int .i64 c)] (qw d l) (.pv (.tup [])) (qw (m4 d l (.mk p c)).1 (m4 d l (.mk p c)).2):=by
 have h63:=SZ true (.mk p c)
 rw[Mis.pv_mk] at h63
 refine bK.intro P1.2 (by simp[P1]) ?_
 cases d with
 | true=>
   rw[m4]
   simp(disch:=try exact dI) only[P1,qw,push_cast,seval]
   exact aJ [] qsZ
 | false=>
   rw[m4]
   simp(disch:=try exact dI) only[P1,qw,push_cast,seval]
   refine ab.lentK h63 [1] rfl qsZ qsZ ?_
   refine zgZ ?_
   exact aJ [] qsZ
theorem nV (d:Bool)(l:List Mis)(m:Mis):uR d l [m]=m4 d l m:=rfl
theorem uQ (d:Bool)(l:List Mis):uR d l []=(d,l):=rfl
theorem lr:∀ (a:List Mis) (l:List Mis),uR true l a=(true,l)
 | [],l=>rfl
 | m::r,l=>by rw[uR,m4];exact lr r l
theorem Nt (d:Bool)(l:List Mis)(t:Typ)(p:List UInt8)(n:Int)(hl:l.length<=100000)(R:Bool×List Mis)(hR:R=uR d l (jx t.min t.max p n)) :
  bK Tryz.prog ap 2 136 [.ptr 0 0,.pv t.pv,.pv (.str p),.pv (.int .i64 n)] (qw d l) (.pv (.tup [])) (qw R.1 R.2):=by
 have h83:=Iu d l p 2 hl
 obtain⟨k,m,M,s,w,e,f⟩:=t
 simp only[Typ.min,Typ.max] at hR
 refine bK.intro Pw.2 (by simp[Pw]) ?_
 unfold qw at h83 ⊢
 by_cases h1:n<m
 ·rw[tp (.inl h1),nV] at hR
  rw[<- hR] at h83
  simp(disch:=try exact dI) only[Pw,Typ.pv_mk,push_cast,seval]
  refine ab.lentK h83 [0,1] rfl qsZ qsZ ?_
  refine zgZ ?_
  exact aJ [] qsZ
 ·by_cases h2:M<n
  ·rw[tp (.inr h2),nV] at hR
   rw[<- hR] at h83
   simp(disch:=try exact dI) only[Pw,Typ.pv_mk,push_cast,seval]
   refine ab.lentK h83 [0,1] rfl qsZ qsZ ?_
   refine zgZ ?_
   exact aJ [] qsZ
  ·rw[HY (fun h=>h.elim h1 h2),uQ] at hR
   subst hR
   simp(disch:=try exact dI) only[Pw,Typ.pv_mk,push_cast,seval]
   exact aJ [] qsZ
def Sv:=SP
def So:Prop:=∀ (t:Typ) (v:Val) (p:List UInt8) (d:Bool) (l:List Mis) (R:Bool×List Mis),dep 1 v->jV 1 t->t.kind<=7->v.ok->p.length<=2000->Sv d l->R=uR d l (bD 1 t v p) ->
 bK Tryz.prog ap 2 81 [.ptr 0 0,.pv t.pv,.pv v.pv,.pv (.str p)] (qw d l) (.pv (.tup [])) (qw R.1 R.2)
theorem KN (n:Nat)(t:Typ)(v:Val)(p:List UInt8)(l:List Mis)(hd:dep (n+1) v)(ht:jV (n+1) t)(hp:p.length<=2000)(hi:Sv false l)(hk:t.kind<=7\/t.kind=9)
  (h88:t.kind=9->v.kind=9->bK Tryz.prog ap 2 138 [.ptr 0 0,.pv t.pv,.pv v.pv,.pv (.str p)] (qw false l) (.pv (.tup [])) (qw (uR false l (ET (bD n) t v p)).1 (uR false l (ET (bD n) t v p)).2)) :
  bK Tryz.prog ap 2 81 [.ptr 0 0,.pv t.pv,.pv v.pv,.pv (.str p)] (qw false l) (.pv (.tup [])) (qw (uR false l (bD (n+1) t v p)).1 (uR false l (bD (n+1) t v p)).2):=by
 simp only[dep] at hd
 simp only[jV] at ht
 have h84:=GD v (by omega) (by omega) (by omega)
 have h83:=fun c=>Iu false l p c (by have:=hi.1;omega)
 have h85:=fun k=>Nt false l t p k (by have:=hi.1;omega) _ rfl
 have h86:=iM t.words v.text (by omega)
 rw[cu]
 have hc:=Bd (bD n) t v p hk rfl rfl rfl
 clear hd ht hi hp hk
 generalize aD v=F at h84 hc
 generalize (t.words.any fun x=>decide (x=v.text))=A at h86 hc
 generalize cG (bD n) t v p=X at hc ⊢
 rcases hc with ⟨a,e⟩ | ⟨a,b,e⟩ | ⟨a,b,c,e⟩ | ⟨a,b,c,rfl,e⟩ | ⟨hk,c,rfl,e⟩ | ⟨hk,c,rfl,e⟩ | ⟨hk,c,rfl,e⟩ | ⟨hk,c,rfl,e⟩ | ⟨hk,c,rfl,hs,e⟩ | ⟨hk,c,rfl,hs,e⟩ | ⟨hk,c,rfl,e⟩ | ⟨hk,c,rfl,hz,e⟩ | ⟨hk,c,rfl,hz,rfl,e⟩ | ⟨hk,c,rfl,hz,rfl,e⟩ | ⟨hk,c,rfl,e⟩
 all_goals
  first
   | (have e1:X=[.mk p 1]:=e;clear e1;have hL:=h83 1)
   | (have e1:X=[.mk p 8]:=e;clear e1;have hL:=h83 8)
   | (have e1:X=[.mk p 3]:=e;clear e1;have hL:=h83 3)
   | (have e1:X=[.mk p 4]:=e;clear e1;have hL:=h83 4)
   | (have e1:X=jx t.min t.max p v.num:=e;clear e1;have hL:=h85 v.num)
   | (have e1:X=jx t.min t.max p v.text.length:=e;clear e1;have hL:=h85 v.text.length)
   | have hL:=h88 hk c
   | skip
  subst e
  clear h83 h85 h88
  obtain⟨k,m,M,s,w,e,fs⟩:=t
  obtain⟨vk,vi,vs,vt,vl,vf⟩:=v
  simp only[Val.text,Typ.words,Typ.kind,Val.kind,Typ.min,Typ.max,Typ.scale,Val.num,Val.scale] at *
  try subst hk
  try subst c
  try subst hs
  simp only[qw,Typ.pv_mk,Val.pv_mk,nV,uQ] at *
  refine bK.intro Q81.2 (by simp[Q81]) ?_
  simp(disch:=try exact dI) only[Q81, *,push_cast,seval]
  try
   refine ab.pure h84 rfl ?_
   simp(disch:=try exact dI) only[*,push_cast,seval]
  try
   refine ab.pure h86 rfl ?_
   refine zgZ ?_
   skip
  try
   refine ab.lentK hL [0,1] rfl qsZ qsZ ?_
   refine zgZ ?_
   skip
  exact aJ [] qsZ
theorem KM:So:=by
 intro t v p d l R hd ht h7 hv hp hi hR
 cases d with
 | true=>
   rw[lr] at hR;subst hR
   obtain⟨k,m,M,s,w,e,fs⟩:=t
   obtain⟨vk,vi,vs,vt,vl,vf⟩:=v
   refine bK.intro Q81.2 (by simp[Q81]) ?_
   simp(disch:=try exact dI) only[Q81,qw,Typ.pv_mk,Val.pv_mk,push_cast,seval]
   exact aJ [] qsZ
 | false=>
   subst hR
   exact KN 0 t v p l hd ht hp hi (.inl h7) (fun h=>absurd h (by omega))
theorem Lv (a l:List Mis):(uR false l a).1=!a.isEmpty:=by
 cases a with
 | nil=>rfl
 | cons m r=>rw[uR,m4,lr];rfl
theorem B9 {α β:Type}(F:α->List β)(B:Nat):∀ (l:List α),(∀ x∈l,(F x).length<=B)->(l.flatMap F).length<=l.length*B
 | [],_=>by simp
 | x::r,h=>by
   have h1:=h x (by simp)
   have h2:=B9 F B r (fun y hy=>h y (by simp[hy]))
   rw[List.flatMap_cons,List.length_append,List.length_cons,Nat.succ_mul];omega
theorem Fs (a b:Int)(p:List UInt8)(n:Int):(jx a b p n).length<=1:=by unfold jx;split<;>simp
theorem wj (ts:List TFd)(p:List UInt8)(x:Fld):(fM ts p x).length<=1:=by
 unfold fM;split<;>simp
theorem FS {t:Typ}(v:Val)(p:List UInt8)(hk:t.kind<=7):(bD 1 t v p).length<=1:=by
 rw[cu,cG]
 have ho:=fun k=>Fs t.min t.max p k
 repeat' split
 all_goals first | exact ho _ | (exfalso;omega) | (simp;done)
theorem mE {fs:List Fld}{p:List UInt8}{x:TFd}(hx:x.typ.kind<=7):(fc (bD 1) fs p x).length<=1:=by
 cases h:fs.find? (aP x.name) with
 | some y=>rw[gd h];exact FS _ _ hx
 | none=>
   by_cases hn:x.need=2
   ·rw[iI h hn];simp
   ·rw[kW h hn];simp
theorem H3:∀ l:List Mis,((l.map Mis.pv).all fun y=>y.cells.length == 2)=true
 | []=>rfl
 | x::r=>by rw[List.map_cons,List.all_cons,H3 r,Mis.cells_len];rfl
theorem B6 {α β:Type}(F:α->List β){l:List α}(h:∀ x∈l,(F x).length<=1)(m:Nat):((l.take m).flatMap F).length<=l.length:=by
 have h1:=B9 F 1 (l.take m) (fun x hx=>h x (List.mem_of_mem_take hx))
 rw[List.length_take] at h1;omega
def SE:Prop:=∀ (t:Typ) (v:Val) (p:List UInt8),jV 1 t->t.kind<=7->v.ok->p.length<=2000->ak Tryz.prog ap 20 [t.pv,v.pv,.str p] (.list ((bD 1 t v p).map Mis.pv))
end Go.Proofs.YtbojpfpliibfbaaGreatDoor

/- A part. -/
import Derived.Test.YtbaaokocnegdoaaGreatDoorEnWU
import Derived.Test.YtbaaokocnegdoaaGreatDoorEnWH
set_option linter.unusedVariables false
set_option linter.unusedSimpArgs false
set_option maxHeartbeats 16000000
set_option maxRecDepth 100000
open List renaming getElem?_eq_getElem->Vg
namespace Go.Proofs.YtbaaokocnegdoaaGreatDoor
open Go Go.Ab
attribute [local irreducible] vc
def upJ (f:List Fld)(j:Nat):Bool:=bg (((f[j]?).map Fld.name).getD []) (((f[j+1]?).map Fld.name).getD [])
def upB (f:List Fld):Bool:=jP (upJ f) (f.length - 1)
def aE:Val->Bool
 | .mk k i s t l f=>
   if k=1 then (decide (i=0)||decide (i=1))&&(decide (s=0)&&(decide (t=[])&&(decide (l.length=0)&&decide (f.length=0))))
   else if k=2\/k=6\/k=7 then decide (s=0)&&(decide (t=[])&&(decide (l.length=0)&&decide (f.length=0)))
   else if k=3 then decide (t=[])&&(decide (l.length=0)&&decide (f.length=0))
   else if k=4 then Lib.validD t&&(decide (i=0)&&(decide (s=0)&&(decide (l.length=0)&&decide (f.length=0))))
   else if k=5 then decide (i=0)&&(decide (s=0)&&(decide (l.length=0)&&decide (f.length=0)))
   else if k=8 then decide (i=0)&&(decide (s=0)&&(decide (t=[])&&decide (f.length=0)))
   else if k=9 then upB f&&(decide (i=0)&&(decide (s=0)&&(decide (t=[])&&decide (l.length=0))))
   else if k=10 then decide (l.length=1)&&(decide (i=0)&&(decide (s=0)&&decide (f.length=0)))
   else decide (i=0)&&(decide (s=0)&&(decide (t=[])&&(decide (l.length=0)&&decide (f.length=0))))
theorem Gc (s:List UInt8):ae Tryz.prog aq 178 [.str s] (.bool (Lib.validD s)):=by
 refine ae.intro Ui.2 (by simp[Ui]) ?_
 simp(disch:=try exact dI) only[Ui,push_cast,seval]
 refine ab.pure (dW s) rfl ?_
 exact qsZ
theorem IT (v:Val)(hm:v.fields.length<=9000000000000)(hm2:v.lst.length<=9000000000000)(ht0:v.text.length<=140737488351232):ae Tryz.prog aq 130 [v.pv] (.bool (aE v)):=by
 obtain⟨k,i,s,t,l,f⟩:=v
 simp only[Val.fields,Val.lst,Val.text] at hm hm2 ht0
 obtain⟨R,hR⟩:∃ R,R=aE (.mk k i s t l f):=⟨_,rfl⟩
 rw[<- hR]
 refine ae.intro Ob.2 (by simp[Ob]) ?_
 by_cases hk9:k=9
 ·subst hk9
  simp(disch:=try exact dI) only[Ob,Vf,push_cast,seval]
  refine ap ([]) (fun m:Nat=>[(4,.pv (.int .i64 ((m:Int)+1)))]) (fun m=>[]) (fun m=>m<=f.length - 1/\jP (upJ f) m=true) (fun m=>f.length - 1 - m) (0) ?_;intro e0 σ0 n0 h0;simp(disch:=try exact dI) only[push_cast,seval] at h0;obtain⟨rfl,rfl,rfl⟩:=h0;refine⟨?_,?_,?_⟩
  ·simp(disch:=try exact dI) only[Int.zero_add,push_cast,seval]
  ·exact⟨by omega,by simp[jP]⟩
  ·rintro m ⟨hm,hpre⟩
   by_cases hlt:m<f.length - 1
   ·have hltI:(m:Int)+1<f.length:=by omega
    have hsub:(m:Int)+1 - 1=m:=by omega
    obtain⟨x,hx⟩:∃ x,f[m]? = some x:=⟨_,Vg (by omega)⟩
    obtain⟨y,hy⟩:∃ y,f[m+1]? = some y:=⟨_,Vg (by omega)⟩
    have hu:upJ f m=bg x.name y.name:=by simp[upJ,hx,hy]
    obtain⟨xn,⟨x1,x2,x3,x4,x5,x6⟩⟩:=x
    obtain⟨yn,⟨y1,y2,y3,y4,y5,y6⟩⟩:=y
    simp only[Fld.name] at hu
    cases hb:bg xn yn with
    | false=>
      have hU:upB f=false:=by
       cases hU:upB f with
       | false=>rfl
       | true=>
         have hh:=jb.1 hU m hlt
         rw[hu,hb] at hh;cases hh
      obtain rfl:R=false:=by rw[hR];simp[aE,hU]
      simp(disch:=try exact dI) only[hx,hy,hsub,U3,Vf,hb,push_cast,seval]
    | true=>
      simp(disch:=try exact dI) only[hx,hy,hsub,U3,Vf,hb,push_cast,seval]
      exact⟨m+1,aI qsZ,⟨by omega,by rw[jP,hpre,hu,hb];rfl⟩,by omega⟩
   ·have hltI:¬ (m:Int)+1<f.length:=by omega
    obtain rfl:m=f.length - 1:=by omega
    have hU:upB f=true:=hpre
    by_cases hi:i=0<;>by_cases hs:s=0<;>by_cases ht:t=[]<;>by_cases hl:l.length=0
    all_goals
     simp[aE, *] at hR
     subst hR
     simp(disch:=try exact dI) only[*,push_cast,seval]
 by_cases hk4:k=4
 ·subst hk4
  have hv:=Gc t
  generalize hV:Lib.validD t=V at hv
  cases V<;>by_cases hi:i=0<;>by_cases hs:s=0<;>by_cases hl:l.length=0<;>by_cases hf:f.length=0
  all_goals
   simp[aE, *] at hR
   subst hR
   simp(disch:=try exact dI) only[Ob,Vf, *,push_cast,seval]
   refine ab.pure hv rfl ?_
   simp(disch:=try exact dI) only[*,push_cast,seval]
 have hc:k=1\/k=2\/k=6\/k=7\/k=3\/k=5\/k=8\/k=10\/(¬ k=1/\¬ k=2/\¬ k=6/\¬ k=7/\¬ k=3/\¬ k=5/\¬ k=8/\¬ k=10):=by omega
 rcases hc with rfl | rfl | rfl | rfl | rfl | rfl | rfl | rfl | hc
 case' inl=>by_cases hi:i=0<;>by_cases hj:i=1<;>(try omega)<;>by_cases hs:s=0<;>by_cases ht:t=[]<;>by_cases hl:l.length=0<;>by_cases hf:f.length=0
 iterate 3 (case' inl=>by_cases hs:s=0<;>by_cases ht:t=[]<;>by_cases hl:l.length=0<;>by_cases hf:f.length=0)
 case' inl=>by_cases ht:t=[]<;>by_cases hl:l.length=0<;>by_cases hf:f.length=0
 case' inl=>by_cases hi:i=0<;>by_cases hs:s=0<;>by_cases hl:l.length=0<;>by_cases hf:f.length=0
 case' inl=>by_cases hi:i=0<;>by_cases hs:s=0<;>by_cases ht:t=[]<;>by_cases hf:f.length=0
 case' inl=>by_cases hn:l.length=1<;>by_cases hi:i=0<;>by_cases hs:s=0<;>by_cases hf:f.length=0
 case' inr=>by_cases hi:i=0<;>by_cases hs:s=0<;>by_cases ht:t=[]<;>by_cases hl:l.length=0<;>by_cases hf:f.length=0
 all_goals
  simp[aE, *] at hR
  subst hR
  simp(disch:=try exact dI) only[Ob,Vf, *,push_cast,seval]
theorem IU (v:Val)(hm:v.fields.length<=9000000000000)(hm2:v.lst.length<=9000000000000)(ht0:v.text.length<=140737488351232):ae Tryz.prog aq 61 [v.pv] (.bool (aE v)):=by
 obtain⟨k,i,s,t,l,f⟩:=v
 simp only[Val.fields,Val.lst,Val.text] at hm hm2 ht0
 obtain⟨R,hR⟩:∃ R,R=aE (.mk k i s t l f):=⟨_,rfl⟩
 rw[<- hR]
 refine ae.intro Q61.2 (by simp[Q61]) ?_
 by_cases hk9:k=9
 ·subst hk9
  by_cases hi:i=0<;>by_cases hs:s=0<;>by_cases ht:t=[]<;>by_cases hl:l.length=0
  case' pos=>
   simp(disch:=try exact dI) only[Q61,Vf,hi,hs,ht,push_cast,seval]
   refine ap ([]) (fun m:Nat=>[(7,.pv (.int .i64 ((m:Int)+1)))]) (fun m=>[]) (fun m=>m<=f.length - 1/\jP (upJ f) m=true) (fun m=>f.length - 1 - m) (0) ?_;intro e0 σ0 n0 h0;simp(disch:=try exact dI) only[push_cast,seval] at h0;obtain⟨rfl,rfl,rfl⟩:=h0;refine⟨?_,?_,?_⟩
   ·simp(disch:=try exact dI) only[Int.zero_add,push_cast,seval]
   ·exact⟨by omega,by simp[jP]⟩
   rintro m ⟨hm,hpre⟩
   by_cases hlt:m<f.length - 1
   ·have hltI:(m:Int)+1<f.length:=by omega
    have hsub:(m:Int)+1 - 1=m:=by omega
    obtain⟨x,hx⟩:∃ x,f[m]? = some x:=⟨_,Vg (by omega)⟩
    obtain⟨y,hy⟩:∃ y,f[m+1]? = some y:=⟨_,Vg (by omega)⟩
    have hu:upJ f m=bg x.name y.name:=by simp[upJ,hx,hy]
    obtain⟨xn,⟨x1,x2,x3,x4,x5,x6⟩⟩:=x
    obtain⟨yn,⟨y1,y2,y3,y4,y5,y6⟩⟩:=y
    simp only[Fld.name] at hu
    cases hb:bg xn yn with
    | false=>
      have hU:upB f=false:=by
       cases hU:upB f with
       | false=>rfl
       | true=>
         have hh:=jb.1 hU m hlt
         rw[hu,hb] at hh;cases hh
      obtain rfl:R=false:=by rw[hR];simp[aE,hU]
      simp(disch:=try exact dI) only[hx,hy,hsub,U3,Vf,hb,push_cast,seval]
    | true=>
      simp(disch:=try exact dI) only[hx,hy,hsub,U3,Vf,hb,push_cast,seval]
      exact⟨m+1,aI qsZ,⟨by omega,by rw[jP,hpre,hu,hb];rfl⟩,by omega⟩
   ·have hltI:¬ (m:Int)+1<f.length:=by omega
    obtain rfl:m=f.length - 1:=by omega
    have hU:upB f=true:=hpre
    simp[aE, *] at hR
    subst hR
    exact qsZ
  all_goals
   simp[aE, *] at hR
   subst hR
   simp(disch:=try exact dI) only[Q61,Vf, *,push_cast,seval]
 by_cases hk4:k=4
 ·subst hk4
  obtain⟨hv1,hv2⟩:=jY t t.length 0 (by omega) (by omega)
  rw[List.drop_zero] at hv1 hv2
  have h90:=Nf t (by omega)
  by_cases hi:i=0<;>by_cases hs:s=0<;>by_cases hl:l.length=0<;>by_cases hf:f.length=0
  case' pos=>
   cases hV:Lib.validD t with
   | false=>
     have hz:(0:Int)<=fp t t.length 0:=hv2 hV
     simp[aE,hV,hi,hs,hl,hf] at hR
     subst hR
     simp(disch:=try exact dI) only[Q61,Vf,hi,hs,push_cast,seval]
     refine ab.pure h90 rfl ?_
     simp(disch:=try exact dI) only[hi,hs,push_cast,seval]
   | true=>
     have hz:¬ (0:Int)<=fp t t.length 0:=by rw[hv1 hV];omega
     simp[aE,hV,hi,hs,hl,hf] at hR
     subst hR
     simp(disch:=try exact dI) only[Q61,Vf,hi,hs,push_cast,seval]
     refine ab.pure h90 rfl ?_
     simp(disch:=try exact dI) only[hi,hs,push_cast,seval]
     refine ap ([]) (fun m:Nat=>[]) (fun m=>[]) (fun m=>True) (fun m=>0) (0) ?_;intro e0 σ0 n0 h0;simp(disch:=try exact dI) only[push_cast,seval] at h0;obtain⟨rfl,rfl,rfl⟩:=h0;refine⟨?_,?_,?_⟩
     ·exact qsZ
     ·trivial
     ·intro m _
      have hz:¬ (1:Int)<f.length:=by omega
      exact qsZ
  all_goals
   simp[aE,hi,hs,hl,hf] at hR
   subst hR
   simp(disch:=try exact dI) only[Q61,Vf,hi,hs,push_cast,seval]
 have hc:k=1\/k=2\/k=6\/k=7\/k=3\/k=5\/k=8\/k=10\/(¬ k=1/\¬ k=2/\¬ k=6/\¬ k=7/\¬ k=3/\¬ k=5/\¬ k=8/\¬ k=10):=by omega
 rcases hc with rfl | rfl | rfl | rfl | rfl | rfl | rfl | rfl | hc
 case' inl=>by_cases hi:i=0<;>by_cases hj:i=1<;>(try omega)<;>by_cases hs:s=0<;>by_cases ht:t=[]<;>by_cases hl:l.length=0<;>by_cases hf:f.length=0
 iterate 3 (case' inl=>by_cases hs:s=0<;>by_cases ht:t=[]<;>by_cases hl:l.length=0<;>by_cases hf:f.length=0)
 case' inl=>by_cases ht:t=[]<;>by_cases hl:l.length=0<;>by_cases hf:f.length=0
 case' inl=>by_cases hi:i=0<;>by_cases hs:s=0<;>by_cases hl:l.length=0<;>by_cases hf:f.length=0
 case' inl=>by_cases hi:i=0<;>by_cases hs:s=0<;>by_cases ht:t=[]<;>by_cases hf:f.length=0
 case' inl=>by_cases hn:l.length=1<;>by_cases hi:i=0<;>by_cases hs:s=0<;>by_cases hf:f.length=0
 case' inr=>by_cases hi:i=0<;>by_cases hs:s=0<;>by_cases ht:t=[]<;>by_cases hl:l.length=0<;>by_cases hf:f.length=0
 all_goals
  simp[aE, *] at hR
  subst hR
  simp(disch:=try exact dI) only[Q61,Vf, *,push_cast,seval]
 all_goals
  refine ap ([]) (fun m:Nat=>[]) (fun m=>[]) (fun m=>True) (fun m=>0) (0) ?_;intro e0 σ0 n0 h0;simp(disch:=try exact dI) only[push_cast,seval] at h0;obtain⟨rfl,rfl,rfl⟩:=h0;refine⟨?_,?_,?_⟩
  ·simp(disch:=try exact dI) only[*,push_cast,seval]
  ·trivial
  ·intro m _
   have hz:¬ (1:Int)<f.length:=by omega
   simp(disch:=try exact dI) only[*,push_cast,seval]
def cx (p n:List UInt8):List UInt8:=if p=[] then n else p++(46::n)
theorem uK (p n:List UInt8)(hp:p.length<=1000000)(hn:n.length<=1000000):ae Tryz.prog aq 180 [.str p,.str n] (.str (cx p n)):=by
 refine ae.intro OO.2 (by simp[OO]) ?_
 by_cases h:p=[]
 ·rw[cx,if_pos h]
  simp(disch:=try exact dI) only[OO,h,push_cast,seval]
 ·rw[cx,if_neg h]
  simp(disch:=try exact dI) only[OO,h,push_cast,seval]
theorem Kj (p n:List UInt8)(hp:p.length<=1000000)(hn:n.length<=1000000):ae Tryz.prog aq 118 [.str p,.str n] (.str (cx p n)):=by
 refine ae.intro Sf.2 (by simp[Sf]) ?_
 by_cases h:p=[]
 ·rw[cx,if_pos h]
  simp(disch:=try exact dI) only[Sf,h,push_cast,seval]
 ·rw[cx,if_neg h]
  simp(disch:=try exact dI) only[Sf,h,push_cast,seval]
def kB (mn mx:Int)(p:List UInt8)(n:Int):List Mis:=if n<mn\/mx<n then [.mk p 2] else []
theorem vE {mn mx n:Int}{p:List UInt8}(h:n<mn\/mx<n):kB mn mx p n=[.mk p 2]:=if_pos h
theorem Kc {mn mx n:Int}{p:List UInt8}(h:¬ (n<mn\/mx<n)):kB mn mx p n=[]:=if_neg h
def ixM {α β:Type}(F:α->Nat->List β)(l:List α):List β:=l.zipIdx.flatMap fun q=>F q.1 q.2
theorem iO {α β:Type}(F:α->List β){l:List α}{m:Nat}{x:α}(h:l[m]? = some x):(l.take (m+1)).flatMap F=(l.take m).flatMap F++F x:=by
 rw[aD h];simp
def atT (p:List UInt8)(i:Nat):List UInt8:=p++(91::(gY i++[93]))
def Tg (R:Typ->Val->List UInt8->List Mis)(e:List Typ)(p:List UInt8)(x:Val)(i:Nat):List Mis:=
 match e with
 | [t]=>R t x (atT p i)
 | _=>[.mk (atT p i) 1]
def dS (R:Typ->Val->List UInt8->List Mis)(fs:List Fld)(p:List UInt8)(x:TFd):List Mis:=
 match fs.find? (aN x.name) with
 | some y=>R x.typ y.value (cx p x.name)
 | none=>if x.need=2 then [] else [.mk (cx p x.name) 5]
def fl (ts:List TFd)(p:List UInt8)(x:Fld):List Mis:=if (ts.find? (named x.name)).isSome=true then [] else [.mk (cx p x.name) 6]
theorem cJ {R:Typ->Val->List UInt8->List Mis}{fs:List Fld}{p:List UInt8}{x:TFd}{y:Fld}(h:fs.find? (aN x.name)=some y):dS R fs p x=R x.typ y.value (cx p x.name):=by
 unfold dS;rw[h]
theorem eE {R:Typ->Val->List UInt8->List Mis}{fs:List Fld}{p:List UInt8}{x:TFd}(h:fs.find? (aN x.name)=none)(hn:x.need=2):dS R fs p x=[]:=by
 unfold dS;rw[h];exact if_pos hn
theorem cK {R:Typ->Val->List UInt8->List Mis}{fs:List Fld}{p:List UInt8}{x:TFd}(h:fs.find? (aN x.name)=none)(hn:¬ x.need=2):dS R fs p x=[.mk (cx p x.name) 5]:=by
 unfold dS;rw[h];exact if_neg hn
theorem lS {ts:List TFd}{p:List UInt8}{x:Fld}{z:TFd}(h:ts.find? (named x.name)=some z):fl ts p x=[]:=by
 unfold fl;rw[h];exact if_pos rfl
theorem gW {ts:List TFd}{p:List UInt8}{x:Fld}(h:ts.find? (named x.name)=none):fl ts p x=[.mk (cx p x.name) 6]:=by
 unfold fl;rw[h];exact if_neg (by simp)
def vm (R:Typ->Val->List UInt8->List Mis)(t:Typ)(v:Val)(p:List UInt8):List Mis:=t.fields.flatMap (dS R v.fields p)++v.fields.flatMap (fl t.fields p)
def UJ (R:Typ->Val->List UInt8->List Mis)(t:Typ)(v:Val)(p:List UInt8):List Mis:=
 match t.fields.find? (named v.text) with
 | some c=>R c.typ (v.lst.headD aK) (p++(63::v.text))
 | none=>[.mk p 7]
def cu (R:Typ->Val->List UInt8->List Mis)(t:Typ)(v:Val)(p:List UInt8):List Mis:=
 if t.kind<1\/10<t.kind\/¬ v.kind=t.kind then [.mk p 1]
 else if aE v=false then [.mk p 8]
 else if t.kind=2\/t.kind=6\/t.kind=7 then kB t.min t.max p v.num
 else if t.kind=3 then (if v.scale=t.scale then kB t.min t.max p v.num else [.mk p 3])
 else if t.kind=4\/t.kind=5 then (if t.kind=4/\0<t.words.length then (if (t.words.any fun x=>decide (x=v.text))=true then [] else [.mk p 4]) else kB t.min t.max p v.text.length)
 else if t.kind=8 then kB t.min t.max p v.lst.length++ixM (Tg R t.elem p) v.lst
 else if t.kind=9 then vm R t v p
 else if t.kind=10 then UJ R t v p
 else []
def aO:Nat->Typ->Val->List UInt8->List Mis
 | 0=>fun _ _ _=>[]
 | n+1=>cu (aO n)
def dep:Nat->Val->Prop
 | 0,_=>False
 | n+1,v=>v.lst.length<=300/\v.fields.length<=300/\v.text.length<=5000/\(∀ x∈v.lst,dep n x)/\∀ f∈v.fields,f.name.length<=100/\dep n f.value
def eK:Nat->Typ->Prop
 | 0,_=>True
 | n+1,t=>t.fields.length<=300/\t.words.length<=300/\(∀ e∈t.elem,eK n e)/\∀ f∈t.fields,f.name.length<=100/\eK n f.typ
def SS (d:Bool)(l:List Mis):Prop:=l.length<=64/\(d=false->l.length<64)
theorem f9 (p n:List UInt8):(cx p n).length<=p.length+n.length+1:=by
 unfold cx;split
 ·omega
 ·simp only[List.length_append,List.length_cons];omega
section
variable {R:Typ->Val->List UInt8->List Mis}{t:Typ}{v:Val}{p:List UInt8}
theorem bN (h:t.kind<1\/10<t.kind\/¬ v.kind=t.kind):cu R t v p=[.mk p 1]:=if_pos h
theorem eC (h:¬ (t.kind<1\/10<t.kind\/¬ v.kind=t.kind))(hf:aE v=false):cu R t v p=[.mk p 8]:=by
 unfold cu;rw[if_neg h,if_pos hf]
theorem fL (h:¬ (t.kind<1\/10<t.kind\/¬ v.kind=t.kind))(hf:aE v=true)(hk:t.kind=2\/t.kind=6\/t.kind=7):cu R t v p=kB t.min t.max p v.num:=by
 unfold cu;rw[if_neg h,if_neg (by rw[hf];simp),if_pos hk]
theorem mb (h:¬ (t.kind<1\/10<t.kind\/¬ v.kind=t.kind))(hf:aE v=true)(hk:t.kind=3)(hs:v.scale=t.scale):cu R t v p=kB t.min t.max p v.num:=by
 unfold cu;rw[if_neg h,if_neg (by rw[hf];simp),if_neg (by omega),if_pos hk,if_pos hs]
theorem ma (h:¬ (t.kind<1\/10<t.kind\/¬ v.kind=t.kind))(hf:aE v=true)(hk:t.kind=3)(hs:¬ v.scale=t.scale):cu R t v p=[.mk p 3]:=by
 unfold cu;rw[if_neg h,if_neg (by rw[hf];simp),if_neg (by omega),if_pos hk,if_neg hs]
theorem nS (h:¬ (t.kind<1\/10<t.kind\/¬ v.kind=t.kind))(hf:aE v=true)(hk:t.kind=4)(hw:0<t.words.length)(ha:(t.words.any fun x=>decide (x=v.text))=true):cu R t v p=[]:=by
 unfold cu;rw[if_neg h,if_neg (by rw[hf];simp),if_neg (by omega),if_neg (by omega),if_pos (.inl hk),if_pos ⟨hk,hw⟩,if_pos ha]
theorem jU (h:¬ (t.kind<1\/10<t.kind\/¬ v.kind=t.kind))(hf:aE v=true)(hk:t.kind=4)(hw:0<t.words.length)(ha:(t.words.any fun x=>decide (x=v.text))=false):cu R t v p=[.mk p 4]:=by
 unfold cu;rw[if_neg h,if_neg (by rw[hf];simp),if_neg (by omega),if_neg (by omega),if_pos (.inl hk),if_pos ⟨hk,hw⟩,if_neg (by rw[ha];simp)]
theorem eB (h:¬ (t.kind<1\/10<t.kind\/¬ v.kind=t.kind))(hf:aE v=true)(hk:t.kind=4\/t.kind=5)(hw:t.kind=4->t.words.length=0):cu R t v p=kB t.min t.max p v.text.length:=by
 unfold cu;rw[if_neg h,if_neg (by rw[hf];simp),if_neg (by omega),if_neg (by omega),if_pos hk,if_neg (by intro hh;have:=hw hh.1;omega)]
theorem fK (h:¬ (t.kind<1\/10<t.kind\/¬ v.kind=t.kind))(hf:aE v=true)(hk:t.kind=9):cu R t v p=vm R t v p:=by
 unfold cu;rw[if_neg h,if_neg (by rw[hf];simp),if_neg (by omega),if_neg (by omega),if_neg (by omega),if_neg (by omega),if_pos hk]
theorem nT (h:¬ (t.kind<1\/10<t.kind\/¬ v.kind=t.kind))(hf:aE v=true)(hk:t.kind=1):cu R t v p=[]:=by
 unfold cu;rw[if_neg h,if_neg (by rw[hf];simp),if_neg (by omega),if_neg (by omega),if_neg (by omega),if_neg (by omega),if_neg (by omega),if_neg (by omega)]
end
theorem ba (n:Nat)(t:Typ)(v:Val)(p:List UInt8):aO (n+1) t v p=cu (aO n) t v p:=rfl
theorem Dt (Q:Typ->Val->List UInt8->List Mis)(t:Typ)(v:Val)(p:List UInt8)(hk:t.kind<=7\/t.kind=9){F A:Bool}(hF:aE v=F)(hA:(t.words.any fun x=>decide (x=v.text))=A){X:List Mis}(hX:cu Q t v p=X) :
  (t.kind<1/\X=[.mk p 1])\/(¬ t.kind<1/\10<t.kind/\X=[.mk p 1])\/(¬ t.kind<1/\¬ 10<t.kind/\¬ v.kind=t.kind/\X=[.mk p 1]) \/
  (¬ t.kind<1/\¬ 10<t.kind/\v.kind=t.kind/\F=false/\X=[.mk p 8]) \/
  (t.kind=1/\v.kind=1/\F=true/\X=[]) \/
  (t.kind=2/\v.kind=2/\F=true/\X=kB t.min t.max p v.num)\/(t.kind=6/\v.kind=6/\F=true/\X=kB t.min t.max p v.num)\/(t.kind=7/\v.kind=7/\F=true/\X=kB t.min t.max p v.num) \/
  (t.kind=3/\v.kind=3/\F=true/\v.scale=t.scale/\X=kB t.min t.max p v.num)\/(t.kind=3/\v.kind=3/\F=true/\¬ v.scale=t.scale/\X=[.mk p 3]) \/
  (t.kind=5/\v.kind=5/\F=true/\X=kB t.min t.max p v.text.length)\/(t.kind=4/\v.kind=4/\F=true/\¬ (0:Int)<t.words.length/\X=kB t.min t.max p v.text.length) \/
  (t.kind=4/\v.kind=4/\F=true/\(0:Int)<t.words.length/\A=true/\X=[])\/(t.kind=4/\v.kind=4/\F=true/\(0:Int)<t.words.length/\A=false/\X=[.mk p 4]) \/
  (t.kind=9/\v.kind=9/\F=true/\X=vm Q t v p):=by
 subst hX
 by_cases a:t.kind<1
 ·exact .inl ⟨a,bN (.inl a)⟩
 refine .inr ?_
 by_cases b:10<t.kind
 ·exact .inl ⟨a,b,bN (.inr (.inl b))⟩
 refine .inr ?_
 by_cases c:v.kind=t.kind
 case neg=>exact .inl ⟨a,b,c,bN (.inr (.inr c))⟩
 refine .inr ?_
 have h:¬ (t.kind<1\/10<t.kind\/¬ v.kind=t.kind):=by omega
 cases F
 ·exact .inl ⟨a,b,c,rfl,eC h hF⟩
 refine .inr ?_
 by_cases k:t.kind=1
 ·exact .inl ⟨k,c.trans k,rfl,nT h hF k⟩
 refine .inr ?_
 by_cases k:t.kind=2
 ·exact .inl ⟨k,c.trans k,rfl,fL h hF (by omega)⟩
 refine .inr ?_
 by_cases k:t.kind=6
 ·exact .inl ⟨k,c.trans k,rfl,fL h hF (by omega)⟩
 refine .inr ?_
 by_cases k:t.kind=7
 ·exact .inl ⟨k,c.trans k,rfl,fL h hF (by omega)⟩
 refine .inr ?_
 by_cases k:t.kind=3
 ·by_cases s:v.scale=t.scale
  ·exact .inl ⟨k,c.trans k,rfl,s,mb h hF k s⟩
  ·exact .inr (.inl ⟨k,c.trans k,rfl,s,ma h hF k s⟩)
 refine .inr (.inr ?_)
 by_cases k:t.kind=5
 ·exact .inl ⟨k,c.trans k,rfl,eB h hF (.inr k) (by omega)⟩
 refine .inr ?_
 by_cases k:t.kind=4
 ·by_cases w:(0:Int)<t.words.length
  ·cases A
   ·exact .inr (.inr (.inl ⟨k,c.trans k,rfl,w,rfl,jU h hF k (by omega) hA⟩))
   ·exact .inr (.inl ⟨k,c.trans k,rfl,w,rfl,nS h hF k (by omega) hA⟩)
  ·exact .inl ⟨k,c.trans k,rfl,w,eB h hF (.inl k) (by omega)⟩
 have k:t.kind=9:=by omega
 exact .inr (.inr (.inr ⟨k,c.trans k,rfl,fK h hF k⟩))

/- A part of the proof. -/
import Derived.Test.YtbaaokocnegdoaaGreatDoorDeWU
import Derived.Test.YtbaaokocnegdoaaGreatDoorDeWC
set_option linter.unusedVariables false
set_option linter.unusedSimpArgs false
set_option maxHeartbeats 16000000
set_option maxRecDepth 100000
namespace Go.Proofs.YtbaaokocnegdoaaGreatDoor
open Go Go.Ab
attribute [local irreducible] vc
def upJ (f:List Fld)(j:Nat):Bool:=bc (((f[j]?).map Fld.name).getD []) (((f[j+1]?).map Fld.name).getD [])
def upB (f:List Fld):Bool:=jh (upJ f) (f.length - 1)
def aG:Val->Bool
 | .mk k i s t l f=>
   if k=1 then (decide (i=0)||decide (i=1))&&(decide (s=0)&&(decide (t=[])&&(decide (l.length=0)&&decide (f.length=0))))
   else if k=2\/k=6\/k=7 then decide (s=0)&&(decide (t=[])&&(decide (l.length=0)&&decide (f.length=0)))
   else if k=3 then decide (t=[])&&(decide (l.length=0)&&decide (f.length=0))
   else if k=4 then Lib.validD t&&(decide (i=0)&&(decide (s=0)&&(decide (l.length=0)&&decide (f.length=0))))
   else if k=5 then decide (i=0)&&(decide (s=0)&&(decide (l.length=0)&&decide (f.length=0)))
   else if k=8 then decide (i=0)&&(decide (s=0)&&(decide (t=[])&&decide (f.length=0)))
   else if k=9 then upB f&&(decide (i=0)&&(decide (s=0)&&(decide (t=[])&&decide (l.length=0))))
   else if k=10 then decide (l.length=1)&&(decide (i=0)&&(decide (s=0)&&decide (f.length=0)))
   else decide (i=0)&&(decide (s=0)&&(decide (t=[])&&(decide (l.length=0)&&decide (f.length=0))))
theorem F7 (s:List UInt8):ak Tryz.prog aq 178 [.str s] (.bool (Lib.validD s)):=by
 refine ak.intro Ud.2 (by simp[Ud]) ?_
 simp(disch:=try exact dI) only[Ud,push_cast,seval]
 refine ab.pure (dL s) rfl ?_
 exact qsZ
theorem I8 (v:Val)(hm:v.fields.length<=9000000000000)(hm2:v.lst.length<=9000000000000)(ht0:v.text.length<=140737488351232):ak Tryz.prog aq 130 [v.pv] (.bool (aG v)):=by
 obtain⟨k,i,s,t,l,f⟩:=v
 simp only[Val.fields,Val.lst,Val.text] at hm hm2 ht0
 obtain⟨R,hR⟩:∃ R,R=aG (.mk k i s t l f):=⟨_,rfl⟩
 rw[<- hR]
 refine ak.intro Ow.2 (by simp[Ow]) ?_
 by_cases hk9:k=9
 ·subst hk9
  simp(disch:=try exact dI) only[Ow,Val.pv_mk,push_cast,seval]
  refine ap ([]) (fun m:Nat=>[(4,.pv (.int .i64 ((m:Int)+1)))]) (fun m=>[]) (fun m=>m<=f.length - 1/\jh (upJ f) m=true) (fun m=>f.length - 1 - m) (0) ?_;intro e0 σ0 n0 h0;simp(disch:=try exact dI) only[push_cast,seval] at h0;obtain⟨rfl,rfl,rfl⟩:=h0;refine⟨?_,?_,?_⟩
  ·simp(disch:=try exact dI) only[Int.zero_add,push_cast,seval]
  ·exact⟨by omega,by simp[jh]⟩
  ·rintro m ⟨hm,hpre⟩
   by_cases hlt:m<f.length - 1
   ·have hltI:(m:Int)+1<f.length:=by omega
    have hsub:(m:Int)+1 - 1=m:=by omega
    obtain⟨x,hx⟩:∃ x,f[m]? = some x:=⟨_,List.getElem?_eq_getElem (by omega)⟩
    obtain⟨y,hy⟩:∃ y,f[m+1]? = some y:=⟨_,List.getElem?_eq_getElem (by omega)⟩
    have hu:upJ f m=bc x.name y.name:=by simp[upJ,hx,hy]
    obtain⟨xn,⟨x1,x2,x3,x4,x5,x6⟩⟩:=x
    obtain⟨yn,⟨y1,y2,y3,y4,y5,y6⟩⟩:=y
    simp only[Fld.name] at hu
    cases hb:bc xn yn with
    | false=>
      have hU:upB f=false:=by
       cases hU:upB f with
       | false=>rfl
       | true=>
         have hh:=j6.1 hU m hlt
         rw[hu,hb] at hh;cases hh
      obtain rfl:R=false:=by rw[hR];simp[aG,hU]
      simp(disch:=try exact dI) only[hx,hy,hsub,Fld.pv_mk,Val.pv_mk,hb,push_cast,seval]
    | true=>
      simp(disch:=try exact dI) only[hx,hy,hsub,Fld.pv_mk,Val.pv_mk,hb,push_cast,seval]
      exact⟨m+1,aK qsZ,⟨by omega,by rw[jh,hpre,hu,hb];rfl⟩,by omega⟩
   ·have hltI:¬ (m:Int)+1<f.length:=by omega
    obtain rfl:m=f.length - 1:=by omega
    have hU:upB f=true:=hpre
    by_cases hi:i=0<;>by_cases hs:s=0<;>by_cases ht:t=[]<;>by_cases hl:l.length=0
    all_goals
     simp[aG, *] at hR
     subst hR
     simp(disch:=try exact dI) only[*,push_cast,seval]
 by_cases hk4:k=4
 ·subst hk4
  have hv:=F7 t
  generalize hV:Lib.validD t=V at hv
  cases V<;>by_cases hi:i=0<;>by_cases hs:s=0<;>by_cases hl:l.length=0<;>by_cases hf:f.length=0
  all_goals
   simp[aG, *] at hR
   subst hR
   simp(disch:=try exact dI) only[Ow,Val.pv_mk, *,push_cast,seval]
   refine ab.pure hv rfl ?_
   simp(disch:=try exact dI) only[*,push_cast,seval]
 have hc:k=1\/k=2\/k=6\/k=7\/k=3\/k=5\/k=8\/k=10\/(¬ k=1/\¬ k=2/\¬ k=6/\¬ k=7/\¬ k=3/\¬ k=5/\¬ k=8/\¬ k=10):=by omega
 rcases hc with rfl | rfl | rfl | rfl | rfl | rfl | rfl | rfl | hc
 case' inl=>by_cases hi:i=0<;>by_cases hj:i=1<;>(try omega)<;>by_cases hs:s=0<;>by_cases ht:t=[]<;>by_cases hl:l.length=0<;>by_cases hf:f.length=0
 iterate 3 (case' inl=>by_cases hs:s=0<;>by_cases ht:t=[]<;>by_cases hl:l.length=0<;>by_cases hf:f.length=0)
 case' inl=>by_cases ht:t=[]<;>by_cases hl:l.length=0<;>by_cases hf:f.length=0
 case' inl=>by_cases hi:i=0<;>by_cases hs:s=0<;>by_cases hl:l.length=0<;>by_cases hf:f.length=0
 case' inl=>by_cases hi:i=0<;>by_cases hs:s=0<;>by_cases ht:t=[]<;>by_cases hf:f.length=0
 case' inl=>by_cases hn:l.length=1<;>by_cases hi:i=0<;>by_cases hs:s=0<;>by_cases hf:f.length=0
 case' inr=>by_cases hi:i=0<;>by_cases hs:s=0<;>by_cases ht:t=[]<;>by_cases hl:l.length=0<;>by_cases hf:f.length=0
 all_goals
  simp[aG, *] at hR
  subst hR
  simp(disch:=try exact dI) only[Ow,Val.pv_mk, *,push_cast,seval]
theorem I9 (v:Val)(hm:v.fields.length<=9000000000000)(hm2:v.lst.length<=9000000000000)(ht0:v.text.length<=140737488351232):ak Tryz.prog aq 61 [v.pv] (.bool (aG v)):=by
 obtain⟨k,i,s,t,l,f⟩:=v
 simp only[Val.fields,Val.lst,Val.text] at hm hm2 ht0
 obtain⟨R,hR⟩:∃ R,R=aG (.mk k i s t l f):=⟨_,rfl⟩
 rw[<- hR]
 refine ak.intro Q61.2 (by simp[Q61]) ?_
 by_cases hk9:k=9
 ·subst hk9
  by_cases hi:i=0<;>by_cases hs:s=0<;>by_cases ht:t=[]<;>by_cases hl:l.length=0
  case' pos=>
   simp(disch:=try exact dI) only[Q61,Val.pv_mk,hi,hs,ht,push_cast,seval]
   refine ap ([]) (fun m:Nat=>[(7,.pv (.int .i64 ((m:Int)+1)))]) (fun m=>[]) (fun m=>m<=f.length - 1/\jh (upJ f) m=true) (fun m=>f.length - 1 - m) (0) ?_;intro e0 σ0 n0 h0;simp(disch:=try exact dI) only[push_cast,seval] at h0;obtain⟨rfl,rfl,rfl⟩:=h0;refine⟨?_,?_,?_⟩
   ·simp(disch:=try exact dI) only[Int.zero_add,push_cast,seval]
   ·exact⟨by omega,by simp[jh]⟩
   rintro m ⟨hm,hpre⟩
   by_cases hlt:m<f.length - 1
   ·have hltI:(m:Int)+1<f.length:=by omega
    have hsub:(m:Int)+1 - 1=m:=by omega
    obtain⟨x,hx⟩:∃ x,f[m]? = some x:=⟨_,List.getElem?_eq_getElem (by omega)⟩
    obtain⟨y,hy⟩:∃ y,f[m+1]? = some y:=⟨_,List.getElem?_eq_getElem (by omega)⟩
    have hu:upJ f m=bc x.name y.name:=by simp[upJ,hx,hy]
    obtain⟨xn,⟨x1,x2,x3,x4,x5,x6⟩⟩:=x
    obtain⟨yn,⟨y1,y2,y3,y4,y5,y6⟩⟩:=y
    simp only[Fld.name] at hu
    cases hb:bc xn yn with
    | false=>
      have hU:upB f=false:=by
       cases hU:upB f with
       | false=>rfl
       | true=>
         have hh:=j6.1 hU m hlt
         rw[hu,hb] at hh;cases hh
      obtain rfl:R=false:=by rw[hR];simp[aG,hU]
      simp(disch:=try exact dI) only[hx,hy,hsub,Fld.pv_mk,Val.pv_mk,hb,push_cast,seval]
    | true=>
      simp(disch:=try exact dI) only[hx,hy,hsub,Fld.pv_mk,Val.pv_mk,hb,push_cast,seval]
      exact⟨m+1,aK qsZ,⟨by omega,by rw[jh,hpre,hu,hb];rfl⟩,by omega⟩
   ·have hltI:¬ (m:Int)+1<f.length:=by omega
    obtain rfl:m=f.length - 1:=by omega
    have hU:upB f=true:=hpre
    simp[aG, *] at hR
    subst hR
    exact qsZ
  all_goals
   simp[aG, *] at hR
   subst hR
   simp(disch:=try exact dI) only[Q61,Val.pv_mk, *,push_cast,seval]
 by_cases hk4:k=4
 ·subst hk4
  obtain⟨hv1,hv2⟩:=js t t.length 0 (by omega) (by omega)
  rw[List.drop_zero] at hv1 hv2
  have h90:=ND t (by omega)
  by_cases hi:i=0<;>by_cases hs:s=0<;>by_cases hl:l.length=0<;>by_cases hf:f.length=0
  case' pos=>
   cases hV:Lib.validD t with
   | false=>
     have hz:(0:Int)<=eP t t.length 0:=hv2 hV
     simp[aG,hV,hi,hs,hl,hf] at hR
     subst hR
     simp(disch:=try exact dI) only[Q61,Val.pv_mk,hi,hs,push_cast,seval]
     refine ab.pure h90 rfl ?_
     simp(disch:=try exact dI) only[hi,hs,push_cast,seval]
   | true=>
     have hz:¬ (0:Int)<=eP t t.length 0:=by rw[hv1 hV];omega
     simp[aG,hV,hi,hs,hl,hf] at hR
     subst hR
     simp(disch:=try exact dI) only[Q61,Val.pv_mk,hi,hs,push_cast,seval]
     refine ab.pure h90 rfl ?_
     simp(disch:=try exact dI) only[hi,hs,push_cast,seval]
     refine ap ([]) (fun m:Nat=>[]) (fun m=>[]) (fun m=>True) (fun m=>0) (0) ?_;intro e0 σ0 n0 h0;simp(disch:=try exact dI) only[push_cast,seval] at h0;obtain⟨rfl,rfl,rfl⟩:=h0;refine⟨?_,?_,?_⟩
     ·exact qsZ
     ·trivial
     ·intro m _
      have hz:¬ (1:Int)<f.length:=by omega
      exact qsZ
  all_goals
   simp[aG,hi,hs,hl,hf] at hR
   subst hR
   simp(disch:=try exact dI) only[Q61,Val.pv_mk,hi,hs,push_cast,seval]
 have hc:k=1\/k=2\/k=6\/k=7\/k=3\/k=5\/k=8\/k=10\/(¬ k=1/\¬ k=2/\¬ k=6/\¬ k=7/\¬ k=3/\¬ k=5/\¬ k=8/\¬ k=10):=by omega
 rcases hc with rfl | rfl | rfl | rfl | rfl | rfl | rfl | rfl | hc
 case' inl=>by_cases hi:i=0<;>by_cases hj:i=1<;>(try omega)<;>by_cases hs:s=0<;>by_cases ht:t=[]<;>by_cases hl:l.length=0<;>by_cases hf:f.length=0
 iterate 3 (case' inl=>by_cases hs:s=0<;>by_cases ht:t=[]<;>by_cases hl:l.length=0<;>by_cases hf:f.length=0)
 case' inl=>by_cases ht:t=[]<;>by_cases hl:l.length=0<;>by_cases hf:f.length=0
 case' inl=>by_cases hi:i=0<;>by_cases hs:s=0<;>by_cases hl:l.length=0<;>by_cases hf:f.length=0
 case' inl=>by_cases hi:i=0<;>by_cases hs:s=0<;>by_cases ht:t=[]<;>by_cases hf:f.length=0
 case' inl=>by_cases hn:l.length=1<;>by_cases hi:i=0<;>by_cases hs:s=0<;>by_cases hf:f.length=0
 case' inr=>by_cases hi:i=0<;>by_cases hs:s=0<;>by_cases ht:t=[]<;>by_cases hl:l.length=0<;>by_cases hf:f.length=0
 all_goals
  simp[aG, *] at hR
  subst hR
  simp(disch:=try exact dI) only[Q61,Val.pv_mk, *,push_cast,seval]
 all_goals
  refine ap ([]) (fun m:Nat=>[]) (fun m=>[]) (fun m=>True) (fun m=>0) (0) ?_;intro e0 σ0 n0 h0;simp(disch:=try exact dI) only[push_cast,seval] at h0;obtain⟨rfl,rfl,rfl⟩:=h0;refine⟨?_,?_,?_⟩
  ·simp(disch:=try exact dI) only[*,push_cast,seval]
  ·trivial
  ·intro m _
   have hz:¬ (1:Int)<f.length:=by omega
   simp(disch:=try exact dI) only[*,push_cast,seval]
def A1 (p n:List UInt8):List UInt8:=if p=[] then n else p++(46::n)
def mh (mn mx:Int)(p:List UInt8)(n:Int):List Mis:=if n<mn\/mx<n then [.mk p 2] else []
theorem uC {mn mx n:Int}{p:List UInt8}(h:n<mn\/mx<n):mh mn mx p n=[.mk p 2]:=if_pos h
theorem Ku {mn mx n:Int}{p:List UInt8}(h:¬ (n<mn\/mx<n)):mh mn mx p n=[]:=if_neg h
def ixM {α β:Type}(F:α->Nat->List β)(l:List α):List β:=l.zipIdx.flatMap fun q=>F q.1 q.2
def atT (p:List UInt8)(i:Nat):List UInt8:=p++(91::(mp i++[93]))
def Tf (R:Typ->Val->List UInt8->List Mis)(e:List Typ)(p:List UInt8)(x:Val)(i:Nat):List Mis:=
 match e with
 | [t]=>R t x (atT p i)
 | _=>[.mk (atT p i) 1]
def QA (R:Typ->Val->List UInt8->List Mis)(fs:List Fld)(p:List UInt8)(x:TFd):List Mis:=
 match fs.find? (cJ x.name) with
 | some y=>R x.typ y.value (A1 p x.name)
 | none=>if x.need=2 then [] else [.mk (A1 p x.name) 5]
def P8 (ts:List TFd)(p:List UInt8)(x:Fld):List Mis:=if (ts.find? (named x.name)).isSome=true then [] else [.mk (A1 p x.name) 6]
def OJ (R:Typ->Val->List UInt8->List Mis)(t:Typ)(v:Val)(p:List UInt8):List Mis:=t.fields.flatMap (QA R v.fields p)++v.fields.flatMap (P8 t.fields p)
def Uy (R:Typ->Val->List UInt8->List Mis)(t:Typ)(v:Val)(p:List UInt8):List Mis:=
 match t.fields.find? (named v.text) with
 | some c=>R c.typ (v.lst.headD aI) (p++(63::v.text))
 | none=>[.mk p 7]
def cU (R:Typ->Val->List UInt8->List Mis)(t:Typ)(v:Val)(p:List UInt8):List Mis:=
 if t.kind<1\/10<t.kind\/¬ v.kind=t.kind then [.mk p 1]
 else if aG v=false then [.mk p 8]
 else if t.kind=2\/t.kind=6\/t.kind=7 then mh t.min t.max p v.num
 else if t.kind=3 then (if v.scale=t.scale then mh t.min t.max p v.num else [.mk p 3])
 else if t.kind=4\/t.kind=5 then (if t.kind=4/\0<t.words.length then (if (t.words.any fun x=>decide (x=v.text))=true then [] else [.mk p 4]) else mh t.min t.max p v.text.length)
 else if t.kind=8 then mh t.min t.max p v.lst.length++ixM (Tf R t.elem p) v.lst
 else if t.kind=9 then OJ R t v p
 else if t.kind=10 then Uy R t v p
 else []
def cx:Nat->Typ->Val->List UInt8->List Mis
 | 0=>fun _ _ _=>[]
 | n+1=>cU (cx n)
def dep:Nat->Val->Prop
 | 0,_=>False
 | n+1,v=>v.lst.length<=300/\v.fields.length<=300/\v.text.length<=5000/\(∀ x∈v.lst,dep n x)/\∀ f∈v.fields,f.name.length<=100/\dep n f.value
def mE:Nat->Typ->Prop
 | 0,_=>True
 | n+1,t=>t.fields.length<=300/\t.words.length<=300/\(∀ e∈t.elem,mE n e)/\∀ f∈t.fields,f.name.length<=100/\mE n f.typ
def UG (d:Bool)(l:List Mis):Prop:=l.length<=64/\(d=false->l.length<64)
section
variable {R:Typ->Val->List UInt8->List Mis}{t:Typ}{v:Val}{p:List UInt8}
theorem fQ (h:t.kind<1\/10<t.kind\/¬ v.kind=t.kind):cU R t v p=[.mk p 1]:=if_pos h
theorem p9 (h:¬ (t.kind<1\/10<t.kind\/¬ v.kind=t.kind))(hf:aG v=false):cU R t v p=[.mk p 8]:=by
 unfold cU;rw[if_neg h,if_pos hf]
theorem g9 (h:¬ (t.kind<1\/10<t.kind\/¬ v.kind=t.kind))(hf:aG v=true)(hk:t.kind=2\/t.kind=6\/t.kind=7):cU R t v p=mh t.min t.max p v.num:=by
 unfold cU;rw[if_neg h,if_neg (by rw[hf];simp),if_pos hk]
theorem p8 (h:¬ (t.kind<1\/10<t.kind\/¬ v.kind=t.kind))(hf:aG v=true)(hk:t.kind=3)(hs:v.scale=t.scale):cU R t v p=mh t.min t.max p v.num:=by
 unfold cU;rw[if_neg h,if_neg (by rw[hf];simp),if_neg (by omega),if_pos hk,if_pos hs]
theorem lf (h:¬ (t.kind<1\/10<t.kind\/¬ v.kind=t.kind))(hf:aG v=true)(hk:t.kind=3)(hs:¬ v.scale=t.scale):cU R t v p=[.mk p 3]:=by
 unfold cU;rw[if_neg h,if_neg (by rw[hf];simp),if_neg (by omega),if_pos hk,if_neg hs]
theorem xT (h:¬ (t.kind<1\/10<t.kind\/¬ v.kind=t.kind))(hf:aG v=true)(hk:t.kind=4)(hw:0<t.words.length)(ha:(t.words.any fun x=>decide (x=v.text))=true):cU R t v p=[]:=by
 unfold cU;rw[if_neg h,if_neg (by rw[hf];simp),if_neg (by omega),if_neg (by omega),if_pos (.inl hk),if_pos ⟨hk,hw⟩,if_pos ha]
theorem jo (h:¬ (t.kind<1\/10<t.kind\/¬ v.kind=t.kind))(hf:aG v=true)(hk:t.kind=4)(hw:0<t.words.length)(ha:(t.words.any fun x=>decide (x=v.text))=false):cU R t v p=[.mk p 4]:=by
 unfold cU;rw[if_neg h,if_neg (by rw[hf];simp),if_neg (by omega),if_neg (by omega),if_pos (.inl hk),if_pos ⟨hk,hw⟩,if_neg (by rw[ha];simp)]
theorem iX (h:¬ (t.kind<1\/10<t.kind\/¬ v.kind=t.kind))(hf:aG v=true)(hk:t.kind=4\/t.kind=5)(hw:t.kind=4->t.words.length=0):cU R t v p=mh t.min t.max p v.text.length:=by
 unfold cU;rw[if_neg h,if_neg (by rw[hf];simp),if_neg (by omega),if_neg (by omega),if_pos hk,if_neg (by intro hh;have:=hw hh.1;omega)]
theorem Da (h:¬ (t.kind<1\/10<t.kind\/¬ v.kind=t.kind))(hf:aG v=true)(hk:t.kind=9):cU R t v p=OJ R t v p:=by
 unfold cU;rw[if_neg h,if_neg (by rw[hf];simp),if_neg (by omega),if_neg (by omega),if_neg (by omega),if_neg (by omega),if_pos hk]
theorem xU (h:¬ (t.kind<1\/10<t.kind\/¬ v.kind=t.kind))(hf:aG v=true)(hk:t.kind=1):cU R t v p=[]:=by
 unfold cU;rw[if_neg h,if_neg (by rw[hf];simp),if_neg (by omega),if_neg (by omega),if_neg (by omega),if_neg (by omega),if_neg (by omega),if_neg (by omega)]
end
theorem fP (n:Nat)(t:Typ)(v:Val)(p:List UInt8):cx (n+1) t v p=cU (cx n) t v p:=rfl
theorem C9 (Q:Typ->Val->List UInt8->List Mis)(t:Typ)(v:Val)(p:List UInt8)(hk:t.kind<=7\/t.kind=9){F A:Bool}(hF:aG v=F)(hA:(t.words.any fun x=>decide (x=v.text))=A){X:List Mis}(hX:cU Q t v p=X) :
  (t.kind<1/\X=[.mk p 1])\/(¬ t.kind<1/\10<t.kind/\X=[.mk p 1])\/(¬ t.kind<1/\¬ 10<t.kind/\¬ v.kind=t.kind/\X=[.mk p 1]) \/
  (¬ t.kind<1/\¬ 10<t.kind/\v.kind=t.kind/\F=false/\X=[.mk p 8]) \/
  (t.kind=1/\v.kind=1/\F=true/\X=[]) \/
  (t.kind=2/\v.kind=2/\F=true/\X=mh t.min t.max p v.num)\/(t.kind=6/\v.kind=6/\F=true/\X=mh t.min t.max p v.num)\/(t.kind=7/\v.kind=7/\F=true/\X=mh t.min t.max p v.num) \/
  (t.kind=3/\v.kind=3/\F=true/\v.scale=t.scale/\X=mh t.min t.max p v.num)\/(t.kind=3/\v.kind=3/\F=true/\¬ v.scale=t.scale/\X=[.mk p 3]) \/
  (t.kind=5/\v.kind=5/\F=true/\X=mh t.min t.max p v.text.length)\/(t.kind=4/\v.kind=4/\F=true/\¬ (0:Int)<t.words.length/\X=mh t.min t.max p v.text.length) \/
  (t.kind=4/\v.kind=4/\F=true/\(0:Int)<t.words.length/\A=true/\X=[])\/(t.kind=4/\v.kind=4/\F=true/\(0:Int)<t.words.length/\A=false/\X=[.mk p 4]) \/
  (t.kind=9/\v.kind=9/\F=true/\X=OJ Q t v p):=by
 subst hX
 by_cases a:t.kind<1
 ·exact .inl ⟨a,fQ (.inl a)⟩
 refine .inr ?_
 by_cases b:10<t.kind
 ·exact .inl ⟨a,b,fQ (.inr (.inl b))⟩
 refine .inr ?_
 by_cases c:v.kind=t.kind
 case neg=>exact .inl ⟨a,b,c,fQ (.inr (.inr c))⟩
 refine .inr ?_
 have h:¬ (t.kind<1\/10<t.kind\/¬ v.kind=t.kind):=by omega
 cases F
 ·exact .inl ⟨a,b,c,rfl,p9 h hF⟩
 refine .inr ?_
 by_cases k:t.kind=1
 ·exact .inl ⟨k,c.trans k,rfl,xU h hF k⟩
 refine .inr ?_
 by_cases k:t.kind=2
 ·exact .inl ⟨k,c.trans k,rfl,g9 h hF (by omega)⟩
 refine .inr ?_
 by_cases k:t.kind=6
 ·exact .inl ⟨k,c.trans k,rfl,g9 h hF (by omega)⟩
 refine .inr ?_
 by_cases k:t.kind=7
 ·exact .inl ⟨k,c.trans k,rfl,g9 h hF (by omega)⟩
 refine .inr ?_
 by_cases k:t.kind=3
 ·by_cases s:v.scale=t.scale
  ·exact .inl ⟨k,c.trans k,rfl,s,p8 h hF k s⟩
  ·exact .inr (.inl ⟨k,c.trans k,rfl,s,lf h hF k s⟩)
 refine .inr (.inr ?_)
 by_cases k:t.kind=5
 ·exact .inl ⟨k,c.trans k,rfl,iX h hF (.inr k) (by omega)⟩
 refine .inr ?_
 by_cases k:t.kind=4
 ·by_cases w:(0:Int)<t.words.length
  ·cases A
   ·exact .inr (.inr (.inl ⟨k,c.trans k,rfl,w,rfl,jo h hF k (by omega) hA⟩))
   ·exact .inr (.inl ⟨k,c.trans k,rfl,w,rfl,xT h hF k (by omega) hA⟩)
  ·exact .inl ⟨k,c.trans k,rfl,w,iX h hF (.inl k) (by omega)⟩
 have k:t.kind=9:=by omega
 exact .inr (.inr (.inr ⟨k,c.trans k,rfl,Da h hF k⟩))
def Jn:Nat->Val->Prop
 | 0,_=>True
 | n+1,v=>v.lst.length<=300/\v.fields.length<=300/\v.text.length<=5000/\(∀ x∈v.lst,Jn n x)/\∀ f∈v.fields,f.name.length<=100/\Jn n f.value
theorem ox:∀ (n k:Nat) (v:Val),dep (n+k) v->Jn n v
 | 0,_,_,_=>trivial
 | n+1,k,v,h=>by
   rw[show n+1+k=(n+k)+1 by omega] at h
   exact⟨h.1,h.2.1,h.2.2.1,fun x hx=>ox n k x (h.2.2.2.1 x hx),fun f hf=>⟨(h.2.2.2.2 f hf).1,ox n k _ (h.2.2.2.2 f hf).2⟩⟩
def nI:Bool->List Mis->Mis->Bool×List Mis
 | true,l,_=>(true,l)
 | false,l,m=>(true,l++[m])
def wc:Bool->List Mis->List Mis->Bool×List Mis
 | d,l,[]=>(d,l)
 | d,l,m::r=>wc (nI d l m).1 (nI d l m).2 r
def rA (d:Bool)(l:List Mis):List Blk:=[.cells 133 true [.clo 79 [] [.ptr 1 0],.pv (.bool d)],.cells 4 true [.pv (.bool (!d))]]
theorem UN (d:Bool)(m:Mis):bF Tryz.prog aq 1 79 [.pv m.pv,.ptr 0 0] [.cells 4 true [.pv (.bool d)]] (.pv (.bool false)) [.cells 4 true [.pv (.bool false)]]:=by
 obtain⟨p,c⟩:=m
 refine bF.intro Q79.2 (by simp[Q79]) ?_
 simp(disch:=try exact dI) only[Q79,Mis.pv_mk,push_cast,seval]
 exact aE [] qsZ
theorem KY (d:Bool)(l:List Mis)(p:List UInt8)(c:Int)(hl:l.length<=100000):bF Tryz.prog aq 2 129 [.ptr 0 0,.pv (.str p),.pv (.int .i64 c)] (rA d l) (.pv (.tup [])) (rA (nI d l (.mk p c)).1 (nI d l (.mk p c)).2):=by
 have h63:=UN true (.mk p c)
 rw[Mis.pv_mk] at h63
 refine bF.intro Sm.2 (by simp[Sm]) ?_
 cases d with
 | true=>
   rw[nI]
   simp(disch:=try exact dI) only[Sm,rA,push_cast,seval]
   exact aE [] qsZ
 | false=>
   rw[nI]
   simp(disch:=try exact dI) only[Sm,rA,push_cast,seval]
   refine ab.lentK h63 [1] rfl qsZ qsZ ?_
   refine zgZ ?_
   exact aE [] qsZ
theorem oE (d:Bool)(l:List Mis)(m:Mis):wc d l [m]=nI d l m:=rfl
theorem wb (d:Bool)(l:List Mis):wc d l []=(d,l):=rfl
theorem lX:∀ (a:List Mis) (l:List Mis),wc true l a=(true,l)
 | [],l=>rfl
 | m::r,l=>by rw[wc,nI];exact lX r l
theorem P7 (d:Bool)(l:List Mis)(t:Typ)(p:List UInt8)(n:Int)(hl:l.length<=100000)(R:Bool×List Mis)(hR:R=wc d l (mh t.min t.max p n)) :
  bF Tryz.prog aq 2 131 [.ptr 0 0,.pv t.pv,.pv (.str p),.pv (.int .i64 n)] (rA d l) (.pv (.tup [])) (rA R.1 R.2):=by
 have h83:=KY d l p 2 hl
 obtain⟨k,m,M,s,w,e,f⟩:=t
 simp only[Typ.min,Typ.max] at hR
 refine bF.intro Ov.2 (by simp[Ov]) ?_
 unfold rA at h83 ⊢
 by_cases h1:n<m
 ·rw[uC (.inl h1),oE] at hR
  rw[<- hR] at h83
  simp(disch:=try exact dI) only[Ov,Typ.pv_mk,push_cast,seval]
  refine ab.lentK h83 [0,1] rfl qsZ qsZ ?_
  refine zgZ ?_
  exact aE [] qsZ
 ·by_cases h2:M<n
  ·rw[uC (.inr h2),oE] at hR
   rw[<- hR] at h83
   simp(disch:=try exact dI) only[Ov,Typ.pv_mk,push_cast,seval]
   refine ab.lentK h83 [0,1] rfl qsZ qsZ ?_
   refine zgZ ?_
   exact aE [] qsZ
  ·rw[Ku (fun h=>h.elim h1 h2),wb] at hR
   subst hR
   simp(disch:=try exact dI) only[Ov,Typ.pv_mk,push_cast,seval]
   exact aE [] qsZ
def Uo:=UG
def Uk:Prop:=∀ (t:Typ) (v:Val) (p:List UInt8) (d:Bool) (l:List Mis) (R:Bool×List Mis),Jn 1 v->mE 1 t->t.kind<=7->v.ok->p.length<=2000->Uo d l->R=wc d l (cx 1 t v p) ->
 bF Tryz.prog aq 2 80 [.ptr 0 0,.pv t.pv,.pv v.pv,.pv (.str p)] (rA d l) (.pv (.tup [])) (rA R.1 R.2)
theorem NF (n:Nat)(t:Typ)(v:Val)(p:List UInt8)(l:List Mis)(hd:Jn (n+1) v)(ht:mE (n+1) t)(hp:p.length<=2000)(hi:Uo false l)(hk:t.kind<=7\/t.kind=9)
  (h88:t.kind=9->v.kind=9->bF Tryz.prog aq 2 133 [.ptr 0 0,.pv t.pv,.pv v.pv,.pv (.str p)] (rA false l) (.pv (.tup [])) (rA (wc false l (OJ (cx n) t v p)).1 (wc false l (OJ (cx n) t v p)).2)) :
  bF Tryz.prog aq 2 80 [.ptr 0 0,.pv t.pv,.pv v.pv,.pv (.str p)] (rA false l) (.pv (.tup [])) (rA (wc false l (cx (n+1) t v p)).1 (wc false l (cx (n+1) t v p)).2):=by
 simp only[Jn] at hd
 simp only[mE] at ht
 have h84:=I8 v (by omega) (by omega) (by omega)
 have h83:=fun c=>KY false l p c (by have:=hi.1;omega)
 have h85:=fun k=>P7 false l t p k (by have:=hi.1;omega) _ rfl
 have h86:=nr t.words v.text (by omega)
 rw[fP]
 have hc:=C9 (cx n) t v p hk rfl rfl rfl
 clear hd ht hi hp hk
 generalize aG v=F at h84 hc
 generalize (t.words.any fun x=>decide (x=v.text))=A at h86 hc
 generalize cU (cx n) t v p=X at hc ⊢
 rcases hc with ⟨a,e⟩ | ⟨a,b,e⟩ | ⟨a,b,c,e⟩ | ⟨a,b,c,rfl,e⟩ | ⟨hk,c,rfl,e⟩ | ⟨hk,c,rfl,e⟩ | ⟨hk,c,rfl,e⟩ | ⟨hk,c,rfl,e⟩ | ⟨hk,c,rfl,hs,e⟩ | ⟨hk,c,rfl,hs,e⟩ | ⟨hk,c,rfl,e⟩ | ⟨hk,c,rfl,hz,e⟩ | ⟨hk,c,rfl,hz,rfl,e⟩ | ⟨hk,c,rfl,hz,rfl,e⟩ | ⟨hk,c,rfl,e⟩
 all_goals
  first
   | (have e1:X=[.mk p 1]:=e;clear e1;have hL:=h83 1)
   | (have e1:X=[.mk p 8]:=e;clear e1;have hL:=h83 8)
   | (have e1:X=[.mk p 3]:=e;clear e1;have hL:=h83 3)
   | (have e1:X=[.mk p 4]:=e;clear e1;have hL:=h83 4)
   | (have e1:X=mh t.min t.max p v.num:=e;clear e1;have hL:=h85 v.num)
   | (have e1:X=mh t.min t.max p v.text.length:=e;clear e1;have hL:=h85 v.text.length)
   | have hL:=h88 hk c
   | skip
  subst e
  clear h83 h85 h88
  obtain⟨k,m,M,s,w,e,fs⟩:=t
  obtain⟨vk,vi,vs,vt,vl,vf⟩:=v
  simp only[Val.text,Typ.words,Typ.kind,Val.kind,Typ.min,Typ.max,Typ.scale,Val.num,Val.scale] at *
  try subst hk
  try subst c
  try subst hs
  simp only[rA,Typ.pv_mk,Val.pv_mk,oE,wb] at *
  refine bF.intro Q80.2 (by simp[Q80]) ?_
  simp(disch:=try exact dI) only[Q80, *,push_cast,seval]
  try
   refine ab.pure h84 rfl ?_
   simp(disch:=try exact dI) only[*,push_cast,seval]
  try
   refine ab.pure h86 rfl ?_
   refine zgZ ?_
   skip
  try
   refine ab.lentK hL [0,1] rfl qsZ qsZ ?_
   refine zgZ ?_
   skip
  exact aE [] qsZ
theorem NE:Uk:=by
 intro t v p d l R hd ht h7 hv hp hi hR
 cases d with
 | true=>
   rw[lX] at hR;subst hR
   obtain⟨k,m,M,s,w,e,fs⟩:=t
   obtain⟨vk,vi,vs,vt,vl,vf⟩:=v
   refine bF.intro Q80.2 (by simp[Q80]) ?_
   simp(disch:=try exact dI) only[Q80,rA,Typ.pv_mk,Val.pv_mk,push_cast,seval]
   exact aE [] qsZ
 | false=>
   subst hR
   exact NF 0 t v p l hd ht hp hi (.inl h7) (fun h=>absurd h (by omega))
theorem Oi (a l:List Mis):(wc false l a).1=!a.isEmpty:=by
 cases a with
 | nil=>rfl
 | cons m r=>rw[wc,nI,lX];rfl
theorem oN:∀ n,dep (n+1) aI:=by
 intro n
 simp[dep,aI,Val.lst,Val.fields,Val.text]
def UP:Prop:=∀ (t:Typ) (v:Val) (p:List UInt8),Jn 1 v->mE 1 t->t.kind<=7->v.ok->p.length<=2000->ak Tryz.prog aq 24 [t.pv,v.pv,.str p] (.list ((cx 1 t v p).map Mis.pv))
theorem P6 {mn mx q:Int}{p:List UInt8}{X:List Mis}(e:X=mh mn mx p q):(q<mn/\X=[.mk p 2])\/(¬ q<mn/\mx<q/\X=[.mk p 2])\/(¬ q<mn/\¬ mx<q/\X=[]):=by
 subst e
 by_cases a:q<mn
 ·exact .inl ⟨a,uC (.inl a)⟩
 by_cases b:mx<q
 ·exact .inr (.inl ⟨a,b,uC (.inr b)⟩)
 ·exact .inr (.inr ⟨a,b,Ku (fun h=>h.elim a b)⟩)
theorem TH (n:Nat)(t:Typ)(v:Val)(p:List UInt8)(hd:Jn (n+1) v)(ht:mE (n+1) t)(hp:p.length<=2000)(hk:t.kind<=7\/t.kind=9)
  (h60:t.kind=9->ak Tryz.prog aq 64 [t.pv,v.pv,.str p] (.list ((OJ (cx n) t v p).map Mis.pv))):ak Tryz.prog aq 24 [t.pv,v.pv,.str p] (.list ((cx (n+1) t v p).map Mis.pv)):=by
 simp only[Jn] at hd
 simp only[mE] at ht
 have h57:=I9 v (by omega) (by omega) (by omega)
 have h58:=S1 t.words v.text (by omega)
 rw[fP]
 have hc:=C9 (cx n) t v p hk rfl rfl rfl
 clear hd ht hp hk
 generalize aG v=F at h57 hc
 generalize (t.words.any fun x=>decide (x=v.text))=A at h58 hc
 generalize cU (cx n) t v p=X at hc ⊢
 rcases hc with ⟨a,e⟩ | ⟨a,b,e⟩ | ⟨a,b,c,e⟩ | ⟨a,b,c,rfl,e⟩ | ⟨hk,c,rfl,e⟩ | ⟨hk,c,rfl,e⟩ | ⟨hk,c,rfl,e⟩ | ⟨hk,c,rfl,e⟩ | ⟨hk,c,rfl,hs,e⟩ | ⟨hk,c,rfl,hs,e⟩ | ⟨hk,c,rfl,e⟩ | ⟨hk,c,rfl,hz,e⟩ | ⟨hk,c,rfl,hz,rfl,e⟩ | ⟨hk,c,rfl,hz,rfl,e⟩ | ⟨hk,c,rfl,e⟩
 all_goals try (have ho:=P6 e;clear e;rcases ho with ⟨o1,e⟩ | ⟨o1,o2,e⟩ | ⟨o1,o2,e⟩)
 all_goals
  try have hL:=h60 hk
  clear h60
  subst e
  obtain⟨k,m,M,s,w,e,fs⟩:=t
  obtain⟨vk,vi,vs,vt,vl,vf⟩:=v
  simp only[Val.text,Typ.words,Typ.kind,Val.kind,Typ.min,Typ.max,Typ.scale,Val.num,Val.scale] at *
  try subst hk
  try subst c
  try subst hs
  simp only[Typ.pv_mk,Val.pv_mk,List.map_cons,List.map_nil,Mis.pv_mk] at *
  refine ak.intro Q24.2 (by simp[Q24]) ?_
  simp(disch:=try exact dI) only[Q24, *,push_cast,seval]
  try
   refine ab.pure h57 rfl ?_
   simp(disch:=try exact dI) only[*,push_cast,seval]
  try
   refine ab.pure h58 rfl ?_
   exact qsZ
  try
   refine ab.pure hL rfl ?_
   exact qsZ
theorem UO:UP:=by
 intro t v p hd ht h7 hv hp
 exact TH 0 t v p hd ht hp (.inl h7) fun h=>absurd h (by omega)
end Go.Proofs.YtbaaokocnegdoaaGreatDoor

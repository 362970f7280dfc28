/- A part of the proof. -/
import Derived.Test.YtbojpfpliibfbaaGreatDoorMxRS7
set_option maxHeartbeats 16000000
set_option maxRecDepth 100000
set_option linter.unusedVariables false
set_option linter.unusedSimpArgs false
namespace Go.Proofs.YtbojpfpliibfbaaGreatDoor
open Go Go.Ab
inductive Mis where
 | mk (path:List UInt8) (code:Int)
def Mis.path:Mis->List UInt8
 | .mk path _=>path
def Mis.code:Mis->Int
 | .mk _ code=>code
def Mis.pv:Mis->PV
 | .mk path code=>.agg ([.str path,.int .i64 code])
theorem Mis.pv_mk (path:List UInt8)(code:Int):(Mis.mk path code).pv = .agg ([.str path,.int .i64 code]):=by rw[Mis.pv]
theorem Mis.cells_len (x:Mis):x.pv.cells.length=2:=by
 obtain⟨path,code⟩:=x
 rw[Mis.pv_mk];simp only[ae,List.length_append,List.length_cons,List.length_nil]
theorem Mis.isAgg (x:Mis):x.pv.isAgg=true:=by
 obtain⟨path,code⟩:=x
 rw[Mis.pv_mk];rfl
theorem Mis.ones (x:Mis):(x.pv.cells.all PV.one)=true:=by
 obtain⟨path,code⟩:=x
 rw[Mis.pv_mk];simp only[ae,List.all_append,List.all_cons,List.all_nil,il,io,fu,ft,Bool.and_true,Bool.and_self]
theorem Mis.row (x:Mis):∃ cs,x.pv = .agg cs/\cs.length=2/\∀ p∈cs,p.one=true:=by
 have h1:=x.cells_len;have h2:=x.ones;have h3:=x.isAgg
 cases h:x.pv with
 | agg cs=>rw[h] at h1 h2;exact⟨cs,rfl,h1,fun p hp=>List.all_eq_true.1 h2 p hp⟩
 | _=>rw[h] at h3;cases h3
def Mis.ok:Mis->Prop
 | .mk path code=>path.length<=140737488351232/\I64 code
theorem Mis.ok_mk (path:List UInt8)(code:Int):(Mis.mk path code).ok=(path.length<=140737488351232/\I64 code):=by rw[Mis.ok]
attribute [local irreducible] vc
def stepM:Bool->List Mis->Mis->Bool×List Mis
 | true,l,_=>(true,l)
 | false,l,m=>(!decide (l.length+1<64),l++[m])
def accP (l:List UInt8)(a:Nat):Nat->Nat
 | 0=>a
 | i+1=>64*accP l a i+(byN l (i+1) - 128)
def upJ (f:List Fld)(j:Nat):Bool:=bj (((f[j]?).map Fld.name).getD []) (((f[j+1]?).map Fld.name).getD [])
def upB (f:List Fld):Bool:=JG (upJ f) (f.length - 1)
def aL:Val->Bool
 | .mk k i s t l f=>
   if k=1 then (decide (i=0)||decide (i=1))&&(decide (s=0)&&(decide (t=[])&&(decide (l.length=0)&&decide (f.length=0))))
   else if k=2\/k=6\/k=7 then decide (s=0)&&(decide (t=[])&&(decide (l.length=0)&&decide (f.length=0)))
   else if k=3 then decide (t=[])&&(decide (l.length=0)&&decide (f.length=0))
   else if k=4 then Lib.validD t&&(decide (i=0)&&(decide (s=0)&&(decide (l.length=0)&&decide (f.length=0))))
   else if k=5 then decide (i=0)&&(decide (s=0)&&(decide (l.length=0)&&decide (f.length=0)))
   else if k=8 then decide (i=0)&&(decide (s=0)&&(decide (t=[])&&decide (f.length=0)))
   else if k=9 then upB f&&(decide (i=0)&&(decide (s=0)&&(decide (t=[])&&decide (l.length=0))))
   else if k=10 then decide (l.length=1)&&(decide (i=0)&&(decide (s=0)&&decide (f.length=0)))
   else decide (i=0)&&(decide (s=0)&&(decide (t=[])&&(decide (l.length=0)&&decide (f.length=0))))
theorem sR (s:List UInt8):ag Tryz.prog aq 165 [.str s] (.bool (Lib.validD s)):=by
 refine ag.intro Ti.2 (by simp[Ti]) ?_
 simp(disch:=try exact dI) only[Ti,push_cast,seval]
 refine ab.pure (dv s) rfl ?_
 exact qsZ
theorem HJ (v:Val)(hm:v.fields.length<=9000000000000)(hm2:v.lst.length<=9000000000000)(ht0:v.text.length<=140737488351232):ag Tryz.prog aq 135 [v.pv] (.bool (aL v)):=by
 obtain⟨k,i,s,t,l,f⟩:=v
 simp only[Val.fields,Val.lst,Val.text] at hm hm2 ht0
 obtain⟨R,hR⟩:∃ R,R=aL (.mk k i s t l f):=⟨_,rfl⟩
 rw[<- hR]
 refine ag.intro QQ.2 (by simp[QQ]) ?_
 by_cases hk9:k=9
 ·subst hk9
  simp(disch:=try exact dI) only[QQ,Val.pv_mk,push_cast,seval]
  refine az ([]) (fun m:Nat=>[(4,.pv (.int .i64 ((m:Int)+1)))]) (fun m=>[]) (fun m=>m<=f.length - 1/\JG (upJ f) m=true) (fun m=>f.length - 1 - m) (0) ?_;intro e0 σ0 n0 h0;simp(disch:=try exact dI) only[push_cast,seval] at h0;obtain⟨rfl,rfl,rfl⟩:=h0;refine⟨?_,?_,?_⟩
  ·simp(disch:=try exact dI) only[Int.zero_add,push_cast,seval]
  ·exact⟨by omega,by simp[JG]⟩
  ·rintro m ⟨hm,hpre⟩
   by_cases hlt:m<f.length - 1
   ·have hltI:(m:Int)+1<f.length:=by omega
    have hsub:(m:Int)+1 - 1=m:=by omega
    obtain⟨x,hx⟩:∃ x,f[m]? = some x:=⟨_,List.getElem?_eq_getElem (by omega)⟩
    obtain⟨y,hy⟩:∃ y,f[m+1]? = some y:=⟨_,List.getElem?_eq_getElem (by omega)⟩
    have hu:upJ f m=bj x.name y.name:=by simp[upJ,hx,hy]
    obtain⟨xn,⟨x1,x2,x3,x4,x5,x6⟩⟩:=x
    obtain⟨yn,⟨y1,y2,y3,y4,y5,y6⟩⟩:=y
    simp only[Fld.name] at hu
    cases hb:bj xn yn with
    | false=>
      have hU:upB f=false:=by
       cases hU:upB f with
       | false=>rfl
       | true=>
         have hh:=jx.1 hU m hlt
         rw[hu,hb] at hh;cases hh
      obtain rfl:R=false:=by rw[hR];simp[aL,hU]
      simp(disch:=try exact dI) only[hx,hy,hsub,Fld.pv_mk,Val.pv_mk,hb,push_cast,seval]
    | true=>
      simp(disch:=try exact dI) only[hx,hy,hsub,Fld.pv_mk,Val.pv_mk,hb,push_cast,seval]
      exact⟨m+1,aV qsZ,⟨by omega,by rw[JG,hpre,hu,hb];rfl⟩,by omega⟩
   ·have hltI:¬ (m:Int)+1<f.length:=by omega
    obtain rfl:m=f.length - 1:=by omega
    have hU:upB f=true:=hpre
    by_cases hi:i=0<;>by_cases hs:s=0<;>by_cases ht:t=[]<;>by_cases hl:l.length=0
    all_goals
     simp[aL, *] at hR
     subst hR
     simp(disch:=try exact dI) only[*,push_cast,seval]
 by_cases hk4:k=4
 ·subst hk4
  have hv:=sR t
  generalize hV:Lib.validD t=V at hv
  cases V<;>by_cases hi:i=0<;>by_cases hs:s=0<;>by_cases hl:l.length=0<;>by_cases hf:f.length=0
  all_goals
   simp[aL, *] at hR
   subst hR
   simp(disch:=try exact dI) only[QQ,Val.pv_mk, *,push_cast,seval]
   refine ab.pure hv rfl ?_
   simp(disch:=try exact dI) only[*,push_cast,seval]
 have hc:k=1\/k=2\/k=6\/k=7\/k=3\/k=5\/k=8\/k=10\/(¬ k=1/\¬ k=2/\¬ k=6/\¬ k=7/\¬ k=3/\¬ k=5/\¬ k=8/\¬ k=10):=by omega
 rcases hc with rfl | rfl | rfl | rfl | rfl | rfl | rfl | rfl | hc
 case' inl=>by_cases hi:i=0<;>by_cases hj:i=1<;>(try omega)<;>by_cases hs:s=0<;>by_cases ht:t=[]<;>by_cases hl:l.length=0<;>by_cases hf:f.length=0
 iterate 3 (case' inl=>by_cases hs:s=0<;>by_cases ht:t=[]<;>by_cases hl:l.length=0<;>by_cases hf:f.length=0)
 case' inl=>by_cases ht:t=[]<;>by_cases hl:l.length=0<;>by_cases hf:f.length=0
 case' inl=>by_cases hi:i=0<;>by_cases hs:s=0<;>by_cases hl:l.length=0<;>by_cases hf:f.length=0
 case' inl=>by_cases hi:i=0<;>by_cases hs:s=0<;>by_cases ht:t=[]<;>by_cases hf:f.length=0
 case' inl=>by_cases hn:l.length=1<;>by_cases hi:i=0<;>by_cases hs:s=0<;>by_cases hf:f.length=0
 case' inr=>by_cases hi:i=0<;>by_cases hs:s=0<;>by_cases ht:t=[]<;>by_cases hl:l.length=0<;>by_cases hf:f.length=0
 all_goals
  simp[aL, *] at hR
  subst hR
  simp(disch:=try exact dI) only[QQ,Val.pv_mk, *,push_cast,seval]
def dp (p n:List UInt8):List UInt8:=if p=[] then n else p++(46::n)
theorem sT (p n:List UInt8)(hp:p.length<=4000)(hn:n.length<=140737488351232):ag Tryz.prog aq 195 [.str p,.str n] (.str (dp p n)):=by
 refine ag.intro Re.2 (by simp[Re]) ?_
 by_cases h:p=[]
 ·rw[dp,if_pos h]
  simp(disch:=try exact dI) only[Re,h,push_cast,seval]
 ·rw[dp,if_neg h]
  simp(disch:=try exact dI) only[Re,h,push_cast,seval]
def lp (mn mx:Int)(p:List UInt8)(n:Int):List Mis:=if n<mn\/mx<n then [.mk p 2] else []
theorem I6 {mn mx n:Int}{p:List UInt8}(h:n<mn\/mx<n):lp mn mx p n=[.mk p 2]:=if_pos h
theorem OI {mn mx n:Int}{p:List UInt8}(h:¬ (n<mn\/mx<n)):lp mn mx p n=[]:=if_neg h
def ixM {α β:Type}(F:α->Nat->List β)(l:List α):List β:=l.zipIdx.flatMap fun q=>F q.1 q.2
theorem py {α β:Type}(F:α->List β){l:List α}{m:Nat}{x:α}(h:l[m]? = some x):(l.take (m+1)).flatMap F=(l.take m).flatMap F++F x:=by
 rw[aH h];simp
def atT (p:List UInt8)(i:Nat):List UInt8:=p++(91::(fX i++[93]))
def Sb (R:Typ->Val->List UInt8->List Mis)(e:List Typ)(p:List UInt8)(x:Val)(i:Nat):List Mis:=
 match e with
 | [t]=>R t x (atT p i)
 | _=>[.mk (atT p i) 1]
def eI (R:Typ->Val->List UInt8->List Mis)(fs:List Fld)(p:List UInt8)(x:TFd):List Mis:=
 match fs.find? (aF x.name) with
 | some y=>R x.typ y.value (dp p x.name)
 | none=>if x.need=2 then [] else [.mk (dp p x.name) 5]
def j8 (ts:List TFd)(p:List UInt8)(x:Fld):List Mis:=if (ts.find? (named x.name)).isSome=true then [] else [.mk (dp p x.name) 6]
theorem kG {R:Typ->Val->List UInt8->List Mis}{fs:List Fld}{p:List UInt8}{x:TFd}{y:Fld}(h:fs.find? (aF x.name)=some y):eI R fs p x=R x.typ y.value (dp p x.name):=by
 unfold eI;rw[h]
theorem xd {R:Typ->Val->List UInt8->List Mis}{fs:List Fld}{p:List UInt8}{x:TFd}(h:fs.find? (aF x.name)=none)(hn:x.need=2):eI R fs p x=[]:=by
 unfold eI;rw[h];exact if_pos hn
theorem kH {R:Typ->Val->List UInt8->List Mis}{fs:List Fld}{p:List UInt8}{x:TFd}(h:fs.find? (aF x.name)=none)(hn:¬ x.need=2):eI R fs p x=[.mk (dp p x.name) 5]:=by
 unfold eI;rw[h];exact if_neg hn
theorem j6 {ts:List TFd}{p:List UInt8}{x:Fld}{z:TFd}(h:ts.find? (named x.name)=some z):j8 ts p x=[]:=by
 unfold j8;rw[h];exact if_pos rfl
theorem j7 {ts:List TFd}{p:List UInt8}{x:Fld}(h:ts.find? (named x.name)=none):j8 ts p x=[.mk (dp p x.name) 6]:=by
 unfold j8;rw[h];exact if_neg (by simp)
def AN (R:Typ->Val->List UInt8->List Mis)(t:Typ)(v:Val)(p:List UInt8):List Mis:=t.fields.flatMap (eI R v.fields p)++v.fields.flatMap (j8 t.fields p)
def TS (R:Typ->Val->List UInt8->List Mis)(t:Typ)(v:Val)(p:List UInt8):List Mis:=
 match t.fields.find? (named v.text) with
 | some c=>R c.typ (v.lst.headD eM) (p++(63::v.text))
 | none=>[.mk p 7]
def da (R:Typ->Val->List UInt8->List Mis)(t:Typ)(v:Val)(p:List UInt8):List Mis:=
 if t.kind<1\/10<t.kind\/¬ v.kind=t.kind then [.mk p 1]
 else if aL v=false then [.mk p 8]
 else if t.kind=2\/t.kind=6\/t.kind=7 then lp t.min t.max p v.num
 else if t.kind=3 then (if v.scale=t.scale then lp t.min t.max p v.num else [.mk p 3])
 else if t.kind=4\/t.kind=5 then (if t.kind=4/\0<t.words.length then (if (t.words.any fun x=>decide (x=v.text))=true then [] else [.mk p 4]) else lp t.min t.max p v.text.length)
 else if t.kind=8 then lp t.min t.max p v.lst.length++ixM (Sb R t.elem p) v.lst
 else if t.kind=9 then AN R t v p
 else if t.kind=10 then TS R t v p
 else []
def bL:Nat->Typ->Val->List UInt8->List Mis
 | 0=>fun _ _ _=>[]
 | n+1=>da (bL n)
def dep:Nat->Val->Prop
 | 0,_=>True
 | n+1,v=>v.lst.length<=9000000000000/\v.fields.length<=9000000000000/\v.text.length<=140737488351232/\(∀ x∈v.lst,dep n x)/\∀ f∈v.fields,f.name.length<=140737488351232/\dep n f.value
theorem uj:∀ (n:Nat) (v:Val),v.ok->dep n v
 | 0,_,_=>trivial
 | n+1,.mk k a b t l f,h=>by
   rw[Val.ok_mk] at h
   obtain⟨_,_,_,h1,h2,h3,h4,h5⟩:=h
   refine⟨by simp only[Val.lst];omega,by simp only[Val.fields];omega,h1,fun x hx=>uj n x (h3 x hx),fun g hg=>?_⟩
   have:=h5 g hg
   obtain⟨nm,y⟩:=g
   rw[Fld.ok_mk] at this
   exact⟨this.1,uj n y this.2⟩
def yD:Nat->Typ->Prop
 | 0,_=>False
 | n+1,t=>t.fields.length<=9000000000000/\t.words.length<=9000000000000/\(∀ e∈t.elem,yD n e)/\∀ f∈t.fields,f.name.length<=100/\yD n f.typ
def RW (d:Bool)(l:List Mis):Prop:=l.length<=64/\(d=false->l.length<64)
theorem lG (p n:List UInt8):(dp p n).length<=p.length+n.length+1:=by
 unfold dp;split
 ·omega
 ·simp only[List.length_append,List.length_cons];omega
section
variable {R:Typ->Val->List UInt8->List Mis}{t:Typ}{v:Val}{p:List UInt8}
theorem bM (h:t.kind<1\/10<t.kind\/¬ v.kind=t.kind):da R t v p=[.mk p 1]:=if_pos h
theorem fc (h:¬ (t.kind<1\/10<t.kind\/¬ v.kind=t.kind))(hf:aL v=false):da R t v p=[.mk p 8]:=by
 unfold da;rw[if_neg h,if_pos hf]
theorem e9 (h:¬ (t.kind<1\/10<t.kind\/¬ v.kind=t.kind))(hf:aL v=true)(hk:t.kind=2\/t.kind=6\/t.kind=7):da R t v p=lp t.min t.max p v.num:=by
 unfold da;rw[if_neg h,if_neg (by rw[hf];simp),if_pos hk]
theorem kn (h:¬ (t.kind<1\/10<t.kind\/¬ v.kind=t.kind))(hf:aL v=true)(hk:t.kind=3)(hs:v.scale=t.scale):da R t v p=lp t.min t.max p v.num:=by
 unfold da;rw[if_neg h,if_neg (by rw[hf];simp),if_neg (by omega),if_pos hk,if_pos hs]
theorem km (h:¬ (t.kind<1\/10<t.kind\/¬ v.kind=t.kind))(hf:aL v=true)(hk:t.kind=3)(hs:¬ v.scale=t.scale):da R t v p=[.mk p 3]:=by
 unfold da;rw[if_neg h,if_neg (by rw[hf];simp),if_neg (by omega),if_pos hk,if_neg hs]
theorem l7 (h:¬ (t.kind<1\/10<t.kind\/¬ v.kind=t.kind))(hf:aL v=true)(hk:t.kind=4)(hw:0<t.words.length)(ha:(t.words.any fun x=>decide (x=v.text))=true):da R t v p=[]:=by
 unfold da;rw[if_neg h,if_neg (by rw[hf];simp),if_neg (by omega),if_neg (by omega),if_pos (.inl hk),if_pos ⟨hk,hw⟩,if_pos ha]
theorem iT (h:¬ (t.kind<1\/10<t.kind\/¬ v.kind=t.kind))(hf:aL v=true)(hk:t.kind=4)(hw:0<t.words.length)(ha:(t.words.any fun x=>decide (x=v.text))=false):da R t v p=[.mk p 4]:=by
 unfold da;rw[if_neg h,if_neg (by rw[hf];simp),if_neg (by omega),if_neg (by omega),if_pos (.inl hk),if_pos ⟨hk,hw⟩,if_neg (by rw[ha];simp)]
theorem dP (h:¬ (t.kind<1\/10<t.kind\/¬ v.kind=t.kind))(hf:aL v=true)(hk:t.kind=4\/t.kind=5)(hw:t.kind=4->t.words.length=0):da R t v p=lp t.min t.max p v.text.length:=by
 unfold da;rw[if_neg h,if_neg (by rw[hf];simp),if_neg (by omega),if_neg (by omega),if_pos hk,if_neg (by intro hh;have:=hw hh.1;omega)]
theorem e8 (h:¬ (t.kind<1\/10<t.kind\/¬ v.kind=t.kind))(hf:aL v=true)(hk:t.kind=9):da R t v p=AN R t v p:=by
 unfold da;rw[if_neg h,if_neg (by rw[hf];simp),if_neg (by omega),if_neg (by omega),if_neg (by omega),if_neg (by omega),if_pos hk]
theorem l8 (h:¬ (t.kind<1\/10<t.kind\/¬ v.kind=t.kind))(hf:aL v=true)(hk:t.kind=1):da R t v p=[]:=by
 unfold da;rw[if_neg h,if_neg (by rw[hf];simp),if_neg (by omega),if_neg (by omega),if_neg (by omega),if_neg (by omega),if_neg (by omega),if_neg (by omega)]
end
theorem bz (n:Nat)(t:Typ)(v:Val)(p:List UInt8):bL (n+1) t v p=da (bL n) t v p:=rfl
theorem LC (Q:Typ->Val->List UInt8->List Mis)(t:Typ)(v:Val)(p:List UInt8)(hk:t.kind<=7\/t.kind=9){F A:Bool}(hF:aL v=F)(hA:(t.words.any fun x=>decide (x=v.text))=A){X:List Mis}(hX:da Q t v p=X) :
  (t.kind<1/\X=[.mk p 1])\/(¬ t.kind<1/\10<t.kind/\X=[.mk p 1])\/(¬ t.kind<1/\¬ 10<t.kind/\¬ v.kind=t.kind/\X=[.mk p 1]) \/
  (¬ t.kind<1/\¬ 10<t.kind/\v.kind=t.kind/\F=false/\X=[.mk p 8]) \/
  (t.kind=1/\v.kind=1/\F=true/\X=[]) \/
  (t.kind=2/\v.kind=2/\F=true/\X=lp t.min t.max p v.num)\/(t.kind=6/\v.kind=6/\F=true/\X=lp t.min t.max p v.num)\/(t.kind=7/\v.kind=7/\F=true/\X=lp t.min t.max p v.num) \/
  (t.kind=3/\v.kind=3/\F=true/\v.scale=t.scale/\X=lp t.min t.max p v.num)\/(t.kind=3/\v.kind=3/\F=true/\¬ v.scale=t.scale/\X=[.mk p 3]) \/
  (t.kind=5/\v.kind=5/\F=true/\X=lp t.min t.max p v.text.length)\/(t.kind=4/\v.kind=4/\F=true/\¬ (0:Int)<t.words.length/\X=lp t.min t.max p v.text.length) \/
  (t.kind=4/\v.kind=4/\F=true/\(0:Int)<t.words.length/\A=true/\X=[])\/(t.kind=4/\v.kind=4/\F=true/\(0:Int)<t.words.length/\A=false/\X=[.mk p 4]) \/
  (t.kind=9/\v.kind=9/\F=true/\X=AN Q t v p):=by
 subst hX
 by_cases a:t.kind<1
 ·exact .inl ⟨a,bM (.inl a)⟩
 refine .inr ?_
 by_cases b:10<t.kind
 ·exact .inl ⟨a,b,bM (.inr (.inl b))⟩
 refine .inr ?_
 by_cases c:v.kind=t.kind
 case neg=>exact .inl ⟨a,b,c,bM (.inr (.inr c))⟩
 refine .inr ?_
 have h:¬ (t.kind<1\/10<t.kind\/¬ v.kind=t.kind):=by omega
 cases F
 ·exact .inl ⟨a,b,c,rfl,fc h hF⟩
 refine .inr ?_
 by_cases k:t.kind=1
 ·exact .inl ⟨k,c.trans k,rfl,l8 h hF k⟩
 refine .inr ?_
 by_cases k:t.kind=2
 ·exact .inl ⟨k,c.trans k,rfl,e9 h hF (by omega)⟩
 refine .inr ?_
 by_cases k:t.kind=6
 ·exact .inl ⟨k,c.trans k,rfl,e9 h hF (by omega)⟩
 refine .inr ?_
 by_cases k:t.kind=7
 ·exact .inl ⟨k,c.trans k,rfl,e9 h hF (by omega)⟩
 refine .inr ?_
 by_cases k:t.kind=3
 ·by_cases s:v.scale=t.scale
  ·exact .inl ⟨k,c.trans k,rfl,s,kn h hF k s⟩
  ·exact .inr (.inl ⟨k,c.trans k,rfl,s,km h hF k s⟩)
 refine .inr (.inr ?_)
 by_cases k:t.kind=5
 ·exact .inl ⟨k,c.trans k,rfl,dP h hF (.inr k) (by omega)⟩
 refine .inr ?_
 by_cases k:t.kind=4
 ·by_cases w:(0:Int)<t.words.length
  ·cases A
   ·exact .inr (.inr (.inl ⟨k,c.trans k,rfl,w,rfl,iT h hF k (by omega) hA⟩))
   ·exact .inr (.inl ⟨k,c.trans k,rfl,w,rfl,l7 h hF k (by omega) hA⟩)
  ·exact .inl ⟨k,c.trans k,rfl,w,dP h hF (.inl k) (by omega)⟩
 have k:t.kind=9:=by omega
 exact .inr (.inr (.inr ⟨k,c.trans k,rfl,e8 h hF k⟩))
end Go.Proofs.YtbojpfpliibfbaaGreatDoor

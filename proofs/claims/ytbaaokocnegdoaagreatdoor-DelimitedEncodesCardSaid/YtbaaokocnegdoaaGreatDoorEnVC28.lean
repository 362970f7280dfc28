/- A part. -/
import Derived.Test.YtbaaokocnegdoaaGreatDoorEnWN
set_option linter.unusedVariables false
set_option linter.unusedSimpArgs false
set_option maxHeartbeats 16000000
set_option maxRecDepth 100000
open List renaming mem_map->Vy,map_nil->Vo,getD_eq_getElem?_getD->Vm
open Bool renaming and_eq_true->Vr,false_eq_true->Vz
namespace Go.Proofs.YtbaaokocnegdoaaGreatDoor
open Go Go.Ab
attribute [local irreducible] vc
theorem eQ (n:Nat)(t:Typ):(a8 (n+1) t).fields=if 0<n then (t.fields.take 6).map (cG (a8 n)) else []:=by
 obtain⟨k,a,b,c,w,e,f⟩:=t
 simp only[a8,dz,Typ.fields,decide_eq_true_eq]
theorem lu (n:Nat)(t:Typ):(a8 (n+1) t).elem=if 0<n then (t.elem.take 2).map (a8 n) else []:=by
 obtain⟨k,a,b,c,w,e,f⟩:=t
 simp only[a8,dz,Typ.elem,decide_eq_true_eq]
theorem jR (n:Nat)(t:Typ):(a8 n t).words=(t.words.take 6).map (List.take 40):=by
 obtain⟨k,a,b,c,w,e,f⟩:=t
 cases n<;>simp only[a8,dz,Typ.words]
theorem p7 (r:Typ->Typ)(f:TFd):(cG r f).name=f.name.take 40:=by
 obtain⟨a,b,c,d,e⟩:=f;rfl
theorem lq:∀ (n:Nat) (t:Typ),eK (n+1) (a8 (n+1) t)
 | 0,v=>by
   simp only[eK]
   rw[eQ,lu,jR]
   simp;omega
 | n+1,v=>by
   simp only[eK]
   rw[eQ,lu,jR,if_pos (by omega),if_pos (by omega)]
   refine⟨by simp;omega,by simp;omega,?_,?_⟩
   ·intro x hx
    obtain⟨y,_,rfl⟩:=Vy.1 hx
    exact lq n y
   ·intro f hf
    obtain⟨y,_,rfl⟩:=Vy.1 hf
    rw[p7,sJ]
    exact⟨by simp;omega,lq n _⟩
def rdQ (k:Int)(s:List UInt8):(Int×Int×List UInt8)×Bool:=
 if k=1 then ((if s=gR then 1 else 0,0,[]),decide (s=gR)||decide (s=eF))
 else if k=2\/k=3 then (((aY s).1.1,((aY s).1.2:Int),[]),decide ((aY s).2=0)&&(decide (k=3)||decide ((aY s).1.2=0)))
 else if k=4 then ((0,0,s),true)
 else if k=5 then ((0,0,(zh s).getD []),(zh s).isSome&&decide (s.length % 2=0))
 else if k=6 then (((cz s).1,0,[]),decide ((cz s).2=0))
 else (((cy s).1,0,[]),decide ((cy s).2=0))
theorem G6 (s:List UInt8):rdQ 1 s=((if s=gR then 1 else 0,0,[]),decide (s=gR)||decide (s=eF)):=rfl
theorem Cm (s:List UInt8):rdQ 2 s=(((aY s).1.1,((aY s).1.2:Int),[]),decide ((aY s).2=0)&&decide ((aY s).1.2=0)):=by
 unfold rdQ
 rw[if_neg (by decide),if_pos (by decide),show decide ((2:Int)=3)=false from rfl,Bool.false_or]
theorem Cl (s:List UInt8):rdQ 3 s=(((aY s).1.1,((aY s).1.2:Int),[]),decide ((aY s).2=0)):=by
 unfold rdQ
 rw[if_neg (by decide),if_pos (by decide),show decide ((3:Int)=3)=true from rfl,Bool.true_or,Bool.and_true]
theorem G5 (s:List UInt8):rdQ 4 s=((0,0,s),true):=rfl
theorem Ck (s:List UInt8):rdQ 5 s=((0,0,(zh s).getD []),(zh s).isSome&&decide (s.length % 2=0)):=rfl
theorem Cj (s:List UInt8):rdQ 6 s=(((cz s).1,0,[]),decide ((cz s).2=0)):=rfl
theorem Ci (s:List UInt8):rdQ 7 s=(((cy s).1,0,[]),decide ((cy s).2=0)):=rfl
theorem kG:∀ {s b:List UInt8},zh s=some b->b.length<=s.length
 | [],b,h=>by cases h;simp
 | [_],b,h=>by cases h;simp
 | x::y::r,b,h=>by
   rw[zh] at h
   split at h
   ·cases h
   ·simp only[Option.map_eq_some_iff] at h
    obtain⟨q,hq,rfl⟩:=h
    have:=kG hq
    simp;omega
theorem iE {s:List UInt8}(h:(aY s).2=0):IsN (aY s).1.1 (aY s).1.2/\iX (aY s).1.1 (aY s).1.2=s:=by
 unfold aY at h ⊢
 split at h
 ·cases h
 ·split at h
  ·cases h
  ·split at h
   ·rename_i h1 h2 h3
    rw[if_neg h1,if_neg h2,if_pos h3]
    exact h3
   ·cases h
theorem CX (s:List UInt8):-1000000000000000000<=(cz s).1/\(cz s).1<=1000000000000000000:=by
 unfold cz
 split
 ·rename_i y m d hn
  rcases Ky y m d with h | h
  ·have:=oj h;omega
  ·unfold mO at h ⊢
   split
   ·rename_i hh;rw[if_pos hh] at h;cases h
   ·simp
 ·simp
theorem CW {s:List UInt8}(h:(cy s).2=0):-1000000000000000000<=(cy s).1/\(cy s).1<=1000000000000000000:=by
 obtain⟨y,m,d,hh,mi,sec,ms,h1,h2,h3,h4,h5,h6,h7⟩:=lO (s:=s) (n:=(cy s).1) (by rw[<- h])
 have:=cq h1
 omega
theorem Ch {k:Int}{s:List UInt8}(hk:nj k=true)(hl:s.length<=5000)(ho:(rdQ k s).2=true) :
  I64 (rdQ k s).1.1/\I64 (rdQ k s).1.2.1/\(rdQ k s).1.2.2.length<=5000:=by
 rw[dQ] at hk
 have hc:k=1\/k=2\/k=3\/k=4\/k=5\/k=6\/k=7:=by omega
 unfold I64
 rcases hc with rfl | rfl | rfl | rfl | rfl | rfl | rfl
 ·rw[G6]
  simp only
  refine⟨?_,⟨by omega,by omega⟩,by simp⟩
  split<;>omega
 ·rw[Cm] at ho ⊢
  simp only[Vr,decide_eq_true_eq] at ho ⊢
  obtain⟨⟨h1,h2,h3⟩,_⟩:=iE ho.1
  exact⟨⟨by omega,by omega⟩,⟨by omega,by omega⟩,by simp⟩
 ·rw[Cl] at ho ⊢
  simp only[decide_eq_true_eq] at ho ⊢
  obtain⟨⟨h1,h2,h3⟩,_⟩:=iE ho
  exact⟨⟨by omega,by omega⟩,⟨by omega,by omega⟩,by simp⟩
 ·rw[G5]
  exact⟨⟨by simp,by simp⟩,⟨by simp,by simp⟩,hl⟩
 ·rw[Ck] at ho ⊢
  simp only[Vr] at ho ⊢
  cases he:zh s with
  | none=>rw[he] at ho;simp at ho
  | some b=>
    have:=kG he
    exact⟨⟨by simp,by simp⟩,⟨by simp,by simp⟩,by simp;omega⟩
 ·rw[Cj]
  have:=CX s
  exact⟨⟨by simp only;omega,by simp only;omega⟩,⟨by simp,by simp⟩,by simp⟩
 ·rw[Ci] at ho ⊢
  simp only[decide_eq_true_eq] at ho
  have:=CW ho
  exact⟨⟨by simp only;omega,by simp only;omega⟩,⟨by simp,by simp⟩,by simp⟩
def bm (k:Int)(q:Int×Int×List UInt8):Val:=.mk k q.1 q.2.1 q.2.2 [] []
def kX (t:Typ)(s:List UInt8):Val×Int:=
 if nj t.kind=false then (aK,11) else if (rdQ t.kind s).2=false then (aK,13)
 else if (aO 1 t (bm t.kind (rdQ t.kind s).1) []).isEmpty=true then (bm t.kind (rdQ t.kind s).1,0) else (aK,18)
theorem kr {k:Int}{q:Int×Int×List UInt8}(h:q.2.2.length<=5000):dep 1 (bm k q):=by
 simp[dep,bm,Val.lst,Val.fields,Val.text,h]
theorem sr {k:Int}{q:Int×Int×List UInt8}(hk:nj k=true)(h:I64 q.1/\I64 q.2.1/\q.2.2.length<=5000):(bm k q).ok:=by
 rw[dQ] at hk
 unfold bm
 rw[Ve]
 exact⟨⟨by omega,by omega⟩,h.1,h.2.1,by have:=h.2.2;omega,by simp,by simp,by simp,by simp⟩
theorem Lb (k:Int)(q:Int×Int×List UInt8):Nz (vN k q.1 q.2.1 q.2.2) (bm k q).pv:=by
 unfold bm vN
 rw[Vf]
 repeat' constructor
def ee (t:Typ)(q:Int×Int×List UInt8)(F:Bool):Val×Int:=if F=true then (bm t.kind q,0) else (aK,18)
theorem Gd {t:Typ}{s:List UInt8}(hk:nj t.kind=true)(ho:(rdQ t.kind s).2=true):kX t s=ee t (rdQ t.kind s).1 (aO 1 t (bm t.kind (rdQ t.kind s).1) []).isEmpty:=by
 unfold kX ee
 rw[if_neg (by rw[hk];simp),if_neg (by rw[ho];simp)]
theorem Lc {t:Typ}{s:List UInt8}(hk:nj t.kind=true)(ho:(rdQ t.kind s).2=false):kX t s=(aK,13):=by
 unfold kX
 rw[if_neg (by rw[hk];simp),if_pos ho]
theorem zg {T:Nat}{p:PV}{t:Typ}{q:Int×Int×List UInt8}(hk:nj t.kind=true)(ht:eK 1 t)(hq:I64 q.1/\I64 q.2.1/\q.2.2.length<=5000) :
  ae Tryz.prog (pF T p) 37 [t.pv,vN t.kind q.1 q.2.1 q.2.2] (.bool (aO 1 t (bm t.kind q) []).isEmpty):=
 toE ((Em t (bm t.kind q) ((dQ _).1 hk) (kr hq.2.2) ht (sr hk hq)).nz (.cons _ _ _ _ (.refl _) (.cons _ _ _ _ (Lb _ _) .nil)))
theorem PN {T:Nat}{p:PV}(k:Int){a b c:Int}{w:List (List UInt8)}{e:List Typ}{f:List TFd}(s:List UInt8)(hl:s.length<=5000)(hk:nj k=true)(ht:eK 1 (.mk k a b c w e f)) :
  ae Tryz.prog (pF T p) 32 [(Typ.mk k a b c w e f).pv] (.bool true)/\((rdQ k s).2=false->kX (.mk k a b c w e f) s=(aK,13)) /\
   ((rdQ k s).2=true->∃ F,kX (.mk k a b c w e f) s=ee (.mk k a b c w e f) (rdQ k s).1 F/\ae Tryz.prog (pF T p) 37 [(Typ.mk k a b c w e f).pv,vN k (rdQ k s).1.1 (rdQ k s).1.2.1 (rdQ k s).1.2.2] (.bool F)):=by
 have hs:=toE (T:=T) (p:=p) (oG (.mk k a b c w e f))
 rw[show nj (Typ.mk k a b c w e f).kind=true from hk] at hs
 exact⟨hs,Lc (t:=.mk k a b c w e f) hk,fun h=>⟨_,Gd (t:=.mk k a b c w e f) hk h,zg (t:=.mk k a b c w e f) hk ht (Ch hk hl h)⟩⟩
theorem Bg {T:Nat}{p:PV}(t:Typ)(s:List UInt8)(hl:s.length<=5000)(ht:eK 1 t):ae Tryz.prog (pF T p) 12 [t.pv,.str s] (.tup [(kX t s).1.pv,.int .i64 (kX t s).2]):=by
 by_cases hk:nj t.kind=false
 ·have hs:=toE (T:=T) (p:=p) (oG t)
  unfold kX
  rw[if_pos hk]
  rw[hk] at hs
  obtain⟨k,a,b,c,w,e,f⟩:=t
  simp only[Vd] at hs
  refine ae.intro Q12.2 (by simp[Q12]) ?_
  simp(maxSteps:=9^7) (disch:=try exact dI) only[Q12,Vd,ee,bm,aK,Typ.kind,Vf,push_cast,seval]
  refine ab.pure hs rfl ?_
  simp(maxSteps:=9^7) (disch:=try exact dI) only[ee,bm,aK,Typ.kind,Vf,Vo,if_true,Vz,if_false,push_cast,seval]
 ·have hk:nj t.kind=true:=by simpa using hk
  rw[dQ] at hk
  obtain⟨k,a,b,c,w,e,f⟩:=t
  simp only[Typ.kind] at hk
  have hc:k=1\/k=2\/k=4\/k=5\/k=3\/k=6\/k=7:=by omega
  obtain⟨hs,hn,hf⟩:=PN (T:=T) (p:=p) k s hl ((dQ k).2 hk) ht
  rcases hc with rfl | rfl | rfl | rfl | h367
  ·rw[G6] at hn hf
   simp only[vN,Vd] at hs hn hf
   by_cases h1:s=gR
   ·subst h1
    obtain⟨F,e1,hF⟩:=hf rfl
    rw[e1]
    rw[if_pos rfl] at hF ⊢
    clear hn hf e1
    unfold gR
    cases F
    all_goals
     refine ae.intro Q12.2 (by simp[Q12]) ?_
     simp(maxSteps:=9^7) (disch:=try exact dI) only[Q12,Vd,ee,bm,aK,Typ.kind,Vf,push_cast,seval]
     refine ab.pure hs rfl ?_
     simp(maxSteps:=9^7) (disch:=try exact dI) only[ee,bm,aK,Typ.kind,Vf,Vo,if_true,Vz,if_false,push_cast,seval]
     refine ab.pure hF rfl ?_
     simp(maxSteps:=9^7) (disch:=try exact dI) only[ee,bm,aK,Typ.kind,Vf,Vo,if_true,Vz,if_false,push_cast,seval]
   ·by_cases h2:s=eF
    ·subst h2
     obtain⟨F,e1,hF⟩:=hf rfl
     rw[e1]
     rw[if_neg h1] at hF ⊢
     clear hn hf e1
     unfold eF
     have h1b:decide (([102,97,108,115,101]:List UInt8)=[116,114,117,101])=false:=rfl
     cases F
     all_goals
      refine ae.intro Q12.2 (by simp[Q12]) ?_
      simp(maxSteps:=9^7) (disch:=try exact dI) only[Q12,Vd,ee,bm,aK,Typ.kind,Vf,h1b,push_cast,seval]
      refine ab.pure hs rfl ?_
      simp(maxSteps:=9^7) (disch:=try exact dI) only[ee,bm,aK,Typ.kind,Vf,Vo,if_true,Vz,if_false,h1b,push_cast,seval]
      refine ab.pure hF rfl ?_
      simp(maxSteps:=9^7) (disch:=try exact dI) only[ee,bm,aK,Typ.kind,Vf,Vo,if_true,Vz,if_false,h1b,push_cast,seval]
    ·rw[hn (by rw[decide_eq_false h1,decide_eq_false h2];rfl)]
     have h1b:decide (s=[116,114,117,101])=false:=decide_eq_false h1
     have h2b:decide (s=[102,97,108,115,101])=false:=decide_eq_false h2
     clear hn hf
     refine ae.intro Q12.2 (by simp[Q12]) ?_
     simp(maxSteps:=9^7) (disch:=try exact dI) only[Q12,Vd,ee,bm,aK,Typ.kind,Vf,h1b,h2b,push_cast,seval]
     refine ab.pure hs rfl ?_
     simp(maxSteps:=9^7) (disch:=try exact dI) only[ee,bm,aK,Typ.kind,Vf,Vo,if_true,Vz,if_false,h1b,h2b,push_cast,seval]
  ·rw[Cm] at hn hf
   simp only[vN,Vd] at hs hn hf
   have hp:=CY (T:=T) (p:=p) s
   generalize aY s=N at *
   obtain⟨⟨n,sc⟩,er⟩:=N
   simp only at hp hn hf
   by_cases he:er=0
   ·subst he
    by_cases hz:sc=0
    ·subst hz
     obtain⟨F,e1,hF⟩:=hf rfl
     rw[e1]
     clear hn hf e1
     cases F
     all_goals
      refine ae.intro Q12.2 (by simp[Q12]) ?_
      simp(maxSteps:=9^7) (disch:=try exact dI) only[Q12,Vd,ee,bm,aK,Typ.kind,Vf,push_cast,seval]
      refine ab.pure hs rfl ?_
      simp(maxSteps:=9^7) (disch:=try exact dI) only[ee,bm,aK,Typ.kind,Vf,Vo,if_true,Vz,if_false,push_cast,seval]
      refine ab.pure hp rfl ?_
      simp(maxSteps:=9^7) (disch:=try exact dI) only[ee,bm,aK,Typ.kind,Vf,Vo,if_true,Vz,if_false,push_cast,seval]
      refine ab.pure hF rfl ?_
      simp(maxSteps:=9^7) (disch:=try exact dI) only[ee,bm,aK,Typ.kind,Vf,Vo,if_true,Vz,if_false,push_cast,seval]
    ·rw[hn (by rw[decide_eq_false hz];rfl)]
     have hzI:¬ (sc:Int)=0:=by omega
     clear hn hf
     refine ae.intro Q12.2 (by simp[Q12]) ?_
     simp(maxSteps:=9^7) (disch:=try exact dI) only[Q12,Vd,ee,bm,aK,Typ.kind,Vf,push_cast,seval]
     refine ab.pure hs rfl ?_
     simp(maxSteps:=9^7) (disch:=try exact dI) only[ee,bm,aK,Typ.kind,Vf,Vo,if_true,Vz,if_false,push_cast,seval]
     refine ab.pure hp rfl ?_
     simp(maxSteps:=9^7) (disch:=try exact dI) only[ee,bm,aK,Typ.kind,Vf,Vo,if_true,Vz,if_false,push_cast,seval]
   ·rw[hn (by rw[decide_eq_false he];rfl)]
    clear hn hf
    by_cases hz:(sc:Int)=0
    case' pos=>rw[hz] at hp
    all_goals
     refine ae.intro Q12.2 (by simp[Q12]) ?_
     simp(maxSteps:=9^7) (disch:=try exact dI) only[Q12,Vd,ee,bm,aK,Typ.kind,Vf,push_cast,seval]
     refine ab.pure hs rfl ?_
     simp(maxSteps:=9^7) (disch:=try exact dI) only[ee,bm,aK,Typ.kind,Vf,Vo,if_true,Vz,if_false,push_cast,seval]
     refine ab.pure hp rfl ?_
     simp(maxSteps:=9^7) (disch:=try exact dI) only[ee,bm,aK,Typ.kind,Vf,Vo,if_true,Vz,if_false,push_cast,seval]
  ·rw[G5] at hn hf
   simp only[vN,Vd] at hs hn hf
   obtain⟨F,e1,hF⟩:=hf trivial
   rw[e1]
   clear hn hf e1
   cases F
   all_goals
    refine ae.intro Q12.2 (by simp[Q12]) ?_
    simp(maxSteps:=9^7) (disch:=try exact dI) only[Q12,Vd,ee,bm,aK,Typ.kind,Vf,push_cast,seval]
    refine ab.pure hs rfl ?_
    simp(maxSteps:=9^7) (disch:=try exact dI) only[ee,bm,aK,Typ.kind,Vf,Vo,if_true,Vz,if_false,push_cast,seval]
    refine ab.pure hF rfl ?_
    simp(maxSteps:=9^7) (disch:=try exact dI) only[ee,bm,aK,Typ.kind,Vf,Vo,if_true,Vz,if_false,push_cast,seval]
  ·rw[Ck] at hn hf
   simp only[vN,Vd] at hs hn hf
   have hp:=toE (T:=T) (p:=p) (Lg s (by omega))
   by_cases h2:s.length % 2=0
   ·rw[iM h2] at hp
    cases he:zh s with
    | none=>
      rw[hn (by rw[he];rfl)]
      rw[he] at hp
      simp only[DZ] at hp
      clear hn hf
      refine ae.intro Q12.2 (by simp[Q12]) ?_
      simp(maxSteps:=9^7) (disch:=try exact dI) only[Q12,Vd,ee,bm,aK,Typ.kind,Vf,push_cast,seval]
      refine ab.pure hs rfl ?_
      simp(maxSteps:=9^7) (disch:=try exact dI) only[ee,bm,aK,Typ.kind,Vf,Vo,if_true,Vz,if_false,push_cast,seval]
      refine ab.pure hp rfl ?_
      simp(maxSteps:=9^7) (disch:=try exact dI) only[ee,bm,aK,Typ.kind,Vf,Vo,if_true,Vz,if_false,push_cast,seval]
    | some b=>
      obtain⟨F,e1,hF⟩:=hf (by rw[he,decide_eq_true h2];rfl)
      rw[e1]
      rw[he] at hp hF ⊢
      simp only[DZ] at hp
      simp only[Option.getD_some] at hF ⊢
      clear hn hf e1
      cases F
      all_goals
       refine ae.intro Q12.2 (by simp[Q12]) ?_
       simp(maxSteps:=9^7) (disch:=try exact dI) only[Q12,Vd,ee,bm,aK,Typ.kind,Vf,push_cast,seval]
       refine ab.pure hs rfl ?_
       simp(maxSteps:=9^7) (disch:=try exact dI) only[ee,bm,aK,Typ.kind,Vf,Vo,if_true,Vz,if_false,push_cast,seval]
       refine ab.pure hp rfl ?_
       simp(maxSteps:=9^7) (disch:=try exact dI) only[ee,bm,aK,Typ.kind,Vf,Vo,if_true,Vz,if_false,push_cast,seval]
       refine ab.pure hF rfl ?_
       simp(maxSteps:=9^7) (disch:=try exact dI) only[ee,bm,aK,Typ.kind,Vf,Vo,if_true,Vz,if_false,push_cast,seval]
   ·rw[hn (by rw[decide_eq_false h2,Bool.and_false])]
    rw[pf (by omega)] at hp
    simp only[DZ] at hp
    clear hn hf
    refine ae.intro Q12.2 (by simp[Q12]) ?_
    simp(maxSteps:=9^7) (disch:=try exact dI) only[Q12,Vd,ee,bm,aK,Typ.kind,Vf,push_cast,seval]
    refine ab.pure hs rfl ?_
    simp(maxSteps:=9^7) (disch:=try exact dI) only[ee,bm,aK,Typ.kind,Vf,Vo,if_true,Vz,if_false,push_cast,seval]
    refine ab.pure hp rfl ?_
    simp(maxSteps:=9^7) (disch:=try exact dI) only[ee,bm,aK,Typ.kind,Vf,Vo,if_true,Vz,if_false,push_cast,seval]
  ·rcases h367 with rfl | rfl | rfl
   all_goals
    first
    | rw[Cl] at hn hf
      have hp:=CY (T:=T) (p:=p) s
      generalize aY s=N at *
      obtain⟨⟨n,sc⟩,er⟩:=N
    | rw[Cj] at hn hf
      have hp:=toE (T:=T) (p:=p) (Mq s)
      generalize cz s=N at *
      obtain⟨n,er⟩:=N
    | rw[Ci] at hn hf
      have hp:=toE (T:=T) (p:=p) (tf s)
      generalize cy s=N at *
      obtain⟨n,er⟩:=N
    simp only[vN,Vd] at hp hs hn hf
    by_cases he:er=0
    ·subst he
     obtain⟨F,e1,hF⟩:=hf rfl
     rw[e1]
     clear hn hf e1
     cases F
     all_goals
      refine ae.intro Q12.2 (by simp[Q12]) ?_
      simp(maxSteps:=9^7) (disch:=try exact dI) only[Q12,Vd,ee,bm,aK,Typ.kind,Vf,push_cast,seval]
      refine ab.pure hs rfl ?_
      simp(maxSteps:=9^7) (disch:=try exact dI) only[ee,bm,aK,Typ.kind,Vf,Vo,if_true,Vz,if_false,push_cast,seval]
      refine ab.pure hp rfl ?_
      simp(maxSteps:=9^7) (disch:=try exact dI) only[ee,bm,aK,Typ.kind,Vf,Vo,if_true,Vz,if_false,push_cast,seval]
      refine ab.pure hF rfl ?_
      simp(maxSteps:=9^7) (disch:=try exact dI) only[ee,bm,aK,Typ.kind,Vf,Vo,if_true,Vz,if_false,push_cast,seval]
    ·rw[hn (decide_eq_false he)]
     clear hn hf
     refine ae.intro Q12.2 (by simp[Q12]) ?_
     simp(maxSteps:=9^7) (disch:=try exact dI) only[Q12,Vd,ee,bm,aK,Typ.kind,Vf,push_cast,seval]
     refine ab.pure hs rfl ?_
     simp(maxSteps:=9^7) (disch:=try exact dI) only[ee,bm,aK,Typ.kind,Vf,Vo,if_true,Vz,if_false,push_cast,seval]
     refine ab.pure hp rfl ?_
     simp(maxSteps:=9^7) (disch:=try exact dI) only[ee,bm,aK,Typ.kind,Vf,Vo,if_true,Vz,if_false,push_cast,seval]
theorem Kp (b:Bool):ae Tryz.prog aq 41 [.bool b] (.str (if b=true then gR else eF)):=by
 have h85:ae Tryz.prog aq 85 [.bool b] (.str (if b=true then gR else eF)):=by
  unfold gR eF
  refine ae.intro Q85.2 (by simp[Q85]) ?_
  cases b with
  | true=>simp(disch:=try exact dI) only[Q85,push_cast,seval]
  | false=>simp(disch:=try exact dI) only[Q85,Vz,push_cast,seval]
 generalize (if b=true then gR else eF)=q at *
 refine ae.intro Q41.2 (by simp[Q41]) ?_
 simp(disch:=try exact dI) only[Q41,push_cast,seval]
 refine ab.pure h85 rfl ?_
 exact qsZ
def hx (k:Nat):UInt8:=FZ.getD k 0
def nl:List UInt8->List UInt8
 | []=>[]
 | b::r=>hx (b.toNat / 16)::hx (b.toNat % 16)::nl r
theorem pd:∀ (l:List UInt8) (b:UInt8),nl (l++[b])=nl l++[hx (b.toNat / 16),hx (b.toNat % 16)]
 | [],b=>rfl
 | c::l,b=>by simp[nl,pd l b]
theorem kF:∀ l:List UInt8,(nl l).length=2*l.length
 | []=>rfl
 | b::r=>by simp[nl,kF r];omega
theorem rp:∀ {s b:List UInt8},sl s=some b->nl b=s
 | [],b,h=>by cases h;rfl
 | [_],b,h=>by simp[sl] at h
 | x::y::r,b,h=>by
   rw[sl] at h
   split at h
   ·cases h
   ·rename_i hn
    simp only[Option.map_eq_some_iff] at h
    obtain⟨q,hq,rfl⟩:=h
    have h1:=jz x
    have h2:=jz y
    have hxn:¬ nib x<0:=fun h=>hn (Or.inl h)
    have hyn:¬ nib y<0:=fun h=>hn (Or.inr h)
    have hb:=wQ hxn hyn
    have e1:(AS x y).toNat / 16=(nib x).toNat:=by omega
    have e2:(AS x y).toNat % 16=(nib y).toNat:=by omega
    rw[nl,rp hq,e1,e2]
    unfold hx
    rw[Vm,Vm,h1.2.2 (by omega),h2.2.2 (by omega)]
    rfl
theorem UK (b:UInt8){u:Nat}(h:b.toNat / 16=u):dY .shr (.pv (.int .u8 (b.toNat:Int))) (.pv (.int .u64 4))=some (.pv (.int .u8 (u:Int))):=by
 have e:dY .shr (.pv (.int .u8 (b.toNat:Int))) (.pv (.int .u64 4))=some (.pv (.int .u8 ((b.toNat:Int).fdiv 16))):=rfl
 rw[e,<- h,Int.fdiv_eq_ediv_of_nonneg _ (by omega)]
 rfl
theorem TK (b:UInt8){u:Nat}(h:b.toNat % 16=u):bits .and .u8 (b.toNat:Int) 15=(u:Int):=by
 have key:∀ x:Fin 256,bits .and .u8 ((x.val:Nat):Int) 15=((x.val % 16:Nat):Int):=by decide +kernel
 rw[<- h]
 exact key ⟨b.toNat,b.toNat_lt⟩
theorem Km {u:Nat}(h:u<16):FZ[u]? = some (hx u):=by
 unfold hx
 rw[Vm,List.getElem?_eq_getElem (by simpa[FZ] using h)]
 rfl
